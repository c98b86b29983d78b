/- forest: Revoke. -/
import Derived.Test.YtojbheiicmcnjaaFsL
namespace Go.Proofs.Ytojbheiicmcnjaa.Fst
open Go.RowKit Go Go.Proofs.YtojbheiicmcnjaaW.PrintWords Go.Proofs.YtojbheiicmcnjaaW.PrintMore Go.Proofs.YtojbheiicmcnjaaW.PrintLast Go.Proofs.Ytojbheiicmcnjaa.Bts Go.Proofs.Ytojbheiicmcnjaa.Fra Go.Maps
section
variable {L : List E} {next : Int} {g b n : Nat}
theorem FS.del {w : World} (h : FS w g b n L next) {x y : Int} (hx : U64 x) (hy : U64 y) (ty : TypeId) : ∃ w9, (Builtin.delete_ #[62, 30] ty #[.map (some b), H2 x y]).run Try.prog w = .ok (.tuple #[]) w9 ∧ FS w9 g b n (L.filter fun e => !decide (e.hi = x ∧ e.lo = y)) next ∧ Fr (· = b) w w9 := by
  obtain ⟨D, hm, hR⟩ := h.map
  obtain ⟨w9, hrun, hm9, ht9⟩ := hm.drop law Try.underlying62 (kl_of hx.wf hy.wf) ty
  have hf := fr_of_grown ht9.grown
  exact ⟨w9, hrun, ⟨hf.blk h.obj (fun e => h.ne e.symm), ⟨_, hm9, hR.del hx hy⟩, h.n0⟩, hf⟩
theorem FS.keys {w : World} (h : FS w g b n L next) {e f : E} (he : e ∈ L) (hf : f ∈ L) (h1 : e.hi = f.hi) (h2 : e.lo = f.lo) : e = f := by
  obtain ⟨D, _, hR⟩ := h.map
  exact hR.one_of he hf (by unfold E.k; rw [h1, h2])
theorem FS.nodup {w : World} (h : FS w g b n L next) : L.Nodup := by
  obtain ⟨D, _, hR⟩ := h.map
  exact nodup_of_ord hR.ord
theorem del_step {out : List E} {j : Nat} {e : E} (hk : ∀ f ∈ L, f.hi = e.hi → f.lo = e.lo → f = e) (he : out[j]? = some e) : (L.filter fun f => !decide (f ∈ out.take j)).filter (fun f => !decide (f.hi = e.hi ∧ f.lo = e.lo)) = L.filter fun f => !decide (f ∈ out.take (j + 1)) := by
  rw [List.filter_filter]
  refine List.filter_congr (fun f hf => ?_)
  have ht : out.take (j + 1) = out.take j ++ [e] := take_snocE he
  rw [ht]
  by_cases h1 : f ∈ out.take j
  · simp [h1]
  · by_cases h2 : f = e
    · subst h2
      simp
    · have h3 : ¬ (f.hi = e.hi ∧ f.lo = e.lo) := fun q => h2 (hk f hf q.1 q.2)
      simp only [List.mem_append, List.mem_singleton, h1, h2, h3, or_self, decide_false, Bool.not_false, Bool.and_self]
theorem del_all (p : E → Bool) : (L.filter fun f => !decide (f ∈ L.filter p)) = L.filter fun f => !p f := by
  refine List.filter_congr (fun f hf => ?_)
  cases hp : p f <;> simp [List.mem_filter, hf, hp]
theorem in_calls (e : E) (q m k : Nat) (In : Int → Int → Bool) (r : Bool) (W : World) (hq : W.heap[q]? = some (.cells #[.map (some m)] 69 (0, 0))) (hB : BM W m k In) (hwf : e.wf) (hr : In e.hi e.lo = r) :
    Calls Try.prog 32 (#[e.v] ++ #[.pointer (some ⟨q, 0, none⟩)]) W fun e' W' => e' = .returned (.bool r) ∧ Below W.heap.size W W' := by
  have hb := below_alloc (Below.refl W.heap.size W) (EC e)
  have hq0 := blk_cell (blk_alloc hq (EC e)) 0
  have hlk := (hB.below hb).look (x := e.hi) (y := e.lo) ⟨hwf.hi0, hwf.hi1⟩ ⟨hwf.lo0, hwf.lo1⟩
  rw [hr] at hlk
  have HB := Lib.hid hb
  clear hb hB hwf hr hq
  go_enter Try.func32, Try.ntmps32
  go_wp2
  go_ret
  exact ⟨rfl, HB.out⟩
def RPost (L : List E) (g b n : Nat) (next hy : Int) (w : World) (e : Ending) (w' : World) : Prop := ∃ v, e = .returned v ∧ ER w' w.heap.size v (L.filter fun e => underU L 0 hy e.hi e.lo) ∧ FS w' g b n (L.filter fun e => !underU L 0 hy e.hi e.lo) next ∧ Fl g b w w'
set_option maxHeartbeats 1000000 in
theorem revoke_no (hy : Int) (w : World) (h : FS w g b n L next) (hhy : U64 hy) (ht : find L 0 hy = none) :
    Calls Try.prog 17 #[.pointer (some ⟨g, 0, none⟩), H2 0 hy] w fun e w' => e = .returned (.slice none 0 0) ∧ Below w.heap.size w w' := by
  have hb := below_alloc (Below.refl w.heap.size w) (.cells #[.int .u64 0, .int .u64 hy] 30)
  have hk := blk_new w (.cells #[.int .u64 0, .int .u64 hy] 30)
  have HF := Lib.hid (h.below hb)
  have HB := Lib.hid hb
  have k0 := blk_cell hk 0
  have k1 := blk_cell hk 1
  have HX := Lib.hid (And.intro (show U64 0 from ⟨by omega, by omega⟩) hhy)
  have HT := Lib.hid (show (find L 0 hy).isSome = false by rw [ht]; rfl)
  clear hb hk h hhy ht
  go_enter Try.func17, Try.ntmps17
  go_wp2_with (go_at_call 19; go_loud (refine (taken_is 0 hy _ _ HF.out HX.out.1 HX.out.2 HT.out).mono ?_; rintro e w2 ⟨rfl, hb2⟩; have HB2 := Lib.hid (HB.out.trans (hb2.mono HB.out.size)); clear hb2))
  go_ret
  exact ⟨rfl, HB2.out⟩
set_option maxHeartbeats 4000000 in
set_option maxRecDepth 100000 in
theorem revoke_ok (hy : Int) (w : World) (h : FS w g b n L next) (hhy : U64 hy) (ht : (find L 0 hy).isSome = true) (hL : L.length ≤ 100000) (hnx : next ≤ 1000000) :
    Calls Try.prog 17 #[.pointer (some ⟨g, 0, none⟩), H2 0 hy] w (RPost L g b n next hy w) := by
  have hb := below_alloc (Below.refl w.heap.size w) (.cells #[.int .u64 0, .int .u64 hy] 30)
  have hk := blk_new w (.cells #[.int .u64 0, .int .u64 hy] 30)
  have HF := Lib.hid (h.below hb)
  have HK := Lib.hid hk
  have HB := Lib.hid hb
  have k0 := blk_cell hk 0
  have k1 := blk_cell hk 1
  have HX := Lib.hid (And.intro (show U64 0 from ⟨by omega, by omega⟩) hhy)
  have HT := Lib.hid ht
  have HL := Lib.hid (And.intro hL hnx)
  have HWF := Lib.hid h.wfE
  have HKEY := Lib.hid (fun (e f : E) (he : e ∈ L) (hf : f ∈ L) => h.keys he hf)
  have HLT := Lib.hid h.lt
  have HNE := Lib.hid h.ne
  obtain ⟨p, hp⟩ : ∃ p : E → Bool, (fun e : E => underU L 0 hy e.hi e.lo) = p := ⟨_, rfl⟩
  have HP := Lib.hid hp
  have hol : ((L.filter p).length : Int) ≤ 100000 := by have := List.length_filter_le p L; omega
  clear hb hk h hhy ht hL hnx hp
  go_enter Try.func17, Try.ntmps17
  go_wp2_with (first
    | (go_at_call 10; go_loud (refine (list_gen 32 #[.pointer (some ⟨w3.heap.size, 0, none⟩)] p _ (enters_of Try.func32 (by kernel_rfl) rfl) (fun e W he hW => in_calls e w3.heap.size m3 k3 (underU L 0 hy) (p e) W (blk_below (blk_new w3 (.cells #[.map (some m3)] 69)) hW) (HM5.out.below hW) (HWF.out e he) (by rw [← HP.out])) HF5.out HL.out.1 HL.out.2).mono ?_; rintro e w6 ⟨v6, rfl, hE6, hb6⟩; obtain ⟨A6, c6, e6, hc6⟩ := hE6.slice; subst e6; have HE6 := Lib.hid hE6; have HF6 := Lib.hid (HF5.out.below hb6); have HB6 := Lib.hid (HB5.out.trans (hb6.mono HB5.out.size)); clear hE6 hb6))
    | (go_at_call 31; go_loud (refine (under_calls hy _ HF2.out HX.out.2 HL.out.1 HL.out.2).mono ?_; rintro e w3 ⟨m3, k3, rfl, hm3, hB3, hb3⟩; have HM5 := Lib.hid (hB3.below (below_alloc (Below.refl _ _) (.cells #[.map (some m3)] 69))); have HF5 := Lib.hid ((HF2.out.below hb3).below (below_alloc (Below.refl _ _) (.cells #[.map (some m3)] 69))); have HB5 := Lib.hid (below_alloc (HB2.out.trans (hb3.mono HB2.out.size)) (.cells #[.map (some m3)] 69)); clear hm3 hB3 hb3 m0 m1))
    | (go_at_call 19; go_loud (refine (taken_is 0 hy _ _ HF.out HX.out.1 HX.out.2 HT.out).mono ?_; rintro e w2 ⟨rfl, hb2⟩; have HB2 := Lib.hid (HB.out.trans (hb2.mono HB.out.size)); have HF2 := Lib.hid (HF.out.below hb2); have m0 := blk_cell (blk_below HK.out hb2) 0; have m1 := blk_cell (blk_below HK.out hb2) 1; clear hb2 k0 k1)))
  have hs6 := HB6.out.size
  have hlt := HLT.out
  have hne := HNE.out
  obtain ⟨out, hout⟩ : ∃ out, L.filter p = out := ⟨_, rfl⟩
  have hsub : ∀ e ∈ out, e ∈ L := fun e he => by rw [← hout] at he; exact (List.mem_filter.1 he).1
  rw [hout] at hol
  have HOUT := Lib.hid hout
  have hE6 := HE6.out
  rw [hout] at hE6
  have HE6' := Lib.hid hE6
  have HSUB := Lib.hid hsub
  clear hE6 HE6 hsub hc6
  rw [hout]
  clear hout
  go_loopg [21] out.length (fun q i wr => ∃ j : Nat, q + j = out.length ∧ i = .int .i64 (j : Int) ∧ Hid (FS wr g b n (L.filter fun f => !decide (f ∈ out.take j)) next) ∧ Hid (Fl g b w6 wr))
  case atStart =>
    refine ⟨0, rfl, rfl, Lib.hid ?_, Lib.hid (Fr.refl _ _)⟩
    have e1 : (L.filter fun f => !decide (f ∈ out.take 0)) = L := List.filter_eq_self.2 (fun f _ => by simp)
    rw [e1]
    exact HF6.out
  case round =>
    obtain ⟨j, hq, rfl, HFJ, HFR⟩ := hrel
    by_cases hj : j < out.length
    · have hj' : (j : Int) < (out.length : Int) := by omega
      obtain ⟨e, he⟩ : ∃ e, out[j]? = some e := ⟨out[j], List.getElem?_eq_getElem hj⟩
      have hE := (HE6'.out.fr HFR.out (fun j hj e => by have h1 := HB5.out.size; omega)).C
      obtain ⟨ad, e1, x0, x1, x2, x3, x4, x5, x6, x7⟩ := rowE_at hE j he
      obtain rfl : A6 = some ad := e1
      have heL := HSUB.out e (List.mem_of_getElem? he)
      have hwf := HWF.out e heL
      have hbx : Below wr.heap.size wr (wr.alloc (EC e)).drew := below_drew1 (below_alloc (Below.refl _ _) (EC e))
      have hex : (wr.alloc (EC e)).drew.heap[wr.heap.size]? = some (.cells #[.int .u64 e.hi, .int .u64 e.lo, .int .i64 e.obj, .int .u8 e.rt, .int .u32 e.ow, .int .u64 e.ph, .int .u64 e.pl, .int .i64 e.ord] 35 (0, 0)) := blk_drew (blk_new wr (EC e))
      obtain ⟨X, hX⟩ : ∃ X, (wr.alloc (EC e)).drew = X := ⟨_, rfl⟩
      rw [hX] at hbx hex
      have hFX := HFJ.out.below hbx
      obtain ⟨w9, hrun, hF9, hf9⟩ := hFX.del (x := e.hi) (y := e.lo) ⟨hwf.hi0, hwf.hi1⟩ ⟨hwf.lo0, hwf.lo1⟩ 0
      rw [del_step (fun f hf h1 h2 => HKEY.out f e hf heL h1 h2) he] at hF9
      have HF9 := Lib.hid hF9
      have Hf9 := Lib.hid hf9
      have HFX := Lib.hid hFX
      have HEX := Lib.hid hex
      have HBX := Lib.hid hbx
      clear hE he heL hwf hbx hex hFX hF9 hf9
      go_wp2
      refine start_ (n := 7) (S := fun w' => w'.cell? ⟨g, 0, none⟩ = some (.map (some b)) ∧ w'.cell? ⟨wr.heap.size, 0, none⟩ = some (.int .u64 e.hi) ∧ w'.cell? ⟨wr.heap.size, 1, none⟩ = some (.int .u64 e.lo)) (ds := [6]) #[false, false, false, false, false, false, false] (by kernel_rfl) rfl rfl ⟨(by rw [hX]; exact ob0 HFX.out), (by rw [hX]; exact blk_cell HEX.out 0), (by rw [hX]; exact blk_cell HEX.out 1)⟩ (fun hHeld => ?_)
      refine pure_ (i := 0) (N := some 25) (v := ?_) (a' := ?_) #[true, false, false, false, false, false, false] rfl rfl (by kernel_rfl) (fun _ _ _ h => h) (Or.inl ⟨by rfl, ?_⟩) ?_ ?_
      rotate_left
      · intro w'
        go_simp
        with_reducible rfl
      rotate_left
      · simp only [Act.put, List.setIfInBounds_toArray, List.set_cons_zero, List.set_cons_succ]
        rfl
      refine pure_ (i := 1) (N := some 26) (v := ?_) (a' := ?_) #[true, true, false, false, false, false, false] rfl rfl (by kernel_rfl) (fun _ _ _ h => h) (Or.inl ⟨by rfl, ?_⟩) ?_ ?_
      rotate_left
      · intro w'
        go_simp
        with_reducible rfl
      rotate_left
      · simp only [Act.put, List.setIfInBounds_toArray, List.set_cons_zero, List.set_cons_succ]
        rfl
      refine pure_ (i := 2) (N := some 27) (v := ?_) (a' := ?_) #[true, true, true, false, false, false, false] rfl rfl (by kernel_rfl) (fun _ _ _ h => h) (Or.inl ⟨by rfl, ?_⟩) ?_ ?_
      rotate_left
      · intro w'
        go_simp
        with_reducible rfl
      rotate_left
      · simp only [Act.put, List.setIfInBounds_toArray, List.set_cons_zero, List.set_cons_succ]
        rfl
      refine pure_ (i := 4) (N := some 29) (v := ?_) (a' := ?_) #[true, true, true, false, true, false, false] rfl rfl (by kernel_rfl) (fun _ _ _ h => h) (Or.inl ⟨by rfl, ?_⟩) ?_ ?_
      rotate_left
      · intro w'
        go_simp
        with_reducible rfl
      rotate_left
      · simp only [Act.put, List.setIfInBounds_toArray, List.set_cons_zero, List.set_cons_succ]
        rfl
      refine take_ (i := 3) (N := some 28) (v := ?_) (a' := ?_) #[true, true, true, true, true, false, false] rfl rfl (by kernel_rfl) (fun _ _ _ h => h) (Or.inl ⟨by rfl, ?_⟩) hHeld ?_ ?_
      rotate_left
      · rintro w' ⟨s0, s1, s2⟩
        go_simp
        with_reducible rfl
      rotate_left
      · simp only [Act.put, List.setIfInBounds_toArray, List.set_cons_zero, List.set_cons_succ]
        rfl
      refine take_ (i := 5) (N := some 30) (v := ?_) (a' := ?_) #[true, true, true, true, true, true, false] rfl rfl (by kernel_rfl) (fun _ _ _ h => h) (Or.inl ⟨by rfl, ?_⟩) hHeld ?_ ?_
      rotate_left
      · rintro w' ⟨s0, s1, s2⟩
        go_simp
        with_reducible rfl
      rotate_left
      · simp only [Act.put, List.setIfInBounds_toArray, List.set_cons_zero, List.set_cons_succ]
        rfl
      refine last_ (i := 6) (N := none) #[true, true, true, true, true, true, true] rfl rfl (by kernel_rfl) (by decide) (fun K hK => ?_)
      refine value_ (w1 := ?_) (v := ?_) (by rfl) rfl ?_ ?_
      rotate_left 2
      · go_simp
        constructor
        · rfl
        · rfl
      refine hK.out _ _ ?_
      clear hK K
      refine done_ (by kernel_rfl) ?_

      go_wp2
      go_roundg (gk - 1)
      case measure => omega
      case rel => exact ⟨j + 1, by omega, by simp, HF9, Lib.hid ((HFR.out.more HBX.out).then_ Hf9.out (fun k hk => .inl (.inr hk)))⟩
    · have hjn : j = out.length := by omega
      subst hjn
      have hj' : ¬ (out.length : Int) < (out.length : Int) := by omega
      have hF := HFJ.out
      rw [List.take_length, ← HOUT.out, del_all] at hF
      have HF := Lib.hid hF
      clear hF
      go_wp2
      go_ret
      have hp := HP.out
      have ho := HOUT.out
      subst hp
      unfold RPost
      rw [ho]
      refine ⟨_, rfl, ?_, HF.out, ?_⟩
      · exact Kd.R_mono (Kd.R_lower (HE6'.out.fr HFR.out (fun j hj e => by have h1 := HB5.out.size; omega)) (by have h1 := HB5.out.size; omega)) (fun j hj => by have h1 := HB5.out.size; omega)
      · exact Fr.then_ (Fr.of_new HB6.out) HFR.out (fun j hj => .inl hj)
end
end Go.Proofs.Ytojbheiicmcnjaa.Fst
