/- forest: Delegate. -/
import Derived.Test.YtojbheiicmcnjaaFsI
namespace Go.Proofs.Ytojbheiicmcnjaa.Fst
open Go.RowKit Go Go.Proofs.YtojbheiicmcnjaaW.PrintWords Go.Proofs.YtojbheiicmcnjaaW.PrintMore Go.Proofs.YtojbheiicmcnjaaW.PrintLast Go.Proofs.Ytojbheiicmcnjaa.Bts Go.Proofs.Ytojbheiicmcnjaa.Fra Go.Maps
section
variable {L : List E} {next : Int} {g b n : Nat}
theorem find_is (x y who : Int) (e : E) (c : Int) (w : World) (h : FS w g b n L next) (hx : U64 x) (hy : U64 y) (hf : fnd L x y who = (e, c)) :
    Calls Try.prog 18 #[.pointer (some ⟨g, 0, none⟩), H2 x y, .int .u32 who] w fun e' w' => e' = .returned (.tuple #[e.v, .int .i64 c]) ∧ Below w.heap.size w w' := by
  have h2 := find_calls x y who w h hx hy
  rwa [hf] at h2
theorem att_is (s t r c : Int) (w : World) (h : att s t = (r, c)) : Calls Try.prog 29 #[.int .u8 s, .int .u8 t] w fun e w' => e = .returned (.tuple #[.int .u8 r, .int .i64 c]) ∧ w = w' := by
  have h2 := att_calls s t w
  rwa [h] at h2
/-- What Root refuses. -/
def Bad (L : List E) (y rt : Int) : Prop := y = 0 ∨ (find L 0 y).isSome = true ∨ rightU rt = false
theorem root_bad (y ob rt ow ph pl od : Int) (w : World) (h : FS w g b n L next) (hy : U64 y) (hb : Bad L y rt) :
    Calls Try.prog 8 #[.pointer (some ⟨g, 0, none⟩), .agg #[.int .u64 0, .int .u64 y, .int .i64 ob, .int .u8 rt, .int .u32 ow, .int .u64 ph, .int .u64 pl, .int .i64 od]] w fun e w' => e = .returned (.int .i64 1) ∧ Below w.heap.size w w' := by
  by_cases hz : y = 0
  · exact root_zero y ob rt ow ph pl od w h hy hz
  · cases ht : (find L 0 y).isSome
    · have hr : rightU rt = false := by
        rcases hb with q | q | q
        · exact absurd q hz
        · rw [ht] at q
          cases q
        · exact q
      exact root_rights y ob rt ow ph pl od w h hy hz ht hr
    · exact root_taken y ob rt ow ph pl od w h hy hz ht
theorem find_last {e : E} (hn : find L e.hi e.lo = none) : find (L ++ [e]) e.hi e.lo = some e := by
  unfold find at hn ⊢
  rw [List.find?_append, hn]
  simp
set_option maxHeartbeats 4000000 in
theorem del_no (hy who ny too want : Int) (w : World) (h : FS w g b n L next) (hhy : U64 hy) (hny : U64 ny) (hf : fnd L 0 hy who = (e0, 7)) :
    Calls Try.prog 12 #[.pointer (some ⟨g, 0, none⟩), H2 0 hy, .int .u32 who, H2 0 ny, .int .u32 too, .int .u8 want] w fun e' w' => e' = .returned (.int .i64 7) ∧ Below w.heap.size w w' := by
  have hb := below_alloc (below_alloc (Below.refl w.heap.size w) (.cells #[.int .u64 0, .int .u64 hy] 30)) (.cells #[.int .u64 0, .int .u64 ny] 30)
  have hk := blk_alloc (blk_new w (.cells #[.int .u64 0, .int .u64 hy] 30)) (.cells #[.int .u64 0, .int .u64 ny] 30)
  have hk2 := new1 w (.cells #[.int .u64 0, .int .u64 hy] 30) (.cells #[.int .u64 0, .int .u64 ny] 30)
  have HF := Lib.hid (h.below hb)
  have HK := Lib.hid hk
  have HK2 := Lib.hid hk2
  have HB := Lib.hid hb
  have k0 := blk_cell hk 0
  have k1 := blk_cell hk 1
  have HX := Lib.hid (And.intro (show U64 0 from ⟨by omega, by omega⟩) (And.intro hhy hny))
  have HLT := Lib.hid h.lt
  have HNE := Lib.hid h.ne
  clear hb hk hk2 h hhy hny
  have HFD := Lib.hid hf
  clear hf
  go_enter Try.func12, Try.ntmps12
  go_wp2_with (first
    | (go_at_call 18; go_loud (refine (find_is 0 hy who _ _ _ HF.out HX.out.1 HX.out.2.1 HFD.out).mono ?_; rintro e' w2 ⟨rfl, hb2⟩; have HB2 := Lib.hid (below_alloc (HB.out.trans (hb2.mono HB.out.size)) (.cells #[.int .u64 0, .int .u64 0, .int .i64 0, .int .u8 0, .int .u32 0, .int .u64 0, .int .u64 0, .int .i64 0] 35)); have HF2 := Lib.hid ((HF.out.below hb2).below (below_alloc (Below.refl _ _) (.cells #[.int .u64 0, .int .u64 0, .int .i64 0, .int .u8 0, .int .u32 0, .int .u64 0, .int .u64 0, .int .i64 0] 35))); have hk3 := blk_alloc (blk_below HK.out hb2) (.cells #[.int .u64 0, .int .u64 0, .int .i64 0, .int .u8 0, .int .u32 0, .int .u64 0, .int .u64 0, .int .i64 0] 35); have hk4 := blk_alloc (blk_below HK2.out hb2) (.cells #[.int .u64 0, .int .u64 0, .int .i64 0, .int .u8 0, .int .u32 0, .int .u64 0, .int .u64 0, .int .i64 0] 35); have HK3 := Lib.hid hk3; have HK4 := Lib.hid hk4; have HE2 := Lib.hid (blk_new w2 (.cells #[.int .u64 0, .int .u64 0, .int .i64 0, .int .u8 0, .int .u32 0, .int .u64 0, .int .u64 0, .int .i64 0] 35)); have n0 := blk_cell hk4 0; have n1 := blk_cell hk4 1; have e2 := blk_cell HE2.out 2; have e3 := blk_cell HE2.out 3; clear hb2 hk3 hk4 k0 k1)))
  go_ret
  exact ⟨rfl, HB2.out⟩
set_option maxHeartbeats 4000000 in
theorem del_att (hy who ny too want : Int) (w : World) (h : FS w g b n L next) (hhy : U64 hy) (hny : U64 ny) (e : E) (r c : Int) (hf : fnd L 0 hy who = (e, 0)) (ha : att e.rt want = (r, c)) (hc : (c != 0) = true) :
    Calls Try.prog 12 #[.pointer (some ⟨g, 0, none⟩), H2 0 hy, .int .u32 who, H2 0 ny, .int .u32 too, .int .u8 want] w fun e' w' => e' = .returned (.int .i64 c) ∧ Below w.heap.size w w' := by
  have hb := below_alloc (below_alloc (Below.refl w.heap.size w) (.cells #[.int .u64 0, .int .u64 hy] 30)) (.cells #[.int .u64 0, .int .u64 ny] 30)
  have hk := blk_alloc (blk_new w (.cells #[.int .u64 0, .int .u64 hy] 30)) (.cells #[.int .u64 0, .int .u64 ny] 30)
  have hk2 := new1 w (.cells #[.int .u64 0, .int .u64 hy] 30) (.cells #[.int .u64 0, .int .u64 ny] 30)
  have HF := Lib.hid (h.below hb)
  have HK := Lib.hid hk
  have HK2 := Lib.hid hk2
  have HB := Lib.hid hb
  have k0 := blk_cell hk 0
  have k1 := blk_cell hk 1
  have HX := Lib.hid (And.intro (show U64 0 from ⟨by omega, by omega⟩) (And.intro hhy hny))
  have HLT := Lib.hid h.lt
  have HNE := Lib.hid h.ne
  clear hb hk hk2 h hhy hny
  have HFD := Lib.hid hf
  have HAT := Lib.hid ha
  clear hf ha
  go_enter Try.func12, Try.ntmps12
  go_wp2_with (first
    | (go_at_call 29; go_loud (refine (att_is e.rt want _ _ _ HAT.out).mono ?_; rintro e' w3 ⟨rfl, hw3⟩; subst hw3))
    | (go_at_call 18; go_loud (refine (find_is 0 hy who _ _ _ HF.out HX.out.1 HX.out.2.1 HFD.out).mono ?_; rintro e' w2 ⟨rfl, hb2⟩; have HB2 := Lib.hid (below_alloc (HB.out.trans (hb2.mono HB.out.size)) (EC e)); have HF2 := Lib.hid ((HF.out.below hb2).below (below_alloc (Below.refl _ _) (EC e))); have hk3 := blk_alloc (blk_below HK.out hb2) (EC e); have hk4 := blk_alloc (blk_below HK2.out hb2) (EC e); have HK3 := Lib.hid hk3; have HK4 := Lib.hid hk4; have HE2 := Lib.hid (blk_new w2 (EC e)); have n0 := blk_cell hk4 0; have n1 := blk_cell hk4 1; have e2 := blk_cell HE2.out 2; have e3 := blk_cell HE2.out 3; clear hb2 hk3 hk4 k0 k1)))
  go_ret
  exact ⟨rfl, HB2.out⟩
set_option maxHeartbeats 4000000 in
theorem del_bad (hy who ny too want : Int) (w : World) (h : FS w g b n L next) (hhy : U64 hy) (hny : U64 ny) (e : E) (hf : fnd L 0 hy who = (e, 0)) (ha : att e.rt want = (want, 0)) (hbd : Bad L ny want) :
    Calls Try.prog 12 #[.pointer (some ⟨g, 0, none⟩), H2 0 hy, .int .u32 who, H2 0 ny, .int .u32 too, .int .u8 want] w fun e' w' => e' = .returned (.int .i64 1) ∧ Below w.heap.size w w' := by
  have hb := below_alloc (below_alloc (Below.refl w.heap.size w) (.cells #[.int .u64 0, .int .u64 hy] 30)) (.cells #[.int .u64 0, .int .u64 ny] 30)
  have hk := blk_alloc (blk_new w (.cells #[.int .u64 0, .int .u64 hy] 30)) (.cells #[.int .u64 0, .int .u64 ny] 30)
  have hk2 := new1 w (.cells #[.int .u64 0, .int .u64 hy] 30) (.cells #[.int .u64 0, .int .u64 ny] 30)
  have HF := Lib.hid (h.below hb)
  have HK := Lib.hid hk
  have HK2 := Lib.hid hk2
  have HB := Lib.hid hb
  have k0 := blk_cell hk 0
  have k1 := blk_cell hk 1
  have HX := Lib.hid (And.intro (show U64 0 from ⟨by omega, by omega⟩) (And.intro hhy hny))
  have HLT := Lib.hid h.lt
  have HNE := Lib.hid h.ne
  clear hb hk hk2 h hhy hny
  have HFD := Lib.hid hf
  have HAT := Lib.hid ha
  have HBD := Lib.hid hbd
  clear hf ha hbd
  go_enter Try.func12, Try.ntmps12
  go_wp2_with (first
    | (go_at_call 8; go_loud (refine (root_bad ny e.obj _ too 0 0 0 _ HF2.out HX.out.2.2 HBD.out).mono ?_; rintro e' w4 ⟨rfl, hb4⟩; have HB4 := Lib.hid (HB2.out.trans (hb4.mono HB2.out.size)); clear hb4))
    | (go_at_call 29; go_loud (refine (att_is e.rt want _ _ _ HAT.out).mono ?_; rintro e' w3 ⟨rfl, hw3⟩; subst hw3))
    | (go_at_call 18; go_loud (refine (find_is 0 hy who _ _ _ HF.out HX.out.1 HX.out.2.1 HFD.out).mono ?_; rintro e' w2 ⟨rfl, hb2⟩; have HB2 := Lib.hid (below_alloc (HB.out.trans (hb2.mono HB.out.size)) (EC e)); have HF2 := Lib.hid ((HF.out.below hb2).below (below_alloc (Below.refl _ _) (EC e))); have hk3 := blk_alloc (blk_below HK.out hb2) (EC e); have hk4 := blk_alloc (blk_below HK2.out hb2) (EC e); have HK3 := Lib.hid hk3; have HK4 := Lib.hid hk4; have HE2 := Lib.hid (blk_new w2 (EC e)); have n0 := blk_cell hk4 0; have n1 := blk_cell hk4 1; have e2 := blk_cell HE2.out 2; have e3 := blk_cell HE2.out 3; clear hb2 hk3 hk4 k0 k1)))
  go_ret
  exact ⟨rfl, HB4.out⟩
set_option maxHeartbeats 4000000 in
theorem del_ok (hy who ny too want : Int) (w : World) (h : FS w g b n L next) (hhy : U64 hy) (hny : U64 ny) (e : E) (hf : fnd L 0 hy who = (e, 0)) (ha : att e.rt want = (want, 0)) (hz : ¬ ny = 0) (ht : find L 0 ny = none) (hr : rightU want = true) (hnx : next ≤ 1000000) (hn : n ≤ 1000000) :
    Calls Try.prog 12 #[.pointer (some ⟨g, 0, none⟩), H2 0 hy, .int .u32 who, H2 0 ny, .int .u32 too, .int .u8 want] w fun e' w' => e' = .returned (.int .i64 0) ∧ FS w' g b (n + 1 + 1) (L ++ [⟨0, ny, e.obj, want, too, 0, hy, next⟩]) (next + 1) ∧ Fl g b w w' := by
  have hb := below_alloc (below_alloc (Below.refl w.heap.size w) (.cells #[.int .u64 0, .int .u64 hy] 30)) (.cells #[.int .u64 0, .int .u64 ny] 30)
  have hk := blk_alloc (blk_new w (.cells #[.int .u64 0, .int .u64 hy] 30)) (.cells #[.int .u64 0, .int .u64 ny] 30)
  have hk2 := new1 w (.cells #[.int .u64 0, .int .u64 hy] 30) (.cells #[.int .u64 0, .int .u64 ny] 30)
  have HF := Lib.hid (h.below hb)
  have HK := Lib.hid hk
  have HK2 := Lib.hid hk2
  have HB := Lib.hid hb
  have k0 := blk_cell hk 0
  have k1 := blk_cell hk 1
  have HX := Lib.hid (And.intro (show U64 0 from ⟨by omega, by omega⟩) (And.intro hhy hny))
  have HLT := Lib.hid h.lt
  have HNE := Lib.hid h.ne
  clear hb hk hk2 h hhy hny
  have HFD := Lib.hid hf
  have HAT := Lib.hid ha
  have HOK := Lib.hid (And.intro hz (And.intro ht hr))
  clear hf ha hz ht hr
  go_enter Try.func12, Try.ntmps12
  go_wp2_with (first
    | (go_at_call 8; go_loud (refine (root_ok ny e.obj _ too 0 0 0 _ HF2.out HX.out.2.2 HOK.out.1 HOK.out.2.1 HOK.out.2.2 hnx hn).mono ?_; rintro e' w4 ⟨rfl, hF4, hf4⟩; have HF4 := Lib.hid hF4; have HL4 := Lib.hid hf4; clear hF4 hf4))
    | (go_at_call 29; go_loud (refine (att_is e.rt want _ _ _ HAT.out).mono ?_; rintro e' w3 ⟨rfl, hw3⟩; subst hw3))
    | (go_at_call 18; go_loud (refine (find_is 0 hy who _ _ _ HF.out HX.out.1 HX.out.2.1 HFD.out).mono ?_; rintro e' w2 ⟨rfl, hb2⟩; have HB2 := Lib.hid (below_alloc (HB.out.trans (hb2.mono HB.out.size)) (EC e)); have HF2 := Lib.hid ((HF.out.below hb2).below (below_alloc (Below.refl _ _) (EC e))); have hk3 := blk_alloc (blk_below HK.out hb2) (EC e); have hk4 := blk_alloc (blk_below HK2.out hb2) (EC e); have HK3 := Lib.hid hk3; have HK4 := Lib.hid hk4; have HE2 := Lib.hid (blk_new w2 (EC e)); have n0 := blk_cell hk4 0; have n1 := blk_cell hk4 1; have e2 := blk_cell HE2.out 2; have e3 := blk_cell HE2.out 3; clear hb2 hk3 hk4 k0 k1)))
  have hs0 := HB.out.size
  have hs2 := HB2.out.size
  have hg0 := HLT.out
  have hne := HNE.out
  have hd : Below w4.heap.size w4 w4.drew := below_drew1 (Below.refl _ _)
  obtain ⟨Y, hY⟩ : ∃ Y, w4.drew = Y := ⟨_, rfl⟩
  rw [hY] at hd
  have hl3 := blk_lt HK4.out
  have hszw : w.heap.size + 1 < (w2.alloc (EC e)).heap.size := hl3
  have HKY := Lib.hid (blk_below (HL4.out.blk HK3.out (fun q => by omega)) hd)
  have HNY := Lib.hid (blk_below (HL4.out.blk HK4.out (fun q => by omega)) hd)
  have HFY := Lib.hid (HF4.out.below hd)
  have HLY := Lib.hid (HL4.out.more hd)
  have hlk : ∀ W, FS W g b (n + 1) (L ++ [⟨0, ny, e.obj, want, too, 0, 0, next⟩]) (next + 1) → (Instr.lookup 62 (.map (some b)) (H2 0 ny) false).run Try.prog W = .ok (.agg #[.int .u64 0, .int .u64 ny, .int .i64 e.obj, .int .u8 want, .int .u32 too, .int .u64 0, .int .u64 0, .int .i64 next]) W := fun W hW => by
    have h2 := (hW.look HX.out.1 HX.out.2.2).2
    rw [find_last (e := ⟨0, ny, e.obj, want, too, 0, 0, next⟩) HOK.out.2.1] at h2
    exact h2
  have HLK := Lib.hid hlk
  clear hd hlk n0 n1 e2 e3
  refine start_ (n := 8) (S := fun w' => w'.cell? ⟨g, 0, none⟩ = some (.map (some b)) ∧ w'.cell? ⟨w.heap.size + 1, 0, none⟩ = some (.int .u64 0) ∧ w'.cell? ⟨w.heap.size + 1, 1, none⟩ = some (.int .u64 ny) ∧ (Instr.lookup 62 (.map (some b)) (H2 0 ny) false).run Try.prog w' = .ok (.agg #[.int .u64 0, .int .u64 ny, .int .i64 e.obj, .int .u8 want, .int .u32 too, .int .u64 0, .int .u64 0, .int .i64 next]) w') (ds := []) #[false, false, false, false, false, false, false, false] (by kernel_rfl) rfl rfl ⟨(by rw [hY]; exact ob0 HFY.out), (by rw [hY]; exact blk_cell HNY.out 0), (by rw [hY]; exact blk_cell HNY.out 1), (by rw [hY]; exact HLK.out _ HFY.out)⟩ (fun hHeld => ?_)
  refine pure_ (i := 0) (N := some 49) (v := ?_) (a' := ?_) #[true, false, false, false, false, false, false, false] rfl rfl (by kernel_rfl) (fun _ _ _ h => h) (Or.inl ⟨by rfl, ?_⟩) ?_ ?_
  rotate_left
  · intro w'
    go_simp
    with_reducible rfl
  rotate_left
  · simp only [Act.put, List.setIfInBounds_toArray, List.set_cons_zero, List.set_cons_succ]
    rfl
  refine pure_ (i := 1) (N := some 50) (v := ?_) (a' := ?_) #[true, true, false, false, false, false, false, false] rfl rfl (by kernel_rfl) (fun _ _ _ h => h) (Or.inl ⟨by rfl, ?_⟩) ?_ ?_
  rotate_left
  · intro w'
    go_simp
    with_reducible rfl
  rotate_left
  · simp only [Act.put, List.setIfInBounds_toArray, List.set_cons_zero, List.set_cons_succ]
    rfl
  refine pure_ (i := 2) (N := some 51) (v := ?_) (a' := ?_) #[true, true, true, false, false, false, false, false] rfl rfl (by kernel_rfl) (fun _ _ _ h => h) (Or.inl ⟨by rfl, ?_⟩) ?_ ?_
  rotate_left
  · intro w'
    go_simp
    with_reducible rfl
  rotate_left
  · simp only [Act.put, List.setIfInBounds_toArray, List.set_cons_zero, List.set_cons_succ]
    rfl
  refine take_ (i := 3) (N := some 52) (v := ?_) (a' := ?_) #[true, true, true, true, false, false, false, false] rfl rfl (by kernel_rfl) (fun _ _ _ h => h) (Or.inl ⟨by rfl, ?_⟩) hHeld ?_ ?_
  rotate_left
  · rintro w' ⟨s0, s1, s2, s3⟩
    go_simp
    with_reducible rfl
  rotate_left
  · simp only [Act.put, List.setIfInBounds_toArray, List.set_cons_zero, List.set_cons_succ]
    rfl
  refine take_ (i := 4) (N := some 53) (v := ?_) (a' := ?_) #[true, true, true, true, true, false, false, false] rfl rfl (by kernel_rfl) (fun _ _ _ h => h) (Or.inl ⟨by rfl, ?_⟩) hHeld ?_ ?_
  rotate_left
  · rintro w' ⟨s0, s1, s2, s3⟩
    go_simp
    with_reducible rfl
  rotate_left
  · simp only [Act.put, List.setIfInBounds_toArray, List.set_cons_zero, List.set_cons_succ]
    rfl
  refine take_ (i := 5) (N := some 54) (v := ?_) (a' := ?_) #[true, true, true, true, true, true, false, false] rfl rfl (by kernel_rfl) (fun _ _ _ h => h) (Or.inl ⟨by rfl, ?_⟩) hHeld ?_ ?_
  rotate_left
  · rintro w' ⟨s0, s1, s2, s3⟩
    go_simp
    with_reducible rfl
  rotate_left
  · simp only [Act.put, List.setIfInBounds_toArray, List.set_cons_zero, List.set_cons_succ]
    rfl
  refine one_ (i := 6) (N := some 17) #[true, true, true, true, true, true, true, false] rfl rfl (by kernel_rfl) (by decide) (fun K hK => ?_)
  refine value_ (w1 := ?_) (v := ?_) (by rfl) rfl ?_ ?_
  rotate_left 2
  · go_simp
    constructor
    · rfl
    · rfl
  have HNB := Lib.hid (below_alloc (Below.refl Y.heap.size Y) (.cells #[.int .u64 0, .int .u64 0, .int .i64 0, .int .u8 0, .int .u32 0, .int .u64 0, .int .u64 0, .int .i64 0] 35))
  refine hK.out _ _ ⟨(ob0 (HFY.out.below HNB.out)), (blk_cell (blk_below HNY.out HNB.out) 0), (blk_cell (blk_below HNY.out HNB.out) 1), (HLK.out _ (HFY.out.below HNB.out))⟩ (fun hHeld => ?_)
  clear hK K
  refine norm_ (a' := ?_) ?_ ?_
  rotate_left
  · show Act.put _ (some 17) _ = _
    simp only [Act.put, List.setIfInBounds_toArray, List.set_cons_zero, List.set_cons_succ]
    rfl
  refine one_ (i := 7) (N := none) #[true, true, true, true, true, true, true, true] rfl rfl (by kernel_rfl) (by decide) (fun K hK => ?_)
  refine skip_ (w1 := ?_) (by rfl) rfl ?_ ?_
  rotate_left
  · go_simp
    rfl
  have HNB2 := Lib.hid (below_alloc (Below.refl Y.heap.size Y) (.cells #[.int .u64 0, .int .u64 ny, .int .i64 e.obj, .int .u8 want, .int .u32 too, .int .u64 0, .int .u64 0, .int .i64 next] 35))
  refine hK.out _ _ ⟨(ob0 (HFY.out.below HNB2.out)), (blk_cell (blk_below HNY.out HNB2.out) 0), (blk_cell (blk_below HNY.out HNB2.out) 1), (HLK.out _ (HFY.out.below HNB2.out))⟩ (fun hHeld => ?_)
  clear hK K
  refine done_ (by kernel_rfl) ?_

  have hkn := blk_alloc HKY.out (.cells #[.int .u64 0, .int .u64 ny, .int .i64 e.obj, .int .u8 want, .int .u32 too, .int .u64 0, .int .u64 0, .int .i64 next] 35)
  have v0 := blk_cell hkn 0
  have v1 := blk_cell hkn 1
  clear hkn
  have hbx : Below Y.heap.size Y (Y.alloc (.cells #[.int .u64 0, .int .u64 ny, .int .i64 e.obj, .int .u8 want, .int .u32 too, .int .u64 0, .int .u64 hy, .int .i64 next] 35)).drew := below_drew1 (below_alloc (Below.refl _ _) (.cells #[.int .u64 0, .int .u64 ny, .int .i64 e.obj, .int .u8 want, .int .u32 too, .int .u64 0, .int .u64 hy, .int .i64 next] 35))
  have hnx2 : (Y.alloc (.cells #[.int .u64 0, .int .u64 ny, .int .i64 e.obj, .int .u8 want, .int .u32 too, .int .u64 0, .int .u64 hy, .int .i64 next] 35)).drew.heap[Y.heap.size]? = some (.cells #[.int .u64 0, .int .u64 ny, .int .i64 e.obj, .int .u8 want, .int .u32 too, .int .u64 0, .int .u64 hy, .int .i64 next] 35 (0, 0)) := blk_drew (blk_new Y (.cells #[.int .u64 0, .int .u64 ny, .int .i64 e.obj, .int .u8 want, .int .u32 too, .int .u64 0, .int .u64 hy, .int .i64 next] 35))
  obtain ⟨X, hX⟩ : ∃ X, (Y.alloc (.cells #[.int .u64 0, .int .u64 ny, .int .i64 e.obj, .int .u8 want, .int .u32 too, .int .u64 0, .int .u64 hy, .int .i64 next] 35)).drew = X := ⟨_, rfl⟩
  rw [hX] at hbx hnx2
  have HFX := Lib.hid (HFY.out.below hbx)
  have HNX := Lib.hid (blk_below HNY.out hbx)
  have HEX := Lib.hid hnx2
  obtain ⟨D, hm, hR⟩ := HFX.out.map
  obtain ⟨w9, hrun, hm9, hg9⟩ := hm.update law Try.underlying62 (Nat.lt_of_le_of_lt (Nat.succ_le_succ hn) (by unfold maxLen; decide)) (kl_of HX.out.1.wf HX.out.2.2.wf) (entElem_v ⟨0, ny, e.obj, want, too, 0, hy, next⟩)
  have HM9 := Lib.hid hm9
  have HG9 := Lib.hid (fr_of_grown hg9)
  have HIM := Lib.hid hm.isMap
  have HRR := Lib.hid hR
  have HLX := Lib.hid (HLY.out.more hbx)
  clear hbx hnx2 hm hR hm9 hg9
  go_wp2
  refine start_ (n := 7) (S := fun w' => w'.cell? ⟨g, 0, none⟩ = some (.map (some b)) ∧ w'.cell? ⟨w.heap.size + 1, 0, none⟩ = some (.int .u64 0) ∧ w'.cell? ⟨w.heap.size + 1, 1, none⟩ = some (.int .u64 ny) ∧ w'.cell? ⟨Y.heap.size, 0, none⟩ = some (.int .u64 0) ∧ w'.cell? ⟨Y.heap.size, 1, none⟩ = some (.int .u64 ny) ∧ w'.cell? ⟨Y.heap.size, 2, none⟩ = some (.int .i64 e.obj) ∧ w'.cell? ⟨Y.heap.size, 3, none⟩ = some (.int .u8 want) ∧ w'.cell? ⟨Y.heap.size, 4, none⟩ = some (.int .u32 too) ∧ w'.cell? ⟨Y.heap.size, 5, none⟩ = some (.int .u64 0) ∧ w'.cell? ⟨Y.heap.size, 6, none⟩ = some (.int .u64 hy) ∧ w'.cell? ⟨Y.heap.size, 7, none⟩ = some (.int .i64 next)) (ds := [6]) #[false, false, false, false, false, false, false] (by kernel_rfl) rfl rfl ⟨(by rw [hX]; exact ob0 HFX.out), (by rw [hX]; exact blk_cell HNX.out 0), (by rw [hX]; exact blk_cell HNX.out 1), (by rw [hX]; exact blk_cell HEX.out 0), (by rw [hX]; exact blk_cell HEX.out 1), (by rw [hX]; exact blk_cell HEX.out 2), (by rw [hX]; exact blk_cell HEX.out 3), (by rw [hX]; exact blk_cell HEX.out 4), (by rw [hX]; exact blk_cell HEX.out 5), (by rw [hX]; exact blk_cell HEX.out 6), (by rw [hX]; exact blk_cell HEX.out 7)⟩ (fun hHeld => ?_)
  refine pure_ (i := 0) (N := some 57) (v := ?_) (a' := ?_) #[true, false, false, false, false, false, false] rfl rfl (by kernel_rfl) (fun _ _ _ h => h) (Or.inl ⟨by rfl, ?_⟩) ?_ ?_
  rotate_left
  · intro w'
    go_simp
    with_reducible rfl
  rotate_left
  · simp only [Act.put, List.setIfInBounds_toArray, List.set_cons_zero, List.set_cons_succ]
    rfl
  refine pure_ (i := 1) (N := some 58) (v := ?_) (a' := ?_) #[true, true, false, false, false, false, false] rfl rfl (by kernel_rfl) (fun _ _ _ h => h) (Or.inl ⟨by rfl, ?_⟩) ?_ ?_
  rotate_left
  · intro w'
    go_simp
    with_reducible rfl
  rotate_left
  · simp only [Act.put, List.setIfInBounds_toArray, List.set_cons_zero, List.set_cons_succ]
    rfl
  refine pure_ (i := 2) (N := some 59) (v := ?_) (a' := ?_) #[true, true, true, false, false, false, false] rfl rfl (by kernel_rfl) (fun _ _ _ h => h) (Or.inl ⟨by rfl, ?_⟩) ?_ ?_
  rotate_left
  · intro w'
    go_simp
    with_reducible rfl
  rotate_left
  · simp only [Act.put, List.setIfInBounds_toArray, List.set_cons_zero, List.set_cons_succ]
    rfl
  refine take_ (i := 3) (N := some 60) (v := ?_) (a' := ?_) #[true, true, true, true, false, false, false] rfl rfl (by kernel_rfl) (fun _ _ _ h => h) (Or.inl ⟨by rfl, ?_⟩) hHeld ?_ ?_
  rotate_left
  · rintro w' ⟨s0, s1, s2, s3, s4, s5, s6, s7, s8, s9, s10⟩
    go_simp
    with_reducible rfl
  rotate_left
  · simp only [Act.put, List.setIfInBounds_toArray, List.set_cons_zero, List.set_cons_succ]
    rfl
  refine take_ (i := 4) (N := some 61) (v := ?_) (a' := ?_) #[true, true, true, true, true, false, false] rfl rfl (by kernel_rfl) (fun _ _ _ h => h) (Or.inl ⟨by rfl, ?_⟩) hHeld ?_ ?_
  rotate_left
  · rintro w' ⟨s0, s1, s2, s3, s4, s5, s6, s7, s8, s9, s10⟩
    go_simp
    with_reducible rfl
  rotate_left
  · simp only [Act.put, List.setIfInBounds_toArray, List.set_cons_zero, List.set_cons_succ]
    rfl
  refine take_ (i := 5) (N := some 62) (v := ?_) (a' := ?_) #[true, true, true, true, true, true, false] rfl rfl (by kernel_rfl) (fun _ _ _ h => h) (Or.inl ⟨by rfl, ?_⟩) hHeld ?_ ?_
  rotate_left
  · rintro w' ⟨s0, s1, s2, s3, s4, s5, s6, s7, s8, s9, s10⟩
    go_simp
    with_reducible rfl
  rotate_left
  · simp only [Act.put, List.setIfInBounds_toArray, List.set_cons_zero, List.set_cons_succ]
    rfl
  refine last_ (i := 6) (N := none) #[true, true, true, true, true, true, true] rfl rfl (by kernel_rfl) (by decide) (fun K hK => ?_)
  refine skip_ (w1 := ?_) (by rfl) rfl ?_ ?_
  rotate_left
  · go_simp
    rfl
  refine hK.out _ _ ?_
  clear hK K
  refine done_ (by kernel_rfl) ?_

  go_wp2
  go_ret
  have hwf : E.wf ⟨0, ny, e.obj, want, too, 0, hy, next⟩ := ⟨HX.out.1.1, HX.out.1.2, HX.out.2.2.1, HX.out.2.2.2, HX.out.1.1, HX.out.1.2, HX.out.2.1.1, HX.out.2.1.2⟩
  have hag := HRR.out.again (e' := ⟨0, ny, e.obj, want, too, 0, hy, next⟩) HIM.out hwf rfl rfl rfl
  have hk : E.k ⟨0, ny, e.obj, want, too, 0, hy, next⟩ = kl 0 ny := rfl
  rw [hk] at hag
  refine ⟨rfl, ⟨HG9.out.blk HFX.out.obj (fun q => hne q.symm), ⟨_, HM9.out, hag⟩, HFX.out.n0⟩, ?_⟩
  refine Fr.then_ (S' := fun j => j = g ∨ j = b) (Fr.of_new HB2.out) ?_ (fun j hj => .inl hj)
  exact Fr.then_ (S' := (· = b)) HLX.out HG9.out (fun j hj => .inl (.inr hj))
end
end Go.Proofs.Ytojbheiicmcnjaa.Fst
