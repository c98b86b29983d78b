/- forest: under. -/
import Derived.Test.YtojbheiicmcnjaaFsK
namespace Go.Proofs.Ytojbheiicmcnjaa.Fst
open Go.RowKit Go Go.Proofs.YtojbheiicmcnjaaW.PrintWords Go.Proofs.YtojbheiicmcnjaaW.PrintMore Go.Proofs.YtojbheiicmcnjaaW.PrintLast Go.Proofs.Ytojbheiicmcnjaa.Bts Go.Proofs.Ytojbheiicmcnjaa.Fra Go.Maps
/-- Handles, with what is made of one that is in, as they were made. -/
def stepU (In : Int → Int → Bool) (e : E) : Int → Int → Bool := if In e.ph e.pl then fun a b => decide (a = e.hi ∧ b = e.lo) || In a b else In
def underU (L : List E) (x y : Int) : Int → Int → Bool := L.foldl stepU (fun a b => decide (a = x ∧ b = y) || false)
section
variable {L : List E} {next : Int} {g b n : Nat}
theorem true_List (N : Nat) : True := trivial
def Yes (N : Nat) : Prop := ∀ (e : E) (W : World), Calls Try.prog N (#[e.v] ++ #[]) W fun e' W' => e' = .returned (.bool true) ∧ Below W.heap.size W W'
theorem yes_under : Yes 46 := by
  intro e W
  go_enter Try.func46, Try.ntmps46
  go_wp2
  go_ret
  exact ⟨rfl, below_alloc (Below.refl _ _) _⟩
theorem list_all (N : Nat) (w : World) (eg : ∀ args w, (callFunc N args).run Try.prog w = .ok (.enter N args) w) (hy : Yes N) (h : FS w g b n L next) (hL : L.length ≤ 100000) (hnx : next ≤ 1000000) :
    Calls Try.prog 10 #[.pointer (some ⟨g, 0, none⟩), .func (.func N) #[] #[]] w fun e w' => ∃ v, e = .returned v ∧ ER w' w.heap.size v L ∧ Below w.heap.size w w' := by
  have h2 := list_gen N #[] (fun _ => true) w eg (fun e W _ _ => hy e W) h hL hnx
  have e1 : L.filter (fun _ => true) = L := List.filter_eq_self.2 (fun _ _ => rfl)
  rwa [e1] at h2
theorem FS.wfE {w : World} (h : FS w g b n L next) : ∀ e ∈ L, e.wf := by
  obtain ⟨D, _, hR⟩ := h.map
  exact hR.wf
theorem BM.mono {w : World} {m n n' : Nat} {In : Int → Int → Bool} (h : BM w m n In) (hn : n ≤ n') : BM w m n' In := let ⟨D, ho, hD⟩ := h; ⟨D, ho.mono hn, hD⟩
theorem underU_snoc (L : List E) (x y : Int) (e : E) : underU (L ++ [e]) x y = stepU (underU L x y) e := by
  unfold underU
  rw [List.foldl_append]
  rfl
theorem take_snocE {L : List E} {j : Nat} {e : E} (h : L[j]? = some e) : L.take (j + 1) = L.take j ++ [e] := by
  obtain ⟨hlt, rfl⟩ := List.getElem?_eq_some_iff.1 h
  rw [List.take_succ_eq_append_getElem hlt]
def UPost (L : List E) (hy : Int) (w : World) (e : Ending) (w' : World) : Prop := ∃ m k, e = .returned (.map (some m)) ∧ w.heap.size ≤ m ∧ BM w' m k (underU L 0 hy) ∧ Below w.heap.size w w'
set_option maxHeartbeats 4000000 in
set_option maxRecDepth 100000 in
theorem under_calls (hy : Int) (w : World) (h : FS w g b n L next) (hhy : U64 hy) (hL : L.length ≤ 100000) (hnx : next ≤ 1000000) :
    Calls Try.prog 31 #[.pointer (some ⟨g, 0, none⟩), H2 0 hy] w (UPost L hy w) := by
  have hb1 := below_alloc (Below.refl w.heap.size w) (.cells #[.int .u64 0, .int .u64 hy] 30)
  have hk1 := blk_new w (.cells #[.int .u64 0, .int .u64 hy] 30)
  obtain ⟨W1, hW1⟩ : ∃ W1, w.alloc (.cells #[.int .u64 0, .int .u64 hy] 30) = W1 := ⟨_, rfl⟩
  rw [hW1] at hb1 hk1
  have hs1 : W1.heap.size = w.heap.size + 1 := by rw [← hW1]; simp
  have hbm := BM.made W1
  have hb2 := below_alloc hb1 (.map #[] 0)
  have hk2 := blk_alloc hk1 (.map #[] 0)
  have h0U : U64 0 := ⟨by omega, by omega⟩
  obtain ⟨w9, hrun, hB9, hF9⟩ := hbm.put (Nat.zero_le _) h0U hhy
  have hw9 : Below w.heap.size w w9 := Fr.below (S := fun j => w.heap.size ≤ j) (Fr.then_ (Fr.of_new hb2) hF9 (fun j hj => .inl (by omega))) (fun _ h => h) (Nat.le_refl _)
  have k0 := blk_cell hk2 0
  have k1 := blk_cell hk2 1
  have hWx : (w.alloc (.cells #[.int .u64 0, .int .u64 hy] 30)).alloc (.map #[] 0) = W1.alloc (.map #[] 0) := by rw [hW1]
  obtain ⟨W2, hW2⟩ : ∃ W2, W1.alloc (.map #[] 0) = W2 := ⟨_, rfl⟩
  rw [hs1] at hrun hB9
  have hWy : (w.alloc (.cells #[.int .u64 0, .int .u64 hy] 30)).alloc (.map #[] 0) = W2 := by rw [hWx]; exact hW2
  rw [hW2] at hrun k0 k1
  have HF9 := Lib.hid (h.below hw9)
  have HB9 := Lib.hid hB9
  have HW9 := Lib.hid hw9
  have HL := Lib.hid (And.intro hL hnx)
  have hL' : (L.length : Int) ≤ 100000 := by omega
  have HU := Lib.hid h0U
  have HWF := Lib.hid h.wfE
  have hmm := @run_makeMap Try.prog
  have HS9 := Lib.hid (show w.heap.size + 1 < w9.heap.size from hB9.lt)
  clear hb1 hk1 hbm hb2 hk2 hB9 hF9 hw9 h hL hnx h0U hW1 hs1 hWx hW2 hhy
  go_enter Try.func31, Try.ntmps31
  go_wp2_with (go_at_call 10; go_loud (refine (list_all _ _ (enters_of Try.func46 (by kernel_rfl) rfl) yes_under HF9.out HL.out.1 HL.out.2).mono ?_; rintro e w4 ⟨v4, rfl, hE4, hb4⟩; obtain ⟨A4, c4, e4, hc4⟩ := hE4.slice; subst e4; have HE4 := Lib.hid hE4; have HB4 := Lib.hid (HB9.out.below hb4); have HW4 := Lib.hid (HW9.out.trans (hb4.mono HW9.out.size)); have HS4 := Lib.hid hb4.size; clear hE4 hb4))
  clear k0 k1
  go_loopg [14] L.length (fun q i wr => ∃ j : Nat, q + j = L.length ∧ i = .int .i64 (j : Int) ∧ Hid (BM wr (w.heap.size + 1) (0 + 1 + j) (underU (L.take j) 0 hy)) ∧ Hid (Fr (· = w.heap.size + 1) w4 wr))
  case atStart => exact ⟨0, rfl, rfl, HB4, Lib.hid (Fr.refl _ _)⟩
  case round =>
    obtain ⟨j, hq, rfl, HBM, HFR⟩ := hrel
    by_cases hj : j < L.length
    · have hj' : (j : Int) < (L.length : Int) := by omega
      obtain ⟨e, he⟩ : ∃ e, L[j]? = some e := ⟨L[j], List.getElem?_eq_getElem hj⟩
      have hE := (HE4.out.fr HFR.out (fun j hj e => by have := HS9.out; omega)).C
      obtain ⟨ad, e1, x0, x1, x2, x3, x4, x5, x6, x7⟩ := rowE_at hE j he
      obtain rfl : A4 = some ad := e1
      have hwf := HWF.out e (List.mem_of_getElem? he)
      have hts := take_snocE he
      have hbb := HBM.out.below (below_alloc (Below.refl wr.heap.size wr) (EC e))
      have hlk := hbb.look (x := e.ph) (y := e.pl) ⟨hwf.ph0, hwf.ph1⟩ ⟨hwf.pl0, hwf.pl1⟩
      have HTS := Lib.hid hts
      have HBB := Lib.hid hbb
      have hm9 := HBM.out.lt
      have HMW := Lib.hid hm9
      clear hE hts hbb he hm9
      cases hp : underU (L.take j) 0 hy e.ph e.pl
      · rw [hp] at hlk
        have hst : underU (L.take (j + 1)) 0 hy = underU (L.take j) 0 hy := by
          rw [HTS.out, underU_snoc]
          unfold stepU
          rw [hp]
          rfl
        have HST := Lib.hid hst
        clear hp hst hwf
        go_wp2
        go_roundg (gk - 1)
        case measure => omega
        case rel => exact ⟨j + 1, by omega, by simp, Lib.hid (by rw [HST.out]; exact HBB.out.mono (by omega)), Lib.hid (HFR.out.more (below_alloc (Below.refl _ _) _))⟩
      · rw [hp] at hlk
        obtain ⟨w10, hrun2, hB10, hF10⟩ := HBB.out.put (by have := HL.out.1; omega) (x := e.hi) (y := e.lo) ⟨hwf.hi0, hwf.hi1⟩ ⟨hwf.lo0, hwf.lo1⟩
        have hst : underU (L.take (j + 1)) 0 hy = fun a b => decide (a = e.hi ∧ b = e.lo) || underU (L.take j) 0 hy a b := by
          rw [HTS.out, underU_snoc]
          unfold stepU
          rw [hp]
          rfl
        have HST := Lib.hid hst
        have HB10 := Lib.hid hB10
        have HF10 := Lib.hid hF10
        clear hp hst hwf hB10 hF10 hrun
        go_wp2
        go_roundg (gk - 1)
        case measure => omega
        case rel => exact ⟨j + 1, by omega, by simp, Lib.hid (by rw [HST.out]; exact HB10.out.mono (by omega)), Lib.hid ((HFR.out.more (below_alloc (Below.refl _ _) _)).trans HF10.out)⟩
    · have hjn : j = L.length := by omega
      subst hjn
      have hj' : ¬ (L.length : Int) < (L.length : Int) := by omega
      go_wp2
      go_ret
      have hB := HBM.out
      rw [List.take_length] at hB
      exact ⟨_, _, rfl, by omega, hB, Fr.below (S := fun j => w.heap.size ≤ j) (Fr.then_ (Fr.of_new HW4.out) HFR.out (fun j hj => .inl (by omega))) (fun _ h => h) (Nat.le_refl _)⟩
end
end Go.Proofs.Ytojbheiicmcnjaa.Fst
