/- frame: the document's answer All, as a contract; a reader that has failed; two lists of rows compared. -/
import Derived.Test.YtcpcnnpdbognlaaFrmL
namespace Go.Proofs.Ytcpcnnpdbognlaa.Frm
open Go.RowKit Go Go.Proofs.YtcpcnnpdbognlaaW.PrintWords Go.Proofs.YtcpcnnpdbognlaaW.PrintMore Go.Proofs.YtcpcnnpdbognlaaW.PrintLast Go.Proofs.Ytcpcnnpdbognlaa.Bts Go.Proofs.Ytcpcnnpdbognlaa.Fra
attribute [local go_sem high] sl_frame sl_rest
/-- Rows that are read where they lay at the world W0. -/
def kB (W0 : World) : Kd (List Int) where
  sz := 1
  E := []
  K := fun _ xs cs => ∃ A c, cs = [.slice A xs.length c] ∧ xs.length ≤ c ∧ (Kd.int .u8).C W0 A xs.length xs
  M := fun _ _ _ xs cs => ∃ A c, cs = [.slice A xs.length c] ∧ xs.length ≤ c ∧ (Kd.int .u8).C W0 A xs.length xs
  K_len := by
    rintro w x cs ⟨A, c, rfl, _⟩
    rfl
  K_one := by
    rintro w x cs ⟨A, c, rfl, _⟩ u hu
    rw [List.mem_singleton.1 hu]
    rfl
  K_below := fun _ h => h
  K_of_M := fun h => h
  M_mono := fun _ h => h
  M_bound := fun {w base ok x cs} h => h
  M_move := fun _ h => h
  M_lower := fun _ h => h
theorem kB_C {W0 w : World} {A : Option Addr} {n : Nat} {l : List (List Int)} (h : (kB W0).C w A n l) (hB : Below W0.heap.size W0 w) : kF.C w A n l :=
  ReadsRow.imp_ h (Below.refl _ _) fun _ _ ⟨A, c, e, hl, hc⟩ => ⟨A, c, e, hl, Kd.C_below hc hB⟩
/-- Bytes behind others: the frames of what was left, and of them. -/
theorem fr_app : ∀ (k : Nat) (xs ys : List Int), xs.length ≤ k → fr (xs ++ ys) = if (fr xs).2.2 then fr xs else ((fr xs).1 ++ (fr ((fr xs).2.1 ++ ys)).1, (fr ((fr xs).2.1 ++ ys)).2)
  | k, xs, ys, hk => by
    by_cases h2 : xs.length < 2
    · rw [fr_short xs h2]; simp
    · have hlen : len2 (xs ++ ys) = len2 xs := by
        match xs, h2 with
        | [], h2 => simp at h2
        | [_], h2 => simp at h2
        | a :: b :: xs, _ => rfl
      by_cases h9 : 9000 < len2 xs
      · rw [fr_long xs (by omega) h9, fr_long (xs ++ ys) (by rw [List.length_append]; omega) (by rw [hlen]; exact h9)]; rfl
      · by_cases hw : xs.length < 2 + len2 xs
        · rw [fr_wait xs (by omega) (by omega) hw]; simp
        · rw [fr_step (xs ++ ys) (by rw [hlen]; omega) (by rw [hlen, List.length_append]; omega), fr_step xs (by omega) (by omega), hlen]
          have e1 : (xs ++ ys).drop (2 + len2 xs) = xs.drop (2 + len2 xs) ++ ys := List.drop_append_of_le_length (by omega)
          have e2 : ((xs ++ ys).drop 2).take (len2 xs) = (xs.drop 2).take (len2 xs) := by
            rw [List.drop_append_of_le_length (by omega), List.take_append_of_le_length (by rw [List.length_drop]; omega)]
          rw [e1, e2]
          match k, hk with
          | 0, hk => omega
          | k + 1, hk =>
            rw [fr_app k (xs.drop (2 + len2 xs)) ys (by rw [List.length_drop]; omega)]
            simp only
            split
            · rfl
            · simp
theorem fr_left_long (k : Nat) : ∀ (xs : List Int), xs.length ≤ k → (fr xs).2.2 = true → (fr xs).2.1 = [] := by
  induction k with
  | zero => intro xs hk h; obtain rfl := List.eq_nil_of_length_eq_zero (Nat.le_zero.1 hk); cases h
  | succ k ih =>
    intro xs hk h
    by_cases h2 : xs.length < 2
    · rw [fr_short xs h2] at h; cases h
    · by_cases h9 : 9000 < len2 xs
      · rw [fr_long xs (by omega) h9]
      · by_cases hw : xs.length < 2 + len2 xs
        · rw [fr_wait xs (by omega) (by omega) hw] at h; cases h
        · rw [fr_step xs (by omega) (by omega)] at h ⊢
          exact ih _ (by rw [List.length_drop]; omega) h
theorem feed_failed (g : Nat) (v v2 : Value) (xs : List Int) (w : World) (h : Fd w g v xs 12) :
    Calls Try.prog 27 #[.pointer (some ⟨g, 0, none⟩), v2] w fun e w' => e = .returned (.tuple #[.slice none 0 0, .int .i64 12]) ∧ Below w.heap.size w w' := by
  obtain ⟨hg, hown, hvg⟩ := h
  obtain ⟨A, c, rfl⟩ := own_slice hown
  have k1 : w.cell? ⟨g, 1, none⟩ = some (.int .i64 12) := blk_cell hg 1
  clear hg hown hvg
  go_enter Try.func27, Try.ntmps27
  go_wp2
  go_quiet (fail)
  go_wp2
  go_ret2
  exact ⟨rfl, pw_below_drewN (Below.refl _ _) _⟩
/-- How far All has come. -/
structure AllAt (x : List Int) (W : World) (p m : Nat) (Ac : Option Addr) (cc : Nat) (done : List (List Int)) (v5 : Value) (wr : World) : Prop where
  hp : p ≤ x.length
  hm : x.length - p = m
  s : SlR W 1 (.slice Ac m cc) m (nums .u8 (x.drop p))
  r : (kB W).R 36 wr W.heap.size (fun _ => True) v5 done
  b : Below W.heap.size W wr
  e : fr x = (done ++ (fr (x.drop p)).1, (fr (x.drop p)).2)
  l : done.length ≤ p
theorem AllAt.drew {x : List Int} {W : World} {p m : Nat} {Ac : Option Addr} {cc : Nat} {done : List (List Int)} {v5 : Value} {wr : World} (h : AllAt x W p m Ac cc done v5 wr) (n : Nat) : AllAt x W p m Ac cc done v5 (wr.drewN n) := by
  have hb : Below wr.heap.size wr (wr.drewN n) := pw_below_drewN (Below.refl _ _) n
  exact ⟨h.hp, h.hm, h.s, Kd.R_below h.r hb, below_step h.b hb, h.e, h.l⟩
theorem AllAt.next {x : List Int} {W : World} {p m n : Nat} {Ac : Option Addr} {cc : Nat} {done : List (List Int)} {v5 v5' : Value} {wr w4 : World} (h : AllAt x W p m Ac cc done v5 wr) (hB : Below W.heap.size W w4) (hn : len2 (x.drop p) = n) (hl : n ≤ 9000) (hw : 2 + n ≤ m)
    (hR : (kB W).R 36 w4 W.heap.size (fun _ => True) v5' (done ++ [((x.drop p).drop 2).take n])) : AllAt x W (p + (2 + n)) (m - (2 + n)) (subA Ac (2 + n) cc) (cc - (2 + n)) (done ++ [((x.drop p).drop 2).take n]) v5' w4 := by
  have hm := h.hm
  have hp := h.hp
  have hl' := h.l
  have s5 := sl_sub h.s hw
  rw [List.drop_drop] at s5
  refine ⟨by omega, by omega, s5, hR, hB, ?_, by simp; omega⟩
  rw [h.e, fr_step (x.drop p) (by rw [hn]; exact hl) (by rw [hn, List.length_drop]; omega), hn, List.drop_drop]
  simp
/-- What All gives. -/
def AllPost (x : List Int) (W : World) (e : Ending) (w' : World) : Prop :=
  ∃ vo, e = .returned (.tuple #[vo, .int .i64 (fr x).2.1.length, .bool (fr x).2.2]) ∧ (kB W).R 36 w' W.heap.size (fun _ => True) vo (fr x).1 ∧ Below W.heap.size W w'
theorem AllAt.post {x : List Int} {W : World} {p m : Nat} {Ac : Option Addr} {cc : Nat} {done rest : List (List Int)} {l : List Int} {b : Bool} {v5 : Value} {wr : World} {q : Nat} (h : AllAt x W p m Ac cc done v5 wr) (hf : fr (x.drop p) = ([], l, b)) (hq : l.length = q) :
    AllPost x W (.returned (.tuple #[v5, .int .i64 q, .bool b])) wr := by
  have he := h.e
  rw [hf, List.append_nil] at he
  subst hq
  exact ⟨v5, by rw [he], by rw [he]; exact h.r, h.b⟩
set_option maxHeartbeats 4000000 in
set_option maxRecDepth 100000 in
theorem all_calls (A : Option Addr) (c n0 : Nat) (x : List Int) (W : World) (h : SlR W 1 (.slice A n0 c) n0 (nums .u8 x)) (hn0 : x.length = n0) (hl : x.length ≤ 1099511627776) (hbs : Bs x) :
    Calls Try.prog 28 #[.slice A n0 c] W (AllPost x W) := by
  have H := Lib.hid h
  have HBZ := Lib.hid hbs
  have HN0 := Lib.hid hn0
  clear h hbs
  go_enter Try.func28, Try.ntmps28
  go_wp2
  go_loopg [0, 5] n0 (fun q v0 v5 wr => ∃ p Ac cc done, v0 = .slice Ac q cc ∧ AllAt x W p q Ac cc done v5 wr)
  case atStart => exact ⟨0, A, c, [], rfl, ⟨by omega, by omega, H.out, Kd.R_nil _ _ _ _ _, Below.refl _ _, rfl, by simp⟩⟩
  case round =>
    obtain ⟨p, Ac, cc, done, rfl, hA⟩ := hrel
    obtain ⟨m, hm⟩ : ∃ m, x.length - p = m := ⟨_, rfl⟩
    have e := hA.hm
    rw [hm] at e
    subst e
    clear hm
    have hml : m ≤ 1099511627776 := by have h1 := hA.hm; omega
    have hmc : m ≤ cc := by obtain ⟨_, _, _, e, h, _⟩ := hA.s; cases e; exact h
    have HA := Lib.hid hA
    clear hA
    by_cases h2 : m < 2
    · have g1 : ¬ (2 : Int) ≤ (m : Int) := by omega
      go_wp2
      go_ret3
      exact HA.out.post (rest := []) (fr_short _ (by have hm := HA.out.hm; rw [List.length_drop]; omega)) (by have hm := HA.out.hm; rw [List.length_drop]; omega)
    · have g1 : (2 : Int) ≤ (m : Int) := by omega
      obtain ⟨x0, hx0⟩ : ∃ y, (x.drop p).getD 0 0 = y := ⟨_, rfl⟩
      obtain ⟨x1, hx1⟩ : ∃ y, (x.drop p).getD 1 0 = y := ⟨_, rfl⟩
      have hbp : ∀ i, 0 ≤ (x.drop p).getD i 0 ∧ (x.drop p).getD i 0 ≤ 255 := fun i => by
        rcases Nat.lt_or_ge i (x.drop p).length with hi | hi
        · have h := HBZ.out _ (List.mem_of_mem_drop (List.getElem_mem hi))
          rw [List.getD_eq_getElem?_getD, List.getElem?_eq_getElem hi]; exact h
        · simp [List.getD, List.getElem?_eq_none hi]
      have hdl : (x.drop p).length = m := by rw [List.length_drop]; exact HA.out.hm
      have HSr := Lib.hid (HA.out.s.below HA.out.b)
      obtain ⟨ad, _, he, _, ha0⟩ := HSr.out.at_ 0 (by omega)
      cases he
      obtain ⟨_, _, he, _, ha1⟩ := HSr.out.at_ 1 (by omega)
      cases he
      have m0 : wr.cell? ad = some (.int .u8 x0) := by rw [← hx0, ← ha0 _ (nums_get .u8 (x.drop p) 0 (by omega)), Addr.add_zero']
      have m1 : wr.cell? ⟨ad.block, ad.off + 1, none⟩ = some (.int .u8 x1) := by
        have h := ha1 _ (nums_get .u8 (x.drop p) 1 (by omega)); rw [hx1] at h; have e := add_field ad 0 1 (by omega); rw [Addr.add_zero'] at e; rw [Nat.zero_add] at e; rw [e] at h; exact h
      have b0 := hbp 0
      have b1 := hbp 1
      rw [hx0] at b0
      rw [hx1] at b1
      obtain ⟨n, hn⟩ : ∃ n, len2 (x.drop p) = n := ⟨_, rfl⟩
      have hnx : x0 + 256 * x1 = (n : Int) := by unfold len2 at hn; rw [hx0, hx1] at hn; omega
      have hn2 : n ≤ 65535 := by omega
      have hm0 : 0 < m := by omega
      have hm1 : 1 < m := by omega
      obtain ⟨b00, b01⟩ := b0
      obtain ⟨b10, b11⟩ := b1
      have HN := Lib.hid hn
      clear ha0 ha1 hbp hn hx0 hx1
      go_wp2
      go_quiet (fail)
      generalize hwd : World.drewN wr _ = wd
      have hA' : AllAt x W p m (some ad) cc done _ wd := hwd ▸ HA.out.drew _
      clear HA m0 m1 hwd HSr
      have HA := Lib.hid hA'
      clear hA'
      by_cases h9 : 9000 < n
      · have h9i : (9000 : Int) < (n : Int) := by omega
        go_wp2
        go_ret3
        exact HA.out.post (rest := []) (q := 0) (fr_long _ (by have hm := HA.out.hm; rw [List.length_drop]; omega) (by rw [HN.out]; omega)) rfl
      · have h9i : (n : Int) ≤ 9000 := by omega
        by_cases hw : m < 2 + n
        · have hwi : (m : Int) < 2 + (n : Int) := by omega
          go_wp2
          go_ret3
          exact HA.out.post (rest := []) (fr_wait _ (by have hm := HA.out.hm; rw [List.length_drop]; omega) (by rw [HN.out]; omega) (by have hm := HA.out.hm; rw [HN.out, List.length_drop]; omega)) (by have hm := HA.out.hm; rw [List.length_drop]; omega)
        · have hwi : 2 + (n : Int) ≤ (m : Int) := by omega
          have hwc : 2 + (n : Int) ≤ (cc : Int) := by omega
          have hcut := sl_cut (n := n) (sl_sub HA.out.s (l := 2) (by omega)) (by omega)
          have hlen : (((x.drop p).drop 2).take n).length = n := by have hm := HA.out.hm; simp only [List.length_drop, List.length_take]; omega
          have HM := Lib.hid (show (kB W).M wd W.heap.size (fun _ => False) (((x.drop p).drop 2).take n) [.slice (subA (some ad) 2 cc) n (cc - 2)] by
            obtain ⟨A', c', e, h1, _, h3⟩ := SlR.C (xs := ((x.drop p).drop 2).take n) (v := .slice (subA (some ad) 2 cc) n (cc - 2)) (by rw [hlen]; exact hcut) (by rw [hlen]; omega)
            rw [hlen] at e
            cases e
            exact ⟨_, _, by rw [hlen], h1, h3⟩)
          clear hcut hlen
          go_wp2_with (at_builtin; go_loud (refine Kd.R_append (kB W) (w0 := W) W.heap.size rfl (.tmp 31) (.tmp 36) 41 36 (.slice none 0 0) 24 rfl Try.underlying41 infoRow rfl Nat.zero_lt_one (by decide) _ done (((x.drop p).drop 2).take n) [.slice (subA (some ad) 2 cc) n (cc - 2)] (fun _ => True) (fun _ => False) rfl rfl HM.out (fun k hk => hk.elim) (fun _ _ => trivial) HA.out.r HA.out.b HA.out.b.size (by have h1 := HA.out.l; have h2 := HA.out.hp; omega) ?_; intro v5' w4 hR4 hB4 _ _; have HR4 := Lib.hid hR4; have HB4 := Lib.hid hB4; clear hR4 hB4))
          go_roundg (m - (2 + n))
          case rel => exact ⟨_, _, _, _, rfl, HA.out.next HB4.out HN.out (by omega) (by omega) HR4.out⟩
          case measure => omega
/-- A cut of what is read. -/
theorem C_cut {w : World} {A : Option Addr} {c n p k : Nat} {xs : List Int} (h : (Kd.int .u8).C w A n xs) (hn : xs.length = n) (hpk : p + k ≤ n) (hc : n ≤ c) (hm : n ≤ 9223372036854775807) : (Kd.int .u8).C w (subA A p c) k ((xs.drop p).take k) := by
  subst hn
  rcases Nat.eq_zero_or_pos k with rfl | hk
  · exact ⟨by simp, by omega, fun h => by omega⟩
  · have hA : A = none → c = 0 := by
      intro hA
      obtain ⟨_, e, _⟩ := Kd.at_int h 0 (by omega) (by omega)
      rw [hA] at e; cases e
    have h1 := sl_cut (n := k) (sl_sub (l := p) (SlR.of_C h hc hA) (by omega)) (by omega)
    have hlen : ((xs.drop p).take k).length = k := by simp only [List.length_drop, List.length_take]; omega
    obtain ⟨A', c', e, _, _, h3⟩ := SlR.C (xs := (xs.drop p).take k) (v := .slice (subA A p c) k (c - p)) (by rw [hlen]; exact h1) (by rw [hlen]; omega)
    rw [hlen] at e h3
    cases e
    exact h3
theorem all_C (A : Option Addr) (c n0 : Nat) (x : List Int) (W : World) (h : (Kd.int .u8).C W A n0 x) (hn0 : x.length = n0) (hc : n0 ≤ c) (hl : x.length ≤ 1099511627776) (hbs : Bs x) :
    Calls Try.prog 28 #[.slice A n0 c] W (AllPost x W) := by
  rcases Nat.eq_zero_or_pos n0 with rfl | hp
  · obtain rfl := List.eq_nil_of_length_eq_zero hn0
    clear h hn0 hbs hl
    go_enter Try.func28, Try.ntmps28
    go_wp2
    go_loopg [0, 5] 0 (fun q v0 v5 wr => v0 = .slice A 0 c ∧ v5 = .slice none 0 0 ∧ wr = W)
    case atStart => exact ⟨rfl, rfl, rfl⟩
    case round =>
      obtain ⟨rfl, rfl, rfl⟩ := hrel
      go_wp2
      go_ret3
      exact ⟨_, rfl, Kd.R_nil _ _ _ _ _, Below.refl _ _⟩
  · subst hn0
    refine all_calls A c _ x W (SlR.of_C h hc ?_) rfl hl hbs
    intro hA
    obtain ⟨_, e, _⟩ := Kd.at_int h 0 (by omega) (by omega)
    rw [hA] at e; cases e
end Go.Proofs.Ytcpcnnpdbognlaa.Frm
