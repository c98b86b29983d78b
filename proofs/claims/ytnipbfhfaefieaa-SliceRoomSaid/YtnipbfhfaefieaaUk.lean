/- Texts of this claim, laid together: PvH, PvI, PvJ, PvK. -/
import Derived.Test.YtnipbfhfaefieaaUj
/-! pvec: a value of a leaf is set. -/
namespace Go.Proofs.Ytnipbfhfaefieaa.Pv
open Go.RowKit Go Go.Proofs.YtnipbfhfaefieaaW.PrintWords Go.Proofs.YtnipbfhfaefieaaW.PrintMore Go.Proofs.YtnipbfhfaefieaaW.PrintLast Go.Proofs.Ytnipbfhfaefieaa.Bts Go.Proofs.Ytnipbfhfaefieaa.Fra Go.Proofs.Ytnipbfhfaefieaa.ArnP Go.Proofs.Ytnipbfhfaefieaa.Arn Go.Proofs.Ytnipbfhfaefieaa.Ao
abbrev valV (q n : Int) (s : ByteArray) : Value := .agg #[.int .u8 q, .int .i64 n, .string s]
theorem new2 (w : World) (o1 o2 o3 : Obj) : (((w.alloc o1).alloc o2).alloc o3).heap[w.heap.size + 2]? = some o3 := by
  have h := new1 (w.alloc o1) o2 o3
  have e : (w.alloc o1).heap.size = w.heap.size + 1 := by simp
  rwa [e] at h
theorem new3 (w : World) (o1 o2 o3 o4 : Obj) : ((((w.alloc o1).alloc o2).alloc o3).alloc o4).heap[w.heap.size + 3]? = some o4 := by
  have h := new2 (w.alloc o1) o2 o3 o4
  have e : (w.alloc o1).heap.size = w.heap.size + 1 := by simp
  rwa [e] at h
set_option maxHeartbeats 2000000 in
set_option maxRecDepth 100000 in
theorem set0_calls {O : Nat → Prop} {a : Nat} {f : Nat → Cell} {live most : Int} {rest : Nat → Nat} {op : Nat → Bool} (o : Int) (k i : Nat) (q n : Int) (s : ByteArray) (w : World) (h : AO w O a f live most (fun z => rest z + one k z) op) (hk : 0 < k) (ho : op k = false) (hb : ∀ x, rest x ≤ 80000000000) (hro : ∀ z, op z = true → 1 ≤ rest z) (hil : i ≤ 1024) (hi : i % 32 < (f k).vals.length) (hl : (f k).vals.length ≤ 1000) (hlm : live < most) :
    Calls Try.prog 83 #[workV a o, .int .i64 k, .int .i64 0, .int .i64 i, valV q n s] w fun e w' => ∃ (k' : Nat) (O' : Nat → Prop) (f' : Nat → Cell) (live' : Int), e = .returned (.int .i64 k') ∧ AO w' O' a f' live' most (fun z => rest z + one k' z) op ∧ live' ≤ live + 1 ∧ f' k' = {f k with vals := (f k).vals.set (i % 32) (q, n, s), ow := o, r := 1} ∧ (∀ x ∈ kidsOf (f k).kids, 0 < kc (f k).kids x) ∧ 0 < k' ∧ op k' = false ∧ KeepR rest op f f' ∧ (∀ j, O' j → O j ∨ w.heap.size ≤ j) ∧ Fr O w w' := by
  have hlive : 0 < (f k).r := h.ext_lv hk (by show 0 < rest k + one k k; unfold one; rw [if_pos rfl]; omega)
  have hkl := (AO.kl h hlive).1
  have hkn := AO.kn h ⟨hk, hlive, ho⟩
  have hlt := h.lt
  have hbx := below_alloc (below_alloc (below_alloc (below_alloc (Below.refl w.heap.size w) (.cells #[.pointer (some ⟨a, 0, none⟩), .int .u32 o] 133)) (.cells #[.int .i64 0] 3)) (.cells #[.int .i64 (i : Int)] 3)) (.cells #[.int .u8 q, .int .i64 n, .string s] 66)
  have hX : ValB _ (w.heap.size + 3) q n s := new3 w (.cells #[.pointer (some ⟨a, 0, none⟩), .int .u32 o] 133) (.cells #[.int .i64 0] 3) (.cells #[.int .i64 (i : Int)] 3) (.cells #[.int .u8 q, .int .i64 n, .string s] 66)
  have hI : IntB _ (w.heap.size + 2) (i : Int) := blk_alloc (new2 w (.cells #[.pointer (some ⟨a, 0, none⟩), .int .u32 o] 133) (.cells #[.int .i64 0] 3) (.cells #[.int .i64 (i : Int)] 3)) (.cells #[.int .u8 q, .int .i64 n, .string s] 66)
  have hL : IntB _ (w.heap.size + 1) 0 := blk_alloc (blk_alloc (new1 w (.cells #[.pointer (some ⟨a, 0, none⟩), .int .u32 o] 133) (.cells #[.int .i64 0] 3)) (.cells #[.int .i64 (i : Int)] 3)) (.cells #[.int .u8 q, .int .i64 n, .string s] 66)
  have hA := h.below hbx
  obtain ⟨W, hW⟩ : ∃ W, ((((w.alloc (.cells #[.pointer (some ⟨a, 0, none⟩), .int .u32 o] 133)).alloc (.cells #[.int .i64 0] 3)).alloc (.cells #[.int .i64 (i : Int)] 3)).alloc (.cells #[.int .u8 q, .int .i64 n, .string s] 66)) = W := ⟨_, rfl⟩
  have hnB : ∀ b, w.heap.size ≤ b → ¬ O b := fun b hb e => by have := hlt b e; omega
  have hA' : AO W O a f live most (fun z => rest z + zf z + one k z) op := by rw [← hW]; exact hA
  have hbW : Below w.heap.size w W := by rw [← hW]; exact hbx
  have hch := change_set (need := 0) o k (.pointer (some ⟨w.heap.size + 1, 0, none⟩)) (.pointer (some ⟨w.heap.size + 3, 0, none⟩)) (.pointer (some ⟨w.heap.size + 2, 0, none⟩)) (.pointer (some ⟨w.heap.size, 0, none⟩)) W W hA' hk ho hb hro (Fr.refl O W) (fun j hj => .inl hj)
    (cb_set0 (wb := w.heap.size) i W (by rw [← hW]; exact hL) (by rw [← hW]; exact hX) (by rw [← hW]; exact hI) ⟨hnB _ (by omega), hnB _ (by omega), hnB _ (by omega)⟩ hil hi hl hkl hkn)
    (cb_set0 (wb := w.heap.size) i W (by rw [← hW]; exact hL) (by rw [← hW]; exact hX) (by rw [← hW]; exact hI) ⟨hnB _ (by omega), hnB _ (by omega), hnB _ (by omega)⟩ hil hi hl hkl hkn) (by omega)
  rw [← hW] at hch
  have HC := Lib.hid hch
  have HB := Lib.hid hbW
  have HW := Lib.hid hW
  clear hch hA hA' hbW hbx hX hI hL h hW
  go_enter Try.func83, Try.ntmps83
  go_wp2_with (go_at_call 78; go_loud (refine HC.out.mono ?_; rintro e w5 ⟨k', O5, f5, live5, c5, rfl, hA5, hll5, hR5, hS5, hk5, ho5, hK5, hO5, hF5⟩; have HR5 := Lib.hid hR5; clear hR5))
  go_ret
  have hc := HR5.out
  subst hc
  have hF6 : Fr O w w5 := by
    have h1 := HB.out
    rw [← HW.out] at h1
    exact (Fr.of_new h1).trans hF5
  refine ⟨k', O5, _, live5, rfl, hA5, by omega, upd_eq _ _ _, fun x hx => List.count_pos_iff.2 hx, hk5, ho5, hK5, fun j hj => (hO5 j hj).imp id (fun q => ?_), hF6⟩
  have h1 := HB.out.size
  rw [← HW.out] at h1
  omega
end Go.Proofs.Ytnipbfhfaefieaa.Pv
/-! pvec: a list of cells' numbers in which one is another. -/
namespace Go.Proofs.Ytnipbfhfaefieaa.Pv
open Go.RowKit Go Go.Proofs.YtnipbfhfaefieaaW.PrintWords Go.Proofs.YtnipbfhfaefieaaW.PrintMore Go.Proofs.YtnipbfhfaefieaaW.PrintLast Go.Proofs.Ytnipbfhfaefieaa.Bts Go.Proofs.Ytnipbfhfaefieaa.Fra Go.Proofs.Ytnipbfhfaefieaa.ArnP Go.Proofs.Ytnipbfhfaefieaa.Arn Go.Proofs.Ytnipbfhfaefieaa.Ao
theorem reps_put1 {R : Int → List Value → Prop} {xs : List Int} {cs : List Value} (h : Reps R 1 xs cs) (i : Nat) (x : Int) (a : Value) (hi : i < xs.length) (hx : R x [a]) : Reps R 1 (xs.set i x) (cs.set i a) := by
  obtain ⟨h1, h2⟩ := h
  refine ⟨by simp [h1], fun j p hj => ?_⟩
  by_cases e : j = i
  · subst e
    rw [List.getElem?_set_self hi] at hj
    obtain rfl := Option.some.inj hj
    have : ((cs.set j a).drop (j * 1)).take 1 = [a] := by
      apply List.ext_getElem?
      intro k
      rw [List.getElem?_take]
      split
      · rename_i hk
        obtain rfl : k = 0 := by omega
        rw [List.getElem?_drop, show j * 1 + 0 = j by omega, List.getElem?_set_self (by omega)]; rfl
      · rename_i hk
        rw [List.getElem?_eq_none (by simp; omega)]
    rw [this]
    exact hx
  · rw [List.getElem?_set_ne (fun q => e q.symm)] at hj
    have : ((cs.set i a).drop (j * 1)).take 1 = (cs.drop (j * 1)).take 1 := by
      apply List.ext_getElem?
      intro k
      rw [List.getElem?_take, List.getElem?_take]
      split
      · rename_i hk
        rw [List.getElem?_drop, List.getElem?_drop, List.getElem?_set_ne (by omega)]
      · rfl
    rw [this]
    exact h2 j p hj
theorem KR.put {w : World} {lo g n cap : Nat} {xs : List Int} (h : KR w lo (.slice (some ⟨g, 0, none⟩) n cap) xs) (hn : xs.length = n) (i : Nat) (hi : i < xs.length) (m : Int) :
    KR (w.setCell ⟨g, i, none⟩ (.int .i64 m)) lo (.slice (some ⟨g, 0, none⟩) n cap) (xs.set i m) := by
  subst hn
  obtain ⟨h0, inner, ho, hr⟩ := h
  have h1 := (ho.stored i (.int .i64 m)).1
  exact ⟨h0, _, by rw [List.length_set]; exact h1, reps_put1 hr i m _ hi rfl⟩
/-- A cell's kids become others, in their own row. -/
theorem CBO.krow {w w1 : World} {O : Nat → Prop} {lo b g n cap : Nat} {v : Value} {c : Cell} {kids : List Int} (h : CBO w O lo b v (.slice (some ⟨g, 0, none⟩) n cap) c) (hf : Fr (fun j => j = g) w w1) (hr : KR w1 lo (.slice (some ⟨g, 0, none⟩) n cap) kids) :
    CBO w1 O lo b v (.slice (some ⟨g, 0, none⟩) n cap) {c with kids := kids} :=
  ⟨hf.blk h.blk (fun e => (h.kk g rfl).1 e.symm), Kd.R_mono (Kd.R_kept (Kd.R_tight2 (d := kVal) rfl h.vr) hf.kept (fun j hj e => by subst e; exact (h.vk j hj.1.symm).1 rfl)) (fun j hj => hj.2), hr, h.vk, h.kk, h.no⟩
/-- The others of a list. -/
def oth (l : List Int) (i : Nat) : List Int := l.take i ++ l.drop (i + 1)
theorem kc_app (a b : List Int) (x : Nat) : kc (a ++ b) x = kc a x + kc b x := by
  unfold kc kidsOf
  rw [List.filter_append, List.map_append, List.count_append]
theorem kc_cons (z : Nat) (l : List Int) (hz : 0 < z) (x : Nat) : kc ((z : Int) :: l) x = kc l x + one z x := by
  unfold kc kidsOf one
  rw [List.filter_cons_of_pos (by simp; omega), List.map_cons, List.count_cons, Int.toNat_natCast]
  by_cases e : x = z
  · subst e; simp
  · rw [if_neg e, if_neg (by simpa using fun q => e q.symm)]
theorem kc_at (l : List Int) (i z : Nat) (hi : i < l.length) (hz : l[i]? = some (z : Int)) (h0 : 0 < z) : kc l = fun x => kc (oth l i) x + one z x := by
  funext x
  have e : l = l.take i ++ (z : Int) :: l.drop (i + 1) := by
    have h1 := List.drop_eq_getElem_cons hi
    have h2 : l[i] = (z : Int) := by rw [List.getElem?_eq_getElem hi] at hz; exact Option.some.inj hz
    rw [h2] at h1
    rw [← h1, List.take_append_drop]
  unfold oth
  conv => lhs; rw [e]
  rw [kc_app, kc_cons z _ h0, kc_app]
  omega
theorem kc_set (l : List Int) (i z : Nat) (hi : i < l.length) (h0 : 0 < z) : kc (l.set i (z : Int)) = fun x => kc (oth l i) x + one z x := by
  funext x
  unfold oth
  rw [List.set_eq_take_append_cons_drop, if_pos hi, kc_app, kc_cons z _ h0, kc_app]
  omega
theorem fr1w (w : World) (g o : Nat) (x : Value) : Fr (fun j => j = g) w (w.setCell ⟨g, o, none⟩ x) :=
  Fr.put (S := fun k => k = g) (Fr.refl (fun k => k = g) w) (p := ⟨g, o, none⟩) (.inl rfl) x
end Go.Proofs.Ytnipbfhfaefieaa.Pv
/-! pvec: set's callback one level up. -/
namespace Go.Proofs.Ytnipbfhfaefieaa.Pv
open Go.RowKit Go Go.Proofs.YtnipbfhfaefieaaW.PrintWords Go.Proofs.YtnipbfhfaefieaaW.PrintMore Go.Proofs.YtnipbfhfaefieaaW.PrintLast Go.Proofs.Ytnipbfhfaefieaa.Bts Go.Proofs.Ytnipbfhfaefieaa.Fra Go.Proofs.Ytnipbfhfaefieaa.ArnP Go.Proofs.Ytnipbfhfaefieaa.Arn Go.Proofs.Ytnipbfhfaefieaa.Ao
theorem kids_pos {l : List Int} (hn : ∀ z ∈ l, 0 ≤ z) {x : Nat} (hx : x ∈ kidsOf l) : 0 < x := by
  unfold kidsOf at hx
  obtain ⟨y, hy, rfl⟩ := List.mem_map.1 hx
  obtain ⟨h1, h2⟩ := List.mem_filter.1 hy
  have h3 := hn y h1
  have h4 : y ≠ 0 := by simpa using h2
  omega
theorem oth_mem {l : List Int} {i z : Nat} (hi : i < l.length) (hz : l[i]? = some (z : Int)) (h0 : 0 < z) {x : Nat} (hx : x ∈ kidsOf (oth l i)) : x ∈ kidsOf l := by
  have h := congrFun (kc_at l i z hi hz h0) x
  have h1 : 0 < kc (oth l i) x := List.count_pos_iff.2 hx
  have h2 : 0 < kc l x := by omega
  exact List.count_pos_iff.1 h2
theorem bnd1 {rest : Nat → Nat} (l : List Int) (hb : ∀ x, rest x ≤ 70000000000) (hl : l.length ≤ 1000) (x : Nat) : rest x + kc l x ≤ 80000000000 :=
  Nat.le_trans (Nat.add_le_add (hb x) (Nat.le_trans (kc_le l x) hl)) (by decide)
theorem oth_len (l : List Int) (i : Nat) (h : l.length ≤ 1000) : (oth l i).length ≤ 1000 := by
  unfold oth
  rw [List.length_append, List.length_take, List.length_drop]
  omega
abbrev WorkB (w : World) (b a : Nat) (o : Int) : Prop := w.heap[b]? = some (.cells #[.pointer (some ⟨a, 0, none⟩), .int .u32 o] 133 (0, 0))
theorem CBO.other {w : World} {O O' : Nat → Prop} {lo b : Nat} {v k : Value} {c : Cell} (h : CBO w O lo b v k c) (hO : ∀ j, O' j → O j ∨ w.heap.size ≤ j) : CBO w O' lo b v k c := by
  obtain ⟨q1, o1⟩ := Kd.R_own h.vr
  obtain ⟨q2, o2⟩ := Kd.R_own h.kr
  have hlt : b < w.heap.size := (Array.getElem?_eq_some_iff.1 h.blk).1
  exact ⟨h.blk, h.vr, h.kr, fun j hj => ⟨(h.vk j hj).1, (h.vk j hj).2.1, fun e => (hO j e).elim (h.vk j hj).2.2 (fun q => by have := own_lt o1 j hj; omega)⟩, fun j hj => ⟨(h.kk j hj).1, fun e => (hO j e).elim (h.kk j hj).2 (fun q => by have := own_lt o2 j hj; omega)⟩, fun e => (hO b e).elim h.no (fun q => by omega)⟩
set_option maxHeartbeats 2000000 in
set_option maxRecDepth 100000 in
theorem cb_set1 {O0 : Nat → Prop} {a : Nat} {f0 : Nat → Cell} {most : Int} {rest : Nat → Nat} {op : Nat → Bool} {c : Cell} {lb xb ib wb : Nat} {q n : Int} {s : ByteArray} (o : Int) (i r z : Nat) (w0 : World) (hL : IntB w0 lb 1) (hx : ValB w0 xb q n s) (hI : IntB w0 ib i) (hW : WorkB w0 wb a o) (hO0 : ¬ O0 lb ∧ ¬ O0 xb ∧ ¬ O0 ib ∧ ¬ O0 wb) (hil : i ≤ 1023) (hr : i / 32 = r) (hi : r < c.kids.length) (hz : c.kids[r]? = some (z : Int)) (hz0 : 0 < z) (hv : i % 32 < (f0 z).vals.length) (hvl : (f0 z).vals.length ≤ 1000) (hcl : c.vals.length ≤ 1000000000) (hkl : c.kids.length ≤ 1000) (hkn : ∀ z ∈ c.kids, 0 ≤ z) (hb : ∀ x, rest x ≤ 70000000000) (hro : ∀ z, op z = true → 1 ≤ rest z) :
    Cb 98 (fun p => #[p, .pointer (some ⟨lb, 0, none⟩), .pointer (some ⟨xb, 0, none⟩), .pointer (some ⟨ib, 0, none⟩), .pointer (some ⟨wb, 0, none⟩)]) w0 O0 a most rest zf op f0 1 c (fun f' c' => ∃ z' : Nat, 0 < z' ∧ c' = {c with kids := c.kids.set r (z' : Int)} ∧ f' z' = {f0 z with vals := (f0 z).vals.set (i % 32) (q, n, s), ow := o, r := 1} ∧ ∀ x ∈ kidsOf (oth c.kids r), Same f0 f' x) := by
  intro w O f live lo b v k hA hF hO hlo hlo2 hb0 hC hK hS hlm
  have e1 : (fun x => rest x + zf x + kc c.kids x) = fun x => rest x + kc c.kids x := by funext x; show rest x + 0 + _ = _; omega
  rw [e1] at hA
  have hopk := op_kc hA hro
  have hkc := kc_at c.kids r z hi hz hz0
  have hopz : op z = false := by
    cases hq : op z with
    | false => rfl
    | true =>
      have h1 := hopk z hq
      rw [hkc] at h1
      have h1 : kc (oth c.kids r) z + one z z = 0 := h1
      have h2 : one z z = 1 := if_pos rfl
      omega
  have hzk : z ∈ kidsOf c.kids := by
    have := mem_kidsOf (List.mem_of_getElem? hz) (by omega)
    rwa [Int.toNat_natCast] at this
  have hfz := (hS z hzk).at_
  have e2 : (fun x => rest x + kc c.kids x) = fun x => (rest x + kc (oth c.kids r) x) + one z x := by funext x; rw [hkc]; show rest x + (_ + _) = _; omega
  rw [e2] at hA
  have hLw := hF.blk hL hO0.1
  have hxw := hF.blk hx hO0.2.1
  have hIw := hF.blk hI hO0.2.2.1
  have hWw := hF.blk hW hO0.2.2.2
  have hlt0 : ∀ b o, w0.heap[b]? = some o → b < w0.heap.size := fun b o h => (Array.getElem?_eq_some_iff.1 h).1
  have nO : ∀ b, b < w0.heap.size → ¬ O0 b → ¬ O b := fun b h1 h2 h3 => (hO b h3).elim h2 (fun h => by omega)
  have nL := nO lb (hlt0 _ _ hL) hO0.1
  have nX := nO xb (hlt0 _ _ hx) hO0.2.1
  have nI := nO ib (hlt0 _ _ hI) hO0.2.2.1
  have nW := nO wb (hlt0 _ _ hW) hO0.2.2.2
  have hil' : (i : Int) ≤ 1023 := by omega
  obtain ⟨_, inner, ho, hrk⟩ := id hC.kr
  obtain ⟨g, c1, e1, hmc, _⟩ := own_some ho (by omega)
  subst e1
  obtain ⟨V, hV⟩ : ∃ V, w.drew = V := ⟨_, rfl⟩
  have hd : Below w.heap.size w V := by rw [← hV]; exact below_drew1 (Below.refl _ _)
  have HD := Lib.hid hd
  have hAd := hA.below hd
  have hCd := hC.below hd
  have hxd := blk_below hxw hd
  have hId := blk_below hIw hd
  have hWd := blk_below hWw hd
  have hLd := blk_below hLw hd
  have l0 := blk_cell hLw 0
  have i0 := blk_cell hIw 0
  have p4 := blk_cell hCd.blk 4
  have x0 := blk_cell hxd 0
  have x1 := blk_cell hxd 1
  have x2 := blk_cell hxd 2
  have w0' := blk_cell hWd 0
  have w1' := blk_cell hWd 1
  have l0' := blk_cell hLd 0
  have i0' := blk_cell hId 0
  have hin : inner.length = c.kids.length * 1 := ho.1
  have hod := own_fr ho (Fr.of_new (S := fun _ => False) hd) (fun _ _ => id)
  have hval : inner[r]? = some (.int .i64 (z : Int)) := by
    have h3 : (inner.drop (r * 1)).take 1 = [.int .i64 (z : Int)] := hrk.2 r _ hz
    have h4 := congrArg (fun l : List Value => l[0]?) h3
    simpa using h4
  have t0 : V.cell? ⟨g, r, none⟩ = some (.int .i64 (z : Int)) := by
    have := (hod.cellAt r (by show r < c.kids.length * 1; omega)).trans hval
    exact this
  have hcall := set0_calls o z i q n s V hAd hz0 hopz (bnd1 _ hb (oth_len _ _ hkl)) (fun z hz => Nat.le_trans (hro z hz) (Nat.le_add_right _ _)) (by omega) (by rw [hfz]; exact hv) (by rw [hfz]; exact hvl) (by omega)
  have u0 := hod.frozenAt r
  have hkd : (i : Int).tdiv 32 = (r : Int) := by rw [Int.tdiv_eq_ediv_of_nonneg (by omega)]; omega
  have hkd2 : (i : Int) / 32 = (r : Int) := by omega
  have hr32 : r < 32 := by omega
  have hrl : (r : Int) < (c.kids.length : Int) := by omega
  have hw0 : (0 : Int) = wrap64 0 := by unfold wrap64; omega
  obtain ⟨l9, hl9⟩ : ∃ l : Value, l = .int .i64 (wrap64 0) := ⟨_, rfl⟩
  have hl0 : Value.int .i64 0 = l9 := by rw [hl9, ← hw0]
  rw [hl0, hl9] at hcall
  have HCALL := Lib.hid hcall
  clear hw0 hl0 hl9
  have HC := Lib.hid hCd
  have HOD := Lib.hid hod
  have HVAL := Lib.hid hval
  have HN := Lib.hid (And.intro nL (And.intro nX (And.intro nI nW)))
  have HF := Lib.hid hF
  have HX := Lib.hid hxd
  have HI := Lib.hid hId
  have HW := Lib.hid hWd
  have HL := Lib.hid hLd
  have HZ := Lib.hid hz
  have HFZ := Lib.hid hfz
  have HRK := Lib.hid hrk
  have HK := Lib.hid hK
  have HS := Lib.hid hS
  have HO := Lib.hid hO
  have HOPK := Lib.hid hopk
  have HKC := Lib.hid hkc
  have HR := Lib.hid hr
  have HRL := Lib.hid hi
  have HB := Lib.hid hb
  clear hcall hCd hod hval nL nX nI nW hF hxd hId hWd hLd hz hfz hrk hK hS hO hopk hkc hr hi hb hL hx hI hW hLw hxw hIw hWw hA hAd hC ho hmc hin e2 e1 hd hlt0 nO
  go_enter Try.func98, Try.ntmps98
  go_wp2_with (go_at_call 61; go_loud (refine (at_zero r hr32 _).mono ?_; rintro e w4 ⟨rfl, hw4⟩; subst w4))
  refine start_ (n := 20) (S := fun w' => w'.cell? ⟨b, 4, none⟩ = some (.slice (some ⟨g, 0, none⟩) c.kids.length c1) ∧ w'.cell? ⟨g, r, none⟩ = some (.int .i64 (z : Int)) ∧ w'.cell? ⟨wb, 0, none⟩ = some (.pointer (some ⟨a, 0, none⟩)) ∧ w'.cell? ⟨wb, 1, none⟩ = some (.int .u32 o) ∧ w'.cell? ⟨lb, 0, none⟩ = some (.int .i64 1) ∧ w'.cell? ⟨ib, 0, none⟩ = some (.int .i64 (i : Int)) ∧ w'.cell? ⟨xb, 0, none⟩ = some (.int .u8 q) ∧ w'.cell? ⟨xb, 1, none⟩ = some (.int .i64 n) ∧ w'.cell? ⟨xb, 2, none⟩ = some (.string s)) (ds := [19]) #[false, false, false, false, false, false, false, false, false, false, false, false, false, false, false, false, false, false, false, false] (by kernel_rfl) rfl rfl ⟨(by rw [hV]; exact p4), (by rw [hV]; exact t0), (by rw [hV]; exact w0'), (by rw [hV]; exact w1'), (by rw [hV]; exact l0'), (by rw [hV]; exact i0'), (by rw [hV]; exact x0), (by rw [hV]; exact x1), (by rw [hV]; exact x2)⟩ (fun hHeld => ?_)
  refine pure_ (i := 0) (N := some 23) (v := ?_) (a' := ?_) #[true, false, false, false, false, false, false, false, false, false, false, false, false, false, false, false, false, false, false, false] rfl rfl (by kernel_rfl) (fun _ _ _ h => h) (Or.inl ⟨by rfl, ?_⟩) ?_ ?_
  rotate_left
  · intro w'
    go_simp
    with_reducible rfl
  rotate_left
  · simp only [Act.put, List.setIfInBounds_toArray, List.set_cons_zero, List.set_cons_succ, i64_w, i32_w]
    rfl
  refine pure_ (i := 1) (N := some 24) (v := ?_) (a' := ?_) #[true, true, false, false, false, false, false, false, false, false, false, false, false, false, false, false, false, false, false, false] rfl rfl (by kernel_rfl) (fun _ _ _ h => h) (Or.inl ⟨by rfl, ?_⟩) ?_ ?_
  rotate_left
  · intro w'
    go_simp
    with_reducible rfl
  rotate_left
  · simp only [Act.put, List.setIfInBounds_toArray, List.set_cons_zero, List.set_cons_succ, i64_w, i32_w]
    rfl
  refine pure_ (i := 2) (N := some 25) (v := ?_) (a' := ?_) #[true, true, true, false, false, false, false, false, false, false, false, false, false, false, false, false, false, false, false, false] rfl rfl (by kernel_rfl) (fun _ _ _ h => h) (Or.inl ⟨by rfl, ?_⟩) ?_ ?_
  rotate_left
  · intro w'
    go_simp
    with_reducible rfl
  rotate_left
  · simp only [Act.put, List.setIfInBounds_toArray, List.set_cons_zero, List.set_cons_succ, i64_w, i32_w]
    rfl
  refine pure_ (i := 4) (N := some 27) (v := ?_) (a' := ?_) #[true, true, true, false, true, false, false, false, false, false, false, false, false, false, false, false, false, false, false, false] rfl rfl (by kernel_rfl) (fun _ _ _ h => h) (Or.inl ⟨by rfl, ?_⟩) ?_ ?_
  rotate_left
  · intro w'
    go_simp
    with_reducible rfl
  rotate_left
  · simp only [Act.put, List.setIfInBounds_toArray, List.set_cons_zero, List.set_cons_succ, i64_w, i32_w]
    rfl
  refine pure_ (i := 6) (N := some 29) (v := ?_) (a' := ?_) #[true, true, true, false, true, false, true, false, false, false, false, false, false, false, false, false, false, false, false, false] rfl rfl (by kernel_rfl) (fun _ _ _ h => h) (Or.inl ⟨by rfl, ?_⟩) ?_ ?_
  rotate_left
  · intro w'
    go_simp
    with_reducible rfl
  rotate_left
  · simp only [Act.put, List.setIfInBounds_toArray, List.set_cons_zero, List.set_cons_succ, i64_w, i32_w]
    rfl
  refine pure_ (i := 7) (N := some 30) (v := ?_) (a' := ?_) #[true, true, true, false, true, false, true, true, false, false, false, false, false, false, false, false, false, false, false, false] rfl rfl (by kernel_rfl) (fun _ _ _ h => h) (Or.inl ⟨by rfl, ?_⟩) ?_ ?_
  rotate_left
  · intro w'
    go_simp
    with_reducible rfl
  rotate_left
  · simp only [Act.put, List.setIfInBounds_toArray, List.set_cons_zero, List.set_cons_succ, i64_w, i32_w]
    rfl
  refine pure_ (i := 8) (N := some 31) (v := ?_) (a' := ?_) #[true, true, true, false, true, false, true, true, true, false, false, false, false, false, false, false, false, false, false, false] rfl rfl (by kernel_rfl) (fun _ _ _ h => h) (Or.inl ⟨by rfl, ?_⟩) ?_ ?_
  rotate_left
  · intro w'
    go_simp
    with_reducible rfl
  rotate_left
  · simp only [Act.put, List.setIfInBounds_toArray, List.set_cons_zero, List.set_cons_succ, i64_w, i32_w]
    rfl
  refine pure_ (i := 10) (N := some 33) (v := ?_) (a' := ?_) #[true, true, true, false, true, false, true, true, true, false, true, false, false, false, false, false, false, false, false, false] rfl rfl (by kernel_rfl) (fun _ _ _ h => h) (Or.inl ⟨by rfl, ?_⟩) ?_ ?_
  rotate_left
  · intro w'
    go_simp
    with_reducible rfl
  rotate_left
  · simp only [Act.put, List.setIfInBounds_toArray, List.set_cons_zero, List.set_cons_succ, i64_w, i32_w]
    rfl
  refine take_ (i := 3) (N := some 26) (v := ?_) (a' := ?_) #[true, true, true, true, true, false, true, true, true, false, true, false, false, false, false, false, false, false, false, false] rfl rfl (by kernel_rfl) (fun _ _ _ h => h) (Or.inl ⟨by rfl, ?_⟩) hHeld ?_ ?_
  rotate_left
  · rintro w' ⟨s0, s1, s2, s3, s4, s5, s6, s7, s8⟩
    go_simp
    with_reducible rfl
  rotate_left
  · simp only [Act.put, List.setIfInBounds_toArray, List.set_cons_zero, List.set_cons_succ, i64_w, i32_w]
    rfl
  refine take_ (i := 5) (N := some 28) (v := ?_) (a' := ?_) #[true, true, true, true, true, true, true, true, true, false, true, false, false, false, false, false, false, false, false, false] rfl rfl (by kernel_rfl) (fun _ _ _ h => h) (Or.inl ⟨by rfl, ?_⟩) hHeld ?_ ?_
  rotate_left
  · rintro w' ⟨s0, s1, s2, s3, s4, s5, s6, s7, s8⟩
    go_simp
    with_reducible rfl
  rotate_left
  · simp only [Act.put, List.setIfInBounds_toArray, List.set_cons_zero, List.set_cons_succ, i64_w, i32_w]
    rfl
  refine take_ (i := 9) (N := some 32) (v := ?_) (a' := ?_) #[true, true, true, true, true, true, true, true, true, true, true, false, false, false, false, false, false, false, false, false] rfl rfl (by kernel_rfl) (fun _ _ _ h => h) (Or.inl ⟨by rfl, ?_⟩) hHeld ?_ ?_
  rotate_left
  · rintro w' ⟨s0, s1, s2, s3, s4, s5, s6, s7, s8⟩
    go_simp
    with_reducible rfl
  rotate_left
  · simp only [Act.put, List.setIfInBounds_toArray, List.set_cons_zero, List.set_cons_succ, i64_w, i32_w]
    rfl
  refine pure_ (i := 11) (N := some 34) (v := ?_) (a' := ?_) #[true, true, true, true, true, true, true, true, true, true, true, true, false, false, false, false, false, false, false, false] rfl rfl (by kernel_rfl) (fun _ _ _ h => h) (Or.inl ⟨by rfl, ?_⟩) ?_ ?_
  rotate_left
  · intro w'
    go_simp
    with_reducible rfl
  rotate_left
  · simp only [Act.put, List.setIfInBounds_toArray, List.set_cons_zero, List.set_cons_succ, i64_w, i32_w]
    rfl
  refine take_ (i := 12) (N := some 35) (v := ?_) (a' := ?_) #[true, true, true, true, true, true, true, true, true, true, true, true, true, false, false, false, false, false, false, false] rfl rfl (by kernel_rfl) (fun _ _ _ h => h) (Or.inl ⟨by rfl, ?_⟩) hHeld ?_ ?_
  rotate_left
  · rintro w' ⟨s0, s1, s2, s3, s4, s5, s6, s7, s8⟩
    go_simp
    with_reducible rfl
  rotate_left
  · simp only [Act.put, List.setIfInBounds_toArray, List.set_cons_zero, List.set_cons_succ, i64_w, i32_w]
    rfl
  refine take_ (i := 13) (N := some 36) (v := ?_) (a' := ?_) #[true, true, true, true, true, true, true, true, true, true, true, true, true, true, false, false, false, false, false, false] rfl rfl (by kernel_rfl) (fun _ _ _ h => h) (Or.inl ⟨by rfl, ?_⟩) hHeld ?_ ?_
  rotate_left
  · rintro w' ⟨s0, s1, s2, s3, s4, s5, s6, s7, s8⟩
    go_simp
    with_reducible rfl
  rotate_left
  · simp only [Act.put, List.setIfInBounds_toArray, List.set_cons_zero, List.set_cons_succ, i64_w, i32_w]
    rfl
  refine pure_ (i := 14) (N := some 37) (v := ?_) (a' := ?_) #[true, true, true, true, true, true, true, true, true, true, true, true, true, true, true, false, false, false, false, false] rfl rfl (by kernel_rfl) (fun _ _ _ h => h) (Or.inl ⟨by rfl, ?_⟩) ?_ ?_
  rotate_left
  · intro w'
    go_simp
    with_reducible rfl
  rotate_left
  · simp only [Act.put, List.setIfInBounds_toArray, List.set_cons_zero, List.set_cons_succ, i64_w, i32_w]
    rfl
  refine take_ (i := 15) (N := some 38) (v := ?_) (a' := ?_) #[true, true, true, true, true, true, true, true, true, true, true, true, true, true, true, true, false, false, false, false] rfl rfl (by kernel_rfl) (fun _ _ _ h => h) (Or.inl ⟨by rfl, ?_⟩) hHeld ?_ ?_
  rotate_left
  · rintro w' ⟨s0, s1, s2, s3, s4, s5, s6, s7, s8⟩
    go_simp
    with_reducible rfl
  rotate_left
  · simp only [Act.put, List.setIfInBounds_toArray, List.set_cons_zero, List.set_cons_succ, i64_w, i32_w]
    rfl
  refine take_ (i := 16) (N := some 39) (v := ?_) (a' := ?_) #[true, true, true, true, true, true, true, true, true, true, true, true, true, true, true, true, true, false, false, false] rfl rfl (by kernel_rfl) (fun _ _ _ h => h) (Or.inl ⟨by rfl, ?_⟩) hHeld ?_ ?_
  rotate_left
  · rintro w' ⟨s0, s1, s2, s3, s4, s5, s6, s7, s8⟩
    go_simp
    with_reducible rfl
  rotate_left
  · simp only [Act.put, List.setIfInBounds_toArray, List.set_cons_zero, List.set_cons_succ, i64_w, i32_w]
    rfl
  refine one_ (i := 17) (N := some 40) #[true, true, true, true, true, true, true, true, true, true, true, true, true, true, true, true, true, true, false, false] rfl rfl (by kernel_rfl) (by decide) (fun K hK => ?_)
  refine goes_ Try.func83 (by kernel_rfl) rfl #[workV a o, .int .i64 z, .int .i64 (wrap64 0), .int .i64 i, valV q n s] (by rfl) rfl rfl (by simp only [List.map_toArray, List.map_cons, List.map_nil]; rfl) ?_
  with_reducible refine ((hV ▸ HCALL.out)).mono ?_
  rintro e w5 ⟨z5, O5, f5, live5, rfl, hA5, hll5, hz5, _, h05, ho5, hK5, hO5, hF5⟩
  refine ⟨_, rfl, ?_⟩
  have HA5 := Lib.hid hA5
  have HZ5 := Lib.hid hz5
  have HF5 : Hid (Fr O V w5) := Lib.hid (hV ▸ hF5)
  clear hz5 hA5
  have hod5 := own_fr HOD.out HF5.out (fun j hj => (HC.out.kk j hj).2)
  have s0 := (hod5.cellAt r (by show r < c.kids.length * 1; omega)).trans HVAL.out
  have u5 := hod5.frozenAt r
  have HOD5 := Lib.hid hod5
  clear hod5
  refine hK.out _ _ ⟨(blk_cell (HF5.out.blk HC.out.blk HC.out.no) 4), s0, (blk_cell (HF5.out.blk HW.out HN.out.2.2.2) 0), (blk_cell (HF5.out.blk HW.out HN.out.2.2.2) 1), (blk_cell (HF5.out.blk HL.out HN.out.1) 0), (blk_cell (HF5.out.blk HI.out HN.out.2.2.1) 0), (blk_cell (HF5.out.blk HX.out HN.out.2.1) 0), (blk_cell (HF5.out.blk HX.out HN.out.2.1) 1), (blk_cell (HF5.out.blk HX.out HN.out.2.1) 2)⟩ (fun hHeld => ?_)
  clear hK K
  refine norm_ (a' := ?_) ?_ ?_
  rotate_left
  · show Act.put _ (some 40) _ = _
    simp only [Act.put, List.setIfInBounds_toArray, List.set_cons_zero, List.set_cons_succ, i64_w, i32_w]
    rfl
  refine pure_ (i := 18) (N := some 41) (v := ?_) (a' := ?_) #[true, true, true, true, true, true, true, true, true, true, true, true, true, true, true, true, true, true, true, false] rfl rfl (by kernel_rfl) (fun _ _ _ h => h) (Or.inl ⟨by rfl, ?_⟩) ?_ ?_
  rotate_left
  · intro w'
    go_simp
    with_reducible rfl
  rotate_left
  · simp only [Act.put, List.setIfInBounds_toArray, List.set_cons_zero, List.set_cons_succ, i64_w, i32_w]
    rfl
  refine last_ (i := 19) (N := none) #[true, true, true, true, true, true, true, true, true, true, true, true, true, true, true, true, true, true, true, true] rfl rfl (by kernel_rfl) (by decide) (fun K hK => ?_)
  refine skip_ (w1 := ?_) (by rfl) rfl ?_ ?_
  rotate_left
  · go_simp
    rfl
  refine hK.out _ _ ?_
  clear hK K
  refine done_ (by kernel_rfl) ?_

  go_end0
  have hd := HD.out
  have hf5 := HF5.out
  rw [hV] at hO5
  have hf6 := fr1w w5 g r (.int .i64 (z5 : Int))
  have hC5 := (HC.out.other hO5).move hf5 HC.out.no (fun j hj => (HC.out.vk j hj).2.2) (fun j hj => (HC.out.kk j hj).2)
  have hC6 := hC5.krow hf6 (KR.put hC5.kr rfl r HRL.out (z5 : Int))
  have hA6 := HA5.out.move hf6 (fun j hj e => by subst e; exact (hC5.kk j rfl).2 hj)
  have e3 : (fun x => rest x + kc (oth c.kids r) x + one z5 x) = fun x => rest x + kc (c.kids.set r (z5 : Int)) x := by
    funext x
    rw [kc_set c.kids r z5 HRL.out h05]
    show _ = rest x + (_ + _)
    omega
  rw [e3] at hA6
  have hkl' : (c.kids.set r (z5 : Int)).length ≤ 1000 := by rw [List.length_set]; exact hkl
  have hsz := hd.size
  refine ⟨rfl, O5, f5, live5, {c with kids := c.kids.set r (z5 : Int)}, _, _, hA6, hC6, ((Fr.of_new (S := Wr O b v (.slice (some ⟨g, 0, none⟩) c.kids.length c1)) hd).then_ hf5 (fun j hj => .inl (.inl hj))).then_ hf6 (fun j hj => .inl (.inr (.inr (.inr (by rw [hj]; rfl))))), fun j hj => (hO5 j hj).imp id (fun q => by omega), hll5, hK5.mono (fun j h => Nat.lt_of_lt_of_le h (Nat.le_add_right _ _)), ⟨z5, h05, rfl, by rw [HZ5.out, HFZ.out], fun x hx => ?_⟩, rfl, hkl', hcl, fun y hy => ?_⟩
  · have hx2 := oth_mem HRL.out HZ.out hz0 hx
    have hpos : 0 < kc (oth c.kids r) x := List.count_pos_iff.2 hx
    refine (HS.out x hx2).trans ((hK5 x (kids_pos hkn hx2) (Nat.lt_of_lt_of_le hpos (Nat.le_add_left _ _))).2 ?_)
    cases hq : op x with
    | false => rfl
    | true =>
      have h1 := HOPK.out x hq
      have h2 : 0 < kc c.kids x := List.count_pos_iff.2 hx2
      omega
  · rcases List.mem_or_eq_of_mem_set hy with h | h
    · exact hkn y h
    · rw [h]; exact Int.natCast_nonneg _
end Go.Proofs.Ytnipbfhfaefieaa.Pv
/-! pvec: a value in a trunk of one level is set. -/
namespace Go.Proofs.Ytnipbfhfaefieaa.Pv
open Go.RowKit Go Go.Proofs.YtnipbfhfaefieaaW.PrintWords Go.Proofs.YtnipbfhfaefieaaW.PrintMore Go.Proofs.YtnipbfhfaefieaaW.PrintLast Go.Proofs.Ytnipbfhfaefieaa.Bts Go.Proofs.Ytnipbfhfaefieaa.Fra Go.Proofs.Ytnipbfhfaefieaa.ArnP Go.Proofs.Ytnipbfhfaefieaa.Arn Go.Proofs.Ytnipbfhfaefieaa.Ao
theorem bnd_one {rest : Nat → Nat} {A B : Nat} (k : Nat) (hb : ∀ x, rest x ≤ A) (h : A + 1 ≤ B) (x : Nat) : rest x + one k x ≤ B :=
  Nat.le_trans (Nat.add_le_add (hb x) (show one k x ≤ 1 by unfold one; split <;> omega)) h
theorem hro_one {rest : Nat → Nat} {op : Nat → Bool} (k : Nat) (hro : ∀ z, op z = true → 1 ≤ rest z) : ∀ z, (fun x => x == k || op x) z = true → 1 ≤ rest z + one k z := by
  intro z hz
  by_cases e : z = k
  · subst e; have : one z z = 1 := if_pos rfl; omega
  · have hz2 : (z == k || op z) = true := hz
    rw [show (z == k) = false by simpa using e, Bool.false_or] at hz2
    have := hro z hz2
    omega
theorem set_mem {l : List Int} {i z : Nat} (hi : i < l.length) (h0 : 0 < z) {x : Nat} (hx : x ∈ kidsOf (oth l i) ∨ x = z) : x ∈ kidsOf (l.set i (z : Int)) := by
  have h := congrFun (kc_set l i z hi h0) x
  have h2 : 0 < kc (l.set i (z : Int)) x := by
    rcases hx with hx | rfl
    · have h1 : 0 < kc (oth l i) x := List.count_pos_iff.2 hx
      omega
    · have h1 : one x x = 1 := if_pos rfl
      omega
  exact List.count_pos_iff.1 h2
set_option maxHeartbeats 2000000 in
set_option maxRecDepth 100000 in
theorem set1_calls {O : Nat → Prop} {a : Nat} {f : Nat → Cell} {live most : Int} {rest : Nat → Nat} {op : Nat → Bool} (o : Int) (k i r z : Nat) (q n : Int) (s : ByteArray) (w : World) (h : AO w O a f live most (fun z => rest z + one k z) op) (hk : 0 < k) (ho : op k = false) (hb : ∀ x, rest x ≤ 60000000000) (hro : ∀ z, op z = true → 1 ≤ rest z) (hil : i ≤ 1023) (hr : i / 32 = r) (hi : r < (f k).kids.length) (hz : (f k).kids[r]? = some (z : Int)) (hz0 : 0 < z) (hv : i % 32 < (f z).vals.length) (hvl : (f z).vals.length ≤ 1000) (hlm : live + 1 < most) :
    Calls Try.prog 83 #[workV a o, .int .i64 k, .int .i64 1, .int .i64 i, valV q n s] w fun e w' => ∃ (k' : Nat) (O' : Nat → Prop) (f' : Nat → Cell) (live' : Int) (z' : Nat), e = .returned (.int .i64 k') ∧ AO w' O' a f' live' most (fun z => rest z + one k' z) op ∧ live' ≤ live + 2 ∧ 0 < z' ∧ f' k' = {f k with kids := (f k).kids.set r (z' : Int), ow := o, r := 1} ∧ f' z' = {f z with vals := (f z).vals.set (i % 32) (q, n, s), ow := o, r := (f' z').r} ∧ (∀ x ∈ kidsOf (oth (f k).kids r), Same f f' x) ∧ 0 < k' ∧ op k' = false ∧ KeepR rest op f f' ∧ (∀ j, O' j → O j ∨ w.heap.size ≤ j) ∧ Fr O w w' := by
  have hlive : 0 < (f k).r := h.ext_lv hk (by show 0 < rest k + one k k; unfold one; rw [if_pos rfl]; omega)
  have hkl := (AO.kl h hlive).1
  have hcl := (AO.kl h hlive).2
  have hkn := AO.kn h ⟨hk, hlive, ho⟩
  have hlt := h.lt
  have hbx := below_alloc (below_alloc (below_alloc (below_alloc (Below.refl w.heap.size w) (.cells #[.pointer (some ⟨a, 0, none⟩), .int .u32 o] 133)) (.cells #[.int .i64 1] 3)) (.cells #[.int .i64 (i : Int)] 3)) (.cells #[.int .u8 q, .int .i64 n, .string s] 66)
  have hX : ValB _ (w.heap.size + 3) q n s := new3 w (.cells #[.pointer (some ⟨a, 0, none⟩), .int .u32 o] 133) (.cells #[.int .i64 1] 3) (.cells #[.int .i64 (i : Int)] 3) (.cells #[.int .u8 q, .int .i64 n, .string s] 66)
  have hI : IntB _ (w.heap.size + 2) (i : Int) := blk_alloc (new2 w (.cells #[.pointer (some ⟨a, 0, none⟩), .int .u32 o] 133) (.cells #[.int .i64 1] 3) (.cells #[.int .i64 (i : Int)] 3)) (.cells #[.int .u8 q, .int .i64 n, .string s] 66)
  have hL : IntB _ (w.heap.size + 1) 1 := blk_alloc (blk_alloc (new1 w (.cells #[.pointer (some ⟨a, 0, none⟩), .int .u32 o] 133) (.cells #[.int .i64 1] 3)) (.cells #[.int .i64 (i : Int)] 3)) (.cells #[.int .u8 q, .int .i64 n, .string s] 66)
  have hWk : WorkB _ w.heap.size a o := blk_alloc (blk_alloc (blk_alloc (blk_new w (.cells #[.pointer (some ⟨a, 0, none⟩), .int .u32 o] 133)) (.cells #[.int .i64 1] 3)) (.cells #[.int .i64 (i : Int)] 3)) (.cells #[.int .u8 q, .int .i64 n, .string s] 66)
  have hA := h.below hbx
  obtain ⟨W, hW⟩ : ∃ W, ((((w.alloc (.cells #[.pointer (some ⟨a, 0, none⟩), .int .u32 o] 133)).alloc (.cells #[.int .i64 1] 3)).alloc (.cells #[.int .i64 (i : Int)] 3)).alloc (.cells #[.int .u8 q, .int .i64 n, .string s] 66)) = W := ⟨_, rfl⟩
  have hnB : ∀ b, w.heap.size ≤ b → ¬ O b := fun b hb e => by have := hlt b e; omega
  rw [hW] at hX hI hL hWk
  have hA' : AO W O a f live most (fun z => rest z + zf z + one k z) op := by rw [← hW]; exact hA
  have hbW : Below w.heap.size w W := by rw [← hW]; exact hbx
  have hO4 : ¬ O (w.heap.size + 1) ∧ ¬ O (w.heap.size + 3) ∧ ¬ O (w.heap.size + 2) ∧ ¬ O w.heap.size := ⟨hnB _ (by omega), hnB _ (by omega), hnB _ (by omega), hnB _ (by omega)⟩
  have hch := change_set (need := 1) o k (.pointer (some ⟨w.heap.size + 1, 0, none⟩)) (.pointer (some ⟨w.heap.size + 3, 0, none⟩)) (.pointer (some ⟨w.heap.size + 2, 0, none⟩)) (.pointer (some ⟨w.heap.size, 0, none⟩)) W W hA' hk ho (fun x => Nat.le_trans (hb x) (by decide)) hro (Fr.refl O W) (fun j hj => .inl hj)
    (cb_set1 o i r z W hL hX hI hWk hO4 hil hr hi hz hz0 hv hvl hcl hkl hkn (fun x => Nat.le_trans (hb x) (by decide)) hro)
    (cb_set1 o i r z W hL hX hI hWk hO4 hil hr hi hz hz0 hv hvl hcl hkl hkn (bnd_one k hb (by decide)) (hro_one k hro)) (by omega)
  rw [← hW] at hch
  have HC := Lib.hid hch
  have HB := Lib.hid hbW
  have HW := Lib.hid hW
  have HI := Lib.hid hi
  have HZ := Lib.hid hz
  clear hch hA hA' hbW hbx hX hI hL hWk h hW hi hz
  go_enter Try.func83, Try.ntmps83
  go_wp2_with (go_at_call 78; go_loud (refine HC.out.mono ?_; rintro e w5 ⟨k', O5, f5, live5, c5, rfl, hA5, hll5, hR5, hS5, hk5, ho5, hK5, hO5, hF5⟩; have HR5 := Lib.hid hR5; clear hR5))
  go_ret
  obtain ⟨z', hz', rfl, hfz, hoth⟩ := HR5.out
  have hF6 : Fr O w w5 := by
    have h1 := HB.out
    rw [← HW.out] at h1
    exact (Fr.of_new h1).trans hF5
  have hzS := (hS5 z' (set_mem HI.out hz' (.inr rfl))).at_
  refine ⟨k', O5, _, live5, z', rfl, hA5, by omega, hz', upd_eq _ _ _, by rw [hfz] at hzS; exact hzS, fun x hx => (hoth x hx).trans (hS5 x (set_mem HI.out hz' (.inl hx))), hk5, ho5, hK5, fun j hj => (hO5 j hj).imp id (fun q => ?_), hF6⟩
  have h1 := HB.out.size
  rw [← HW.out] at h1
  omega
end Go.Proofs.Ytnipbfhfaefieaa.Pv
