/- packed.Reader: a reader's calls, as contracts. -/
import Derived.Test.YtaoacibahdbdkaaPackW
import Derived.Test.YtaoacibahdbdkaaCloneB
import Derived.Test.YtaoacibahdbdkaaFrame
import Derived.Laws.BitsAllLaws
namespace Go.Proofs.Ytaoacibahdbdkaa.Pr
open Go.RowKit Go Go.Proofs.YtaoacibahdbdkaaW.PrintWords Go.Proofs.YtaoacibahdbdkaaW.PrintMore Go.Proofs.Ytaoacibahdbdkaa.Bts Go.Proofs.Ytaoacibahdbdkaa.Pk Go.Proofs.Ytaoacibahdbdkaa.Fra
attribute [local go_sem] max2_int min2_int max_two min_two

theorem failed_nil (w : World) :
    Calls Try.prog 36 #[.pointer none] w fun e w' => e = .returned (.int .i64 1) ∧ w = w' := by
  go_enter Try.func36, Try.ntmps36
  go_wp2
  go_ret
  exact ⟨rfl, rfl⟩
/-- A reader's block: the bytes that are left, what is wrong. -/
def Rd (w : World) (B g : Nat) (xs : List Int) (f : Int) : Prop :=
  ∃ A c, w.heap[g]? = some (.cells #[.slice A xs.length c, .int .i64 f] 134 (0,0)) ∧ Byt w (.slice A xs.length c) xs ∧ g < B ∧ ∀ ad, A = some ad → ad.block ≠ g ∧ ad.block < B
theorem Rd.fr {w w' : World} {B g : Nat} {xs : List Int} {f : Int} {S : Nat → Prop} (h : Rd w B g xs f) (hf : Fr S w w') (hs : ∀ k, k < B → ¬ S k) : Rd w' B g xs f := by
  obtain ⟨A, c, h1, h2, h3⟩ := h
  refine ⟨A, c, hf.blk h1 (hs _ h3.1), SlR.kept h2 hf.kept ?_, h3⟩
  intro k hk
  cases A with
  | none => cases hk
  | some ad => cases hk; exact hs _ (h3.2 ad rfl).2
theorem Rd.put {w : World} {B g : Nat} {xs : List Int} {f : Int} (h : Rd w B g xs f) {p : Addr} (hp : ∀ k, k < B → ¬ k = p.block) (u : Value) : Rd (w.setCell p u) B g xs f :=
  h.fr (S := fun k => k = p.block) (Fr.setCell (S := fun k => k = p.block) (.inl rfl) u) hp
theorem Rd.mono {w : World} {B B' g : Nat} {xs : List Int} {f : Int} (h : Rd w B g xs f) (hB : B ≤ B') : Rd w B' g xs f := by
  obtain ⟨A, c, h1, h2, h3⟩ := h
  exact ⟨A, c, h1, h2, by omega, fun ad ha => ⟨(h3.2 ad ha).1, by have := (h3.2 ad ha).2; omega⟩⟩
theorem Rd.lt {w : World} {B g : Nat} {xs : List Int} {f : Int} (h : Rd w B g xs f) : g < B ∧ g < w.heap.size := by
  obtain ⟨A, c, h1, h2, h3⟩ := h
  exact ⟨h3.1, blk_lt h1⟩
theorem Rd.below {w w' : World} {B g : Nat} {xs : List Int} {f : Int} (h : Rd w B g xs f) (hf : Below w.heap.size w w') : Rd w' B g xs f := by
  obtain ⟨A, c, h1, h2, h3⟩ := h
  exact ⟨A, c, blk_below h1 hf, h2.below hf, h3⟩
theorem Rd.cell0 {w : World} {B g : Nat} {xs : List Int} {f : Int} (h : Rd w B g xs f) : ∃ A c, w.cell? ⟨g, 0, none⟩ = some (.slice A xs.length c) := by
  obtain ⟨A, c, h1, _⟩ := h; exact ⟨A, c, blk_cell h1 0⟩
theorem Rd.cell1 {w : World} {B g : Nat} {xs : List Int} {f : Int} (h : Rd w B g xs f) : w.cell? ⟨g, 1, none⟩ = some (.int .i64 f) := by
  obtain ⟨A, c, h1, _⟩ := h; exact blk_cell h1 1
theorem Rd.frozen1 {w : World} {B g : Nat} {xs : List Int} {f : Int} (h : Rd w B g xs f) : w.frozen? ⟨g, 1, none⟩ = false := by
  obtain ⟨A, c, h1, _⟩ := h; exact blk_frozen h1 1
/-- What is left of a row that is cut at its end: other block, other cells. -/
theorem Rd.cut {w : World} {B g : Nat} {xs : List Int} {f : Int} {A : Option Addr} {c : Nat} (n : Nat) (hn : n ≤ xs.length)
    (hg : w.heap[g]? = some (.cells #[.slice A xs.length c, .int .i64 f] 134 (0,0))) (hb : Byt w (.slice A xs.length c) xs) (hA : g < B ∧ ∀ ad, A = some ad → ad.block ≠ g ∧ ad.block < B) (A' : Option Addr) (hA' : A' = if c = n then A else A.map (·.add n)) :
    Rd (w.setCell ⟨g, 0, none⟩ (.slice A' (xs.length - n) (c - n))) B g (xs.drop n) f := by
  subst hA'
  have hl : (xs.drop n).length = xs.length - n := by rw [List.length_drop]
  have hd := byt_drop hb n hn
  refine ⟨_, _, by rw [hl]; exact (blk_set hg 0 _).trans rfl, ?_, ?_⟩
  · rw [hl]
    refine SlR.kept hd (Fr.setCell (S := (· = g)) (p := ⟨g, 0, none⟩) (.inl rfl) _).kept ?_
    intro k hk e
    subst e
    split at hk
    · cases A with
      | none => cases hk
      | some ad => cases hk; exact (hA.2 ad rfl).1 rfl
    · cases A with
      | none => cases hk
      | some ad =>
        have hb : (ad.add n).block = ad.block := by unfold Addr.add; split <;> rfl
        cases hk
        exact (hA.2 ad rfl).1 hb.symm
  · refine ⟨hA.1, ?_⟩
    intro ad had
    split at had
    · exact hA.2 ad had
    · cases A with
      | none => cases had
      | some a0 =>
        have hb : (a0.add n).block = a0.block := by unfold Addr.add; split <;> rfl
        cases had
        rw [hb]; exact hA.2 a0 rfl
theorem own_lt {w : World} {b n sz : Nat} {e : TypeId} {v : Value} {cs : List Value} (h : w.ownsRow b e sz v n cs) (k : Nat) (hk : v.ownBlock = some k) : k < w.heap.size := by
  obtain ⟨_, h2⟩ := h
  rcases h2 with ⟨rfl, _⟩ | ⟨g, cap, cur, rfl, hg, hh, _⟩
  · cases hk
  · cases hk; exact blk_lt hh
set_option maxHeartbeats 1000000 in
theorem open_calls (v : Value) (xs : List Int) (w : World) (h : Byt w v xs) (hl : xs.length ≤ 140737488355328) :
    Calls Try.prog 73 #[v] w fun e w' => ∃ g, e = .returned (.pointer (some ⟨g, 0, none⟩)) ∧ Rd w' w'.heap.size g xs 0 ∧ w.heap.size ≤ g ∧ Below w.heap.size w w' := by
  obtain ⟨A, c, rfl, hc, hn, hC⟩ := h.C (by omega)
  have hN : A = none → xs = [] ∧ c = 0 := by
    intro hA
    have := hn hA
    exact ⟨List.length_eq_zero_iff.1 (by omega), this⟩
  have HC := Lib.hid hC
  clear hn hC
  go_enter Try.func73, Try.ntmps73
  go_wp2_with (go_at_call 93; refine (Cl.clone_bytes A c xs _ HC.out hl hN).mono ?_; rintro e w1 ⟨v1, rfl, hR, hB⟩; have hown := Cl.own_of_R hR; obtain ⟨A1, c1, rfl⟩ := own_slice hown)
  go_ret
  refine ⟨_, rfl, ⟨A1, c1, blk_new _ _, (SlR.of_own hown).below (below_alloc (Below.refl _ _) _), ?_⟩, hB.size, below_alloc hB _⟩
  refine ⟨by simp, ?_⟩
  intro ad hA1
  have := own_lt hown _ (by rw [hA1]; rfl)
  simp
  omega
theorem Rd.fail {w : World} {B g : Nat} {xs : List Int} {f : Int} (h : Rd w B g xs f) (f' : Int) : Rd (w.setCell ⟨g, 1, none⟩ (.int .i64 f')) B g xs f' := by
  obtain ⟨A, c, h1, h2, h3⟩ := h
  refine ⟨A, c, (blk_set h1 1 _).trans rfl, SlR.kept h2 (Fr.set g 1 _).kept ?_, h3⟩
  intro k hk e
  subst e
  cases A with
  | none => cases hk
  | some ad => cases hk; exact (h3.2 ad rfl).1 rfl
/-- So many bytes: what comes, what is left, what is wrong. -/
def takeP (xs : List Int) (f : Int) (n : Nat) : List Int × List Int × Int :=
  if f = 0 then (if xs.length < n then ([], xs, 11) else (xs.take n, xs.drop n, 0)) else ([], xs, f)
set_option maxHeartbeats 2000000 in
theorem take_calls (B g : Nat) (xs : List Int) (f : Int) (n : Nat) (w : World) (h : Rd w B g xs f) (hl : xs.length ≤ 140737488355328) :
    Calls Try.prog 74 #[.pointer (some ⟨g, 0, none⟩), .int .i64 n] w fun e w' => ∃ v, e = .returned v ∧ Byt w' v (takeP xs f n).1 ∧ Rd w' B g (takeP xs f n).2.1 (takeP xs f n).2.2 ∧ Fr (· = g) w w' := by
  have H := Lib.hid h
  obtain ⟨A, c, hg, hb, hA⟩ := h
  have hc0 : w.cell? ⟨g, 0, none⟩ = some (.slice A xs.length c) := blk_cell hg 0
  have hc1 : w.cell? ⟨g, 1, none⟩ = some (.int .i64 f) := blk_cell hg 1
  have hf0 : w.frozen? ⟨g, 0, none⟩ = false := blk_frozen hg 0
  have hf1 : w.frozen? ⟨g, 1, none⟩ = false := blk_frozen hg 1
  have HG := Lib.hid hg
  clear hg
  by_cases f0 : f = 0
  · subst f0
    by_cases hn : xs.length < n
    · have e : takeP xs 0 n = ([], xs, 11) := by unfold takeP; rw [if_pos rfl, if_pos hn]
      rw [e]
      go_enter Try.func74, Try.ntmps74
      go_wp2
      go_ret
      exact ⟨_, rfl, SlR.nil _ _, H.out.fail 11, Fr.set g 1 _⟩
    · have e : takeP xs 0 n = (xs.take n, xs.drop n, 0) := by unfold takeP; rw [if_pos rfl, if_neg hn]
      rw [e]
      have hn : n ≤ xs.length := by omega
      have hnc : n ≤ c := by obtain ⟨_, A', c', e, h2, _⟩ := hb; cases e; omega
      have hk : ∀ u, Byt (w.setCell ⟨g, 0, none⟩ u) (.slice A n c) (xs.take n) := fun u => SlR.kept (by have := byt_take hb n hn; unfold Byt at this; rwa [List.length_take, Nat.min_eq_left hn] at this ⊢) (Fr.set g 0 u).kept (by
        intro k hk e
        subst e
        cases A with
        | none => cases hk
        | some ad => cases hk; exact (hA.2 ad rfl).1 rfl)
      go_enter Try.func74, Try.ntmps74
      go_wp2
      · obtain rfl : c = n := by omega
        go_ret
        have hr := Rd.cut c hn HG.out hb hA A (by rw [if_pos rfl])
        rw [Nat.sub_self] at hr
        exact ⟨_, rfl, hk _, hr, Fr.set g 0 _⟩
      · go_ret
        exact ⟨_, rfl, hk _, Rd.cut n hn HG.out hb hA _ (by rw [if_neg (by omega)]), Fr.set g 0 _⟩
  · have e : takeP xs f n = ([], xs, f) := by unfold takeP; rw [if_neg f0]
    rw [e]
    have b0 : (f == 0) = false := by rw [beq_eq_false_iff_ne]; exact f0
    go_enter Try.func74, Try.ntmps74
    go_wp2
    go_ret
    exact ⟨_, rfl, SlR.nil _ _, H.out, Fr.refl _ _⟩
/-- A number out of bytes, the lowest first. -/
def numB : List Int → Int
  | [] => 0
  | b :: bs => b + 256 * numB bs
def Bs (xs : List Int) : Prop := ∀ x ∈ xs, 0 ≤ x ∧ x ≤ 255
theorem numB_nn : ∀ (xs : List Int), Bs xs → 0 ≤ numB xs ∧ numB xs < 256 ^ xs.length
  | [], _ => by simp [numB]
  | x :: xs, h => by
    have h1 := numB_nn xs (fun y hy => h y (List.mem_cons_of_mem _ hy))
    have h2 := h x (List.mem_cons_self ..)
    simp only [numB, List.length_cons, Int.pow_succ]
    omega
theorem numB_snoc : ∀ (xs : List Int) (b : Int), numB (xs ++ [b]) = numB xs + 256 ^ xs.length * b
  | [], b => by simp [numB]
  | x :: xs, b => by
    have := numB_snoc xs b
    simp only [List.cons_append, numB, this, List.length_cons, Int.pow_succ]
    rw [Int.mul_add, ← Int.add_assoc, Int.mul_comm (256 ^ xs.length) 256, Int.mul_assoc]
theorem or_step (n b : Int) (j : Nat) (hj : j < 8) (h0 : 0 ≤ n) (h1 : n < 256 ^ j) (hb0 : 0 ≤ b) (hb1 : b ≤ 255) :
    bits .or .u64 n (IntKind.u64.wrap (IntKind.u64.wrap b * 2 ^ (8 * j))) = n + 256 ^ j * b := by
  have e1 : IntKind.u64.wrap b = b := by simp [IntKind.wrap, IntKind.bits, IntKind.signed]; omega
  have e256 : (256 : Int) ^ j = 2 ^ (8 * j) := by rw [Int.pow_mul]; rfl
  rw [e1]
  rw [e256] at h1 ⊢
  obtain ⟨a, rfl⟩ : ∃ a : Nat, n = a := ⟨n.toNat, by omega⟩
  obtain ⟨c, rfl⟩ : ∃ c : Nat, b = c := ⟨b.toNat, by omega⟩
  have hp : (2 : Int) ^ (8 * j) = ((2 ^ (8 * j) : Nat) : Int) := by norm_cast
  rw [hp] at h1 ⊢
  have hp1 : (2 : Nat) ^ (8 * j) ≤ 2 ^ 56 := Nat.pow_le_pow_right (by decide) (by omega)
  have ha : a < 2 ^ (8 * j) := by exact_mod_cast h1
  have hc : c ≤ 255 := by omega
  have hm : c * 2 ^ (8 * j) ≤ 255 * 2 ^ 56 := Nat.mul_le_mul hc hp1
  have e2 : IntKind.u64.wrap ((c : Int) * ((2 ^ (8 * j) : Nat) : Int)) = ((c * 2 ^ (8 * j) : Nat) : Int) := by
    rw [← Int.natCast_mul]
    generalize hz : c * 2 ^ (8 * j) = z at hm ⊢
    simp [IntKind.wrap, IntKind.bits, IntKind.signed]
    omega
  rw [e2, u64_or_nat a _ (by omega) (by omega)]
  have := Nat.two_pow_add_eq_or_of_lt ha c
  rw [Nat.or_comm, Nat.mul_comm c, ← this]
  push_cast
  omega
theorem takeP_len (xs : List Int) (f : Int) (n : Nat) : (takeP xs f n).1.length ≤ n := by
  unfold takeP; split
  · split
    · simp
    · simp; omega
  · simp
theorem takeP_bs {xs : List Int} (h : Bs xs) (f : Int) (n : Nat) : Bs (takeP xs f n).1 ∧ Bs (takeP xs f n).2.1 := by
  unfold takeP; split
  · split
    · exact ⟨fun x hx => by simp at hx, h⟩
    · exact ⟨fun x hx => h x (List.mem_of_mem_take hx), fun x hx => h x (List.mem_of_mem_drop hx)⟩
  · exact ⟨fun x hx => by simp at hx, h⟩
set_option maxHeartbeats 4000000 in
set_option maxRecDepth 100000 in
theorem number_calls (B g : Nat) (xs : List Int) (f size : Int) (w : World) (h : Rd w B g xs f) (hl : xs.length ≤ 140737488355328) (hbs : Bs xs) :
    Calls Try.prog 32 #[.pointer (some ⟨g, 0, none⟩), .int .i64 size] w fun e w' => e = .returned (.int .u64 (numB (takeP xs f (sizeP size)).1)) ∧ Rd w' B g (takeP xs f (sizeP size)).2.1 (takeP xs f (sizeP size)).2.2 ∧ Fr (· = g) w w' := by
  obtain ⟨k, hk⟩ : ∃ k, sizeP size = k := ⟨_, rfl⟩
  rw [hk]
  have hk8 : k ≤ 8 := by rw [← hk]; unfold sizeP; omega
  obtain ⟨m, hm⟩ : ∃ m : Int, (if size < 0 then (0 : Int) else size) = m := ⟨_, rfl⟩
  have hkk : (if 8 < m then (8 : Int) else m) = (k : Int) := by
    rw [← hk, ← hm]; unfold sizeP; split <;> split <;> omega
  have H := Lib.hid h
  have HK := Lib.hid hk
  clear h hk
  have htl := takeP_len xs f k
  have htb := (takeP_bs hbs f k).1
  generalize ht : takeP xs f k = t at htl htb ⊢
  have HT := Lib.hid ht
  clear ht
  obtain ⟨bs, ys, f1⟩ := t
  simp only at htl htb
  go_enter Try.func32, Try.ntmps32
  go_wp2_with (go_at_call 74; refine (take_calls B g xs f k _ H.out hl).mono ?_; rintro e w1 ⟨v, rfl, hb, hr, hf⟩; rw [HT.out] at hb hr; simp only at hb hr; obtain ⟨A, c, rfl, hc, hn, hC⟩ := hb.C (by omega))
  have HM := Lib.hid hm
  have HKK := Lib.hid hkk
  have HR := Lib.hid hr
  have HF := Lib.hid hf
  clear hm hkk hr hf hb
  go_loopw [5, 14] (fun v i wr => ∃ j : Nat, j ≤ bs.length ∧ i = .int .i64 j ∧ v = .int .u64 (numB (bs.take j)) ∧ wr = w1) (fun _ i _ => bs.length - (intOf i).toNat)
  case atStart => exact ⟨0, by omega, rfl, rfl, rfl⟩
  case round =>
    obtain ⟨j, hj, rfl, rfl, rfl⟩ := hrel
    by_cases hlt : j < bs.length
    · obtain ⟨ad, rfl, hx⟩ := Kd.at_int hC (j : Int) (by omega) (by omega)
      rw [Int.toNat_natCast] at hx
      have h80 : 0 ≤ (8 : Int) * (j : Int) := by omega
      have h81 : (8 : Int) * (j : Int) ≤ 64 := by omega
      have h82 : ((8 : Int) * (j : Int)).toNat = 8 * j := by omega
      go_wp2
      go_roundw
      case rel =>
        refine ⟨j + 1, by omega, by simp, ?_, trivial⟩
        have ht := List.take_append_getElem (l := bs) (i := j) hlt
        have hb1 := htb bs[j] (List.getElem_mem hlt)
        have hn1 := numB_nn (bs.take j) (fun y hy => htb y (List.mem_of_mem_take hy))
        rw [List.length_take, Nat.min_eq_left (by omega)] at hn1
        have hrd : rd bs (j : Int) = bs[j] := by simp [rd, hlt]
        rw [hrd, or_step _ _ j (by omega) hn1.1 hn1.2 hb1.1 hb1.2, ← ht, numB_snoc, List.length_take, Nat.min_eq_left (by omega)]
      case measure => simp [intOf]; omega
    · go_wp2
      go_ret
      obtain rfl : j = bs.length := by omega
      rw [List.take_length]
      exact ⟨rfl, HR.out, HF.out⟩
theorem number_k (k B g : Nat) (xs : List Int) (f size : Int) (w : World) (hk : sizeP size = k) (h : Rd w B g xs f) (hl : xs.length ≤ 140737488355328) (hbs : Bs xs) :
    Calls Try.prog 32 #[.pointer (some ⟨g, 0, none⟩), .int .i64 size] w fun e w' => e = .returned (.int .u64 (numB (takeP xs f k).1)) ∧ Rd w' B g (takeP xs f k).2.1 (takeP xs f k).2.2 ∧ Fr (· = g) w w' := by
  subst hk
  exact number_calls B g xs f size w h hl hbs
end Go.Proofs.Ytaoacibahdbdkaa.Pr
