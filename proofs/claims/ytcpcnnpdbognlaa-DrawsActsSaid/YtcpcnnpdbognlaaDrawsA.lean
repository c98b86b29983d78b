/- draws: whether a handle is among some, as a contract. -/
import Derived.Test.YtcpcnnpdbognlaaDrawsL
namespace Go.Proofs.Ytcpcnnpdbognlaa.Drw
open Go.RowKit Go Go.Proofs.YtcpcnnpdbognlaaW.PrintWords Go.Proofs.YtcpcnnpdbognlaaW.PrintMore Go.Proofs.YtcpcnnpdbognlaaW.PrintLast Go.Proofs.Ytcpcnnpdbognlaa.Bts Go.Proofs.Ytcpcnnpdbognlaa.Fra
attribute [local go_sem high] eqH
abbrev kH : Kd (Int × Int) := Kd.pair (Kd.int .u64) (Kd.int .u64)
theorem at_H {w : World} {A : Option Addr} {n : Nat} {l : List (Int × Int)} (h : kH.C w A n l) (i : Nat) (h1 : i < n) (hl : l.length = n) :
    ∃ ad, A = some ad ∧ w.cell? (ad.add (i * 2)) = some (.int .u64 (l.getD i (0, 0)).1) ∧ w.cell? ⟨(ad.add (i * 2)).block, (ad.add (i * 2)).off + 1, none⟩ = some (.int .u64 (l.getD i (0, 0)).2) := by
  obtain ⟨ad, c, e, _, hK, hc⟩ := Kd.C_get h (0, 0) (i : Int) (by omega) (by omega)
  rw [Int.toNat_natCast] at hK hc
  obtain ⟨_, _, rfl, rfl, rfl⟩ := hK
  have hc : ∀ j u, [Value.int .u64 (l.getD i (0, 0)).1, Value.int .u64 (l.getD i (0, 0)).2][j]? = some u → w.cell? (ad.add (i * 2 + j)) = some u := hc
  exact ⟨ad, e, hc 0 _ rfl, by rw [← add_field _ _ 1 (by omega)]; exact hc 1 _ rfl⟩
def hasH (l : List (Int × Int)) (a b : Int) : Bool := l.any fun x => x.1 == a && x.2 == b
theorem hasH_snoc (l : List (Int × Int)) (x : Int × Int) (a b : Int) : hasH (l ++ [x]) a b = (hasH l a b || (x.1 == a && x.2 == b)) := by simp [hasH]
theorem hasH_take (l : List (Int × Int)) (j : Nat) (h : j < l.length) (a b : Int) (hx : ((l.getD j (0, 0)).1 == a && (l.getD j (0, 0)).2 == b) = true) : hasH l a b = true := by
  have e : l.getD j (0, 0) = l[j] := by simp [List.getD, h]
  rw [e] at hx
  exact List.any_eq_true.2 ⟨l[j], List.getElem_mem h, hx⟩
set_option maxHeartbeats 2000000 in
theorem has_calls (A : Option Addr) (c : Nat) (l : List (Int × Int)) (a b : Int) (w : World) (h : kH.C w A l.length l) (hl : l.length ≤ 9223372036854775807) :
    Calls Try.prog 36 #[.slice A l.length c, .agg #[.int .u64 a, .int .u64 b]] w fun e w' => e = .returned (.bool (hasH l a b)) ∧ Below w.heap.size w w' := by
  have H := Lib.hid h
  clear h
  go_enter Try.func36, Try.ntmps36
  go_wp2
  go_loopw [9] (fun i wr => ∃ j : Nat, j ≤ l.length ∧ i = .int .i64 j ∧ hasH (l.take j) a b = false ∧ Below w.heap.size w wr ∧ wr.heap[w.heap.size]? = some (.cells #[.int .u64 a, .int .u64 b] 62 (0, 0))) (fun i _ => l.length - (intOf i).toNat)
  case atStart => exact ⟨0, by omega, rfl, rfl, below_alloc (Below.refl _ _) _, blk_new _ _⟩
  case round =>
    obtain ⟨j, hj, rfl, hn, hB, hV⟩ := hrel
    have HN := Lib.hid hn
    have HB := Lib.hid hB
    have HV := Lib.hid hV
    have v0 : wr.cell? ⟨w.heap.size, 0, none⟩ = some (.int .u64 a) := blk_cell hV 0
    have v1 : wr.cell? ⟨w.heap.size, 1, none⟩ = some (.int .u64 b) := blk_cell hV 1
    have hlw : w.heap.size < wr.heap.size := blk_lt hV
    clear hn hB hV
    by_cases hlt : j < l.length
    · obtain ⟨ad, rfl, x0, x1⟩ := at_H (Kd.C_below H.out HB.out) j hlt rfl
      have HE := Lib.hid (List.take_append_getElem (l := l) (i := j) hlt)
      have HG : l.getD j (0, 0) = l[j] := by simp [List.getD, hlt]
      have hT := hasH_take l j hlt a b
      obtain ⟨p, hp⟩ : ∃ p, l.getD j (0, 0) = p := ⟨_, rfl⟩
      obtain ⟨p, q⟩ := p
      rw [hp] at HG hT x0 x1
      have HG := Lib.hid HG
      have HT := Lib.hid hT
      have x0 : wr.cell? (ad.add (j * 2)) = some (.int .u64 p) := x0
      have x1 : wr.cell? ⟨(ad.add (j * 2)).block, (ad.add (j * 2)).off + 1, none⟩ = some (.int .u64 q) := x1
      clear hp hT
      cases ht : (p == a && q == b)
      · go_wp2
        go_roundw
        case rel =>
          refine ⟨j + 1, by omega, by simp, ?_, below_alloc HB.out _, blk_alloc HV.out _⟩
          rw [← HE.out, hasH_snoc, HN.out, ← HG.out, ht]; rfl
        case measure => simp [intOf]; omega
      · go_wp2
        go_ret
        exact ⟨by rw [HT.out ht]; rfl, below_alloc HB.out _⟩
    · go_wp2
      go_ret
      have e : j = l.length := by omega
      subst e
      have h1 := HN.out
      rw [List.take_length] at h1
      exact ⟨by rw [h1]; rfl, HB.out⟩
end Go.Proofs.Ytcpcnnpdbognlaa.Drw
