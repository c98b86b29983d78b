/- forest: a map of truths; rows of entries, read. -/
import Derived.Test.YtojbheiicmcnjaaFsJ
namespace Go.Proofs.Ytojbheiicmcnjaa.Fst
open Go.RowKit Go Go.Proofs.YtojbheiicmcnjaaW.PrintWords Go.Proofs.YtojbheiicmcnjaaW.PrintMore Go.Proofs.YtojbheiicmcnjaaW.PrintLast Go.Proofs.Ytojbheiicmcnjaa.Bts Go.Proofs.Ytojbheiicmcnjaa.Fra Go.Maps
abbrev BD := DataW Bool
def boolElem : Value → Option (BD × List MemPlace)
  | .bool p => some (.held p, [])
  | _ => none
theorem boolElem_inv {v : Value} {p : Bool} {ps : List MemPlace} (h : boolElem v = some (.held p, ps)) : v = .bool p := by
  cases v <;> simp [boolElem] at h
  rw [h.1]
/-- Handles' truths, in a map. -/
def BM (w : World) (m n : Nat) (In : Int → Int → Bool) : Prop := ∃ D : BD, w.ownsMap Try.prog 30 boolElem m n D ∧ ∀ x y, U64 x → U64 y → D.atKey (kl x y) (.held false) = .held (In x y)
theorem zeroB (w : World) : (zeroValue 4).run Try.prog w = .ok (.bool false) w := by kernel_rfl
section
variable {w w' : World} {m n : Nat} {In : Int → Int → Bool}
theorem BM.look (h : BM w m n In) {x y : Int} (hx : U64 x) (hy : U64 y) : (Instr.lookup 69 (.map (some m)) (H2 x y) false).run Try.prog w = .ok (.bool (In x y)) w := by
  obtain ⟨D, hm, hD⟩ := h
  obtain ⟨v, ps, hrun, hv⟩ := hm.lookup law Try.underlying69 (zeroB w) (zd := .held false) (zp := []) rfl (kl_of hx.wf hy.wf)
  rw [hD x y hx hy] at hv
  rw [hrun, boolElem_inv hv]
theorem BM.fr {S : Nat → Prop} (h : BM w m n In) (hf : Fr S w w') (hm : ¬ S m) : BM w' m n In := by
  obtain ⟨D, ho, hD⟩ := h
  have hlt := ho.lt
  obtain ⟨es, c, hb, hrest⟩ := ho
  exact ⟨D, ⟨es, c, (hf.block m hlt hm).trans hb, hrest⟩, hD⟩
theorem BM.below (h : BM w m n In) (hb : Below w.heap.size w w') : BM w' m n In := h.fr (Fr.of_new (S := fun _ => False) hb) (fun q => q)
theorem BM.put (h : BM w m n In) (hn : n ≤ 1000000) {x y : Int} (hx : U64 x) (hy : U64 y) : ∃ w9, (Instr.mapUpdate 69 (.map (some m)) (H2 x y) (.bool true)).run Try.prog w = .ok () w9 ∧ BM w9 m (n + 1) (fun a b => decide (a = x ∧ b = y) || In a b) ∧ Fr (· = m) w w9 := by
  obtain ⟨D, hm, hD⟩ := h
  obtain ⟨w9, hrun, hm9, hg9⟩ := hm.update law Try.underlying69 (Nat.lt_of_le_of_lt hn (by unfold maxLen; decide)) (kl_of hx.wf hy.wf) (show boolElem (.bool true) = some (.held true, []) from rfl)
  refine ⟨w9, hrun, ⟨_, hm9, fun a b ha hb => ?_⟩, fr_of_grown hg9⟩
  show _ = DataW.held (decide (a = x ∧ b = y) || In a b)
  by_cases hc : a = x ∧ b = y
  · obtain ⟨rfl, rfl⟩ := hc
    rw [atKey_put_same hm.isMap (kl_key _ _), decide_eq_true (And.intro rfl rfl)]
    rfl
  · rw [atKey_put_other (fun e => hc (kl_inj ha.wf hb.wf hx.wf hy.wf e)), hD a b ha hb, decide_eq_false hc]
    rfl
theorem BM.made (w : World) : BM (w.alloc (.map #[] 0)) w.heap.size 0 (fun _ _ => false) := ⟨_, World.ownsMap_made w _ _ _, fun _ _ _ _ => rfl⟩
theorem BM.lt (h : BM w m n In) : m < w.heap.size := let ⟨_, ho, _⟩ := h; ho.lt
end
theorem rowE_at {W : World} {A : Option Addr} {xs : List E} (h : kE.C W A xs.length xs) (i : Nat) {e : E} (hx : xs[i]? = some e) :
    ∃ ad, A = some ad ∧ W.cell? (ad.add (i * 8)) = some (.int .u64 e.hi) ∧ W.cell? ⟨(ad.add (i * 8)).block, (ad.add (i * 8)).off + 1, none⟩ = some (.int .u64 e.lo) ∧ W.cell? ⟨(ad.add (i * 8)).block, (ad.add (i * 8)).off + 2, none⟩ = some (.int .i64 e.obj) ∧ W.cell? ⟨(ad.add (i * 8)).block, (ad.add (i * 8)).off + 3, none⟩ = some (.int .u8 e.rt) ∧
      W.cell? ⟨(ad.add (i * 8)).block, (ad.add (i * 8)).off + 4, none⟩ = some (.int .u32 e.ow) ∧ W.cell? ⟨(ad.add (i * 8)).block, (ad.add (i * 8)).off + 5, none⟩ = some (.int .u64 e.ph) ∧ W.cell? ⟨(ad.add (i * 8)).block, (ad.add (i * 8)).off + 6, none⟩ = some (.int .u64 e.pl) ∧ W.cell? ⟨(ad.add (i * 8)).block, (ad.add (i * 8)).off + 7, none⟩ = some (.int .i64 e.ord) := by
  have hi := (List.getElem?_eq_some_iff.1 hx).1
  obtain ⟨ad, c, e2, _, hK, hc⟩ := Kd.C_get h e0 (i : Int) (by omega) (by omega)
  rw [Int.toNat_natCast] at hK hc
  have hg : xs.getD i e0 = e := by
    show xs[i]?.getD _ = _
    rw [hx]
    rfl
  rw [hg] at hK
  obtain rfl := kE_open hK
  have hc : ∀ j u, e.cs[j]? = some u → W.cell? (ad.add (i * 8 + j)) = some u := hc
  exact ⟨ad, e2, hc 0 _ rfl, by rw [← add_field _ _ 1 (by omega)]; exact hc 1 _ rfl, by rw [← add_field _ _ 2 (by omega)]; exact hc 2 _ rfl, by rw [← add_field _ _ 3 (by omega)]; exact hc 3 _ rfl, by rw [← add_field _ _ 4 (by omega)]; exact hc 4 _ rfl, by rw [← add_field _ _ 5 (by omega)]; exact hc 5 _ rfl, by rw [← add_field _ _ 6 (by omega)]; exact hc 6 _ rfl, by rw [← add_field _ _ 7 (by omega)]; exact hc 7 _ rfl⟩
theorem ER.fr {S : Nat → Prop} {w w' : World} {lo : Nat} {v : Value} {xs : List E} (h : ER w lo v xs) (hf : Fr S w w') (hs : ∀ j, lo ≤ j → ¬ S j) : ER w' lo v xs := Kd.R_step h (fun k hk hlt => hf.block k hlt (hs k hk))
theorem ER.slice {w : World} {lo : Nat} {v : Value} {xs : List E} (h : ER w lo v xs) : ∃ A c, v = .slice A xs.length c ∧ xs.length ≤ c := by
  obtain ⟨A, c, e, hl, _⟩ := Kd.R_reads h
  exact ⟨A, c, e, hl⟩
theorem ER.C {w : World} {lo : Nat} {A : Option Addr} {c : Nat} {xs : List E} (h : ER w lo (.slice A xs.length c) xs) : kE.C w A xs.length xs := by
  obtain ⟨A', c', e, _, hC⟩ := Kd.R_reads h
  injection e with e1
  rw [e1]
  exact hC
end Go.Proofs.Ytojbheiicmcnjaa.Fst
