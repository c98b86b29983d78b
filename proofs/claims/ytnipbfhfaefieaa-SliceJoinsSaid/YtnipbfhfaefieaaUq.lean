/- Texts of this claim, laid together: SlE, SlF, SlG, SlH, SlI, SlJ, SlT. -/
import Derived.Test.YtnipbfhfaefieaaUp
/-! slice's law: fill. -/
namespace Go.Proofs.Ytnipbfhfaefieaa.Pv
open Go.RowKit Go Go.Proofs.YtnipbfhfaefieaaW.PrintWords Go.Proofs.YtnipbfhfaefieaaW.PrintMore Go.Proofs.YtnipbfhfaefieaaW.PrintLast Go.Proofs.Ytnipbfhfaefieaa.Bts Go.Proofs.Ytnipbfhfaefieaa.Fra Go.Proofs.Ytnipbfhfaefieaa.ArnP Go.Proofs.Ytnipbfhfaefieaa.Arn Go.Proofs.Ytnipbfhfaefieaa.Ao
theorem VR.move {w w' : World} {S : Nat → Prop} {lo : Nat} {v : Value} {xs : List V3} (h : VR w lo v xs) (hf : Fr S w w') (hv : ∀ j, v.ownBlock = some j → ¬ S j) : VR w' lo v xs := Kd.R_mono (Kd.R_kept (Kd.R_tight2 (d := kVal) rfl h) hf.kept (fun j hj => hv j hj.1.symm)) (fun j hj => hj.2)
theorem VR.lt {w : World} {lo : Nat} {v : Value} {xs : List V3} (h : VR w lo v xs) (j : Nat) (hj : v.ownBlock = some j) : lo ≤ j ∧ j < w.heap.size := by
  obtain ⟨_, ho⟩ := Kd.R_own h
  exact ⟨own_base ho j hj, own_lt ho j hj⟩
theorem row_atC {W : World} {A : Option Addr} {xs : List V3} (h : kVal.C W A xs.length xs) (i : Nat) {k m : Int} {s : ByteArray} (hx : xs[i]? = some (k, m, s)) :
    ∃ ad, A = some ad ∧ W.cell? (ad.add (i * 3)) = some (.int .u8 k) ∧ W.cell? ⟨(ad.add (i * 3)).block, (ad.add (i * 3)).off + 1, none⟩ = some (.int .i64 m) ∧ W.cell? ⟨(ad.add (i * 3)).block, (ad.add (i * 3)).off + 2, none⟩ = some (.string s) := by
  have hi := (List.getElem?_eq_some_iff.1 hx).1
  obtain ⟨ad, c, e2, _, hK, hc⟩ := Kd.C_get h (0, 0, ⟨#[]⟩) (i : Int) (by omega) (by omega)
  rw [Int.toNat_natCast] at hK hc
  have hg : xs.getD i (0, 0, ⟨#[]⟩) = (k, m, s) := by
    show xs[i]?.getD _ = _
    rw [hx]
    rfl
  rw [hg] at hK
  obtain ⟨_, _, rfl, rfl, ⟨_, _, rfl, rfl, rfl⟩⟩ := hK
  have hc : ∀ j u, [Value.int .u8 k, Value.int .i64 m, Value.string s][j]? = some u → W.cell? (ad.add (i * 3 + j)) = some u := hc
  exact ⟨ad, e2, hc 0 _ rfl, by rw [← add_field _ _ 1 (by omega)]; exact hc 1 _ rfl, by rw [← add_field _ _ 2 (by omega)]; exact hc 2 _ rfl⟩
def fillE (l : List V3) (i : Nat) : V3 := ((l.getD (i % l.length) (0, 0, ⟨#[]⟩)).1, wrap64 ((l.getD (i % l.length) (0, 0, ⟨#[]⟩)).2.1 + (i : Int)), (l.getD (i % l.length) (0, 0, ⟨#[]⟩)).2.2)
def fillL (l : List V3) (n : Nat) : List V3 := (List.range n).map (fillE l)
theorem fillL_succ (l : List V3) (n : Nat) : fillL l (n + 1) = fillL l n ++ [fillE l n] := by
  unfold fillL
  rw [List.range_succ, List.map_append]
  rfl
theorem fillL_len (l : List V3) (n : Nat) : (fillL l n).length = n := by
  unfold fillL
  simp
set_option maxHeartbeats 4000000 in
set_option maxRecDepth 100000 in
theorem fill_calls (l : List V3) (A : Option Addr) (c : Nat) (n : Nat) (w : World) (hl : kVal.C w A l.length l) (hn : n ≤ 2000) (hll : l.length ≤ 2000) :
    Calls Try.prog 39 #[.slice A l.length c, .int .i64 n] w fun e w' => ∃ u, e = .returned u ∧ VR w' w.heap.size u (fillL l n) ∧ Below w.heap.size w w' := by
  have hn' : (n : Int) ≤ 2000 := by omega
  have hll' : (l.length : Int) ≤ 2000 := by omega
  have HL := Lib.hid hl
  clear hl
  go_enter Try.func39, Try.ntmps39
  go_wp2
  go_loopg [5, 9] n (fun q u i wr => ∃ j : Nat, q + j = n ∧ i = .int .i64 (j : Int) ∧ VR wr w.heap.size u (fillL l j) ∧ Below w.heap.size w wr)
  case atStart => exact ⟨0, rfl, rfl, VR.none _ _, Below.refl _ _⟩
  case round =>
    obtain ⟨j, hq, rfl, hR, hB⟩ := hrel
    have HR := Lib.hid hR
    have HB := Lib.hid hB
    have hRl := VR.lt hR
    have HRL := Lib.hid hRl
    clear hR hB hRl
    by_cases hj : j < n
    · have hj' : (j : Int) < (n : Int) := by omega
      have hb := blk_new wr (.cells #[.int .u8 0, .int .i64 0, .string ⟨#[]⟩] 66)
      have HN := Lib.hid hb
      have hfl := fillL_len l j
      have HFL := Lib.hid hfl
      clear hb hfl
      by_cases h0 : l.length = 0
      · have hl0 : l = [] := List.length_eq_zero_iff.1 h0
        have hpos : ¬ (0 : Int) < (l.length : Int) := by omega
        have HL0 := Lib.hid hl0
        clear h0 hl0
        go_wp2_with (at_builtin; go_loud (refine Kd.R_append kVal (w0 := w) (W := wr.alloc (.cells #[.int .u8 0, .int .i64 (j : Int), .string ⟨#[]⟩] 66)) w.heap.size rfl (.tmp 28) (.tmp 30) 41 66 (.agg #[.int .u8 0, .int .i64 0, .string (⟨#[]⟩ : ByteArray)]) 32 rfl Try.underlying41 ClV.infoVal rfl (by decide) (by decide) _ (fillL l j) (0, (j : Int), ⟨#[]⟩) [.int .u8 0, .int .i64 (j : Int), .string ⟨#[]⟩] (fun j => w.heap.size ≤ j) (fun _ => False) rfl (by rw [World.size_alloc]; rfl) ⟨_, _, rfl, rfl, _, _, rfl, rfl, rfl⟩ (fun _ hk => hk.elim) (fun j hj => by have := HB.out.size; rw [World.size_alloc] at hj; omega) (Kd.R_alloc HR.out _) (below_alloc HB.out _) (below_alloc HB.out _).size (by rw [HFL.out]; omega) ?_; intro v2 w2 ho hb _ _; have HR6 := Lib.hid ho; have HB6 := Lib.hid hb; clear ho hb))
        go_roundg (gk - 1)
        case measure => omega
        case rel =>
          refine ⟨j + 1, by omega, by simp, ?_, HB6.out⟩
          have hl0 := HL0.out
          rw [fillL_succ, hl0, show fillE [] j = (0, (j : Int), ⟨#[]⟩) by unfold fillE; simp [wrap64]; omega]
          have := HR6.out
          rw [hl0] at this
          exact this
      · have hpos : (0 : Int) < (l.length : Int) := by omega
        have hmod : j % l.length < l.length := Nat.mod_lt _ (by omega)
        obtain ⟨x, hx⟩ : ∃ x, l[j % l.length]? = some x := ⟨l[j % l.length], List.getElem?_eq_getElem hmod⟩
        obtain ⟨k, m, s⟩ := x
        obtain ⟨d, hd⟩ : ∃ d, j % l.length = d := ⟨_, rfl⟩
        have hmd : (j : Int).tmod (l.length : Int) = (d : Int) := by rw [Int.tmod_eq_emod_of_nonneg (by omega), ← hd]; first | exact (Int.natCast_emod j l.length).symm | exact (Int.ofNat_emod j l.length).symm | norm_cast
        rw [hd] at hx hmod
        have hmod' : (d : Int) < (l.length : Int) := by omega
        have hnz : ¬ (l.length : Int) = 0 := by omega
        obtain ⟨ad, e1, x0, x1, x2⟩ := row_atC (Kd.C_below HL.out (below_alloc HB.out (.cells #[.int .u8 0, .int .i64 0, .string ⟨#[]⟩] 66))) d hx
        subst e1
        have HX := Lib.hid hx
        have HD := Lib.hid hd
        clear hx hd h0
        have hfe : fillE l j = (k, wrap64 (m + (j : Int)), s) := by
          unfold fillE
          rw [HD.out, show l.getD d (0, 0, ⟨#[]⟩) = (k, m, s) by show l[d]?.getD _ = _; rw [HX.out]; rfl]
        have HFE := Lib.hid hfe
        clear hfe
        go_wp2_with (at_builtin; go_loud (refine Kd.R_append kVal (w0 := w) (W := wr.alloc (.cells #[.int .u8 k, .int .i64 (wrap64 (m + (j : Int))), .string s] 66)) w.heap.size rfl (.tmp 28) (.tmp 30) 41 66 (.agg #[.int .u8 0, .int .i64 0, .string (⟨#[]⟩ : ByteArray)]) 32 rfl Try.underlying41 ClV.infoVal rfl (by decide) (by decide) _ (fillL l j) (k, wrap64 (m + (j : Int)), s) [.int .u8 k, .int .i64 (wrap64 (m + (j : Int))), .string s] (fun j => w.heap.size ≤ j) (fun _ => False) rfl (by rw [World.size_alloc]; rfl) ⟨_, _, rfl, rfl, _, _, rfl, rfl, rfl⟩ (fun _ hk => hk.elim) (fun j hj => by have := HB.out.size; rw [World.size_alloc] at hj; omega) (Kd.R_alloc HR.out _) (below_alloc HB.out _) (below_alloc HB.out _).size (by rw [HFL.out]; omega) ?_; intro v2 w2 ho hb _ _; have HR6 := Lib.hid ho; have HB6 := Lib.hid hb; clear ho hb))
        go_roundg (gk - 1)
        case measure => omega
        case rel =>
          refine ⟨j + 1, by omega, by simp, ?_, HB6.out⟩
          rw [fillL_succ, HFE.out]
          exact HR6.out
    · have hjn : j = n := by omega
      subst hjn
      have hj' : ¬ (j : Int) < (j : Int) := by omega
      go_wp2
      go_ret
      exact ⟨_, rfl, HR.out, HB.out⟩
end Go.Proofs.Ytnipbfhfaefieaa.Pv
/-! slice.Page. -/
namespace Go.Proofs.Ytnipbfhfaefieaa.Pv
open Go.RowKit Go Go.Proofs.YtnipbfhfaefieaaW.PrintWords Go.Proofs.YtnipbfhfaefieaaW.PrintMore Go.Proofs.YtnipbfhfaefieaaW.PrintLast Go.Proofs.Ytnipbfhfaefieaa.Bts Go.Proofs.Ytnipbfhfaefieaa.Fra Go.Proofs.Ytnipbfhfaefieaa.ArnP Go.Proofs.Ytnipbfhfaefieaa.Arn Go.Proofs.Ytnipbfhfaefieaa.Ao
section
variable {O : Nat → Prop} {a : Nat} {f : Nat → Cell} {live most : Int} {ext rest : Nat → Nat}
set_option maxHeartbeats 4000000 in
set_option maxRecDepth 100000 in
theorem page_calls (n r t p q : Nat) (l : List V3) (w : World) (h : AO w O a f live most ext nop) (hv : VRep f n r t l) (he : ∀ x, vx r t x ≤ ext x) (hp : p ≤ n) (hq : q ≤ 64) :
    Calls Try.prog 44 #[.pointer (some ⟨a, 0, none⟩), vecV n r t, .int .i64 p, .int .i64 q] w fun e w' => ∃ v, e = .returned (.tuple #[v, .int .i64 0]) ∧ VR w' w.heap.size v ((l.drop p).take q) ∧ Below w.heap.size w w' := by
  have hb0 := below_alloc (Below.refl w.heap.size w) (.cells #[.int .i64 n, .int .i64 r, .int .i64 t] 61)
  have hbk := blk_new w (.cells #[.int .i64 n, .int .i64 r, .int .i64 t] 61)
  obtain ⟨W1, hW1⟩ : ∃ W1, w.alloc (.cells #[.int .i64 n, .int .i64 r, .int .i64 t] 61) = W1 := ⟨_, rfl⟩
  have hsz : W1.heap.size = w.heap.size + 1 := by rw [← hW1]; simp
  have hA := h.below hb0
  rw [hW1] at hb0 hbk hA
  have hn : n ≤ 1024 := hv.2.1
  have hln := hv.1
  have HA := Lib.hid hA
  have HB := Lib.hid hb0
  have HK := Lib.hid hbk
  have HV := Lib.hid hv
  have HE := Lib.hid he
  have HS := Lib.hid hsz
  have HW := Lib.hid hW1
  have HL := Lib.hid hln
  have hn' : (n : Int) ≤ 1024 := by omega
  have g1 : ¬ (q : Int) < 0 := by omega
  have g2 : ¬ (64 : Int) < (q : Int) := by omega
  have g3 : ¬ (p : Int) < 0 := by omega
  have g4 : ¬ (n : Int) < (p : Int) := by omega
  clear h hb0 hbk hA hv he hsz hW1 hln
  go_enter Try.func44, Try.ntmps44
  go_wp2
  go_loopg [10, 11] (min q (n - p)) (fun g v i wr => ∃ j : Nat, g + j = min q (n - p) ∧ i = .int .i64 ((p : Int) + (j : Int)) ∧ VR wr W1.heap.size v ((l.drop p).take j) ∧ Below W1.heap.size W1 wr)
  case atStart => exact ⟨0, rfl, by simp, VR.none _ _, by rw [HW.out]; exact Below.refl _ _⟩
  case round =>
    obtain ⟨j, hg, rfl, hR, hBw⟩ := hrel
    have HR := Lib.hid hR
    have HBW := Lib.hid hBw
    have hk := blk_below HK.out hBw
    have c0 := blk_cell hk 0
    have c1 := blk_cell hk 1
    have c2 := blk_cell hk 2
    have ew : wrap64 ((j : Int)) = j := by unfold wrap64; omega
    have ew2 : wrap64 ((p : Int) + (j : Int) - p) = j := by unfold wrap64; omega
    clear hR hBw hk
    by_cases hj : j < min q (n - p)
    · have hj1 : (p : Int) + (j : Int) < (n : Int) := by omega
      have hj2 : (j : Int) < (q : Int) := by omega
      obtain ⟨x, hx⟩ : ∃ x, l[p + j]? = some x := ⟨l[p + j]'(by have := HL.out; omega), List.getElem?_eq_getElem _⟩
      obtain ⟨k, m, s⟩ := x
      have htk : (l.drop p).take (j + 1) = (l.drop p).take j ++ [(k, m, s)] := by
        have hjl : j < (l.drop p).length := by rw [List.length_drop]; have := HL.out; omega
        rw [List.take_succ_eq_append_getElem hjl]
        congr 2
        rw [List.getElem_drop]
        rw [List.getElem?_eq_getElem (by have := HL.out; omega)] at hx
        exact Option.some.inj hx
      have HX := Lib.hid hx
      have HTK := Lib.hid htk
      have hlj : ((l.drop p).take j).length ≤ 64 := by rw [List.length_take]; omega
      have hget : ∀ w, AO w O a f live most ext nop → Calls Try.prog 36 #[.pointer (some ⟨a, 0, none⟩), vecV n r t, .int .i64 ((p : Int) + (j : Int))] w fun e w' => e = .returned (.tuple #[valV k m s, .int .i64 0]) ∧ Below w.heap.size w w' := fun w h => get_calls n r t (p + j) l k m s w h HV.out HE.out HX.out
      have HG := Lib.hid hget
      clear hx htk hget
      go_wp2_with (first
        | (go_at_call 36; go_loud (refine (HG.out _ (HA.out.below HBW.out)).mono ?_; rintro e w5 ⟨rfl, hB5⟩; have hb5 := HBW.out.trans (hB5.mono HBW.out.size); have HB5 := Lib.hid (below_alloc hb5 (.cells #[.int .u8 k, .int .i64 m, .string s] 66)); have HR5 := Lib.hid (Kd.R_alloc (Kd.R_below HR.out hB5) (.cells #[.int .u8 k, .int .i64 m, .string s] 66)); clear hB5 hb5))
        | (at_builtin; go_loud (refine Kd.R_append kVal (w0 := W1) W1.heap.size rfl (.tmp 54) (.tmp 56) 41 66 (.agg #[.int .u8 0, .int .i64 0, .string (⟨#[]⟩ : ByteArray)]) 32 rfl Try.underlying41 ClV.infoVal rfl (by decide) (by decide) _ ((l.drop p).take j) (k, m, s) [.int .u8 k, .int .i64 m, .string s] (fun j => W1.heap.size ≤ j) (fun _ => False) rfl (by rw [World.size_alloc]; rfl) ⟨_, _, rfl, rfl, _, _, rfl, rfl, rfl⟩ (fun _ hk => hk.elim) (fun j hj => by have := HB5.out.size; omega) HR5.out HB5.out HB5.out.size (by omega) ?_; intro v2 w2 ho hb _ _; have HR6 := Lib.hid ho; have HB6 := Lib.hid hb; clear ho hb)))
      go_roundg (gk - 1)
      case measure => omega
      case rel => exact ⟨j + 1, by omega, by simp; omega, by rw [HTK.out]; exact HR6.out, HB6.out⟩
    · have hjm : j = min q (n - p) := by omega
      have hfin : ∀ {v : Value} {W : World}, VR W W1.heap.size v ((l.drop p).take j) → Below W1.heap.size W1 W → ∃ u, Ending.returned (.tuple #[v, .int .i64 0]) = .returned (.tuple #[u, .int .i64 0]) ∧ VR W w.heap.size u ((l.drop p).take q) ∧ Below w.heap.size w W := fun {v W} hR hB => by
        have hz := HS.out
        have hln := HL.out
        have e1 : (l.drop p).take q = (l.drop p).take j := by
          rw [hjm]
          by_cases hc : q ≤ n - p
          · rw [Nat.min_eq_left hc]
          · rw [Nat.min_eq_right (by omega), List.take_of_length_le (by rw [List.length_drop]; omega), List.take_of_length_le (by rw [List.length_drop]; omega)]
        rw [e1]
        exact ⟨_, rfl, Kd.R_lower (Kd.R_mono hR (fun j hj => by omega)) (by omega), HB.out.trans (hB.mono HB.out.size)⟩
      have HF := Lib.hid (hfin HR.out HBW.out)
      clear hfin
      by_cases hc : p + j < n
      · have hj1 : (p : Int) + (j : Int) < (n : Int) := by omega
        have hj2 : ¬ (j : Int) < (q : Int) := by omega
        clear hjm hj
        go_wp2
        go_ret2
        exact HF.out
      · have hj1 : ¬ (p : Int) + (j : Int) < (n : Int) := by omega
        clear hjm hj
        go_wp2
        go_ret2
        exact HF.out
end
end Go.Proofs.Ytnipbfhfaefieaa.Pv
/-! slice: the chapter's example. -/
namespace Go.Proofs.Ytnipbfhfaefieaa.Sl
open Go.RowKit Go Go.Proofs.YtnipbfhfaefieaaW.PrintWords Go.Proofs.YtnipbfhfaefieaaW.PrintMore Go.Proofs.YtnipbfhfaefieaaW.PrintLast Go.Proofs.Ytnipbfhfaefieaa.Bts Go.Proofs.Ytnipbfhfaefieaa.Fra Go.Proofs.Ytnipbfhfaefieaa.ArnP Go.Proofs.Ytnipbfhfaefieaa.Arn Go.Proofs.Ytnipbfhfaefieaa.Ao Go.Proofs.Ytnipbfhfaefieaa.Pv
def l3 : List V3 := [(2, 1, ⟨#[]⟩), (2, 2, ⟨#[]⟩), (2, 3, ⟨#[]⟩)]
theorem row_l3 (w : World) : VR (w.alloc (.cells #[.int .u8 2, .int .i64 1, .string ⟨#[]⟩, .int .u8 2, .int .i64 2, .string ⟨#[]⟩, .int .u8 2, .int .i64 3, .string ⟨#[]⟩] 66)) w.heap.size (.slice (some ⟨w.heap.size, 0, none⟩) 3 3) l3 := by
  have h := World.ownsRow_lit (base := w.heap.size) (e := 66) (size := 3) w #[.int .u8 2, .int .i64 1, .string ⟨#[]⟩, .int .u8 2, .int .i64 2, .string ⟨#[]⟩, .int .u8 2, .int .i64 3, .string ⟨#[]⟩] 3 (Nat.le_refl _) (by unfold maxLen; omega) rfl
  refine ⟨fun j hj => ?_, _, h, ⟨rfl, fun i x hx => ?_⟩⟩
  · have : w.heap.size = j := Option.some.inj hj
    omega
  · rcases i with _ | _ | _ | i
    · obtain rfl : (2, 1, ⟨#[]⟩) = x := Option.some.inj hx
      exact ⟨_, _, rfl, rfl, _, _, rfl, rfl, rfl⟩
    · obtain rfl : (2, 2, ⟨#[]⟩) = x := Option.some.inj hx
      exact ⟨_, _, rfl, rfl, _, _, rfl, rfl, rfl⟩
    · obtain rfl : (2, 3, ⟨#[]⟩) = x := Option.some.inj hx
      exact ⟨_, _, rfl, rfl, _, _, rfl, rfl, rfl⟩
    · cases hx
theorem no0_vx : (fun z => no0 z + vx 0 0 z) = no0 := by
  funext z
  rfl
theorem from_l3 {O Q : Nat → Prop} {a : Nat} (v : Value) (w : World) (h : AO w O a f0 0 50 no0 nop) (hl : RowIn kVal w Q v l3) (hQ : ∀ j, Q j → ¬ O j) :
    Calls Try.prog 40 #[.pointer (some ⟨a, 0, none⟩), v] w fun e w' => ∃ (r t : Nat) (O' : Nat → Prop) (f' : Nat → Cell) (live' : Int), e = .returned (.tuple #[vecV 3 r t, .int .i64 0]) ∧ AO w' O' a f' live' 50 (fun z => no0 z + vx r t z) nop ∧ VRep f' 3 r t l3 ∧ (∀ j, O' j → O j ∨ w.heap.size ≤ j) ∧ Fr O w w' := by
  refine (from_calls l3 v w h hl hQ (by decide) (fun _ => Nat.zero_le _)).mono ?_
  intro e w' hp
  unfold FromPost at hp
  rcases hp with ⟨r, t, O', f', live', rfl, hA, hV, _, hO, hF⟩ | ⟨c, O', f', live', rfl, hc, _⟩
  · exact ⟨r, t, O', f', live', rfl, hA, hV, hO, hF⟩
  · rcases hc with ⟨_, q⟩ | ⟨_, q⟩
    · exact absurd q (by decide)
    · exact absurd q (by decide)
set_option maxHeartbeats 4000000 in
set_option maxRecDepth 100000 in
theorem lives_calls (w : World) : Calls Try.prog 38 #[] w fun e w' => e = .returned (.bool true) ∧ Below w.heap.size w w' := by
  go_enter Try.func38, Try.ntmps38
  go_wp2_with (first
    | (go_at_call 44; go_loud (refine (HPG.out _ HA4.out).mono ?_; rintro e w5 ⟨v5, rfl, hV5, hB5⟩; obtain ⟨g, c, e5, hg1, hg2, t0, t1, t2⟩ := VR.get hV5 0 rfl; have e5 : v5 = .slice (some ⟨g, 0, none⟩) 2 c := e5; subst e5; have hk5 := blk_below HK4.out hB5; have HK5 := Lib.hid hk5; have HB5 := Lib.hid hB5; clear hV5 hB5 hk5))
    | (go_at_call 40; go_loud (refine (from_l3 _ _ (HA1.out.below (below_alloc (Below.refl _ _) _)) (RowIn.of_R (row_l3 _)) (fun j hj hj2 => by have := HA1.out.lt j hj2; omega)).mono ?_; rintro e w4 ⟨r, t, O4, f4, live4, rfl, hA4, hV4, hO4, hF4⟩; have hpg : ∀ w, AO w O4 a f4 live4 50 (fun z => no0 z + vx r t z) nop → Calls Try.prog 44 #[.pointer (some ⟨a, 0, none⟩), vecV 3 r t, .int .i64 1, .int .i64 9] w fun e w' => ∃ v, e = .returned (.tuple #[v, .int .i64 0]) ∧ VR w' w.heap.size v [(2, 2, ⟨#[]⟩), (2, 3, ⟨#[]⟩)] ∧ Below w.heap.size w w' := (fun w h => page_calls 3 r t 1 9 l3 w h hV4 (fun x => Nat.le_add_left _ _) (by decide) (by decide)); have HPG := Lib.hid hpg; have HA4 := Lib.hid (hA4.below (below_alloc (Below.refl _ _) (.cells #[.int .i64 3, .int .i64 r, .int .i64 t] 61))); have HK4 := Lib.hid (blk_new w4 (.cells #[.int .i64 3, .int .i64 r, .int .i64 t] 61)); have HO4 := Lib.hid hO4; have HF4 := Lib.hid hF4; have HB4 := Lib.hid HB1.out; clear hpg hA4 hV4 hO4 hF4))
    | (go_at_call 34; go_loud (refine (number_calls _ _).mono ?_; rintro e w2 ⟨rfl, hB2⟩; have HBn := Lib.hid (HB1.out.trans (hB2.mono HB1.out.size)); have HAn := Lib.hid (HA1.out.below hB2); clear HB1 HA1; have HB1 := HBn; have HA1 := HAn; clear HBn HAn hB2))
    | (go_at_call 20; go_loud (refine (new_AO 50 _ (by decide) (by decide)).mono ?_; rintro e w1 ⟨a, O, rfl, hA1, hO1, hB1⟩; rw [no0_vx] at hA1; have HA1 := Lib.hid hA1; have HO1 := Lib.hid hO1; have HB1 := Lib.hid hB1; clear hA1 hO1 hB1)))
  have hd : Below w5.heap.size w5 w5.drew := below_drew1 (Below.refl _ _)
  have hFd : Fr (fun _ => False) w5 w5.drew := Fr.of_new hd
  have d0 : w5.drew.cell? ⟨g, 0, none⟩ = some (.int .u8 2) := hFd.cell t0 (fun h => h)
  have d1 : w5.drew.cell? ⟨g, 1, none⟩ = some (.int .i64 2) := hFd.cell t1 (fun h => h)
  have d2 : w5.drew.cell? ⟨g, 2, none⟩ = some (.string ⟨#[]⟩) := hFd.cell t2 (fun h => h)
  have d3 : w5.drew.cell? ⟨w4.heap.size, 0, none⟩ = some (.int .i64 3) := blk_cell (blk_below HK5.out hd) 0
  obtain ⟨V, hV⟩ : ∃ V, w5.drew = V := ⟨_, rfl⟩
  rw [hV] at d0 d1 d2 d3 hd
  have HD := Lib.hid hd
  clear hFd t0 t1 t2 hd
  refine start_ (n := 24) (S := fun w' => w'.cell? ⟨g, 0, none⟩ = some (.int .u8 2) ∧ w'.cell? ⟨g, 1, none⟩ = some (.int .i64 2) ∧ w'.cell? ⟨g, 2, none⟩ = some (.string ⟨#[]⟩) ∧ w'.cell? ⟨w4.heap.size, 0, none⟩ = some (.int .i64 3)) (ds := []) #[false, false, false, false, false, false, false, false, false, false, false, false, false, false, false, false, false, false, false, false, false, false, false, false] (by kernel_rfl) rfl rfl ⟨(by rw [hV]; exact d0), (by rw [hV]; exact d1), (by rw [hV]; exact d2), (by rw [hV]; exact d3)⟩ (fun hHeld => ?_)
  refine pure_ (i := 0) (N := some 26) (v := ?_) (a' := ?_) #[true, false, false, false, false, false, false, false, false, false, false, false, false, false, false, false, false, false, false, false, false, false, false, false] rfl rfl (by kernel_rfl) (fun _ _ _ h => h) (Or.inl ⟨by rfl, ?_⟩) ?_ ?_
  rotate_left
  · intro w'
    go_simp
    with_reducible rfl
  rotate_left
  · simp only [Act.put, List.setIfInBounds_toArray, List.set_cons_zero, List.set_cons_succ, i64_w, i32_w]
    rfl
  refine pure_ (i := 1) (N := some 27) (v := ?_) (a' := ?_) #[true, true, false, false, false, false, false, false, false, false, false, false, false, false, false, false, false, false, false, false, false, false, false, false] rfl rfl (by kernel_rfl) (fun _ _ _ h => h) (Or.inl ⟨by rfl, ?_⟩) ?_ ?_
  rotate_left
  · intro w'
    go_simp
    with_reducible rfl
  rotate_left
  · simp only [Act.put, List.setIfInBounds_toArray, List.set_cons_zero, List.set_cons_succ, i64_w, i32_w]
    rfl
  refine pure_ (i := 2) (N := some 28) (v := ?_) (a' := ?_) #[true, true, true, false, false, false, false, false, false, false, false, false, false, false, false, false, false, false, false, false, false, false, false, false] rfl rfl (by kernel_rfl) (fun _ _ _ h => h) (Or.inl ⟨by rfl, ?_⟩) ?_ ?_
  rotate_left
  · intro w'
    go_simp
    with_reducible rfl
  rotate_left
  · simp only [Act.put, List.setIfInBounds_toArray, List.set_cons_zero, List.set_cons_succ, i64_w, i32_w]
    rfl
  refine pure_ (i := 3) (N := some 29) (v := ?_) (a' := ?_) #[true, true, true, true, false, false, false, false, false, false, false, false, false, false, false, false, false, false, false, false, false, false, false, false] rfl rfl (by kernel_rfl) (fun _ _ _ h => h) (Or.inl ⟨by rfl, ?_⟩) ?_ ?_
  rotate_left
  · intro w'
    go_simp
    with_reducible rfl
  rotate_left
  · simp only [Act.put, List.setIfInBounds_toArray, List.set_cons_zero, List.set_cons_succ, i64_w, i32_w]
    rfl
  refine pure_ (i := 4) (N := some 30) (v := ?_) (a' := ?_) #[true, true, true, true, true, false, false, false, false, false, false, false, false, false, false, false, false, false, false, false, false, false, false, false] rfl rfl (by kernel_rfl) (fun _ _ _ h => h) (Or.inl ⟨by rfl, ?_⟩) ?_ ?_
  rotate_left
  · intro w'
    go_simp
    with_reducible rfl
  rotate_left
  · simp only [Act.put, List.setIfInBounds_toArray, List.set_cons_zero, List.set_cons_succ, i64_w, i32_w]
    rfl
  refine pure_ (i := 5) (N := some 31) (v := ?_) (a' := ?_) #[true, true, true, true, true, true, false, false, false, false, false, false, false, false, false, false, false, false, false, false, false, false, false, false] rfl rfl (by kernel_rfl) (fun _ _ _ h => h) (Or.inl ⟨by rfl, ?_⟩) ?_ ?_
  rotate_left
  · intro w'
    go_simp
    with_reducible rfl
  rotate_left
  · simp only [Act.put, List.setIfInBounds_toArray, List.set_cons_zero, List.set_cons_succ, i64_w, i32_w]
    rfl
  refine pure_ (i := 6) (N := some 32) (v := ?_) (a' := ?_) #[true, true, true, true, true, true, true, false, false, false, false, false, false, false, false, false, false, false, false, false, false, false, false, false] rfl rfl (by kernel_rfl) (fun _ _ _ h => h) (Or.inl ⟨by rfl, ?_⟩) ?_ ?_
  rotate_left
  · intro w'
    go_simp
    with_reducible rfl
  rotate_left
  · simp only [Act.put, List.setIfInBounds_toArray, List.set_cons_zero, List.set_cons_succ, i64_w, i32_w]
    rfl
  refine pure_ (i := 7) (N := some 33) (v := ?_) (a' := ?_) #[true, true, true, true, true, true, true, true, false, false, false, false, false, false, false, false, false, false, false, false, false, false, false, false] rfl rfl (by kernel_rfl) (fun _ _ _ h => h) (Or.inl ⟨by rfl, ?_⟩) ?_ ?_
  rotate_left
  · intro w'
    go_simp
    with_reducible rfl
  rotate_left
  · simp only [Act.put, List.setIfInBounds_toArray, List.set_cons_zero, List.set_cons_succ, i64_w, i32_w]
    rfl
  refine pure_ (i := 8) (N := some 34) (v := ?_) (a' := ?_) #[true, true, true, true, true, true, true, true, true, false, false, false, false, false, false, false, false, false, false, false, false, false, false, false] rfl rfl (by kernel_rfl) (fun _ _ _ h => h) (Or.inl ⟨by rfl, ?_⟩) ?_ ?_
  rotate_left
  · intro w'
    go_simp
    with_reducible rfl
  rotate_left
  · simp only [Act.put, List.setIfInBounds_toArray, List.set_cons_zero, List.set_cons_succ, i64_w, i32_w]
    rfl
  refine pure_ (i := 9) (N := some 35) (v := ?_) (a' := ?_) #[true, true, true, true, true, true, true, true, true, true, false, false, false, false, false, false, false, false, false, false, false, false, false, false] rfl rfl (by kernel_rfl) (fun _ _ _ h => h) (Or.inl ⟨by rfl, ?_⟩) ?_ ?_
  rotate_left
  · intro w'
    go_simp
    with_reducible rfl
  rotate_left
  · simp only [Act.put, List.setIfInBounds_toArray, List.set_cons_zero, List.set_cons_succ, i64_w, i32_w]
    rfl
  refine pure_ (i := 10) (N := some 36) (v := ?_) (a' := ?_) #[true, true, true, true, true, true, true, true, true, true, true, false, false, false, false, false, false, false, false, false, false, false, false, false] rfl rfl (by kernel_rfl) (fun _ _ _ h => h) (Or.inl ⟨by rfl, ?_⟩) ?_ ?_
  rotate_left
  · intro w'
    go_simp
    with_reducible rfl
  rotate_left
  · simp only [Act.put, List.setIfInBounds_toArray, List.set_cons_zero, List.set_cons_succ, i64_w, i32_w]
    rfl
  refine pure_ (i := 11) (N := some 37) (v := ?_) (a' := ?_) #[true, true, true, true, true, true, true, true, true, true, true, true, false, false, false, false, false, false, false, false, false, false, false, false] rfl rfl (by kernel_rfl) (fun _ _ _ h => h) (Or.inl ⟨by rfl, ?_⟩) ?_ ?_
  rotate_left
  · intro w'
    go_simp
    with_reducible rfl
  rotate_left
  · simp only [Act.put, List.setIfInBounds_toArray, List.set_cons_zero, List.set_cons_succ, i64_w, i32_w]
    rfl
  refine pure_ (i := 12) (N := some 38) (v := ?_) (a' := ?_) #[true, true, true, true, true, true, true, true, true, true, true, true, true, false, false, false, false, false, false, false, false, false, false, false] rfl rfl (by kernel_rfl) (fun _ _ _ h => h) (Or.inl ⟨by rfl, ?_⟩) ?_ ?_
  rotate_left
  · intro w'
    go_simp
    with_reducible rfl
  rotate_left
  · simp only [Act.put, List.setIfInBounds_toArray, List.set_cons_zero, List.set_cons_succ, i64_w, i32_w]
    rfl
  refine pure_ (i := 13) (N := some 39) (v := ?_) (a' := ?_) #[true, true, true, true, true, true, true, true, true, true, true, true, true, true, false, false, false, false, false, false, false, false, false, false] rfl rfl (by kernel_rfl) (fun _ _ _ h => h) (Or.inl ⟨by rfl, ?_⟩) ?_ ?_
  rotate_left
  · intro w'
    go_simp
    with_reducible rfl
  rotate_left
  · simp only [Act.put, List.setIfInBounds_toArray, List.set_cons_zero, List.set_cons_succ, i64_w, i32_w]
    rfl
  refine take_ (i := 14) (N := some 40) (v := ?_) (a' := ?_) #[true, true, true, true, true, true, true, true, true, true, true, true, true, true, true, false, false, false, false, false, false, false, false, false] rfl rfl (by kernel_rfl) (fun _ _ _ h => h) (Or.inl ⟨by rfl, ?_⟩) hHeld ?_ ?_
  rotate_left
  · rintro w' ⟨s0, s1, s2, s3⟩
    go_simp
    with_reducible rfl
  rotate_left
  · simp only [Act.put, List.setIfInBounds_toArray, List.set_cons_zero, List.set_cons_succ, i64_w, i32_w]
    rfl
  refine one_ (i := 15) (N := some 41) #[true, true, true, true, true, true, true, true, true, true, true, true, true, true, true, true, false, false, false, false, false, false, false, false] rfl rfl (by kernel_rfl) (by decide) (fun K hK => ?_)
  refine goes_ Try.func34 (by kernel_rfl) rfl #[.int .i64 2] (by rfl) rfl rfl (by simp only [List.map_toArray, List.map_cons, List.map_nil]; rfl) ?_
  with_reducible refine (number_calls 2 _).mono ?_
  rintro e w6 ⟨rfl, hB6⟩
  refine ⟨_, rfl, ?_⟩
  have hB6 : Below V.heap.size V w6 := hV ▸ hB6
  have HB6 := Lib.hid hB6
  have hF6 : Fr (fun _ => False) V w6 := Fr.of_new hB6
  refine hK.out _ _ ⟨(hF6.cell d0 (fun h => h)), (hF6.cell d1 (fun h => h)), (hF6.cell d2 (fun h => h)), (hF6.cell d3 (fun h => h))⟩ (fun hHeld => ?_)
  clear hK K
  refine norm_ (a' := ?_) ?_ ?_
  rotate_left
  · show Act.put _ (some 41) _ = _
    simp only [Act.put, List.setIfInBounds_toArray, List.set_cons_zero, List.set_cons_succ, i64_w, i32_w]
    rfl
  refine pure_ (i := 16) (N := some 42) (v := ?_) (a' := ?_) #[true, true, true, true, true, true, true, true, true, true, true, true, true, true, true, true, true, false, false, false, false, false, false, false] rfl rfl (by kernel_rfl) (fun _ _ _ h => h) (Or.inl ⟨by rfl, ?_⟩) ?_ ?_
  rotate_left
  · intro w'
    go_simp
    with_reducible rfl
  rotate_left
  · simp only [Act.put, List.setIfInBounds_toArray, List.set_cons_zero, List.set_cons_succ, i64_w, i32_w]
    rfl
  refine pure_ (i := 17) (N := some 43) (v := ?_) (a' := ?_) #[true, true, true, true, true, true, true, true, true, true, true, true, true, true, true, true, true, true, false, false, false, false, false, false] rfl rfl (by kernel_rfl) (fun _ _ _ h => h) (Or.inl ⟨by rfl, ?_⟩) ?_ ?_
  rotate_left
  · intro w'
    go_simp
    with_reducible rfl
  rotate_left
  · simp only [Act.put, List.setIfInBounds_toArray, List.set_cons_zero, List.set_cons_succ, i64_w, i32_w]
    rfl
  refine pure_ (i := 18) (N := some 44) (v := ?_) (a' := ?_) #[true, true, true, true, true, true, true, true, true, true, true, true, true, true, true, true, true, true, true, false, false, false, false, false] rfl rfl (by kernel_rfl) (fun _ _ _ h => h) (Or.inl ⟨by rfl, ?_⟩) ?_ ?_
  rotate_left
  · intro w'
    go_simp
    with_reducible rfl
  rotate_left
  · simp only [Act.put, List.setIfInBounds_toArray, List.set_cons_zero, List.set_cons_succ, i64_w, i32_w]
    rfl
  refine pure_ (i := 19) (N := some 45) (v := ?_) (a' := ?_) #[true, true, true, true, true, true, true, true, true, true, true, true, true, true, true, true, true, true, true, true, false, false, false, false] rfl rfl (by kernel_rfl) (fun _ _ _ h => h) (Or.inl ⟨by rfl, ?_⟩) ?_ ?_
  rotate_left
  · intro w'
    go_simp
    with_reducible rfl
  rotate_left
  · simp only [Act.put, List.setIfInBounds_toArray, List.set_cons_zero, List.set_cons_succ, i64_w, i32_w]
    rfl
  refine take_ (i := 20) (N := some 46) (v := ?_) (a' := ?_) #[true, true, true, true, true, true, true, true, true, true, true, true, true, true, true, true, true, true, true, true, true, false, false, false] rfl rfl (by kernel_rfl) (fun _ _ _ h => h) (Or.inl ⟨by rfl, ?_⟩) hHeld ?_ ?_
  rotate_left
  · rintro w' ⟨s0, s1, s2, s3⟩
    go_simp
    with_reducible rfl
  rotate_left
  · simp only [Act.put, List.setIfInBounds_toArray, List.set_cons_zero, List.set_cons_succ, i64_w, i32_w]
    rfl
  refine pure_ (i := 21) (N := some 47) (v := ?_) (a' := ?_) #[true, true, true, true, true, true, true, true, true, true, true, true, true, true, true, true, true, true, true, true, true, true, false, false] rfl rfl (by kernel_rfl) (fun _ _ _ h => h) (Or.inl ⟨by rfl, ?_⟩) ?_ ?_
  rotate_left
  · intro w'
    go_simp
    with_reducible rfl
  rotate_left
  · simp only [Act.put, List.setIfInBounds_toArray, List.set_cons_zero, List.set_cons_succ, i64_w, i32_w]
    rfl
  refine pure_ (i := 22) (N := some 48) (v := ?_) (a' := ?_) #[true, true, true, true, true, true, true, true, true, true, true, true, true, true, true, true, true, true, true, true, true, true, true, false] rfl rfl (by kernel_rfl) (fun _ _ _ h => h) (Or.inl ⟨by rfl, ?_⟩) ?_ ?_
  rotate_left
  · intro w'
    go_simp
    with_reducible rfl
  rotate_left
  · simp only [Act.put, List.setIfInBounds_toArray, List.set_cons_zero, List.set_cons_succ, i64_w, i32_w]
    rfl
  refine pure_ (i := 23) (N := some 0) (v := ?_) (a' := ?_) #[true, true, true, true, true, true, true, true, true, true, true, true, true, true, true, true, true, true, true, true, true, true, true, true] rfl rfl (by kernel_rfl) (fun _ _ _ h => h) (Or.inl ⟨by rfl, ?_⟩) ?_ ?_
  rotate_left
  · intro w'
    go_simp
    with_reducible rfl
  rotate_left
  · simp only [Act.put, List.setIfInBounds_toArray, List.set_cons_zero, List.set_cons_succ, i64_w, i32_w]
    rfl
  refine done_ (by kernel_rfl) ?_

  go_wp2
  go_ret
  have hF := (((((((Fr.of_new (S := fun j => w.heap.size ≤ j) HB4.out).more (below_alloc (Below.refl _ _) (.cells #[.int .u8 2, .int .i64 1, .string ⟨#[]⟩, .int .u8 2, .int .i64 2, .string ⟨#[]⟩, .int .u8 2, .int .i64 3, .string ⟨#[]⟩] 66))).then_ HF4.out (fun i hi => .inl (HO1.out i hi))).more (below_alloc (Below.refl _ _) (.cells #[.int .i64 3, .int .i64 r, .int .i64 t] 61))).more HB5.out).more HD.out).more HB6.out)
  exact ⟨rfl, Fr.below hF (fun _ h => h) (Nat.le_refl _)⟩
end Go.Proofs.Ytnipbfhfaefieaa.Sl
/-! slice: SliceRoom. -/
namespace Go.Proofs.Ytnipbfhfaefieaa.Sl
open Go.RowKit Go Go.Proofs.YtnipbfhfaefieaaW.PrintWords Go.Proofs.YtnipbfhfaefieaaW.PrintMore Go.Proofs.YtnipbfhfaefieaaW.PrintLast Go.Proofs.Ytnipbfhfaefieaa.Bts Go.Proofs.Ytnipbfhfaefieaa.Fra Go.Proofs.Ytnipbfhfaefieaa.ArnP Go.Proofs.Ytnipbfhfaefieaa.Arn Go.Proofs.Ytnipbfhfaefieaa.Ao Go.Proofs.Ytnipbfhfaefieaa.Pv
theorem mod_nat (x : Int) (n : Nat) (hn : 0 < n) (hb : n ≤ 100000) : ∃ k : Nat, (IntKind.u64.wrap x).tmod (n : Int) = k ∧ k < n ∧ wrap64 (k : Int) = k := by
  have h1 : 0 ≤ IntKind.u64.wrap x := (by rw [IntKind.wrap_u64]; omega)
  have h2 : 0 ≤ (IntKind.u64.wrap x).tmod (n : Int) := Int.tmod_nonneg _ h1
  have h3 : (IntKind.u64.wrap x).tmod (n : Int) < (n : Int) := Int.tmod_lt_of_pos _ (by omega)
  obtain ⟨m, hm⟩ : ∃ m, (IntKind.u64.wrap x).tmod (n : Int) = m := ⟨_, rfl⟩
  rw [hm] at h2 h3 ⊢
  refine ⟨m.toNat, by omega, by omega, ?_⟩
  unfold wrap64
  omega
end Go.Proofs.Ytnipbfhfaefieaa.Sl
/-! slice: a part of a row of values; fits; pages and cuts that are refused; a cut. -/
namespace Go.Proofs.Ytnipbfhfaefieaa.Sl
open Go.RowKit Go Go.Proofs.YtnipbfhfaefieaaW.PrintWords Go.Proofs.YtnipbfhfaefieaaW.PrintMore Go.Proofs.YtnipbfhfaefieaaW.PrintLast Go.Proofs.Ytnipbfhfaefieaa.Bts Go.Proofs.Ytnipbfhfaefieaa.Fra Go.Proofs.Ytnipbfhfaefieaa.ArnP Go.Proofs.Ytnipbfhfaefieaa.Arn Go.Proofs.Ytnipbfhfaefieaa.Ao Go.Proofs.Ytnipbfhfaefieaa.Pv
def subV (a : Option Addr) (l c : Nat) : Option Addr := if c = l then a else a.map (·.add (l * 3))
theorem unVal : Try.prog.underlying 41 = some (.slice (Try.prog.elem 41)) := by kernel_rfl
theorem szVal (w : World) : (sizeOf (Try.prog.elem 41)).run Try.prog w = .ok 3 w := by kernel_rfl
theorem sl_val (w : World) (a : Option Addr) (m c p n : Nat) (h : (p : Int) + (n : Int) ≤ (c : Int)) :
    (Instr.slice 41 (.slice a m c) (some (.int .i64 (p : Int))) (some (.int .i64 ((p : Int) + (n : Int)))) none).run Try.prog w = .ok (.slice (subV a p c) n (c - p)) w := by
  rw [run_slice_lh w 41 a m c unVal .i64 .i64 (p : Int) ((p : Int) + (n : Int)) (by omega) (by omega) h, szVal]
  have e : ((p : Int) + (n : Int)).toNat = p + n := by omega
  have e2 : (p : Int).toNat = p := by omega
  have e3 : p + n - p = n := by omega
  simp only [Result.andThen, sliced, subV, e, e2, e3]
def small (l : List V3) : Bool := l.all fun x => decide ((x.2.2.size : Int) ≤ 50)
def fitsB (l : List V3) : Bool := small l && decide ((l.length : Int) ≤ 60)
theorem small_snoc (l : List V3) (x : V3) : small (l ++ [x]) = (small l && decide ((x.2.2.size : Int) ≤ 50)) := by simp [small]
theorem small_mem {l : List V3} {i : Nat} {x : V3} (h : l[i]? = some x) (hx : ¬ (x.2.2.size : Int) ≤ 50) : small l = false := by
  unfold small
  rw [List.all_eq_false]
  exact ⟨x, List.mem_of_getElem? h, by simpa using hx⟩
set_option maxHeartbeats 4000000 in
set_option maxRecDepth 100000 in
theorem fits_calls (l : List V3) (A : Option Addr) (c : Nat) (w : World) (hl : kVal.C w A l.length l) (hll : l.length ≤ 4611686018427387904) :
    Calls Try.prog 43 #[.slice A l.length c] w fun e w' => e = .returned (.bool (fitsB l)) ∧ Below w.heap.size w w' := by
  have hll' : (l.length : Int) ≤ 4611686018427387904 := by omega
  obtain ⟨F, hF⟩ : ∃ F, fitsB l = F := ⟨_, rfl⟩
  rw [hF]
  have HF := Lib.hid hF
  have HL := Lib.hid hl
  clear hl hF
  go_enter Try.func43, Try.ntmps43
  go_wp2
  go_loopg [7] l.length (fun q i wr => ∃ j : Nat, q + j = l.length ∧ i = .int .i64 (j : Int) ∧ small (l.take j) = true ∧ Below w.heap.size w wr)
  case atStart => exact ⟨0, rfl, rfl, rfl, Below.refl _ _⟩
  case round =>
    obtain ⟨j, hq, rfl, hsm, hB⟩ := hrel
    have HB := Lib.hid hB
    have HSM := Lib.hid hsm
    clear hB hsm
    by_cases hj : j < l.length
    · have hj' : (j : Int) < (l.length : Int) := by omega
      obtain ⟨x, hx⟩ : ∃ x, l[j]? = some x := ⟨l[j], List.getElem?_eq_getElem hj⟩
      obtain ⟨k, m, s⟩ := x
      obtain ⟨ad, e1, x0, x1, x2⟩ := row_atC (Kd.C_below HL.out HB.out) j hx
      subst e1
      have HX := Lib.hid hx
      clear hx
      have hb := blk_cell (blk_new wr (.cells #[.int .u8 k, .int .i64 m, .string s] 66)) 2
      by_cases hs : (50 : Int) < (s.size : Int)
      · go_wp2
        go_ret
        refine ⟨?_, below_alloc HB.out _⟩
        have hF := HF.out
        unfold fitsB at hF
        rw [small_mem HX.out (by show ¬ (s.size : Int) ≤ 50; omega)] at hF
        rw [← hF]
        rfl
      · go_wp2
        go_roundg (gk - 1)
        case measure => omega
        case rel =>
          refine ⟨j + 1, by omega, by simp, ?_, below_alloc HB.out _⟩
          have hjl := (List.getElem?_eq_some_iff.1 HX.out).1
          have hxx := HX.out
          rw [List.getElem?_eq_getElem hjl] at hxx
          rw [List.take_succ_eq_append_getElem hjl, Option.some.inj hxx, small_snoc, HSM.out]
          show decide ((s.size : Int) ≤ 50) = true
          exact decide_eq_true (by omega)
    · have hjn : j = l.length := by omega
      subst hjn
      have hj' : ¬ (l.length : Int) < (l.length : Int) := by omega
      go_wp2
      go_ret
      refine ⟨?_, HB.out⟩
      have hF := HF.out
      have hsm := HSM.out
      rw [List.take_length] at hsm
      unfold fitsB at hF
      rw [hsm, Bool.true_and] at hF
      rw [← hF]
      rfl
end Go.Proofs.Ytnipbfhfaefieaa.Sl
/-! slice.Cut. -/
namespace Go.Proofs.Ytnipbfhfaefieaa.Sl
open Go.RowKit Go Go.Proofs.YtnipbfhfaefieaaW.PrintWords Go.Proofs.YtnipbfhfaefieaaW.PrintMore Go.Proofs.YtnipbfhfaefieaaW.PrintLast Go.Proofs.Ytnipbfhfaefieaa.Bts Go.Proofs.Ytnipbfhfaefieaa.Fra Go.Proofs.Ytnipbfhfaefieaa.ArnP Go.Proofs.Ytnipbfhfaefieaa.Arn Go.Proofs.Ytnipbfhfaefieaa.Ao Go.Proofs.Ytnipbfhfaefieaa.Pv
theorem from_ok {O Q : Nat → Prop} {a : Nat} {f : Nat → Cell} {live most : Int} {rest : Nat → Nat} (k : Nat) (l : List V3) (v : Value) (w : World) (h : AO w O a f live most rest nop) (hl : RowIn kVal w Q v l) (hQ : ∀ j, Q j → ¬ O j) (hk : l.length = k) (hk2 : k ≤ 1024) (hb : ∀ x, rest x ≤ 50000000000) (hroom : 40 ≤ most - live) :
    Calls Try.prog 40 #[.pointer (some ⟨a, 0, none⟩), v] w fun e w' => ∃ (r t : Nat) (O' : Nat → Prop) (f' : Nat → Cell) (live' : Int), e = .returned (.tuple #[vecV k r t, .int .i64 0]) ∧ Hid (AO w' O' a f' live' most (fun z => rest z + vx r t z) nop) ∧ Hid (VRep f' k r t l) ∧ Hid (KeepR rest nop f f') ∧ Hid (∀ j, O' j → O j ∨ w.heap.size ≤ j) ∧ Hid (Fr O w w') ∧ live' ≤ live + 40 := by
  refine (from_calls l v w h hl hQ (by omega) hb).mono ?_
  intro e w' hp
  unfold FromPost at hp
  rw [hk] at hp
  rcases hp with ⟨r, t, O', f', live', he, hA, hV, hK, hO, hF⟩ | ⟨c, O', f', live', he, hc, hA, _, hO, hF⟩
  · have hl2 := vec_live2 h hA hK hV
    have hlv : lvs k ≤ 31 := by unfold lvs; omega
    exact ⟨r, t, O', f', live', he, Lib.hid hA, Lib.hid hV, Lib.hid hK, Lib.hid hO, Lib.hid hF, by omega⟩
  · omega
section
attribute [local go_sem high] sl_val
variable {O : Nat → Prop} {a : Nat} {f : Nat → Cell} {live most : Int} {ext rest : Nat → Nat}
end
end Go.Proofs.Ytnipbfhfaefieaa.Sl
/-! slice.Join, of two vectors. -/
namespace Go.Proofs.Ytnipbfhfaefieaa.Sl
open Go.RowKit Go Go.Proofs.YtnipbfhfaefieaaW.PrintWords Go.Proofs.YtnipbfhfaefieaaW.PrintMore Go.Proofs.YtnipbfhfaefieaaW.PrintLast Go.Proofs.Ytnipbfhfaefieaa.Bts Go.Proofs.Ytnipbfhfaefieaa.Fra Go.Proofs.Ytnipbfhfaefieaa.ArnP Go.Proofs.Ytnipbfhfaefieaa.Arn Go.Proofs.Ytnipbfhfaefieaa.Ao Go.Proofs.Ytnipbfhfaefieaa.Pv
section
variable {O : Nat → Prop} {a : Nat} {f : Nat → Cell} {live most : Int} {ext rest : Nat → Nat}
theorem from_any {Q : Nat → Prop} (l : List V3) (v : Value) (w : World) (h : AO w O a f live most rest nop) (hl : RowIn kVal w Q v l) (hQ : ∀ j, Q j → ¬ O j) (hlen : l.length ≤ 2000) (hb : ∀ x, rest x ≤ 50000000000) :
    Calls Try.prog 40 #[.pointer (some ⟨a, 0, none⟩), v] w fun e w' => ∃ (n r t c : Int), e = .returned (.tuple #[vecV n r t, .int .i64 c]) ∧ Hid (FromPost w O a f live most rest l (.returned (.tuple #[vecV n r t, .int .i64 c])) w') ∧ Hid (Fr O w w') := by
  refine (from_calls l v w h hl hQ hlen hb).mono ?_
  intro e w' hp
  have hp2 := hp
  unfold FromPost at hp
  rcases hp with ⟨r, t, O', f', live', rfl, hA, hV, hK, hO, hF⟩ | ⟨c, O', f', live', rfl, hc, hA, hK, hO, hF⟩
  · exact ⟨_, _, _, _, rfl, Lib.hid hp2, Lib.hid hF⟩
  · exact ⟨_, _, _, _, rfl, Lib.hid hp2, Lib.hid hF⟩
set_option maxHeartbeats 4000000 in
set_option maxRecDepth 100000 in
theorem join_calls (g n r t n2 r2 t2 : Nat) (l l2 : List V3) (w : World) (h : AO w O a f live most ext nop) (hv : VRep f n r t l) (hv2 : VRep f n2 r2 t2 l2) (he : ∀ x, vx r t x ≤ ext x) (he2 : ∀ x, vx r2 t2 x ≤ ext x) (hb : ∀ x, ext x ≤ 50000000000) (hll : l.length + l2.length ≤ 2000) (hg : w.heap[g]? = some (.cells #[.int .i64 n, .int .i64 r, .int .i64 t, .int .i64 n2, .int .i64 r2, .int .i64 t2] 61 (0, 0))) :
    Calls Try.prog 56 #[.pointer (some ⟨a, 0, none⟩), .slice (some ⟨g, 0, none⟩) 2 2] w (FromPost w O a f live most ext (l ++ l2)) := by
  have hlt := h.lt
  have hb0 := below_alloc (Below.refl w.heap.size w) (.cells #[.int .i64 0, .int .i64 0, .int .i64 0] 61)
  have hbk := blk_new w (.cells #[.int .i64 0, .int .i64 0, .int .i64 0] 61)
  obtain ⟨W1, hW1⟩ : ∃ W1, w.alloc (.cells #[.int .i64 0, .int .i64 0, .int .i64 0] 61) = W1 := ⟨_, rfl⟩
  have hsz : W1.heap.size = w.heap.size + 1 := by rw [← hW1]; simp
  have hA := h.below hb0
  have hg1 := blk_below hg hb0
  rw [hW1] at hb0 hbk hA hg1
  have hn1 : l.length ≤ 1024 := by have := hv.1; have := hv.2.1; omega
  have hn2 : l2.length ≤ 1024 := by have := hv2.1; have := hv2.2.1; omega
  have HA := Lib.hid hA
  have HA0 := Lib.hid h
  have HB := Lib.hid hb0
  have HK := Lib.hid hbk
  have HG := Lib.hid hg1
  have HV := Lib.hid (And.intro hv hv2)
  have HE := Lib.hid (And.intro he he2)
  have HS := Lib.hid hsz
  have HW := Lib.hid hW1
  have HLT := Lib.hid hlt
  have HBD := Lib.hid hb
  clear h hb0 hbk hA hv hv2 he he2 hsz hW1 hg hg1 hlt hb
  go_enter Try.func56, Try.ntmps56
  go_wp2
  go_loopg [6, 11] 2 (fun q v i wr => ∃ j : Nat, q + j = 2 ∧ i = .int .i64 (j : Int) ∧ VR wr W1.heap.size v (if j = 0 then [] else if j = 1 then l else l ++ l2) ∧ Below W1.heap.size W1 wr)
  case atStart => exact ⟨0, rfl, rfl, VR.none _ _, by rw [HW.out]; exact Below.refl _ _⟩
  case round =>
    obtain ⟨j, hq, rfl, hR, hBw⟩ := hrel
    have HR := Lib.hid hR
    have HBW := Lib.hid hBw
    have hk := blk_below HG.out hBw
    have c0 := blk_cell hk 0
    have c1 := blk_cell hk 1
    have c2 := blk_cell hk 2
    have c3 := blk_cell hk 3
    have c4 := blk_cell hk 4
    have c5 := blk_cell hk 5
    clear hR hBw hk
    rcases j with _ | _ | j
    · have HX := Lib.hid (blk_new wr (.cells #[.int .i64 n, .int .i64 r, .int .i64 t] 61))
      go_wp2_with (first
        | (go_at_call 42; go_loud (refine (all_calls n r t l _ ((HA.out.below HBW.out).below (below_alloc (Below.refl _ _) (.cells #[.int .i64 n, .int .i64 r, .int .i64 t] 61))) HV.out.1 HE.out.1).mono ?_; rintro e w5 ⟨v5, rfl, hV5, hB5⟩; have hb5 := below_alloc (Below.refl wr.heap.size wr) (.cells #[.int .i64 n, .int .i64 r, .int .i64 t] 61) |>.trans (hB5.mono (by simp)); obtain ⟨A5, c5, e5, hc5, _, hC5, _⟩ := id (RowIn.of_R hV5); subst e5; have HC5 := Lib.hid hC5; have HR5 := Lib.hid (Kd.R_below HR.out hb5); have HB5 := Lib.hid (HBW.out.trans (hb5.mono HBW.out.size)); clear hV5 hB5 hb5 hC5))
        | (at_builtin; go_loud (refine Kd.R_append_rows kVal (Rr := kVal.K w5) (w0 := W1) W1.heap.size rfl (.tmp 15) (.tmp 18) 41 66 (.agg #[.int .u8 0, .int .i64 0, .string (⟨#[]⟩ : ByteArray)]) 32 rfl Try.underlying41 ClV.infoVal rfl (by decide) (by decide) _ [] l A5 l.length c5 (fun j => W1.heap.size ≤ j) (fun _ => False) rfl rfl HR5.out HC5.out (fun _ _ h => h) (fun _ h => h.elim) (fun j hj => by have := HB5.out.size; omega) HB5.out HB5.out.size (by (try simp only [List.length_nil]); omega) ?_; intro v2 w2 ho hb _ _; have HR6 := Lib.hid ho; have HB6 := Lib.hid hb; clear ho hb)))
      go_roundg (gk - 1)
      case measure => omega
      case rel => exact ⟨1, by omega, rfl, HR6.out, HB6.out⟩
    · have HX := Lib.hid (blk_new wr (.cells #[.int .i64 n2, .int .i64 r2, .int .i64 t2] 61))
      go_wp2_with (first
        | (go_at_call 42; go_loud (refine (all_calls n2 r2 t2 l2 _ ((HA.out.below HBW.out).below (below_alloc (Below.refl _ _) (.cells #[.int .i64 n2, .int .i64 r2, .int .i64 t2] 61))) HV.out.2 HE.out.2).mono ?_; rintro e w5 ⟨v5, rfl, hV5, hB5⟩; have hb5 := below_alloc (Below.refl wr.heap.size wr) (.cells #[.int .i64 n2, .int .i64 r2, .int .i64 t2] 61) |>.trans (hB5.mono (by simp)); obtain ⟨A5, c5, e5, hc5, _, hC5, _⟩ := id (RowIn.of_R hV5); subst e5; have HC5 := Lib.hid hC5; have HR5 := Lib.hid (Kd.R_below HR.out hb5); have HB5 := Lib.hid (HBW.out.trans (hb5.mono HBW.out.size)); clear hV5 hB5 hb5 hC5))
        | (at_builtin; go_loud (refine Kd.R_append_rows kVal (Rr := kVal.K w5) (w0 := W1) W1.heap.size rfl (.tmp 15) (.tmp 18) 41 66 (.agg #[.int .u8 0, .int .i64 0, .string (⟨#[]⟩ : ByteArray)]) 32 rfl Try.underlying41 ClV.infoVal rfl (by decide) (by decide) _ l l2 A5 l2.length c5 (fun j => W1.heap.size ≤ j) (fun _ => False) rfl rfl HR5.out HC5.out (fun _ _ h => h) (fun _ h => h.elim) (fun j hj => by have := HB5.out.size; omega) HB5.out HB5.out.size (by (try simp only [List.length_nil]); omega) ?_; intro v2 w2 ho hb _ _; have HR6 := Lib.hid ho; have HB6 := Lib.hid hb; clear ho hb)))
      go_roundg (gk - 1)
      case measure => omega
      case rel => exact ⟨2, by omega, rfl, HR6.out, HB6.out⟩
    · have hj0 : j = 0 := by omega
      subst hj0
      have hrow : RowIn kVal wr (fun j => W1.heap.size ≤ j) _ (l ++ l2) := RowIn.of_R HR.out
      have HROW := Lib.hid hrow
      have hk0 := blk_below HK.out HBW.out
      have HK0 := Lib.hid hk0
      have hnO : ¬ O w.heap.size := fun q => by have := HLT.out _ q; omega
      clear hrow hk0
      go_wp2_with (go_at_call 40; go_loud (refine (from_any (rest := ext) (l ++ l2) _ _ (HA.out.below HBW.out) HROW.out (fun j hj hj2 => by have := HLT.out _ hj2; have := HS.out; omega) (by rw [List.length_append]; exact hll) HBD.out).mono ?_; rintro e w5 ⟨n5, r5, t5, c5', rfl, HP5, HF5⟩; have g0 := HF5.out.blk HK0.out hnO; have z0 := blk_frozen g0 0; have z1 := blk_frozen g0 1; have z2 := blk_frozen g0 2; have u0 := blk_cell g0 0; have u1 := blk_cell g0 1; have u2 := blk_cell g0 2; have HG5 := Lib.hid g0; clear g0))
      refine bodyPost_ret (results_ct rfl _ _ w.heap.size 61 #[.int .i64 n5, .int .i64 r5, .int .i64 t5] (0, 0) _ rfl (Pv.ret3 HG5.out _ _ _) Try.underlying61 rfl (by kernel_rfl)) rfl ?_
      have hz := fr3d w5 w.heap.size (.int .i64 n5) (.int .i64 r5) (.int .i64 t5)
      have hs1 := HS.out
      have hsw := HBW.out.size
      have hfr : Fr O w w5 := ((Fr.of_new HB.out).trans ((Fr.of_new (S := O) HBW.out).trans HF5.out))
      have hp := HP5.out
      unfold FromPost at hp ⊢
      have hnew : ∀ O' : Nat → Prop, (∀ j, O' j → O j ∨ wr.heap.size ≤ j) → ¬ O' w.heap.size := fun O' h q => by
        rcases h _ q with e | e
        · exact hnO e
        · omega
      rcases hp with ⟨r9, t9, O9, f9, live9, he9, hA9, hV9, hK9, hO9, hF9⟩ | ⟨c9, O9, f9, live9, he9, hc9, hA9, hK9, hO9, hF9⟩
      · exact .inl ⟨r9, t9, O9, f9, live9, he9, hA9.move hz (fun i hi e => by rw [e] at hi; exact hnew O9 hO9 hi), hV9, hK9, fun i hi => (hO9 i hi).imp id (fun q => by omega), hfr.then_ hz (fun i hi => .inr (by omega))⟩
      · exact .inr ⟨c9, O9, f9, live9, he9, hc9, hA9.move hz (fun i hi e => by rw [e] at hi; exact hnew O9 hO9 hi), hK9, fun i hi => (hO9 i hi).imp id (fun q => by omega), hfr.then_ hz (fun i hi => .inr (by omega))⟩
end
end Go.Proofs.Ytnipbfhfaefieaa.Sl
