/- The law HashLists, walked. -/
import Derived.Test.YtaoacibahdbdkaaHashM
namespace Go.Proofs.Ytaoacibahdbdkaa.Hsh
open Go.RowKit Go Go.Proofs.YtaoacibahdbdkaaW.PrintWords Go.Proofs.YtaoacibahdbdkaaW.PrintMore Go.Proofs.YtaoacibahdbdkaaW.PrintLast Go.Proofs.Ytaoacibahdbdkaa.Bts Go.Proofs.Ytaoacibahdbdkaa.Fra Go.Proofs.Ytaoacibahdbdkaa.Pk Go.Proofs.Ytaoacibahdbdkaa.Pr Go.Proofs.Ytaoacibahdbdkaa.QPackedPuts
theorem infoV : (Try.prog.info? 67).map (fun i => (i.zero, i.size, i.bytes)) = some (some (.agg #[.int .u8 0, .int .i64 0, .string (⟨#[]⟩ : ByteArray)]), 3, 32) := by kernel_rfl
set_option maxHeartbeats 4000000 in
set_option maxRecDepth 100000 in
theorem lists_main (seed : Int) (A : Option Addr) (c : Nat) (l : List (Int × Int × ByteArray)) (W : World) (hC : kV.C W A l.length l) (hl : l.length ≤ 60) (hk : ∀ x : Int × Int × ByteArray, x ∈ l → 0 ≤ x.1 ∧ x.1 ≤ 255) :
    Calls Try.prog 10 #[.int .u64 seed, .slice A l.length c] W fun e W' => e = .returned (.bool true) ∧ Below W.heap.size W W' := by
  have HC := Lib.hid hC
  have HK := Lib.hid hk
  have HB := Lib.hid (Below.refl W.heap.size W)
  have b1 : ¬ (60 : Int) < (l.length : Int) := by omega
  clear hC hk
  go_enter Try.func10, Try.ntmps10
  go_wp2_with (first
    | (go_at_call 28; go_loud (refine (lives_calls _).mono ?_; rintro e w1 ⟨rfl, hB1⟩; have HBn := Lib.hid (below_step (by repeat (first | (with_reducible first | exact HB.out | apply below_alloc | apply pw_below_drewN | apply below_drew1) | exact HB.out)) hB1); clear HB; have HB := HBn; clear HBn)))
  go_loopw [5, 18] (fun v i wr => ∃ j : Nat, j ≤ l.length ∧ i = .int .i64 j ∧ kV.R 67 wr W.heap.size (fun _ => True) v (l.take j) ∧ Below W.heap.size W wr ∧ GoodV (l.take j)) (fun _ i _ => l.length - (intOf i).toNat)
  case atStart => exact ⟨0, by omega, rfl, Kd.R_nil _ _ _ _ _, HB.out, fun x hx => by simp at hx⟩
  case round =>
    clear HB
    obtain ⟨j, hj, rfl, hR, hB, hG⟩ := hrel
    have HR := Lib.hid hR
    have HB := Lib.hid hB
    have HG := Lib.hid hG
    clear hR hB hG
    by_cases hlt : j < l.length
    · obtain ⟨x, hx⟩ : ∃ x, l.getD j zV = x := ⟨_, rfl⟩
      obtain ⟨k, m, s⟩ := x
      have he : l.getD j zV = l[j] := by simp [List.getD, hlt]
      have hk1 := HK.out l[j] (List.getElem_mem hlt)
      rw [← he, hx] at hk1
      have HT := Lib.hid (show l.take (j + 1) = l.take j ++ [(k, m, s)] by rw [← List.take_append_getElem hlt, ← he, hx])
      obtain ⟨ad, rfl, y0, y1, y2⟩ := at_V (Kd.C_below HC.out HB.out) j hlt rfl k m s hx
      have HK1 := Lib.hid hk1
      have HV := Lib.hid (blk_new wr (.cells #[.int .u8 k, .int .i64 m, .string s] 54))
      obtain ⟨r, hr⟩ := right_some k m s
      have hlen : (l.take j).length ≤ 60 := by rw [List.length_take]; omega
      clear hk1 hx he
      cases r
      · have HRT := Lib.hid hr
        clear hr
        go_wp2_with (first
          | (go_at_call 39; go_loud (refine (of3_calls k m s _).mono ?_; rintro e w1 ⟨rfl, hB1⟩; have HBn := Lib.hid (below_step (by repeat (first | (with_reducible first | exact HB.out | apply below_alloc | apply pw_below_drewN | apply below_drew1) | exact HB.out)) hB1); clear HB; have HB := HBn; clear HBn))
          | (go_at_call 38; go_loud (refine (easementref01_Right.calls _ _ _ _ _ HRT.out).mono ?_; rintro e w1 ⟨rfl, hB1⟩; have HBn := Lib.hid (below_step (by repeat (first | (with_reducible first | exact HB.out | apply below_alloc | apply pw_below_drewN | apply below_drew1) | exact HB.out)) hB1); clear HB; have HB := HBn; clear HBn)))
        go_ret
        exact ⟨rfl, HB.out⟩
      · have hs : s.size ≤ 4096 := by
          have e0 : ByteArray.empty.size = 0 := rfl
          rcases right_cases hr with ⟨_, _, rfl⟩ | ⟨_, _, rfl⟩ | ⟨_, rfl⟩ | ⟨_, _, h⟩ <;> omega
        have HRT := Lib.hid hr
        clear hr
        have HRA := Lib.hid (Kd.R_alloc HR.out (.cells #[.int .u8 k, .int .i64 m, .string s] 54))
        go_wp2_with (first
          | (go_at_call 39; go_loud (refine (of3_calls k m s _).mono ?_; rintro e w1 ⟨rfl, hB1⟩; have hvn := blk_below HV.out hB1; clear HV; have HV := Lib.hid hvn; clear hvn; have c0 := blk_cell HV.out 0; have c1 := blk_cell HV.out 1; have c2 := blk_cell HV.out 2; have HRn := Lib.hid (Kd.R_below HRA.out hB1); clear HRA; have HRA := HRn; clear HRn; have HBn := Lib.hid (below_step (by repeat (first | (with_reducible first | exact HB.out | apply below_alloc | apply pw_below_drewN | apply below_drew1) | exact HB.out)) hB1); clear HB; have HB := HBn; clear HBn))
          | (go_at_call 38; go_loud (refine (easementref01_Right.calls _ _ _ _ _ HRT.out).mono ?_; rintro e w1 ⟨rfl, hB1⟩; have hvn := blk_below HV.out hB1; clear HV; have HV := Lib.hid hvn; clear hvn; have c0 := blk_cell HV.out 0; have c1 := blk_cell HV.out 1; have c2 := blk_cell HV.out 2; have HRn := Lib.hid (Kd.R_below HRA.out hB1); clear HRA; have HRA := HRn; clear HRn; have HBn := Lib.hid (below_step (by repeat (first | (with_reducible first | exact HB.out | apply below_alloc | apply pw_below_drewN | apply below_drew1) | exact HB.out)) hB1); clear HB; have HB := HBn; clear HBn))
          | (at_builtin; go_loud (refine Kd.R_append kV (w0 := W) W.heap.size rfl (.tmp 26) (.tmp 29) 76 67 (.agg #[.int .u8 0, .int .i64 0, .string (⟨#[]⟩ : ByteArray)]) 32 rfl Try.underlying76 infoV rfl (by decide) (by decide) _ (l.take j) (k, m, s) [.int .u8 k, .int .i64 m, .string s] (fun _ => True) (fun _ => False) rfl rfl ⟨[.int .u8 k], [.int .i64 m, .string s], rfl, rfl, ⟨[.int .i64 m], [.string s], rfl, rfl, rfl⟩⟩ (fun _ hk => hk.elim) (fun _ _ => trivial) HRA.out HB.out HB.out.size (by omega) ?_; intro v2 w2 ho hb _ _)))
        go_roundw
        case rel =>
          refine ⟨j + 1, by omega, by simp, by rw [HT.out]; exact ho, hb, ?_⟩
          rw [HT.out]
          intro x hx
          rcases List.mem_append.1 hx with hx | hx
          · exact HG.out x hx
          · rw [List.mem_singleton] at hx
            subst hx
            exact ⟨HK1.out, by show s.size ≤ 35184372088832; omega⟩
        case measure => simp [intOf]; omega
    · obtain rfl : j = l.length := by omega
      have hR := HR.out
      have hG := HG.out
      rw [List.take_length] at hR hG
      have HG' := Lib.hid hG
      obtain ⟨A5, c5, rfl, hc5, hC5⟩ := Kd.R_reads hR
      have HC5 := Lib.hid hC5
      clear hC5 hR hG HR HG
      go_wp2_with (first
        | (go_at_call 40; go_loud (refine (new_calls seed _).mono ?_; rintro e w2 ⟨g, rfl, hr, hg, hB2⟩; have HR2 := Lib.hid hr; have HC6 := Lib.hid (Kd.C_below HC5.out hB2); have hgW : W.heap.size ≤ g := (by have := HB.out.size; omega); have hgr : wr.heap.size ≤ g := hg; have HBn := Lib.hid (below_step (by repeat (first | (with_reducible first | exact HB.out | apply below_alloc | apply pw_below_drewN | apply below_drew1) | exact HB.out)) hB2); clear HB; have HB := HBn; clear HBn; clear hr hg))
        | (go_at_call 44; go_loud (refine (all_calls g seed A c l W _ HR2.out HC.out HB.out hgW (by omega) HG'.out).mono ?_; rintro e w3 ⟨rfl, h3, hF3⟩; have hb3 := hB2.trans (hF3.below (fun k hk => by subst hk; exact hgr) hB2.size); have HC7 := Lib.hid (Kd.C_below HC5.out hb3); have HBn := Lib.hid (HB.out.trans (hF3.below (fun k hk => by subst hk; exact hgW) HB.out.size)); clear HB; have HB := HBn; clear HBn h3 hF3))
        | (go_at_call 45; go_loud (refine (refAll_calls seed A5 c5 l _ HC7.out (by omega) HG'.out).mono ?_; rintro e w4 ⟨rfl, hB4⟩; have HBn := Lib.hid (below_step (by repeat (first | (with_reducible first | exact HB.out | apply below_alloc | apply pw_below_drewN | apply below_drew1) | exact HB.out)) hB4); clear HB; have HB := HBn; clear HBn)))
      go_ret
      exact ⟨rfl, HB.out⟩
set_option maxHeartbeats 1000000 in
set_option maxRecDepth 100000 in
theorem lists_early (seed : Int) (A : Option Addr) (c n : Nat) (W : World) (hn : 60 < n) (h1 : n ≤ 9223372036854775807) :
    Calls Try.prog 10 #[.int .u64 seed, .slice A n c] W fun e W' => e = .returned (.bool true) ∧ Below W.heap.size W W' := by
  have HB := Lib.hid (Below.refl W.heap.size W)
  have b1 : decide ((60 : Int) < (n : Int)) = true := by simp; omega
  clear hn
  go_enter Try.func10, Try.ntmps10
  go_wp2_with (first
    | (go_at_call 28; go_loud (refine (lives_calls _).mono ?_; rintro e w1 ⟨rfl, hB1⟩; have HBn := Lib.hid (below_step (by repeat (first | (with_reducible first | exact HB.out | apply below_alloc | apply pw_below_drewN | apply below_drew1) | exact HB.out)) hB1); clear HB; have HB := HBn; clear HBn)))
  go_ret
  exact ⟨rfl, HB.out⟩
theorem lists_walk (x0 : Int) (A1 : Option Addr) (c1 : Nat) (x1 : List ((Int) × (Int) × (ByteArray))) (W : World) (p0 : (IntKind.u64.min ≤ x0 ∧ x0 ≤ IntKind.u64.max)) (l1 : x1.length ≤ c1) (C1 : Kd.C (Kd.pair (Kd.int .u8) (Kd.pair (Kd.int .i64) Kd.string)) W A1 x1.length x1) (p1 : (x1.length ≤ maxLen ∧ x1.length * Try.prog.bytesOf 54 ≤ 140737488351232 ∧ ∀ x : Int × Int × ByteArray, x ∈ x1 → ((IntKind.u8.min ≤ x.1 ∧ x.1 ≤ IntKind.u8.max) ∧ ((IntKind.i64.min ≤ x.2.1 ∧ x.2.1 ≤ IntKind.i64.max) ∧ (x.2.2.size ≤ 140737488351232))))) :
    Calls Try.prog 10 #[.int .u64 x0, .slice A1 x1.length c1] W fun e W' => e = .returned (.bool true) ∧ Below W.heap.size W W' := by
  have m1 := p1.1
  unfold maxLen at m1
  by_cases h : 60 < x1.length
  · exact lists_early x0 A1 c1 _ W h (by omega)
  · exact lists_main x0 A1 c1 x1 W C1 (by omega) (fun x hx => (p1.2.2 x hx).1)
end Go.Proofs.Ytaoacibahdbdkaa.Hsh
