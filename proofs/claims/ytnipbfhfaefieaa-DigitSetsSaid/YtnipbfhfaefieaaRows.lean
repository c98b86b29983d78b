/-
  No cell of these rows narrows 'for every input' (looked for: loops, veiled, ifaces, maps, wideKeys, modest, calm, conditions, laid).
  DERIVED. THE GIVEN ROWS OF THIS SEAT. 9 by the template 'for every input the law returns true; each argument reads behind the call as it read before'; 0 by the template 'total and deterministic' (their statements: YtnipbfhfaefieaaTotals.lean).
  GIVEN WITH THE SEED: the statements are not yours to turn. If you find one false, say at which input.
  Laid BY PROGRAM, IN A SANDBOX (cutbox-rows.mjs): the forced cells as the released guide's own fill.sh prints them over the translation d0f7676f5d183139… (all of the seat's roots in one cut). By AI agents, Wed Nov 11 2026. No macro, syntax, notation, axiom, sorry.
-/
import Derived.Test.YtnipbfhfaefieaaChecked
import GoSem.Claim
import GoSem.ClaimJoined
import GoSem.ClaimMapViews
import Derived.JoinedTies
import Derived.KernelRfl
namespace Go.Proofs.Ytnipbfhfaefieaa
/- THE CELL 'sum', in the pinned program and in every row, IS THE sha256 OF THE DUMP (.gsa) THAT YtnipbfhfaefieaaProg.lean LOADS. Nothing in Lean hashes anything: it is a label: what it is worth is what the hold of that sum in a sandbox is worth. -/
noncomputable def Try.pinned : Pinned := { name := "ytnipbfhfaefieaa", sum := "d0f7676f5d18313900bbf2f27c6583fe6222312bbe4c437faa37917da6b9c735", checked := Try.checked }
namespace Rows
def none {H : Type} : Left H := { results := [], args := [] }

/-- 'easementlaw05.DigitSets': WHATEVER THE INPUT: true; the input reads as it did. -/
def digitSetsSpec : ChangeSpec := { name := "digitSets", fn := fun _ => fun
  | [d1, d2] => { results := [.lit (.bool true)], args := [d1, d2] }
  | _ => none }
def digitSetsRow : OpenClaim := { program := "ytnipbfhfaefieaa", sum := "d0f7676f5d18313900bbf2f27c6583fe6222312bbe4c437faa37917da6b9c735", func := "easement/easementlaw05.DigitSets", spec := "digitSets", unfollowed := true, recurses := true, apart := false }
def DigitSetsSaid : Prop := digitSetsRow.holds Try.pinned (OpenSpec.ofChange digitSetsSpec)

/-- ITS FALSE NEIGHBOUR: 'it returns false'. Refute it at one input. -/
def digitSetsWrong : ChangeSpec := { name := "digitSets", fn := fun _ => fun
  | [d1, d2] => { results := [.lit (.bool false)], args := [d1, d2] }
  | _ => none }
def DigitSetsWrongFalsely : Prop := digitSetsRow.holds Try.pinned (OpenSpec.ofChange digitSetsWrong)

/-- 'easementlaw04.ArenaDeep': WHATEVER THE INPUT: true; the input reads as it did. -/
def arenaDeepSpec : ChangeSpec := { name := "arenaDeep", fn := fun _ => fun
  | [d] => { results := [.lit (.bool true)], args := [d] }
  | _ => none }
def arenaDeepRow : OpenClaim := { program := "ytnipbfhfaefieaa", sum := "d0f7676f5d18313900bbf2f27c6583fe6222312bbe4c437faa37917da6b9c735", func := "easement/easementlaw04.ArenaDeep", spec := "arenaDeep", inPlace := ["sync/atomic.LoadInt64", "sync/atomic.AddInt64"], unfollowed := true, recurses := true, apart := false }
def ArenaDeepSaid : Prop := arenaDeepRow.holds Try.pinned (OpenSpec.ofChange arenaDeepSpec)

/-- ITS FALSE NEIGHBOUR: 'it returns false'. Refute it at one input. -/
def arenaDeepWrong : ChangeSpec := { name := "arenaDeep", fn := fun _ => fun
  | [d] => { results := [.lit (.bool false)], args := [d] }
  | _ => none }
def ArenaDeepWrongFalsely : Prop := arenaDeepRow.holds Try.pinned (OpenSpec.ofChange arenaDeepWrong)

/-- 'easementlaw04.ArenaArgs': WHATEVER THE INPUT: true; the input reads as it did. -/
def arenaArgsSpec : ChangeSpec := { name := "arenaArgs", fn := fun _ => fun
  | [d1, d2] => { results := [.lit (.bool true)], args := [d1, d2] }
  | _ => none }
def arenaArgsRow : OpenClaim := { program := "ytnipbfhfaefieaa", sum := "d0f7676f5d18313900bbf2f27c6583fe6222312bbe4c437faa37917da6b9c735", func := "easement/easementlaw04.ArenaArgs", spec := "arenaArgs", inPlace := ["sync/atomic.LoadInt64", "sync/atomic.AddInt64"], unfollowed := true, recurses := true, apart := false }
def ArenaArgsSaid : Prop := arenaArgsRow.holds Try.pinned (OpenSpec.ofChange arenaArgsSpec)

/-- ITS FALSE NEIGHBOUR: 'it returns false'. Refute it at one input. -/
def arenaArgsWrong : ChangeSpec := { name := "arenaArgs", fn := fun _ => fun
  | [d1, d2] => { results := [.lit (.bool false)], args := [d1, d2] }
  | _ => none }
def ArenaArgsWrongFalsely : Prop := arenaArgsRow.holds Try.pinned (OpenSpec.ofChange arenaArgsWrong)

/-- 'easementlaw04.ArenaActs': WHATEVER THE INPUT: true; the input reads as it did. -/
def arenaActsSpec : ChangeSpec := { name := "arenaActs", fn := fun _ => fun
  | [d1, d2] => { results := [.lit (.bool true)], args := [d1, d2] }
  | _ => none }
def arenaActsRow : OpenClaim := { program := "ytnipbfhfaefieaa", sum := "d0f7676f5d18313900bbf2f27c6583fe6222312bbe4c437faa37917da6b9c735", func := "easement/easementlaw04.ArenaActs", spec := "arenaActs", inPlace := ["sync/atomic.LoadInt64", "sync/atomic.AddInt64"], unfollowed := true, recurses := true, apart := false }
def ArenaActsSaid : Prop := arenaActsRow.holds Try.pinned (OpenSpec.ofChange arenaActsSpec)

/-- ITS FALSE NEIGHBOUR: 'it returns false'. Refute it at one input. -/
def arenaActsWrong : ChangeSpec := { name := "arenaActs", fn := fun _ => fun
  | [d1, d2] => { results := [.lit (.bool false)], args := [d1, d2] }
  | _ => none }
def ArenaActsWrongFalsely : Prop := arenaActsRow.holds Try.pinned (OpenSpec.ofChange arenaActsWrong)

/-- 'easementlaw06.PvecRoom': WHATEVER THE INPUT: true; the input reads as it did. -/
def pvecRoomSpec : ChangeSpec := { name := "pvecRoom", fn := fun _ => fun
  | [d1, d2] => { results := [.lit (.bool true)], args := [d1, d2] }
  | _ => none }
def pvecRoomRow : OpenClaim := { program := "ytnipbfhfaefieaa", sum := "d0f7676f5d18313900bbf2f27c6583fe6222312bbe4c437faa37917da6b9c735", func := "easement/easementlaw06.PvecRoom", spec := "pvecRoom", inPlace := ["sync/atomic.LoadInt64", "sync/atomic.AddInt64"], unfollowed := true, recurses := true, apart := false }
def PvecRoomSaid : Prop := pvecRoomRow.holds Try.pinned (OpenSpec.ofChange pvecRoomSpec)

/-- ITS FALSE NEIGHBOUR: 'it returns false'. Refute it at one input. -/
def pvecRoomWrong : ChangeSpec := { name := "pvecRoom", fn := fun _ => fun
  | [d1, d2] => { results := [.lit (.bool false)], args := [d1, d2] }
  | _ => none }
def PvecRoomWrongFalsely : Prop := pvecRoomRow.holds Try.pinned (OpenSpec.ofChange pvecRoomWrong)

/-- 'easementlaw07.SliceRoom': WHATEVER THE INPUT: true; the input reads as it did. -/
def sliceRoomSpec : ChangeSpec := { name := "sliceRoom", fn := fun _ => fun
  | [d1, d2] => { results := [.lit (.bool true)], args := [d1, d2] }
  | _ => none }
def sliceRoomRow : OpenClaim := { program := "ytnipbfhfaefieaa", sum := "d0f7676f5d18313900bbf2f27c6583fe6222312bbe4c437faa37917da6b9c735", func := "easement/easementlaw07.SliceRoom", spec := "sliceRoom", inPlace := ["sync/atomic.LoadInt64", "sync/atomic.AddInt64"], unfollowed := true, recurses := true, apart := false }
def SliceRoomSaid : Prop := sliceRoomRow.holds Try.pinned (OpenSpec.ofChange sliceRoomSpec)

/-- ITS FALSE NEIGHBOUR: 'it returns false'. Refute it at one input. -/
def sliceRoomWrong : ChangeSpec := { name := "sliceRoom", fn := fun _ => fun
  | [d1, d2] => { results := [.lit (.bool false)], args := [d1, d2] }
  | _ => none }
def SliceRoomWrongFalsely : Prop := sliceRoomRow.holds Try.pinned (OpenSpec.ofChange sliceRoomWrong)

/-- 'easementlaw07.SliceLists': WHATEVER THE INPUT: true; the input reads as it did. -/
def sliceListsSpec : ChangeSpec := { name := "sliceLists", fn := fun _ => fun
  | [d1, d2, d3] => { results := [.lit (.bool true)], args := [d1, d2, d3] }
  | _ => none }
def sliceListsRow : OpenClaim := { program := "ytnipbfhfaefieaa", sum := "d0f7676f5d18313900bbf2f27c6583fe6222312bbe4c437faa37917da6b9c735", func := "easement/easementlaw07.SliceLists", spec := "sliceLists", inPlace := ["sync/atomic.LoadInt64", "sync/atomic.AddInt64"], unfollowed := true, recurses := true, apart := false }
def SliceListsSaid : Prop := sliceListsRow.holds Try.pinned (OpenSpec.ofChange sliceListsSpec)

/-- ITS FALSE NEIGHBOUR: 'it returns false'. Refute it at one input. -/
def sliceListsWrong : ChangeSpec := { name := "sliceLists", fn := fun _ => fun
  | [d1, d2, d3] => { results := [.lit (.bool false)], args := [d1, d2, d3] }
  | _ => none }
def SliceListsWrongFalsely : Prop := sliceListsRow.holds Try.pinned (OpenSpec.ofChange sliceListsWrong)

/-- 'easementlaw06.PvecActs': WHATEVER THE INPUT: true; the input reads as it did. -/
def pvecActsSpec : ChangeSpec := { name := "pvecActs", fn := fun _ => fun
  | [d] => { results := [.lit (.bool true)], args := [d] }
  | _ => none }
def pvecActsRow : OpenClaim := { program := "ytnipbfhfaefieaa", sum := "d0f7676f5d18313900bbf2f27c6583fe6222312bbe4c437faa37917da6b9c735", func := "easement/easementlaw06.PvecActs", spec := "pvecActs", inPlace := ["sync/atomic.LoadInt64", "sync/atomic.AddInt64"], unfollowed := true, recurses := true, apart := false }
def PvecActsSaid : Prop := pvecActsRow.holds Try.pinned (OpenSpec.ofChange pvecActsSpec)

/-- ITS FALSE NEIGHBOUR: 'it returns false'. Refute it at one input. -/
def pvecActsWrong : ChangeSpec := { name := "pvecActs", fn := fun _ => fun
  | [d] => { results := [.lit (.bool false)], args := [d] }
  | _ => none }
def PvecActsWrongFalsely : Prop := pvecActsRow.holds Try.pinned (OpenSpec.ofChange pvecActsWrong)

/-- 'easementlaw07.SliceJoins': WHATEVER THE INPUT: true; the input reads as it did. -/
def sliceJoinsSpec : ChangeSpec := { name := "sliceJoins", fn := fun _ => fun
  | [d1, d2, d3] => { results := [.lit (.bool true)], args := [d1, d2, d3] }
  | _ => none }
def sliceJoinsRow : OpenClaim := { program := "ytnipbfhfaefieaa", sum := "d0f7676f5d18313900bbf2f27c6583fe6222312bbe4c437faa37917da6b9c735", func := "easement/easementlaw07.SliceJoins", spec := "sliceJoins", inPlace := ["sync/atomic.LoadInt64", "sync/atomic.AddInt64", "internal/bytealg.abigen_runtime_cmpstring"], unfollowed := true, recurses := true, apart := false }
def SliceJoinsSaid : Prop := sliceJoinsRow.holds Try.pinned (OpenSpec.ofChange sliceJoinsSpec)

/-- ITS FALSE NEIGHBOUR: 'it returns false'. Refute it at one input. -/
def sliceJoinsWrong : ChangeSpec := { name := "sliceJoins", fn := fun _ => fun
  | [d1, d2, d3] => { results := [.lit (.bool false)], args := [d1, d2, d3] }
  | _ => none }
def SliceJoinsWrongFalsely : Prop := sliceJoinsRow.holds Try.pinned (OpenSpec.ofChange sliceJoinsWrong)

/- THE SECOND FORM. 'bulk': how many values and letters a reading holds, each counted each time it is reached (what is shared counts as often as it is met; a slice's spare places count too). A statement '..UptoSaid' is the law's where the arguments, and the package variables that the reading takes, are together of bulk at most 1048576: NARROWER than '..Said'. Prove '..Said' where nothing that the law and all that it calls make is longer than what came in: it says more and counts as full. Else prove '..UptoSaid'. A law counts once. -/
mutual
def uptoBulk {H : Type} : DataW H → Nat
  | .lit (.string bytes) => bytes.length + 1
  | .lit _ => 1
  | .nil => 1
  | .ptr d => uptoBulk d + 1
  | .slice elems spare => uptoBulkAll elems + uptoBulkAll spare + 1
  | .agg parts => uptoBulkAll parts + 1
  | .iface _ d => uptoBulk d + 1
  | .map entries => uptoBulkEntries entries + 1
  | .held _ => 1
def uptoBulkAll {H : Type} : List (DataW H) → Nat
  | [] => 0
  | d :: r => uptoBulk d + uptoBulkAll r
def uptoBulkEntries {H : Type} : List (Lit × DataW H) → Nat
  | [] => 0
  | x :: r => uptoBulkEntry x + uptoBulkEntries r
def uptoBulkEntry {H : Type} : Lit × DataW H → Nat
  | (.string bytes, d) => bytes.length + uptoBulk d + 1
  | (_, d) => uptoBulk d + 1
 end
def uptoSmall : (H : Type) → List (DataW H) → Bool := fun _ ds => decide (uptoBulkAll ds ≤ 1048576)
def OpenSpec.upto (s : _root_.Go.ChangeSpec) : _root_.Go.OpenSpec := { _root_.Go.OpenSpec.ofChange s with cond := some uptoSmall }

/-- 'easementlaw05.DigitSets', WHERE WHAT IT READS IS OF BULK AT MOST 1048576: true; the input reads as it did. -/
def digitSetsUptoRow : OpenClaim := { program := "ytnipbfhfaefieaa", sum := "d0f7676f5d18313900bbf2f27c6583fe6222312bbe4c437faa37917da6b9c735", func := "easement/easementlaw05.DigitSets", spec := "digitSets", unfollowed := true, recurses := true, apart := false, narrowed := true }
def DigitSetsUptoSaid : Prop := digitSetsUptoRow.holds Try.pinned (OpenSpec.upto digitSetsSpec)

/-- 'easementlaw04.ArenaDeep', WHERE WHAT IT READS IS OF BULK AT MOST 1048576: true; the input reads as it did. -/
def arenaDeepUptoRow : OpenClaim := { program := "ytnipbfhfaefieaa", sum := "d0f7676f5d18313900bbf2f27c6583fe6222312bbe4c437faa37917da6b9c735", func := "easement/easementlaw04.ArenaDeep", spec := "arenaDeep", inPlace := ["sync/atomic.LoadInt64", "sync/atomic.AddInt64"], unfollowed := true, recurses := true, apart := false, narrowed := true }
def ArenaDeepUptoSaid : Prop := arenaDeepUptoRow.holds Try.pinned (OpenSpec.upto arenaDeepSpec)

/-- 'easementlaw04.ArenaArgs', WHERE WHAT IT READS IS OF BULK AT MOST 1048576: true; the input reads as it did. -/
def arenaArgsUptoRow : OpenClaim := { program := "ytnipbfhfaefieaa", sum := "d0f7676f5d18313900bbf2f27c6583fe6222312bbe4c437faa37917da6b9c735", func := "easement/easementlaw04.ArenaArgs", spec := "arenaArgs", inPlace := ["sync/atomic.LoadInt64", "sync/atomic.AddInt64"], unfollowed := true, recurses := true, apart := false, narrowed := true }
def ArenaArgsUptoSaid : Prop := arenaArgsUptoRow.holds Try.pinned (OpenSpec.upto arenaArgsSpec)

/-- 'easementlaw04.ArenaActs', WHERE WHAT IT READS IS OF BULK AT MOST 1048576: true; the input reads as it did. -/
def arenaActsUptoRow : OpenClaim := { program := "ytnipbfhfaefieaa", sum := "d0f7676f5d18313900bbf2f27c6583fe6222312bbe4c437faa37917da6b9c735", func := "easement/easementlaw04.ArenaActs", spec := "arenaActs", inPlace := ["sync/atomic.LoadInt64", "sync/atomic.AddInt64"], unfollowed := true, recurses := true, apart := false, narrowed := true }
def ArenaActsUptoSaid : Prop := arenaActsUptoRow.holds Try.pinned (OpenSpec.upto arenaActsSpec)

/-- 'easementlaw06.PvecRoom', WHERE WHAT IT READS IS OF BULK AT MOST 1048576: true; the input reads as it did. -/
def pvecRoomUptoRow : OpenClaim := { program := "ytnipbfhfaefieaa", sum := "d0f7676f5d18313900bbf2f27c6583fe6222312bbe4c437faa37917da6b9c735", func := "easement/easementlaw06.PvecRoom", spec := "pvecRoom", inPlace := ["sync/atomic.LoadInt64", "sync/atomic.AddInt64"], unfollowed := true, recurses := true, apart := false, narrowed := true }
def PvecRoomUptoSaid : Prop := pvecRoomUptoRow.holds Try.pinned (OpenSpec.upto pvecRoomSpec)

/-- 'easementlaw07.SliceRoom', WHERE WHAT IT READS IS OF BULK AT MOST 1048576: true; the input reads as it did. -/
def sliceRoomUptoRow : OpenClaim := { program := "ytnipbfhfaefieaa", sum := "d0f7676f5d18313900bbf2f27c6583fe6222312bbe4c437faa37917da6b9c735", func := "easement/easementlaw07.SliceRoom", spec := "sliceRoom", inPlace := ["sync/atomic.LoadInt64", "sync/atomic.AddInt64"], unfollowed := true, recurses := true, apart := false, narrowed := true }
def SliceRoomUptoSaid : Prop := sliceRoomUptoRow.holds Try.pinned (OpenSpec.upto sliceRoomSpec)

/-- 'easementlaw07.SliceLists', WHERE WHAT IT READS IS OF BULK AT MOST 1048576: true; the input reads as it did. -/
def sliceListsUptoRow : OpenClaim := { program := "ytnipbfhfaefieaa", sum := "d0f7676f5d18313900bbf2f27c6583fe6222312bbe4c437faa37917da6b9c735", func := "easement/easementlaw07.SliceLists", spec := "sliceLists", inPlace := ["sync/atomic.LoadInt64", "sync/atomic.AddInt64"], unfollowed := true, recurses := true, apart := false, narrowed := true }
def SliceListsUptoSaid : Prop := sliceListsUptoRow.holds Try.pinned (OpenSpec.upto sliceListsSpec)

/-- 'easementlaw06.PvecActs', WHERE WHAT IT READS IS OF BULK AT MOST 1048576: true; the input reads as it did. -/
def pvecActsUptoRow : OpenClaim := { program := "ytnipbfhfaefieaa", sum := "d0f7676f5d18313900bbf2f27c6583fe6222312bbe4c437faa37917da6b9c735", func := "easement/easementlaw06.PvecActs", spec := "pvecActs", inPlace := ["sync/atomic.LoadInt64", "sync/atomic.AddInt64"], unfollowed := true, recurses := true, apart := false, narrowed := true }
def PvecActsUptoSaid : Prop := pvecActsUptoRow.holds Try.pinned (OpenSpec.upto pvecActsSpec)

/-- 'easementlaw07.SliceJoins', WHERE WHAT IT READS IS OF BULK AT MOST 1048576: true; the input reads as it did. -/
def sliceJoinsUptoRow : OpenClaim := { program := "ytnipbfhfaefieaa", sum := "d0f7676f5d18313900bbf2f27c6583fe6222312bbe4c437faa37917da6b9c735", func := "easement/easementlaw07.SliceJoins", spec := "sliceJoins", inPlace := ["sync/atomic.LoadInt64", "sync/atomic.AddInt64", "internal/bytealg.abigen_runtime_cmpstring"], unfollowed := true, recurses := true, apart := false, narrowed := true }
def SliceJoinsUptoSaid : Prop := sliceJoinsUptoRow.holds Try.pinned (OpenSpec.upto sliceJoinsSpec)

end Rows
end Go.Proofs.Ytnipbfhfaefieaa
