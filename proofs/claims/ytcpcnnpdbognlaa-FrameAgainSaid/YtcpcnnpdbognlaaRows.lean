/-
  No cell of these rows narrows 'for every input' (looked for: loops, veiled, ifaces, maps, wideKeys, modest, calm, conditions, laid).
  DERIVED. THE GIVEN ROWS OF THIS SEAT. 14 by the template 'for every input the law returns true; each argument reads behind the call as it read before'; 0 by the template 'total and deterministic' (their statements: YtcpcnnpdbognlaaTotals.lean).
  GIVEN WITH THE SEED: the statements are not yours to turn. If you find one false, say at which input.
  Laid BY PROGRAM, IN A SANDBOX (cutbox-rows.mjs): the forced cells as the released guide's own fill.sh prints them over the translation c0962428f6e2362f… (all of the seat's roots in one cut). By AI agents, Wed Nov 11 2026. No macro, syntax, notation, axiom, sorry.
-/
import Derived.Test.YtcpcnnpdbognlaaChecked
import GoSem.Claim
import GoSem.ClaimJoined
import GoSem.ClaimMapViews
import Derived.JoinedTies
import Derived.KernelRfl
namespace Go.Proofs.Ytcpcnnpdbognlaa
/- THE CELL 'sum', in the pinned program and in every row, IS THE sha256 OF THE DUMP (.gsa) THAT YtcpcnnpdbognlaaProg.lean LOADS. Nothing in Lean hashes anything: it is a label: what it is worth is what the hold of that sum in a sandbox is worth. -/
noncomputable def Try.pinned : Pinned := { name := "ytcpcnnpdbognlaa", sum := "c0962428f6e2362fff06a56c5d86e422cd3727e218807d323d6b30944a10491a", checked := Try.checked }
namespace Rows
def none {H : Type} : Left H := { results := [], args := [] }

/-- 'easementlaw05.DigitChanges': WHATEVER THE INPUT: true; the input reads as it did. -/
def digitChangesSpec : ChangeSpec := { name := "digitChanges", fn := fun _ => fun
  | [d1, d2] => { results := [.lit (.bool true)], args := [d1, d2] }
  | _ => none }
def digitChangesRow : OpenClaim := { program := "ytcpcnnpdbognlaa", sum := "c0962428f6e2362fff06a56c5d86e422cd3727e218807d323d6b30944a10491a", func := "easement/easementlaw05.DigitChanges", spec := "digitChanges", apart := false }
def DigitChangesSaid : Prop := digitChangesRow.holds Try.pinned (OpenSpec.ofChange digitChangesSpec)

/-- ITS FALSE NEIGHBOUR: 'it returns false'. Refute it at one input. -/
def digitChangesWrong : ChangeSpec := { name := "digitChanges", fn := fun _ => fun
  | [d1, d2] => { results := [.lit (.bool false)], args := [d1, d2] }
  | _ => none }
def DigitChangesWrongFalsely : Prop := digitChangesRow.holds Try.pinned (OpenSpec.ofChange digitChangesWrong)

/-- 'easementlaw05.DigitSets': WHATEVER THE INPUT: true; the input reads as it did. -/
def digitSetsSpec : ChangeSpec := { name := "digitSets", fn := fun _ => fun
  | [d1, d2] => { results := [.lit (.bool true)], args := [d1, d2] }
  | _ => none }
def digitSetsRow : OpenClaim := { program := "ytcpcnnpdbognlaa", sum := "c0962428f6e2362fff06a56c5d86e422cd3727e218807d323d6b30944a10491a", func := "easement/easementlaw05.DigitSets", spec := "digitSets", unfollowed := true, recurses := true, apart := false }
def DigitSetsSaid : Prop := digitSetsRow.holds Try.pinned (OpenSpec.ofChange digitSetsSpec)

/-- ITS FALSE NEIGHBOUR: 'it returns false'. Refute it at one input. -/
def digitSetsWrong : ChangeSpec := { name := "digitSets", fn := fun _ => fun
  | [d1, d2] => { results := [.lit (.bool false)], args := [d1, d2] }
  | _ => none }
def DigitSetsWrongFalsely : Prop := digitSetsRow.holds Try.pinned (OpenSpec.ofChange digitSetsWrong)

/-- 'easementlaw19.FrameFeeds': WHATEVER THE INPUT: true; the input reads as it did. -/
def frameFeedsSpec : ChangeSpec := { name := "frameFeeds", fn := fun _ => fun
  | [d1, d2] => { results := [.lit (.bool true)], args := [d1, d2] }
  | _ => none }
def frameFeedsRow : OpenClaim := { program := "ytcpcnnpdbognlaa", sum := "c0962428f6e2362fff06a56c5d86e422cd3727e218807d323d6b30944a10491a", func := "easement/easementlaw19.FrameFeeds", spec := "frameFeeds", apart := false }
def FrameFeedsSaid : Prop := frameFeedsRow.holds Try.pinned (OpenSpec.ofChange frameFeedsSpec)

/-- ITS FALSE NEIGHBOUR: 'it returns false'. Refute it at one input. -/
def frameFeedsWrong : ChangeSpec := { name := "frameFeeds", fn := fun _ => fun
  | [d1, d2] => { results := [.lit (.bool false)], args := [d1, d2] }
  | _ => none }
def FrameFeedsWrongFalsely : Prop := frameFeedsRow.holds Try.pinned (OpenSpec.ofChange frameFeedsWrong)

/-- 'easementlaw19.FrameNil': WHATEVER THE INPUT: true; the input reads as it did. -/
def frameNilSpec : ChangeSpec := { name := "frameNil", fn := fun _ => fun
  | [d] => { results := [.lit (.bool true)], args := [d] }
  | _ => none }
def frameNilRow : OpenClaim := { program := "ytcpcnnpdbognlaa", sum := "c0962428f6e2362fff06a56c5d86e422cd3727e218807d323d6b30944a10491a", func := "easement/easementlaw19.FrameNil", spec := "frameNil", apart := false }
def FrameNilSaid : Prop := frameNilRow.holds Try.pinned (OpenSpec.ofChange frameNilSpec)

/-- ITS FALSE NEIGHBOUR: 'it returns false'. Refute it at one input. -/
def frameNilWrong : ChangeSpec := { name := "frameNil", fn := fun _ => fun
  | [d] => { results := [.lit (.bool false)], args := [d] }
  | _ => none }
def FrameNilWrongFalsely : Prop := frameNilRow.holds Try.pinned (OpenSpec.ofChange frameNilWrong)

/-- 'easementlaw15.DrawsActs': WHATEVER THE INPUT: true; the input reads as it did. -/
def drawsActsSpec : ChangeSpec := { name := "drawsActs", fn := fun _ => fun
  | [d1, d2] => { results := [.lit (.bool true)], args := [d1, d2] }
  | _ => none }
def drawsActsRow : OpenClaim := { program := "ytcpcnnpdbognlaa", sum := "c0962428f6e2362fff06a56c5d86e422cd3727e218807d323d6b30944a10491a", func := "easement/easementlaw15.DrawsActs", spec := "drawsActs", unfollowed := true, recurses := true, apart := false }
def DrawsActsSaid : Prop := drawsActsRow.holds Try.pinned (OpenSpec.ofChange drawsActsSpec)

/-- ITS FALSE NEIGHBOUR: 'it returns false'. Refute it at one input. -/
def drawsActsWrong : ChangeSpec := { name := "drawsActs", fn := fun _ => fun
  | [d1, d2] => { results := [.lit (.bool false)], args := [d1, d2] }
  | _ => none }
def DrawsActsWrongFalsely : Prop := drawsActsRow.holds Try.pinned (OpenSpec.ofChange drawsActsWrong)

/-- 'easementlaw15.DrawsNil': WHATEVER THE INPUT: true; the input reads as it did. -/
def drawsNilSpec : ChangeSpec := { name := "drawsNil", fn := fun _ => fun
  | [d] => { results := [.lit (.bool true)], args := [d] }
  | _ => none }
def drawsNilRow : OpenClaim := { program := "ytcpcnnpdbognlaa", sum := "c0962428f6e2362fff06a56c5d86e422cd3727e218807d323d6b30944a10491a", func := "easement/easementlaw15.DrawsNil", spec := "drawsNil", unfollowed := true, recurses := true, apart := false }
def DrawsNilSaid : Prop := drawsNilRow.holds Try.pinned (OpenSpec.ofChange drawsNilSpec)

/-- ITS FALSE NEIGHBOUR: 'it returns false'. Refute it at one input. -/
def drawsNilWrong : ChangeSpec := { name := "drawsNil", fn := fun _ => fun
  | [d] => { results := [.lit (.bool false)], args := [d] }
  | _ => none }
def DrawsNilWrongFalsely : Prop := drawsNilRow.holds Try.pinned (OpenSpec.ofChange drawsNilWrong)

/-- 'easementlaw01.ValueChains': WHATEVER THE INPUT: true; the input reads as it did. -/
def valueChainsSpec : ChangeSpec := { name := "valueChains", fn := fun _ => fun
  | [d1, d2, d3] => { results := [.lit (.bool true)], args := [d1, d2, d3] }
  | _ => none }
def valueChainsRow : OpenClaim := { program := "ytcpcnnpdbognlaa", sum := "c0962428f6e2362fff06a56c5d86e422cd3727e218807d323d6b30944a10491a", func := "easement/easementlaw01.ValueChains", spec := "valueChains", inPlace := ["internal/bytealg.abigen_runtime_cmpstring"], apart := false }
def ValueChainsSaid : Prop := valueChainsRow.holds Try.pinned (OpenSpec.ofChange valueChainsSpec)

/-- ITS FALSE NEIGHBOUR: 'it returns false'. Refute it at one input. -/
def valueChainsWrong : ChangeSpec := { name := "valueChains", fn := fun _ => fun
  | [d1, d2, d3] => { results := [.lit (.bool false)], args := [d1, d2, d3] }
  | _ => none }
def ValueChainsWrongFalsely : Prop := valueChainsRow.holds Try.pinned (OpenSpec.ofChange valueChainsWrong)

/-- 'easementlaw19.FrameAgain': WHATEVER THE INPUT: true; the input reads as it did. -/
def frameAgainSpec : ChangeSpec := { name := "frameAgain", fn := fun _ => fun
  | [d1, d2] => { results := [.lit (.bool true)], args := [d1, d2] }
  | _ => none }
def frameAgainRow : OpenClaim := { program := "ytcpcnnpdbognlaa", sum := "c0962428f6e2362fff06a56c5d86e422cd3727e218807d323d6b30944a10491a", func := "easement/easementlaw19.FrameAgain", spec := "frameAgain", apart := false }
def FrameAgainSaid : Prop := frameAgainRow.holds Try.pinned (OpenSpec.ofChange frameAgainSpec)

/-- ITS FALSE NEIGHBOUR: 'it returns false'. Refute it at one input. -/
def frameAgainWrong : ChangeSpec := { name := "frameAgain", fn := fun _ => fun
  | [d1, d2] => { results := [.lit (.bool false)], args := [d1, d2] }
  | _ => none }
def FrameAgainWrongFalsely : Prop := frameAgainRow.holds Try.pinned (OpenSpec.ofChange frameAgainWrong)

/-- 'easementlaw01.ValueOrder': WHATEVER THE INPUT: true; the input reads as it did. -/
def valueOrderSpec : ChangeSpec := { name := "valueOrder", fn := fun _ => fun
  | [d1, d2] => { results := [.lit (.bool true)], args := [d1, d2] }
  | _ => none }
def valueOrderRow : OpenClaim := { program := "ytcpcnnpdbognlaa", sum := "c0962428f6e2362fff06a56c5d86e422cd3727e218807d323d6b30944a10491a", func := "easement/easementlaw01.ValueOrder", spec := "valueOrder", inPlace := ["internal/bytealg.abigen_runtime_cmpstring"], apart := false }
def ValueOrderSaid : Prop := valueOrderRow.holds Try.pinned (OpenSpec.ofChange valueOrderSpec)

/-- ITS FALSE NEIGHBOUR: 'it returns false'. Refute it at one input. -/
def valueOrderWrong : ChangeSpec := { name := "valueOrder", fn := fun _ => fun
  | [d1, d2] => { results := [.lit (.bool false)], args := [d1, d2] }
  | _ => none }
def ValueOrderWrongFalsely : Prop := valueOrderRow.holds Try.pinned (OpenSpec.ofChange valueOrderWrong)

/-- 'easementlaw01.ValueMakes': WHATEVER THE INPUT: true; the input reads as it did. -/
def valueMakesSpec : ChangeSpec := { name := "valueMakes", fn := fun _ => fun
  | [d1, d2, d3] => { results := [.lit (.bool true)], args := [d1, d2, d3] }
  | _ => none }
def valueMakesRow : OpenClaim := { program := "ytcpcnnpdbognlaa", sum := "c0962428f6e2362fff06a56c5d86e422cd3727e218807d323d6b30944a10491a", func := "easement/easementlaw01.ValueMakes", spec := "valueMakes", inPlace := ["internal/bytealg.abigen_runtime_cmpstring"], apart := false }
def ValueMakesSaid : Prop := valueMakesRow.holds Try.pinned (OpenSpec.ofChange valueMakesSpec)

/-- ITS FALSE NEIGHBOUR: 'it returns false'. Refute it at one input. -/
def valueMakesWrong : ChangeSpec := { name := "valueMakes", fn := fun _ => fun
  | [d1, d2, d3] => { results := [.lit (.bool false)], args := [d1, d2, d3] }
  | _ => none }
def ValueMakesWrongFalsely : Prop := valueMakesRow.holds Try.pinned (OpenSpec.ofChange valueMakesWrong)

/-- 'easementlaw16.RightsGiven': WHATEVER THE INPUT: true; the input reads as it did. -/
def rightsGivenSpec : ChangeSpec := { name := "rightsGiven", fn := fun _ => fun
  | [d1, d2] => { results := [.lit (.bool true)], args := [d1, d2] }
  | _ => none }
def rightsGivenRow : OpenClaim := { program := "ytcpcnnpdbognlaa", sum := "c0962428f6e2362fff06a56c5d86e422cd3727e218807d323d6b30944a10491a", func := "easement/easementlaw16.RightsGiven", spec := "rightsGiven", inPlace := ["internal/abi.NoEscape"], apart := false }
def RightsGivenSaid : Prop := rightsGivenRow.holds Try.pinned (OpenSpec.ofChange rightsGivenSpec)

/-- ITS FALSE NEIGHBOUR: 'it returns false'. Refute it at one input. -/
def rightsGivenWrong : ChangeSpec := { name := "rightsGiven", fn := fun _ => fun
  | [d1, d2] => { results := [.lit (.bool false)], args := [d1, d2] }
  | _ => none }
def RightsGivenWrongFalsely : Prop := rightsGivenRow.holds Try.pinned (OpenSpec.ofChange rightsGivenWrong)

/-- 'easementlaw16.RightsChain': WHATEVER THE INPUT: true; the input reads as it did. -/
def rightsChainSpec : ChangeSpec := { name := "rightsChain", fn := fun _ => fun
  | [d1, d2] => { results := [.lit (.bool true)], args := [d1, d2] }
  | _ => none }
def rightsChainRow : OpenClaim := { program := "ytcpcnnpdbognlaa", sum := "c0962428f6e2362fff06a56c5d86e422cd3727e218807d323d6b30944a10491a", func := "easement/easementlaw16.RightsChain", spec := "rightsChain", inPlace := ["internal/abi.NoEscape"], apart := false }
def RightsChainSaid : Prop := rightsChainRow.holds Try.pinned (OpenSpec.ofChange rightsChainSpec)

/-- ITS FALSE NEIGHBOUR: 'it returns false'. Refute it at one input. -/
def rightsChainWrong : ChangeSpec := { name := "rightsChain", fn := fun _ => fun
  | [d1, d2] => { results := [.lit (.bool false)], args := [d1, d2] }
  | _ => none }
def RightsChainWrongFalsely : Prop := rightsChainRow.holds Try.pinned (OpenSpec.ofChange rightsChainWrong)

/-- 'easementlaw16.RightsTexts': WHATEVER THE INPUT: true; the input reads as it did. -/
def rightsTextsSpec : ChangeSpec := { name := "rightsTexts", fn := fun _ => fun
  | [d1, d2] => { results := [.lit (.bool true)], args := [d1, d2] }
  | _ => none }
def rightsTextsRow : OpenClaim := { program := "ytcpcnnpdbognlaa", sum := "c0962428f6e2362fff06a56c5d86e422cd3727e218807d323d6b30944a10491a", func := "easement/easementlaw16.RightsTexts", spec := "rightsTexts", inPlace := ["internal/abi.NoEscape"], apart := false }
def RightsTextsSaid : Prop := rightsTextsRow.holds Try.pinned (OpenSpec.ofChange rightsTextsSpec)

/-- ITS FALSE NEIGHBOUR: 'it returns false'. Refute it at one input. -/
def rightsTextsWrong : ChangeSpec := { name := "rightsTexts", fn := fun _ => fun
  | [d1, d2] => { results := [.lit (.bool false)], args := [d1, d2] }
  | _ => none }
def RightsTextsWrongFalsely : Prop := rightsTextsRow.holds Try.pinned (OpenSpec.ofChange rightsTextsWrong)

/-- 'easementlaw01.ValueLists': WHATEVER THE INPUT: true; the input reads as it did. -/
def valueListsSpec : ChangeSpec := { name := "valueLists", fn := fun _ => fun
  | [d1, d2] => { results := [.lit (.bool true)], args := [d1, d2] }
  | _ => none }
def valueListsRow : OpenClaim := { program := "ytcpcnnpdbognlaa", sum := "c0962428f6e2362fff06a56c5d86e422cd3727e218807d323d6b30944a10491a", func := "easement/easementlaw01.ValueLists", spec := "valueLists", inPlace := ["internal/bytealg.abigen_runtime_cmpstring"], apart := false }
def ValueListsSaid : Prop := valueListsRow.holds Try.pinned (OpenSpec.ofChange valueListsSpec)

/-- ITS FALSE NEIGHBOUR: 'it returns false'. Refute it at one input. -/
def valueListsWrong : ChangeSpec := { name := "valueLists", fn := fun _ => fun
  | [d1, d2] => { results := [.lit (.bool false)], args := [d1, d2] }
  | _ => none }
def ValueListsWrongFalsely : Prop := valueListsRow.holds Try.pinned (OpenSpec.ofChange valueListsWrong)

/- THE SECOND FORM. 'bulk': how many values and letters a reading holds, each counted each time it is reached (what is shared counts as often as it is met; a slice's spare places count too). A statement '..UptoSaid' is the law's where the arguments, and the package variables that the reading takes, are together of bulk at most 1048576: NARROWER than '..Said'. Prove '..Said' where nothing that the law and all that it calls make is longer than what came in: it says more and counts as full. Else prove '..UptoSaid'. A law counts once. -/
mutual
def uptoBulk {H : Type} : DataW H → Nat
  | .lit (.string bytes) => bytes.length + 1
  | .lit _ => 1
  | .nil => 1
  | .ptr d => uptoBulk d + 1
  | .slice elems spare => uptoBulkAll elems + uptoBulkAll spare + 1
  | .agg parts => uptoBulkAll parts + 1
  | .iface _ d => uptoBulk d + 1
  | .map entries => uptoBulkEntries entries + 1
  | .held _ => 1
def uptoBulkAll {H : Type} : List (DataW H) → Nat
  | [] => 0
  | d :: r => uptoBulk d + uptoBulkAll r
def uptoBulkEntries {H : Type} : List (Lit × DataW H) → Nat
  | [] => 0
  | x :: r => uptoBulkEntry x + uptoBulkEntries r
def uptoBulkEntry {H : Type} : Lit × DataW H → Nat
  | (.string bytes, d) => bytes.length + uptoBulk d + 1
  | (_, d) => uptoBulk d + 1
 end
def uptoSmall : (H : Type) → List (DataW H) → Bool := fun _ ds => decide (uptoBulkAll ds ≤ 1048576)
def OpenSpec.upto (s : _root_.Go.ChangeSpec) : _root_.Go.OpenSpec := { _root_.Go.OpenSpec.ofChange s with cond := some uptoSmall }

/-- 'easementlaw05.DigitChanges', WHERE WHAT IT READS IS OF BULK AT MOST 1048576: true; the input reads as it did. -/
def digitChangesUptoRow : OpenClaim := { program := "ytcpcnnpdbognlaa", sum := "c0962428f6e2362fff06a56c5d86e422cd3727e218807d323d6b30944a10491a", func := "easement/easementlaw05.DigitChanges", spec := "digitChanges", apart := false, narrowed := true }
def DigitChangesUptoSaid : Prop := digitChangesUptoRow.holds Try.pinned (OpenSpec.upto digitChangesSpec)

/-- 'easementlaw05.DigitSets', WHERE WHAT IT READS IS OF BULK AT MOST 1048576: true; the input reads as it did. -/
def digitSetsUptoRow : OpenClaim := { program := "ytcpcnnpdbognlaa", sum := "c0962428f6e2362fff06a56c5d86e422cd3727e218807d323d6b30944a10491a", func := "easement/easementlaw05.DigitSets", spec := "digitSets", unfollowed := true, recurses := true, apart := false, narrowed := true }
def DigitSetsUptoSaid : Prop := digitSetsUptoRow.holds Try.pinned (OpenSpec.upto digitSetsSpec)

/-- 'easementlaw19.FrameFeeds', WHERE WHAT IT READS IS OF BULK AT MOST 1048576: true; the input reads as it did. -/
def frameFeedsUptoRow : OpenClaim := { program := "ytcpcnnpdbognlaa", sum := "c0962428f6e2362fff06a56c5d86e422cd3727e218807d323d6b30944a10491a", func := "easement/easementlaw19.FrameFeeds", spec := "frameFeeds", apart := false, narrowed := true }
def FrameFeedsUptoSaid : Prop := frameFeedsUptoRow.holds Try.pinned (OpenSpec.upto frameFeedsSpec)

/-- 'easementlaw19.FrameNil', WHERE WHAT IT READS IS OF BULK AT MOST 1048576: true; the input reads as it did. -/
def frameNilUptoRow : OpenClaim := { program := "ytcpcnnpdbognlaa", sum := "c0962428f6e2362fff06a56c5d86e422cd3727e218807d323d6b30944a10491a", func := "easement/easementlaw19.FrameNil", spec := "frameNil", apart := false, narrowed := true }
def FrameNilUptoSaid : Prop := frameNilUptoRow.holds Try.pinned (OpenSpec.upto frameNilSpec)

/-- 'easementlaw15.DrawsActs', WHERE WHAT IT READS IS OF BULK AT MOST 1048576: true; the input reads as it did. -/
def drawsActsUptoRow : OpenClaim := { program := "ytcpcnnpdbognlaa", sum := "c0962428f6e2362fff06a56c5d86e422cd3727e218807d323d6b30944a10491a", func := "easement/easementlaw15.DrawsActs", spec := "drawsActs", unfollowed := true, recurses := true, apart := false, narrowed := true }
def DrawsActsUptoSaid : Prop := drawsActsUptoRow.holds Try.pinned (OpenSpec.upto drawsActsSpec)

/-- 'easementlaw15.DrawsNil', WHERE WHAT IT READS IS OF BULK AT MOST 1048576: true; the input reads as it did. -/
def drawsNilUptoRow : OpenClaim := { program := "ytcpcnnpdbognlaa", sum := "c0962428f6e2362fff06a56c5d86e422cd3727e218807d323d6b30944a10491a", func := "easement/easementlaw15.DrawsNil", spec := "drawsNil", unfollowed := true, recurses := true, apart := false, narrowed := true }
def DrawsNilUptoSaid : Prop := drawsNilUptoRow.holds Try.pinned (OpenSpec.upto drawsNilSpec)

/-- 'easementlaw01.ValueChains', WHERE WHAT IT READS IS OF BULK AT MOST 1048576: true; the input reads as it did. -/
def valueChainsUptoRow : OpenClaim := { program := "ytcpcnnpdbognlaa", sum := "c0962428f6e2362fff06a56c5d86e422cd3727e218807d323d6b30944a10491a", func := "easement/easementlaw01.ValueChains", spec := "valueChains", inPlace := ["internal/bytealg.abigen_runtime_cmpstring"], apart := false, narrowed := true }
def ValueChainsUptoSaid : Prop := valueChainsUptoRow.holds Try.pinned (OpenSpec.upto valueChainsSpec)

/-- 'easementlaw19.FrameAgain', WHERE WHAT IT READS IS OF BULK AT MOST 1048576: true; the input reads as it did. -/
def frameAgainUptoRow : OpenClaim := { program := "ytcpcnnpdbognlaa", sum := "c0962428f6e2362fff06a56c5d86e422cd3727e218807d323d6b30944a10491a", func := "easement/easementlaw19.FrameAgain", spec := "frameAgain", apart := false, narrowed := true }
def FrameAgainUptoSaid : Prop := frameAgainUptoRow.holds Try.pinned (OpenSpec.upto frameAgainSpec)

/-- 'easementlaw01.ValueOrder', WHERE WHAT IT READS IS OF BULK AT MOST 1048576: true; the input reads as it did. -/
def valueOrderUptoRow : OpenClaim := { program := "ytcpcnnpdbognlaa", sum := "c0962428f6e2362fff06a56c5d86e422cd3727e218807d323d6b30944a10491a", func := "easement/easementlaw01.ValueOrder", spec := "valueOrder", inPlace := ["internal/bytealg.abigen_runtime_cmpstring"], apart := false, narrowed := true }
def ValueOrderUptoSaid : Prop := valueOrderUptoRow.holds Try.pinned (OpenSpec.upto valueOrderSpec)

/-- 'easementlaw01.ValueMakes', WHERE WHAT IT READS IS OF BULK AT MOST 1048576: true; the input reads as it did. -/
def valueMakesUptoRow : OpenClaim := { program := "ytcpcnnpdbognlaa", sum := "c0962428f6e2362fff06a56c5d86e422cd3727e218807d323d6b30944a10491a", func := "easement/easementlaw01.ValueMakes", spec := "valueMakes", inPlace := ["internal/bytealg.abigen_runtime_cmpstring"], apart := false, narrowed := true }
def ValueMakesUptoSaid : Prop := valueMakesUptoRow.holds Try.pinned (OpenSpec.upto valueMakesSpec)

/-- 'easementlaw16.RightsGiven', WHERE WHAT IT READS IS OF BULK AT MOST 1048576: true; the input reads as it did. -/
def rightsGivenUptoRow : OpenClaim := { program := "ytcpcnnpdbognlaa", sum := "c0962428f6e2362fff06a56c5d86e422cd3727e218807d323d6b30944a10491a", func := "easement/easementlaw16.RightsGiven", spec := "rightsGiven", inPlace := ["internal/abi.NoEscape"], apart := false, narrowed := true }
def RightsGivenUptoSaid : Prop := rightsGivenUptoRow.holds Try.pinned (OpenSpec.upto rightsGivenSpec)

/-- 'easementlaw16.RightsChain', WHERE WHAT IT READS IS OF BULK AT MOST 1048576: true; the input reads as it did. -/
def rightsChainUptoRow : OpenClaim := { program := "ytcpcnnpdbognlaa", sum := "c0962428f6e2362fff06a56c5d86e422cd3727e218807d323d6b30944a10491a", func := "easement/easementlaw16.RightsChain", spec := "rightsChain", inPlace := ["internal/abi.NoEscape"], apart := false, narrowed := true }
def RightsChainUptoSaid : Prop := rightsChainUptoRow.holds Try.pinned (OpenSpec.upto rightsChainSpec)

/-- 'easementlaw16.RightsTexts', WHERE WHAT IT READS IS OF BULK AT MOST 1048576: true; the input reads as it did. -/
def rightsTextsUptoRow : OpenClaim := { program := "ytcpcnnpdbognlaa", sum := "c0962428f6e2362fff06a56c5d86e422cd3727e218807d323d6b30944a10491a", func := "easement/easementlaw16.RightsTexts", spec := "rightsTexts", inPlace := ["internal/abi.NoEscape"], apart := false, narrowed := true }
def RightsTextsUptoSaid : Prop := rightsTextsUptoRow.holds Try.pinned (OpenSpec.upto rightsTextsSpec)

/-- 'easementlaw01.ValueLists', WHERE WHAT IT READS IS OF BULK AT MOST 1048576: true; the input reads as it did. -/
def valueListsUptoRow : OpenClaim := { program := "ytcpcnnpdbognlaa", sum := "c0962428f6e2362fff06a56c5d86e422cd3727e218807d323d6b30944a10491a", func := "easement/easementlaw01.ValueLists", spec := "valueLists", inPlace := ["internal/bytealg.abigen_runtime_cmpstring"], apart := false, narrowed := true }
def ValueListsUptoSaid : Prop := valueListsUptoRow.holds Try.pinned (OpenSpec.upto valueListsSpec)

end Rows
end Go.Proofs.Ytcpcnnpdbognlaa
