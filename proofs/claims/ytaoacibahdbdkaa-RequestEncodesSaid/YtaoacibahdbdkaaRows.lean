/-
  No cell of these rows narrows 'for every input' (looked for: loops, veiled, ifaces, maps, wideKeys, modest, calm, conditions, laid).
  DERIVED. THE GIVEN ROWS OF THIS SEAT. 13 by the template 'for every input the law returns true; each argument reads behind the call as it read before'; 0 by the template 'total and deterministic' (their statements: YtaoacibahdbdkaaTotals.lean).
  GIVEN WITH THE SEED: the statements are not yours to turn. If you find one false, say at which input.
  Laid BY PROGRAM, IN A SANDBOX (cutbox-rows.mjs): the forced cells as the released guide's own fill.sh prints them over the translation 8dc61a8637a5f3f9… (all of the seat's roots in one cut). By AI agents, Wed Nov 11 2026. No macro, syntax, notation, axiom, sorry.
-/
import Derived.Test.YtaoacibahdbdkaaChecked
import GoSem.Claim
import GoSem.ClaimJoined
import GoSem.ClaimMapViews
import Derived.JoinedTies
import Derived.KernelRfl
namespace Go.Proofs.Ytaoacibahdbdkaa
/- THE CELL 'sum', in the pinned program and in every row, IS THE sha256 OF THE DUMP (.gsa) THAT YtaoacibahdbdkaaProg.lean LOADS. Nothing in Lean hashes anything: it is a label: what it is worth is what the hold of that sum in a sandbox is worth. -/
noncomputable def Try.pinned : Pinned := { name := "ytaoacibahdbdkaa", sum := "8dc61a8637a5f3f9b17244a967a025d6276f05108daa3cf6b713d98a0c5a567c", checked := Try.checked }
namespace Rows
def none {H : Type} : Left H := { results := [], args := [] }

/-- 'easementlaw18.LedgerBills': WHATEVER THE INPUT: true; the input reads as it did. -/
def ledgerBillsSpec : ChangeSpec := { name := "ledgerBills", fn := fun _ => fun
  | [d1, d2, d3] => { results := [.lit (.bool true)], args := [d1, d2, d3] }
  | _ => none }
def ledgerBillsRow : OpenClaim := { program := "ytaoacibahdbdkaa", sum := "8dc61a8637a5f3f9b17244a967a025d6276f05108daa3cf6b713d98a0c5a567c", func := "easement/easementlaw18.LedgerBills", spec := "ledgerBills", inPlace := ["sync/atomic.LoadInt64", "sync/atomic.StoreInt64"], apart := false }
def LedgerBillsSaid : Prop := ledgerBillsRow.holds Try.pinned (OpenSpec.ofChange ledgerBillsSpec)

/-- ITS FALSE NEIGHBOUR: 'it returns false'. Refute it at one input. -/
def ledgerBillsWrong : ChangeSpec := { name := "ledgerBills", fn := fun _ => fun
  | [d1, d2, d3] => { results := [.lit (.bool false)], args := [d1, d2, d3] }
  | _ => none }
def LedgerBillsWrongFalsely : Prop := ledgerBillsRow.holds Try.pinned (OpenSpec.ofChange ledgerBillsWrong)

/-- 'easementlaw18.LedgerActs': WHATEVER THE INPUT: true; the input reads as it did. -/
def ledgerActsSpec : ChangeSpec := { name := "ledgerActs", fn := fun _ => fun
  | [d1, d2] => { results := [.lit (.bool true)], args := [d1, d2] }
  | _ => none }
def ledgerActsRow : OpenClaim := { program := "ytaoacibahdbdkaa", sum := "8dc61a8637a5f3f9b17244a967a025d6276f05108daa3cf6b713d98a0c5a567c", func := "easement/easementlaw18.LedgerActs", spec := "ledgerActs", inPlace := ["sync/atomic.LoadInt64", "sync/atomic.StoreInt64"], apart := false }
def LedgerActsSaid : Prop := ledgerActsRow.holds Try.pinned (OpenSpec.ofChange ledgerActsSpec)

/-- ITS FALSE NEIGHBOUR: 'it returns false'. Refute it at one input. -/
def ledgerActsWrong : ChangeSpec := { name := "ledgerActs", fn := fun _ => fun
  | [d1, d2] => { results := [.lit (.bool false)], args := [d1, d2] }
  | _ => none }
def LedgerActsWrongFalsely : Prop := ledgerActsRow.holds Try.pinned (OpenSpec.ofChange ledgerActsWrong)

/-- 'easementlaw18.LedgerNil': WHATEVER THE INPUT: true; the input reads as it did. -/
def ledgerNilSpec : ChangeSpec := { name := "ledgerNil", fn := fun _ => fun
  | [d1, d2] => { results := [.lit (.bool true)], args := [d1, d2] }
  | _ => none }
def ledgerNilRow : OpenClaim := { program := "ytaoacibahdbdkaa", sum := "8dc61a8637a5f3f9b17244a967a025d6276f05108daa3cf6b713d98a0c5a567c", func := "easement/easementlaw18.LedgerNil", spec := "ledgerNil", inPlace := ["sync/atomic.LoadInt64", "sync/atomic.StoreInt64"], apart := false }
def LedgerNilSaid : Prop := ledgerNilRow.holds Try.pinned (OpenSpec.ofChange ledgerNilSpec)

/-- ITS FALSE NEIGHBOUR: 'it returns false'. Refute it at one input. -/
def ledgerNilWrong : ChangeSpec := { name := "ledgerNil", fn := fun _ => fun
  | [d1, d2] => { results := [.lit (.bool false)], args := [d1, d2] }
  | _ => none }
def LedgerNilWrongFalsely : Prop := ledgerNilRow.holds Try.pinned (OpenSpec.ofChange ledgerNilWrong)

/-- 'easementlaw03.HashMixes': WHATEVER THE INPUT: true; the input reads as it did. -/
def hashMixesSpec : ChangeSpec := { name := "hashMixes", fn := fun _ => fun
  | [d1, d2] => { results := [.lit (.bool true)], args := [d1, d2] }
  | _ => none }
def hashMixesRow : OpenClaim := { program := "ytaoacibahdbdkaa", sum := "8dc61a8637a5f3f9b17244a967a025d6276f05108daa3cf6b713d98a0c5a567c", func := "easement/easementlaw03.HashMixes", spec := "hashMixes", inPlace := ["sync/atomic.LoadUint32", "(*internal/sync.Mutex).Lock", "internal/race.Disable", "sync/atomic.CompareAndSwapInt32", "internal/race.Enable", "internal/race.Acquire", "(*internal/sync.Mutex).lockSlow", "internal/sync.runtime_canSpin", "internal/sync.runtime_doSpin", "internal/sync.throw", "internal/sync.runtime_nanotime", "internal/sync.runtime_SemacquireMutex", "sync/atomic.AddInt32", "(*internal/sync.Mutex).Unlock", "internal/race.ReleaseMerge", "(*internal/sync.Mutex).unlockSlow", "internal/sync.fatal", "internal/sync.runtime_Semrelease", "sync/atomic.StoreUint32"], unfollowed := true, recurses := true, apart := false }
def HashMixesSaid : Prop := hashMixesRow.holds Try.pinned (OpenSpec.ofChange hashMixesSpec)

/-- ITS FALSE NEIGHBOUR: 'it returns false'. Refute it at one input. -/
def hashMixesWrong : ChangeSpec := { name := "hashMixes", fn := fun _ => fun
  | [d1, d2] => { results := [.lit (.bool false)], args := [d1, d2] }
  | _ => none }
def HashMixesWrongFalsely : Prop := hashMixesRow.holds Try.pinned (OpenSpec.ofChange hashMixesWrong)

/-- 'easementlaw02.PackedPuts': WHATEVER THE INPUT: true; the input reads as it did. -/
def packedPutsSpec : ChangeSpec := { name := "packedPuts", fn := fun _ => fun
  | [d1, d2, d3] => { results := [.lit (.bool true)], args := [d1, d2, d3] }
  | _ => none }
def packedPutsRow : OpenClaim := { program := "ytaoacibahdbdkaa", sum := "8dc61a8637a5f3f9b17244a967a025d6276f05108daa3cf6b713d98a0c5a567c", func := "easement/easementlaw02.PackedPuts", spec := "packedPuts", apart := false }
def PackedPutsSaid : Prop := packedPutsRow.holds Try.pinned (OpenSpec.ofChange packedPutsSpec)

/-- ITS FALSE NEIGHBOUR: 'it returns false'. Refute it at one input. -/
def packedPutsWrong : ChangeSpec := { name := "packedPuts", fn := fun _ => fun
  | [d1, d2, d3] => { results := [.lit (.bool false)], args := [d1, d2, d3] }
  | _ => none }
def PackedPutsWrongFalsely : Prop := packedPutsRow.holds Try.pinned (OpenSpec.ofChange packedPutsWrong)

/-- 'easementlaw02.PackedNil': WHATEVER THE INPUT: true; the input reads as it did. -/
def packedNilSpec : ChangeSpec := { name := "packedNil", fn := fun _ => fun
  | [d] => { results := [.lit (.bool true)], args := [d] }
  | _ => none }
def packedNilRow : OpenClaim := { program := "ytaoacibahdbdkaa", sum := "8dc61a8637a5f3f9b17244a967a025d6276f05108daa3cf6b713d98a0c5a567c", func := "easement/easementlaw02.PackedNil", spec := "packedNil", apart := false }
def PackedNilSaid : Prop := packedNilRow.holds Try.pinned (OpenSpec.ofChange packedNilSpec)

/-- ITS FALSE NEIGHBOUR: 'it returns false'. Refute it at one input. -/
def packedNilWrong : ChangeSpec := { name := "packedNil", fn := fun _ => fun
  | [d] => { results := [.lit (.bool false)], args := [d] }
  | _ => none }
def PackedNilWrongFalsely : Prop := packedNilRow.holds Try.pinned (OpenSpec.ofChange packedNilWrong)

/-- 'easementlaw03.HashNumbers': WHATEVER THE INPUT: true; the input reads as it did. -/
def hashNumbersSpec : ChangeSpec := { name := "hashNumbers", fn := fun _ => fun
  | [d1, d2, d3] => { results := [.lit (.bool true)], args := [d1, d2, d3] }
  | _ => none }
def hashNumbersRow : OpenClaim := { program := "ytaoacibahdbdkaa", sum := "8dc61a8637a5f3f9b17244a967a025d6276f05108daa3cf6b713d98a0c5a567c", func := "easement/easementlaw03.HashNumbers", spec := "hashNumbers", inPlace := ["sync/atomic.LoadUint32", "(*internal/sync.Mutex).Lock", "internal/race.Disable", "sync/atomic.CompareAndSwapInt32", "internal/race.Enable", "internal/race.Acquire", "(*internal/sync.Mutex).lockSlow", "internal/sync.runtime_canSpin", "internal/sync.runtime_doSpin", "internal/sync.throw", "internal/sync.runtime_nanotime", "internal/sync.runtime_SemacquireMutex", "sync/atomic.AddInt32", "(*internal/sync.Mutex).Unlock", "internal/race.ReleaseMerge", "(*internal/sync.Mutex).unlockSlow", "internal/sync.fatal", "internal/sync.runtime_Semrelease", "sync/atomic.StoreUint32"], unfollowed := true, recurses := true, apart := false }
def HashNumbersSaid : Prop := hashNumbersRow.holds Try.pinned (OpenSpec.ofChange hashNumbersSpec)

/-- ITS FALSE NEIGHBOUR: 'it returns false'. Refute it at one input. -/
def hashNumbersWrong : ChangeSpec := { name := "hashNumbers", fn := fun _ => fun
  | [d1, d2, d3] => { results := [.lit (.bool false)], args := [d1, d2, d3] }
  | _ => none }
def HashNumbersWrongFalsely : Prop := hashNumbersRow.holds Try.pinned (OpenSpec.ofChange hashNumbersWrong)

/-- 'easementlaw03.HashLists': WHATEVER THE INPUT: true; the input reads as it did. -/
def hashListsSpec : ChangeSpec := { name := "hashLists", fn := fun _ => fun
  | [d1, d2] => { results := [.lit (.bool true)], args := [d1, d2] }
  | _ => none }
def hashListsRow : OpenClaim := { program := "ytaoacibahdbdkaa", sum := "8dc61a8637a5f3f9b17244a967a025d6276f05108daa3cf6b713d98a0c5a567c", func := "easement/easementlaw03.HashLists", spec := "hashLists", inPlace := ["sync/atomic.LoadUint32", "(*internal/sync.Mutex).Lock", "internal/race.Disable", "sync/atomic.CompareAndSwapInt32", "internal/race.Enable", "internal/race.Acquire", "(*internal/sync.Mutex).lockSlow", "internal/sync.runtime_canSpin", "internal/sync.runtime_doSpin", "internal/sync.throw", "internal/sync.runtime_nanotime", "internal/sync.runtime_SemacquireMutex", "sync/atomic.AddInt32", "(*internal/sync.Mutex).Unlock", "internal/race.ReleaseMerge", "(*internal/sync.Mutex).unlockSlow", "internal/sync.fatal", "internal/sync.runtime_Semrelease", "sync/atomic.StoreUint32"], unfollowed := true, recurses := true, apart := false }
def HashListsSaid : Prop := hashListsRow.holds Try.pinned (OpenSpec.ofChange hashListsSpec)

/-- ITS FALSE NEIGHBOUR: 'it returns false'. Refute it at one input. -/
def hashListsWrong : ChangeSpec := { name := "hashLists", fn := fun _ => fun
  | [d1, d2] => { results := [.lit (.bool false)], args := [d1, d2] }
  | _ => none }
def HashListsWrongFalsely : Prop := hashListsRow.holds Try.pinned (OpenSpec.ofChange hashListsWrong)

/-- 'easementlaw21.ReplySame': WHATEVER THE INPUT: true; the input reads as it did. -/
def replySameSpec : ChangeSpec := { name := "replySame", fn := fun _ => fun
  | [d1, d2] => { results := [.lit (.bool true)], args := [d1, d2] }
  | _ => none }
def replySameRow : OpenClaim := { program := "ytaoacibahdbdkaa", sum := "8dc61a8637a5f3f9b17244a967a025d6276f05108daa3cf6b713d98a0c5a567c", func := "easement/easementlaw21.ReplySame", spec := "replySame", inPlace := ["internal/bytealg.abigen_runtime_cmpstring"], apart := false }
def ReplySameSaid : Prop := replySameRow.holds Try.pinned (OpenSpec.ofChange replySameSpec)

/-- ITS FALSE NEIGHBOUR: 'it returns false'. Refute it at one input. -/
def replySameWrong : ChangeSpec := { name := "replySame", fn := fun _ => fun
  | [d1, d2] => { results := [.lit (.bool false)], args := [d1, d2] }
  | _ => none }
def ReplySameWrongFalsely : Prop := replySameRow.holds Try.pinned (OpenSpec.ofChange replySameWrong)

/-- 'easementlaw21.ReplyParses': WHATEVER THE INPUT: true; the input reads as it did. -/
def replyParsesSpec : ChangeSpec := { name := "replyParses", fn := fun _ => fun
  | [d] => { results := [.lit (.bool true)], args := [d] }
  | _ => none }
def replyParsesRow : OpenClaim := { program := "ytaoacibahdbdkaa", sum := "8dc61a8637a5f3f9b17244a967a025d6276f05108daa3cf6b713d98a0c5a567c", func := "easement/easementlaw21.ReplyParses", spec := "replyParses", apart := false }
def ReplyParsesSaid : Prop := replyParsesRow.holds Try.pinned (OpenSpec.ofChange replyParsesSpec)

/-- ITS FALSE NEIGHBOUR: 'it returns false'. Refute it at one input. -/
def replyParsesWrong : ChangeSpec := { name := "replyParses", fn := fun _ => fun
  | [d] => { results := [.lit (.bool false)], args := [d] }
  | _ => none }
def ReplyParsesWrongFalsely : Prop := replyParsesRow.holds Try.pinned (OpenSpec.ofChange replyParsesWrong)

/-- 'easementlaw20.RequestParses': WHATEVER THE INPUT: true; the input reads as it did. -/
def requestParsesSpec : ChangeSpec := { name := "requestParses", fn := fun _ => fun
  | [d] => { results := [.lit (.bool true)], args := [d] }
  | _ => none }
def requestParsesRow : OpenClaim := { program := "ytaoacibahdbdkaa", sum := "8dc61a8637a5f3f9b17244a967a025d6276f05108daa3cf6b713d98a0c5a567c", func := "easement/easementlaw20.RequestParses", spec := "requestParses", unfollowed := true, recurses := true, apart := false }
def RequestParsesSaid : Prop := requestParsesRow.holds Try.pinned (OpenSpec.ofChange requestParsesSpec)

/-- ITS FALSE NEIGHBOUR: 'it returns false'. Refute it at one input. -/
def requestParsesWrong : ChangeSpec := { name := "requestParses", fn := fun _ => fun
  | [d] => { results := [.lit (.bool false)], args := [d] }
  | _ => none }
def RequestParsesWrongFalsely : Prop := requestParsesRow.holds Try.pinned (OpenSpec.ofChange requestParsesWrong)

/-- 'easementlaw20.RequestEncodes': WHATEVER THE INPUT: true; the input reads as it did. -/
def requestEncodesSpec : ChangeSpec := { name := "requestEncodes", fn := fun _ => fun
  | [d] => { results := [.lit (.bool true)], args := [d] }
  | _ => none }
def requestEncodesRow : OpenClaim := { program := "ytaoacibahdbdkaa", sum := "8dc61a8637a5f3f9b17244a967a025d6276f05108daa3cf6b713d98a0c5a567c", func := "easement/easementlaw20.RequestEncodes", spec := "requestEncodes", unfollowed := true, recurses := true, apart := false }
def RequestEncodesSaid : Prop := requestEncodesRow.holds Try.pinned (OpenSpec.ofChange requestEncodesSpec)

/-- ITS FALSE NEIGHBOUR: 'it returns false'. Refute it at one input. -/
def requestEncodesWrong : ChangeSpec := { name := "requestEncodes", fn := fun _ => fun
  | [d] => { results := [.lit (.bool false)], args := [d] }
  | _ => none }
def RequestEncodesWrongFalsely : Prop := requestEncodesRow.holds Try.pinned (OpenSpec.ofChange requestEncodesWrong)

/-- 'easementlaw21.ReplyBytes': WHATEVER THE INPUT: true; the input reads as it did. -/
def replyBytesSpec : ChangeSpec := { name := "replyBytes", fn := fun _ => fun
  | [d] => { results := [.lit (.bool true)], args := [d] }
  | _ => none }
def replyBytesRow : OpenClaim := { program := "ytaoacibahdbdkaa", sum := "8dc61a8637a5f3f9b17244a967a025d6276f05108daa3cf6b713d98a0c5a567c", func := "easement/easementlaw21.ReplyBytes", spec := "replyBytes", inPlace := ["internal/bytealg.abigen_runtime_cmpstring"], apart := false }
def ReplyBytesSaid : Prop := replyBytesRow.holds Try.pinned (OpenSpec.ofChange replyBytesSpec)

/-- ITS FALSE NEIGHBOUR: 'it returns false'. Refute it at one input. -/
def replyBytesWrong : ChangeSpec := { name := "replyBytes", fn := fun _ => fun
  | [d] => { results := [.lit (.bool false)], args := [d] }
  | _ => none }
def ReplyBytesWrongFalsely : Prop := replyBytesRow.holds Try.pinned (OpenSpec.ofChange replyBytesWrong)

/- THE SECOND FORM. 'bulk': how many values and letters a reading holds, each counted each time it is reached (what is shared counts as often as it is met; a slice's spare places count too). A statement '..UptoSaid' is the law's where the arguments, and the package variables that the reading takes, are together of bulk at most 1048576: NARROWER than '..Said'. Prove '..Said' where nothing that the law and all that it calls make is longer than what came in: it says more and counts as full. Else prove '..UptoSaid'. A law counts once. -/
mutual
def uptoBulk {H : Type} : DataW H → Nat
  | .lit (.string bytes) => bytes.length + 1
  | .lit _ => 1
  | .nil => 1
  | .ptr d => uptoBulk d + 1
  | .slice elems spare => uptoBulkAll elems + uptoBulkAll spare + 1
  | .agg parts => uptoBulkAll parts + 1
  | .iface _ d => uptoBulk d + 1
  | .map entries => uptoBulkEntries entries + 1
  | .held _ => 1
def uptoBulkAll {H : Type} : List (DataW H) → Nat
  | [] => 0
  | d :: r => uptoBulk d + uptoBulkAll r
def uptoBulkEntries {H : Type} : List (Lit × DataW H) → Nat
  | [] => 0
  | x :: r => uptoBulkEntry x + uptoBulkEntries r
def uptoBulkEntry {H : Type} : Lit × DataW H → Nat
  | (.string bytes, d) => bytes.length + uptoBulk d + 1
  | (_, d) => uptoBulk d + 1
 end
def uptoSmall : (H : Type) → List (DataW H) → Bool := fun _ ds => decide (uptoBulkAll ds ≤ 1048576)
def OpenSpec.upto (s : _root_.Go.ChangeSpec) : _root_.Go.OpenSpec := { _root_.Go.OpenSpec.ofChange s with cond := some uptoSmall }

/-- 'easementlaw18.LedgerBills', WHERE WHAT IT READS IS OF BULK AT MOST 1048576: true; the input reads as it did. -/
def ledgerBillsUptoRow : OpenClaim := { program := "ytaoacibahdbdkaa", sum := "8dc61a8637a5f3f9b17244a967a025d6276f05108daa3cf6b713d98a0c5a567c", func := "easement/easementlaw18.LedgerBills", spec := "ledgerBills", inPlace := ["sync/atomic.LoadInt64", "sync/atomic.StoreInt64"], apart := false, narrowed := true }
def LedgerBillsUptoSaid : Prop := ledgerBillsUptoRow.holds Try.pinned (OpenSpec.upto ledgerBillsSpec)

/-- 'easementlaw18.LedgerActs', WHERE WHAT IT READS IS OF BULK AT MOST 1048576: true; the input reads as it did. -/
def ledgerActsUptoRow : OpenClaim := { program := "ytaoacibahdbdkaa", sum := "8dc61a8637a5f3f9b17244a967a025d6276f05108daa3cf6b713d98a0c5a567c", func := "easement/easementlaw18.LedgerActs", spec := "ledgerActs", inPlace := ["sync/atomic.LoadInt64", "sync/atomic.StoreInt64"], apart := false, narrowed := true }
def LedgerActsUptoSaid : Prop := ledgerActsUptoRow.holds Try.pinned (OpenSpec.upto ledgerActsSpec)

/-- 'easementlaw18.LedgerNil', WHERE WHAT IT READS IS OF BULK AT MOST 1048576: true; the input reads as it did. -/
def ledgerNilUptoRow : OpenClaim := { program := "ytaoacibahdbdkaa", sum := "8dc61a8637a5f3f9b17244a967a025d6276f05108daa3cf6b713d98a0c5a567c", func := "easement/easementlaw18.LedgerNil", spec := "ledgerNil", inPlace := ["sync/atomic.LoadInt64", "sync/atomic.StoreInt64"], apart := false, narrowed := true }
def LedgerNilUptoSaid : Prop := ledgerNilUptoRow.holds Try.pinned (OpenSpec.upto ledgerNilSpec)

/-- 'easementlaw03.HashMixes', WHERE WHAT IT READS IS OF BULK AT MOST 1048576: true; the input reads as it did. -/
def hashMixesUptoRow : OpenClaim := { program := "ytaoacibahdbdkaa", sum := "8dc61a8637a5f3f9b17244a967a025d6276f05108daa3cf6b713d98a0c5a567c", func := "easement/easementlaw03.HashMixes", spec := "hashMixes", inPlace := ["sync/atomic.LoadUint32", "(*internal/sync.Mutex).Lock", "internal/race.Disable", "sync/atomic.CompareAndSwapInt32", "internal/race.Enable", "internal/race.Acquire", "(*internal/sync.Mutex).lockSlow", "internal/sync.runtime_canSpin", "internal/sync.runtime_doSpin", "internal/sync.throw", "internal/sync.runtime_nanotime", "internal/sync.runtime_SemacquireMutex", "sync/atomic.AddInt32", "(*internal/sync.Mutex).Unlock", "internal/race.ReleaseMerge", "(*internal/sync.Mutex).unlockSlow", "internal/sync.fatal", "internal/sync.runtime_Semrelease", "sync/atomic.StoreUint32"], unfollowed := true, recurses := true, apart := false, narrowed := true }
def HashMixesUptoSaid : Prop := hashMixesUptoRow.holds Try.pinned (OpenSpec.upto hashMixesSpec)

/-- 'easementlaw02.PackedPuts', WHERE WHAT IT READS IS OF BULK AT MOST 1048576: true; the input reads as it did. -/
def packedPutsUptoRow : OpenClaim := { program := "ytaoacibahdbdkaa", sum := "8dc61a8637a5f3f9b17244a967a025d6276f05108daa3cf6b713d98a0c5a567c", func := "easement/easementlaw02.PackedPuts", spec := "packedPuts", apart := false, narrowed := true }
def PackedPutsUptoSaid : Prop := packedPutsUptoRow.holds Try.pinned (OpenSpec.upto packedPutsSpec)

/-- 'easementlaw02.PackedNil', WHERE WHAT IT READS IS OF BULK AT MOST 1048576: true; the input reads as it did. -/
def packedNilUptoRow : OpenClaim := { program := "ytaoacibahdbdkaa", sum := "8dc61a8637a5f3f9b17244a967a025d6276f05108daa3cf6b713d98a0c5a567c", func := "easement/easementlaw02.PackedNil", spec := "packedNil", apart := false, narrowed := true }
def PackedNilUptoSaid : Prop := packedNilUptoRow.holds Try.pinned (OpenSpec.upto packedNilSpec)

/-- 'easementlaw03.HashNumbers', WHERE WHAT IT READS IS OF BULK AT MOST 1048576: true; the input reads as it did. -/
def hashNumbersUptoRow : OpenClaim := { program := "ytaoacibahdbdkaa", sum := "8dc61a8637a5f3f9b17244a967a025d6276f05108daa3cf6b713d98a0c5a567c", func := "easement/easementlaw03.HashNumbers", spec := "hashNumbers", inPlace := ["sync/atomic.LoadUint32", "(*internal/sync.Mutex).Lock", "internal/race.Disable", "sync/atomic.CompareAndSwapInt32", "internal/race.Enable", "internal/race.Acquire", "(*internal/sync.Mutex).lockSlow", "internal/sync.runtime_canSpin", "internal/sync.runtime_doSpin", "internal/sync.throw", "internal/sync.runtime_nanotime", "internal/sync.runtime_SemacquireMutex", "sync/atomic.AddInt32", "(*internal/sync.Mutex).Unlock", "internal/race.ReleaseMerge", "(*internal/sync.Mutex).unlockSlow", "internal/sync.fatal", "internal/sync.runtime_Semrelease", "sync/atomic.StoreUint32"], unfollowed := true, recurses := true, apart := false, narrowed := true }
def HashNumbersUptoSaid : Prop := hashNumbersUptoRow.holds Try.pinned (OpenSpec.upto hashNumbersSpec)

/-- 'easementlaw03.HashLists', WHERE WHAT IT READS IS OF BULK AT MOST 1048576: true; the input reads as it did. -/
def hashListsUptoRow : OpenClaim := { program := "ytaoacibahdbdkaa", sum := "8dc61a8637a5f3f9b17244a967a025d6276f05108daa3cf6b713d98a0c5a567c", func := "easement/easementlaw03.HashLists", spec := "hashLists", inPlace := ["sync/atomic.LoadUint32", "(*internal/sync.Mutex).Lock", "internal/race.Disable", "sync/atomic.CompareAndSwapInt32", "internal/race.Enable", "internal/race.Acquire", "(*internal/sync.Mutex).lockSlow", "internal/sync.runtime_canSpin", "internal/sync.runtime_doSpin", "internal/sync.throw", "internal/sync.runtime_nanotime", "internal/sync.runtime_SemacquireMutex", "sync/atomic.AddInt32", "(*internal/sync.Mutex).Unlock", "internal/race.ReleaseMerge", "(*internal/sync.Mutex).unlockSlow", "internal/sync.fatal", "internal/sync.runtime_Semrelease", "sync/atomic.StoreUint32"], unfollowed := true, recurses := true, apart := false, narrowed := true }
def HashListsUptoSaid : Prop := hashListsUptoRow.holds Try.pinned (OpenSpec.upto hashListsSpec)

/-- 'easementlaw21.ReplySame', WHERE WHAT IT READS IS OF BULK AT MOST 1048576: true; the input reads as it did. -/
def replySameUptoRow : OpenClaim := { program := "ytaoacibahdbdkaa", sum := "8dc61a8637a5f3f9b17244a967a025d6276f05108daa3cf6b713d98a0c5a567c", func := "easement/easementlaw21.ReplySame", spec := "replySame", inPlace := ["internal/bytealg.abigen_runtime_cmpstring"], apart := false, narrowed := true }
def ReplySameUptoSaid : Prop := replySameUptoRow.holds Try.pinned (OpenSpec.upto replySameSpec)

/-- 'easementlaw21.ReplyParses', WHERE WHAT IT READS IS OF BULK AT MOST 1048576: true; the input reads as it did. -/
def replyParsesUptoRow : OpenClaim := { program := "ytaoacibahdbdkaa", sum := "8dc61a8637a5f3f9b17244a967a025d6276f05108daa3cf6b713d98a0c5a567c", func := "easement/easementlaw21.ReplyParses", spec := "replyParses", apart := false, narrowed := true }
def ReplyParsesUptoSaid : Prop := replyParsesUptoRow.holds Try.pinned (OpenSpec.upto replyParsesSpec)

/-- 'easementlaw20.RequestParses', WHERE WHAT IT READS IS OF BULK AT MOST 1048576: true; the input reads as it did. -/
def requestParsesUptoRow : OpenClaim := { program := "ytaoacibahdbdkaa", sum := "8dc61a8637a5f3f9b17244a967a025d6276f05108daa3cf6b713d98a0c5a567c", func := "easement/easementlaw20.RequestParses", spec := "requestParses", unfollowed := true, recurses := true, apart := false, narrowed := true }
def RequestParsesUptoSaid : Prop := requestParsesUptoRow.holds Try.pinned (OpenSpec.upto requestParsesSpec)

/-- 'easementlaw20.RequestEncodes', WHERE WHAT IT READS IS OF BULK AT MOST 1048576: true; the input reads as it did. -/
def requestEncodesUptoRow : OpenClaim := { program := "ytaoacibahdbdkaa", sum := "8dc61a8637a5f3f9b17244a967a025d6276f05108daa3cf6b713d98a0c5a567c", func := "easement/easementlaw20.RequestEncodes", spec := "requestEncodes", unfollowed := true, recurses := true, apart := false, narrowed := true }
def RequestEncodesUptoSaid : Prop := requestEncodesUptoRow.holds Try.pinned (OpenSpec.upto requestEncodesSpec)

/-- 'easementlaw21.ReplyBytes', WHERE WHAT IT READS IS OF BULK AT MOST 1048576: true; the input reads as it did. -/
def replyBytesUptoRow : OpenClaim := { program := "ytaoacibahdbdkaa", sum := "8dc61a8637a5f3f9b17244a967a025d6276f05108daa3cf6b713d98a0c5a567c", func := "easement/easementlaw21.ReplyBytes", spec := "replyBytes", inPlace := ["internal/bytealg.abigen_runtime_cmpstring"], apart := false, narrowed := true }
def ReplyBytesUptoSaid : Prop := replyBytesUptoRow.holds Try.pinned (OpenSpec.upto replyBytesSpec)

end Rows
end Go.Proofs.Ytaoacibahdbdkaa
