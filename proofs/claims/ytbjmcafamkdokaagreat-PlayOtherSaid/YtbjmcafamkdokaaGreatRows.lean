/-
  No cell of these rows narrows 'for every input' (looked for: loops, veiled, ifaces, maps, wideKeys, modest, calm, conditions, laid).
  DERIVED. THE GIVEN ROWS OF THIS SEAT. 11 by the template 'for every input the law returns true; each argument reads behind the call as it read before'; 0 by the template 'total and deterministic' (their statements: YtbjmcafamkdokaaGreatTotals.lean).
  GIVEN WITH THE SEED: the statements are not yours to turn. If you find one false, say at which input.
  Laid BY PROGRAM, IN A SANDBOX (cutbox-rows.mjs): the forced cells as the released guide's own fill.sh prints them over the translation e8fa8f4d41e70822… (all of the seat's roots in one cut). By AI agents, Wed Nov 11 2026. No macro, syntax, notation, axiom, sorry.
-/
import Derived.Test.YtbjmcafamkdokaaGreatChecked
import GoSem.Claim
import GoSem.ClaimJoined
import GoSem.ClaimMapViews
import Derived.JoinedTies
import Derived.KernelRfl
namespace Go.Proofs.YtbjmcafamkdokaaGreat
/- THE CELL 'sum', in the pinned program and in every row, IS THE sha256 OF THE DUMP (.gsa) THAT YtbjmcafamkdokaaGreatProg.lean LOADS. Nothing in Lean hashes anything: it is a label: what it is worth is what the hold of that sum in a sandbox is worth. -/
noncomputable def Tryz.pinned : Pinned := { name := "ytbjmcafamkdokaagreat", sum := "e8fa8f4d41e708222bbcf54bda7624a3f71bd73eee1df0a7a4e9f69216fe0f3b", checked := Tryz.checked }
namespace Rows
def none {H : Type} : Left H := { results := [], args := [] }

/-- 'marigoldtop.TopAgree': WHATEVER THE INPUT: true; the input reads as it did. -/
def topAgreeSpec : ChangeSpec := { name := "topAgree", fn := fun _ => fun
  | [d1, d2, d3, d4] => { results := [.lit (.bool true)], args := [d1, d2, d3, d4] }
  | _ => none }
def topAgreeRow : OpenClaim := { program := "ytbjmcafamkdokaagreat", sum := "e8fa8f4d41e708222bbcf54bda7624a3f71bd73eee1df0a7a4e9f69216fe0f3b", func := "marigold/marigoldtop.TopAgree", spec := "topAgree", inPlace := ["sync/atomic.LoadUint32", "(*internal/sync.Mutex).Lock", "internal/race.Disable", "sync/atomic.CompareAndSwapInt32", "internal/race.Enable", "internal/race.Acquire", "(*internal/sync.Mutex).lockSlow", "internal/sync.runtime_canSpin", "internal/sync.runtime_doSpin", "internal/sync.throw", "internal/sync.runtime_nanotime", "internal/sync.runtime_SemacquireMutex", "sync/atomic.AddInt32", "(*internal/sync.Mutex).Unlock", "internal/race.ReleaseMerge", "(*internal/sync.Mutex).unlockSlow", "internal/sync.fatal", "internal/sync.runtime_Semrelease", "sync/atomic.StoreUint32", "sync/atomic.AddInt64", "sync/atomic.LoadInt64"], unfollowed := true, recurses := true, plainKeys := false, apart := false }
def TopAgreeSaid : Prop := topAgreeRow.holds Tryz.pinned (OpenSpec.ofChange topAgreeSpec)

/-- ITS FALSE NEIGHBOUR: 'it returns false'. Refute it at one input. -/
def topAgreeWrong : ChangeSpec := { name := "topAgree", fn := fun _ => fun
  | [d1, d2, d3, d4] => { results := [.lit (.bool false)], args := [d1, d2, d3, d4] }
  | _ => none }
def TopAgreeWrongFalsely : Prop := topAgreeRow.holds Tryz.pinned (OpenSpec.ofChange topAgreeWrong)

/-- 'marigoldtop.TopSure': WHATEVER THE INPUT: true; the input reads as it did. -/
def topSureSpec : ChangeSpec := { name := "topSure", fn := fun _ => fun
  | [d1, d2, d3, d4] => { results := [.lit (.bool true)], args := [d1, d2, d3, d4] }
  | _ => none }
def topSureRow : OpenClaim := { program := "ytbjmcafamkdokaagreat", sum := "e8fa8f4d41e708222bbcf54bda7624a3f71bd73eee1df0a7a4e9f69216fe0f3b", func := "marigold/marigoldtop.TopSure", spec := "topSure", inPlace := ["sync/atomic.LoadUint32", "(*internal/sync.Mutex).Lock", "internal/race.Disable", "sync/atomic.CompareAndSwapInt32", "internal/race.Enable", "internal/race.Acquire", "(*internal/sync.Mutex).lockSlow", "internal/sync.runtime_canSpin", "internal/sync.runtime_doSpin", "internal/sync.throw", "internal/sync.runtime_nanotime", "internal/sync.runtime_SemacquireMutex", "sync/atomic.AddInt32", "(*internal/sync.Mutex).Unlock", "internal/race.ReleaseMerge", "(*internal/sync.Mutex).unlockSlow", "internal/sync.fatal", "internal/sync.runtime_Semrelease", "sync/atomic.StoreUint32", "sync/atomic.AddInt64", "sync/atomic.LoadInt64"], unfollowed := true, recurses := true, plainKeys := false, apart := false }
def TopSureSaid : Prop := topSureRow.holds Tryz.pinned (OpenSpec.ofChange topSureSpec)

/-- ITS FALSE NEIGHBOUR: 'it returns false'. Refute it at one input. -/
def topSureWrong : ChangeSpec := { name := "topSure", fn := fun _ => fun
  | [d1, d2, d3, d4] => { results := [.lit (.bool false)], args := [d1, d2, d3, d4] }
  | _ => none }
def TopSureWrongFalsely : Prop := topSureRow.holds Tryz.pinned (OpenSpec.ofChange topSureWrong)

/-- 'marigoldtop.TopNever': WHATEVER THE INPUT: true; the input reads as it did. -/
def topNeverSpec : ChangeSpec := { name := "topNever", fn := fun _ => fun
  | [d1, d2, d3, d4] => { results := [.lit (.bool true)], args := [d1, d2, d3, d4] }
  | _ => none }
def topNeverRow : OpenClaim := { program := "ytbjmcafamkdokaagreat", sum := "e8fa8f4d41e708222bbcf54bda7624a3f71bd73eee1df0a7a4e9f69216fe0f3b", func := "marigold/marigoldtop.TopNever", spec := "topNever", inPlace := ["sync/atomic.LoadUint32", "(*internal/sync.Mutex).Lock", "internal/race.Disable", "sync/atomic.CompareAndSwapInt32", "internal/race.Enable", "internal/race.Acquire", "(*internal/sync.Mutex).lockSlow", "internal/sync.runtime_canSpin", "internal/sync.runtime_doSpin", "internal/sync.throw", "internal/sync.runtime_nanotime", "internal/sync.runtime_SemacquireMutex", "sync/atomic.AddInt32", "(*internal/sync.Mutex).Unlock", "internal/race.ReleaseMerge", "(*internal/sync.Mutex).unlockSlow", "internal/sync.fatal", "internal/sync.runtime_Semrelease", "sync/atomic.StoreUint32", "sync/atomic.AddInt64", "sync/atomic.LoadInt64"], unfollowed := true, recurses := true, plainKeys := false, apart := false }
def TopNeverSaid : Prop := topNeverRow.holds Tryz.pinned (OpenSpec.ofChange topNeverSpec)

/-- ITS FALSE NEIGHBOUR: 'it returns false'. Refute it at one input. -/
def topNeverWrong : ChangeSpec := { name := "topNever", fn := fun _ => fun
  | [d1, d2, d3, d4] => { results := [.lit (.bool false)], args := [d1, d2, d3, d4] }
  | _ => none }
def TopNeverWrongFalsely : Prop := topNeverRow.holds Tryz.pinned (OpenSpec.ofChange topNeverWrong)

/-- 'marigoldlaw20.PlayHonest': WHATEVER THE INPUT: true; the input reads as it did. -/
def playHonestSpec : ChangeSpec := { name := "playHonest", fn := fun _ => fun
  | [d1, d2, d3, d4] => { results := [.lit (.bool true)], args := [d1, d2, d3, d4] }
  | _ => none }
def playHonestRow : OpenClaim := { program := "ytbjmcafamkdokaagreat", sum := "e8fa8f4d41e708222bbcf54bda7624a3f71bd73eee1df0a7a4e9f69216fe0f3b", func := "marigold/marigoldlaw20.PlayHonest", spec := "playHonest", inPlace := ["sync/atomic.LoadUint32", "(*internal/sync.Mutex).Lock", "internal/race.Disable", "sync/atomic.CompareAndSwapInt32", "internal/race.Enable", "internal/race.Acquire", "(*internal/sync.Mutex).lockSlow", "internal/sync.runtime_canSpin", "internal/sync.runtime_doSpin", "internal/sync.throw", "internal/sync.runtime_nanotime", "internal/sync.runtime_SemacquireMutex", "sync/atomic.AddInt32", "(*internal/sync.Mutex).Unlock", "internal/race.ReleaseMerge", "(*internal/sync.Mutex).unlockSlow", "internal/sync.fatal", "internal/sync.runtime_Semrelease", "sync/atomic.StoreUint32", "sync/atomic.AddInt64", "sync/atomic.LoadInt64"], unfollowed := true, recurses := true, plainKeys := false, apart := false }
def PlayHonestSaid : Prop := playHonestRow.holds Tryz.pinned (OpenSpec.ofChange playHonestSpec)

/-- ITS FALSE NEIGHBOUR: 'it returns false'. Refute it at one input. -/
def playHonestWrong : ChangeSpec := { name := "playHonest", fn := fun _ => fun
  | [d1, d2, d3, d4] => { results := [.lit (.bool false)], args := [d1, d2, d3, d4] }
  | _ => none }
def PlayHonestWrongFalsely : Prop := playHonestRow.holds Tryz.pinned (OpenSpec.ofChange playHonestWrong)

/-- 'marigoldlaw20.PlayParts': WHATEVER THE INPUT: true; the input reads as it did. -/
def playPartsSpec : ChangeSpec := { name := "playParts", fn := fun _ => fun
  | [d1, d2, d3, d4, d5] => { results := [.lit (.bool true)], args := [d1, d2, d3, d4, d5] }
  | _ => none }
def playPartsRow : OpenClaim := { program := "ytbjmcafamkdokaagreat", sum := "e8fa8f4d41e708222bbcf54bda7624a3f71bd73eee1df0a7a4e9f69216fe0f3b", func := "marigold/marigoldlaw20.PlayParts", spec := "playParts", inPlace := ["sync/atomic.LoadUint32", "(*internal/sync.Mutex).Lock", "internal/race.Disable", "sync/atomic.CompareAndSwapInt32", "internal/race.Enable", "internal/race.Acquire", "(*internal/sync.Mutex).lockSlow", "internal/sync.runtime_canSpin", "internal/sync.runtime_doSpin", "internal/sync.throw", "internal/sync.runtime_nanotime", "internal/sync.runtime_SemacquireMutex", "sync/atomic.AddInt32", "(*internal/sync.Mutex).Unlock", "internal/race.ReleaseMerge", "(*internal/sync.Mutex).unlockSlow", "internal/sync.fatal", "internal/sync.runtime_Semrelease", "sync/atomic.StoreUint32", "sync/atomic.AddInt64", "sync/atomic.LoadInt64"], unfollowed := true, recurses := true, plainKeys := false, apart := false }
def PlayPartsSaid : Prop := playPartsRow.holds Tryz.pinned (OpenSpec.ofChange playPartsSpec)

/-- ITS FALSE NEIGHBOUR: 'it returns false'. Refute it at one input. -/
def playPartsWrong : ChangeSpec := { name := "playParts", fn := fun _ => fun
  | [d1, d2, d3, d4, d5] => { results := [.lit (.bool false)], args := [d1, d2, d3, d4, d5] }
  | _ => none }
def PlayPartsWrongFalsely : Prop := playPartsRow.holds Tryz.pinned (OpenSpec.ofChange playPartsWrong)

/-- 'marigoldlaw20.PlayQuiet': WHATEVER THE INPUT: true; the input reads as it did. -/
def playQuietSpec : ChangeSpec := { name := "playQuiet", fn := fun _ => fun
  | [d1, d2, d3] => { results := [.lit (.bool true)], args := [d1, d2, d3] }
  | _ => none }
def playQuietRow : OpenClaim := { program := "ytbjmcafamkdokaagreat", sum := "e8fa8f4d41e708222bbcf54bda7624a3f71bd73eee1df0a7a4e9f69216fe0f3b", func := "marigold/marigoldlaw20.PlayQuiet", spec := "playQuiet", inPlace := ["sync/atomic.LoadUint32", "(*internal/sync.Mutex).Lock", "internal/race.Disable", "sync/atomic.CompareAndSwapInt32", "internal/race.Enable", "internal/race.Acquire", "(*internal/sync.Mutex).lockSlow", "internal/sync.runtime_canSpin", "internal/sync.runtime_doSpin", "internal/sync.throw", "internal/sync.runtime_nanotime", "internal/sync.runtime_SemacquireMutex", "sync/atomic.AddInt32", "(*internal/sync.Mutex).Unlock", "internal/race.ReleaseMerge", "(*internal/sync.Mutex).unlockSlow", "internal/sync.fatal", "internal/sync.runtime_Semrelease", "sync/atomic.StoreUint32", "sync/atomic.AddInt64", "sync/atomic.LoadInt64"], unfollowed := true, recurses := true, plainKeys := false, apart := false }
def PlayQuietSaid : Prop := playQuietRow.holds Tryz.pinned (OpenSpec.ofChange playQuietSpec)

/-- ITS FALSE NEIGHBOUR: 'it returns false'. Refute it at one input. -/
def playQuietWrong : ChangeSpec := { name := "playQuiet", fn := fun _ => fun
  | [d1, d2, d3] => { results := [.lit (.bool false)], args := [d1, d2, d3] }
  | _ => none }
def PlayQuietWrongFalsely : Prop := playQuietRow.holds Tryz.pinned (OpenSpec.ofChange playQuietWrong)

/-- 'marigoldlaw20.PlayOther': WHATEVER THE INPUT: true; the input reads as it did. -/
def playOtherSpec : ChangeSpec := { name := "playOther", fn := fun _ => fun
  | [d1, d2, d3, d4, d5] => { results := [.lit (.bool true)], args := [d1, d2, d3, d4, d5] }
  | _ => none }
def playOtherRow : OpenClaim := { program := "ytbjmcafamkdokaagreat", sum := "e8fa8f4d41e708222bbcf54bda7624a3f71bd73eee1df0a7a4e9f69216fe0f3b", func := "marigold/marigoldlaw20.PlayOther", spec := "playOther", inPlace := ["sync/atomic.LoadUint32", "(*internal/sync.Mutex).Lock", "internal/race.Disable", "sync/atomic.CompareAndSwapInt32", "internal/race.Enable", "internal/race.Acquire", "(*internal/sync.Mutex).lockSlow", "internal/sync.runtime_canSpin", "internal/sync.runtime_doSpin", "internal/sync.throw", "internal/sync.runtime_nanotime", "internal/sync.runtime_SemacquireMutex", "sync/atomic.AddInt32", "(*internal/sync.Mutex).Unlock", "internal/race.ReleaseMerge", "(*internal/sync.Mutex).unlockSlow", "internal/sync.fatal", "internal/sync.runtime_Semrelease", "sync/atomic.StoreUint32", "sync/atomic.AddInt64", "sync/atomic.LoadInt64"], unfollowed := true, recurses := true, plainKeys := false, apart := false }
def PlayOtherSaid : Prop := playOtherRow.holds Tryz.pinned (OpenSpec.ofChange playOtherSpec)

/-- ITS FALSE NEIGHBOUR: 'it returns false'. Refute it at one input. -/
def playOtherWrong : ChangeSpec := { name := "playOther", fn := fun _ => fun
  | [d1, d2, d3, d4, d5] => { results := [.lit (.bool false)], args := [d1, d2, d3, d4, d5] }
  | _ => none }
def PlayOtherWrongFalsely : Prop := playOtherRow.holds Tryz.pinned (OpenSpec.ofChange playOtherWrong)

/-- 'marigoldlaw20.PlayNodes': WHATEVER THE INPUT: true; the input reads as it did. -/
def playNodesSpec : ChangeSpec := { name := "playNodes", fn := fun _ => fun
  | [d1, d2, d3, d4] => { results := [.lit (.bool true)], args := [d1, d2, d3, d4] }
  | _ => none }
def playNodesRow : OpenClaim := { program := "ytbjmcafamkdokaagreat", sum := "e8fa8f4d41e708222bbcf54bda7624a3f71bd73eee1df0a7a4e9f69216fe0f3b", func := "marigold/marigoldlaw20.PlayNodes", spec := "playNodes", inPlace := ["sync/atomic.LoadUint32", "(*internal/sync.Mutex).Lock", "internal/race.Disable", "sync/atomic.CompareAndSwapInt32", "internal/race.Enable", "internal/race.Acquire", "(*internal/sync.Mutex).lockSlow", "internal/sync.runtime_canSpin", "internal/sync.runtime_doSpin", "internal/sync.throw", "internal/sync.runtime_nanotime", "internal/sync.runtime_SemacquireMutex", "sync/atomic.AddInt32", "(*internal/sync.Mutex).Unlock", "internal/race.ReleaseMerge", "(*internal/sync.Mutex).unlockSlow", "internal/sync.fatal", "internal/sync.runtime_Semrelease", "sync/atomic.StoreUint32", "sync/atomic.AddInt64", "sync/atomic.LoadInt64"], unfollowed := true, recurses := true, plainKeys := false, apart := false }
def PlayNodesSaid : Prop := playNodesRow.holds Tryz.pinned (OpenSpec.ofChange playNodesSpec)

/-- ITS FALSE NEIGHBOUR: 'it returns false'. Refute it at one input. -/
def playNodesWrong : ChangeSpec := { name := "playNodes", fn := fun _ => fun
  | [d1, d2, d3, d4] => { results := [.lit (.bool false)], args := [d1, d2, d3, d4] }
  | _ => none }
def PlayNodesWrongFalsely : Prop := playNodesRow.holds Tryz.pinned (OpenSpec.ofChange playNodesWrong)

/-- 'marigoldlaw20.PlaySpreads': WHATEVER THE INPUT: true; the input reads as it did. -/
def playSpreadsSpec : ChangeSpec := { name := "playSpreads", fn := fun _ => fun
  | [d1, d2, d3, d4] => { results := [.lit (.bool true)], args := [d1, d2, d3, d4] }
  | _ => none }
def playSpreadsRow : OpenClaim := { program := "ytbjmcafamkdokaagreat", sum := "e8fa8f4d41e708222bbcf54bda7624a3f71bd73eee1df0a7a4e9f69216fe0f3b", func := "marigold/marigoldlaw20.PlaySpreads", spec := "playSpreads", inPlace := ["sync/atomic.LoadUint32", "(*internal/sync.Mutex).Lock", "internal/race.Disable", "sync/atomic.CompareAndSwapInt32", "internal/race.Enable", "internal/race.Acquire", "(*internal/sync.Mutex).lockSlow", "internal/sync.runtime_canSpin", "internal/sync.runtime_doSpin", "internal/sync.throw", "internal/sync.runtime_nanotime", "internal/sync.runtime_SemacquireMutex", "sync/atomic.AddInt32", "(*internal/sync.Mutex).Unlock", "internal/race.ReleaseMerge", "(*internal/sync.Mutex).unlockSlow", "internal/sync.fatal", "internal/sync.runtime_Semrelease", "sync/atomic.StoreUint32", "sync/atomic.AddInt64", "sync/atomic.LoadInt64"], unfollowed := true, recurses := true, plainKeys := false, apart := false }
def PlaySpreadsSaid : Prop := playSpreadsRow.holds Tryz.pinned (OpenSpec.ofChange playSpreadsSpec)

/-- ITS FALSE NEIGHBOUR: 'it returns false'. Refute it at one input. -/
def playSpreadsWrong : ChangeSpec := { name := "playSpreads", fn := fun _ => fun
  | [d1, d2, d3, d4] => { results := [.lit (.bool false)], args := [d1, d2, d3, d4] }
  | _ => none }
def PlaySpreadsWrongFalsely : Prop := playSpreadsRow.holds Tryz.pinned (OpenSpec.ofChange playSpreadsWrong)

/-- 'marigoldlaw21.AuditSeen': WHATEVER THE INPUT: true; the input reads as it did. -/
def auditSeenSpec : ChangeSpec := { name := "auditSeen", fn := fun _ => fun
  | [d1, d2, d3, d4, d5] => { results := [.lit (.bool true)], args := [d1, d2, d3, d4, d5] }
  | _ => none }
def auditSeenRow : OpenClaim := { program := "ytbjmcafamkdokaagreat", sum := "e8fa8f4d41e708222bbcf54bda7624a3f71bd73eee1df0a7a4e9f69216fe0f3b", func := "marigold/marigoldlaw21.AuditSeen", spec := "auditSeen", inPlace := ["sync/atomic.LoadUint32", "(*internal/sync.Mutex).Lock", "internal/race.Disable", "sync/atomic.CompareAndSwapInt32", "internal/race.Enable", "internal/race.Acquire", "(*internal/sync.Mutex).lockSlow", "internal/sync.runtime_canSpin", "internal/sync.runtime_doSpin", "internal/sync.throw", "internal/sync.runtime_nanotime", "internal/sync.runtime_SemacquireMutex", "sync/atomic.AddInt32", "(*internal/sync.Mutex).Unlock", "internal/race.ReleaseMerge", "(*internal/sync.Mutex).unlockSlow", "internal/sync.fatal", "internal/sync.runtime_Semrelease", "sync/atomic.StoreUint32", "sync/atomic.AddInt64", "sync/atomic.LoadInt64"], unfollowed := true, recurses := true, plainKeys := false, apart := false }
def AuditSeenSaid : Prop := auditSeenRow.holds Tryz.pinned (OpenSpec.ofChange auditSeenSpec)

/-- ITS FALSE NEIGHBOUR: 'it returns false'. Refute it at one input. -/
def auditSeenWrong : ChangeSpec := { name := "auditSeen", fn := fun _ => fun
  | [d1, d2, d3, d4, d5] => { results := [.lit (.bool false)], args := [d1, d2, d3, d4, d5] }
  | _ => none }
def AuditSeenWrongFalsely : Prop := auditSeenRow.holds Tryz.pinned (OpenSpec.ofChange auditSeenWrong)

/-- 'marigoldlaw21.AuditHolds': WHATEVER THE INPUT: true; the input reads as it did. -/
def auditHoldsSpec : ChangeSpec := { name := "auditHolds", fn := fun _ => fun
  | [d1, d2, d3, d4, d5] => { results := [.lit (.bool true)], args := [d1, d2, d3, d4, d5] }
  | _ => none }
def auditHoldsRow : OpenClaim := { program := "ytbjmcafamkdokaagreat", sum := "e8fa8f4d41e708222bbcf54bda7624a3f71bd73eee1df0a7a4e9f69216fe0f3b", func := "marigold/marigoldlaw21.AuditHolds", spec := "auditHolds", inPlace := ["sync/atomic.LoadUint32", "(*internal/sync.Mutex).Lock", "internal/race.Disable", "sync/atomic.CompareAndSwapInt32", "internal/race.Enable", "internal/race.Acquire", "(*internal/sync.Mutex).lockSlow", "internal/sync.runtime_canSpin", "internal/sync.runtime_doSpin", "internal/sync.throw", "internal/sync.runtime_nanotime", "internal/sync.runtime_SemacquireMutex", "sync/atomic.AddInt32", "(*internal/sync.Mutex).Unlock", "internal/race.ReleaseMerge", "(*internal/sync.Mutex).unlockSlow", "internal/sync.fatal", "internal/sync.runtime_Semrelease", "sync/atomic.StoreUint32", "sync/atomic.AddInt64", "sync/atomic.LoadInt64"], unfollowed := true, recurses := true, plainKeys := false, apart := false }
def AuditHoldsSaid : Prop := auditHoldsRow.holds Tryz.pinned (OpenSpec.ofChange auditHoldsSpec)

/-- ITS FALSE NEIGHBOUR: 'it returns false'. Refute it at one input. -/
def auditHoldsWrong : ChangeSpec := { name := "auditHolds", fn := fun _ => fun
  | [d1, d2, d3, d4, d5] => { results := [.lit (.bool false)], args := [d1, d2, d3, d4, d5] }
  | _ => none }
def AuditHoldsWrongFalsely : Prop := auditHoldsRow.holds Tryz.pinned (OpenSpec.ofChange auditHoldsWrong)

/- THE SECOND FORM. 'bulk': how many values and letters a reading holds, each counted each time it is reached (what is shared counts as often as it is met; a slice's spare places count too). A statement '..UptoSaid' is the law's where the arguments, and the package variables that the reading takes, are together of bulk at most 1048576: NARROWER than '..Said'. Prove '..Said' where nothing that the law and all that it calls make is longer than what came in: it says more and counts as full. Else prove '..UptoSaid'. A law counts once. -/
mutual
def uptoBulk {H : Type} : DataW H → Nat
  | .lit (.string bytes) => bytes.length + 1
  | .lit _ => 1
  | .nil => 1
  | .ptr d => uptoBulk d + 1
  | .slice elems spare => uptoBulkAll elems + uptoBulkAll spare + 1
  | .agg parts => uptoBulkAll parts + 1
  | .iface _ d => uptoBulk d + 1
  | .map entries => uptoBulkEntries entries + 1
  | .held _ => 1
def uptoBulkAll {H : Type} : List (DataW H) → Nat
  | [] => 0
  | d :: r => uptoBulk d + uptoBulkAll r
def uptoBulkEntries {H : Type} : List (Lit × DataW H) → Nat
  | [] => 0
  | x :: r => uptoBulkEntry x + uptoBulkEntries r
def uptoBulkEntry {H : Type} : Lit × DataW H → Nat
  | (.string bytes, d) => bytes.length + uptoBulk d + 1
  | (_, d) => uptoBulk d + 1
 end
def uptoSmall : (H : Type) → List (DataW H) → Bool := fun _ ds => decide (uptoBulkAll ds ≤ 1048576)
def OpenSpec.upto (s : _root_.Go.ChangeSpec) : _root_.Go.OpenSpec := { _root_.Go.OpenSpec.ofChange s with cond := some uptoSmall }

/-- 'marigoldtop.TopAgree', WHERE WHAT IT READS IS OF BULK AT MOST 1048576: true; the input reads as it did. -/
def topAgreeUptoRow : OpenClaim := { program := "ytbjmcafamkdokaagreat", sum := "e8fa8f4d41e708222bbcf54bda7624a3f71bd73eee1df0a7a4e9f69216fe0f3b", func := "marigold/marigoldtop.TopAgree", spec := "topAgree", inPlace := ["sync/atomic.LoadUint32", "(*internal/sync.Mutex).Lock", "internal/race.Disable", "sync/atomic.CompareAndSwapInt32", "internal/race.Enable", "internal/race.Acquire", "(*internal/sync.Mutex).lockSlow", "internal/sync.runtime_canSpin", "internal/sync.runtime_doSpin", "internal/sync.throw", "internal/sync.runtime_nanotime", "internal/sync.runtime_SemacquireMutex", "sync/atomic.AddInt32", "(*internal/sync.Mutex).Unlock", "internal/race.ReleaseMerge", "(*internal/sync.Mutex).unlockSlow", "internal/sync.fatal", "internal/sync.runtime_Semrelease", "sync/atomic.StoreUint32", "sync/atomic.AddInt64", "sync/atomic.LoadInt64"], unfollowed := true, recurses := true, plainKeys := false, apart := false, narrowed := true }
def TopAgreeUptoSaid : Prop := topAgreeUptoRow.holds Tryz.pinned (OpenSpec.upto topAgreeSpec)

/-- 'marigoldtop.TopSure', WHERE WHAT IT READS IS OF BULK AT MOST 1048576: true; the input reads as it did. -/
def topSureUptoRow : OpenClaim := { program := "ytbjmcafamkdokaagreat", sum := "e8fa8f4d41e708222bbcf54bda7624a3f71bd73eee1df0a7a4e9f69216fe0f3b", func := "marigold/marigoldtop.TopSure", spec := "topSure", inPlace := ["sync/atomic.LoadUint32", "(*internal/sync.Mutex).Lock", "internal/race.Disable", "sync/atomic.CompareAndSwapInt32", "internal/race.Enable", "internal/race.Acquire", "(*internal/sync.Mutex).lockSlow", "internal/sync.runtime_canSpin", "internal/sync.runtime_doSpin", "internal/sync.throw", "internal/sync.runtime_nanotime", "internal/sync.runtime_SemacquireMutex", "sync/atomic.AddInt32", "(*internal/sync.Mutex).Unlock", "internal/race.ReleaseMerge", "(*internal/sync.Mutex).unlockSlow", "internal/sync.fatal", "internal/sync.runtime_Semrelease", "sync/atomic.StoreUint32", "sync/atomic.AddInt64", "sync/atomic.LoadInt64"], unfollowed := true, recurses := true, plainKeys := false, apart := false, narrowed := true }
def TopSureUptoSaid : Prop := topSureUptoRow.holds Tryz.pinned (OpenSpec.upto topSureSpec)

/-- 'marigoldtop.TopNever', WHERE WHAT IT READS IS OF BULK AT MOST 1048576: true; the input reads as it did. -/
def topNeverUptoRow : OpenClaim := { program := "ytbjmcafamkdokaagreat", sum := "e8fa8f4d41e708222bbcf54bda7624a3f71bd73eee1df0a7a4e9f69216fe0f3b", func := "marigold/marigoldtop.TopNever", spec := "topNever", inPlace := ["sync/atomic.LoadUint32", "(*internal/sync.Mutex).Lock", "internal/race.Disable", "sync/atomic.CompareAndSwapInt32", "internal/race.Enable", "internal/race.Acquire", "(*internal/sync.Mutex).lockSlow", "internal/sync.runtime_canSpin", "internal/sync.runtime_doSpin", "internal/sync.throw", "internal/sync.runtime_nanotime", "internal/sync.runtime_SemacquireMutex", "sync/atomic.AddInt32", "(*internal/sync.Mutex).Unlock", "internal/race.ReleaseMerge", "(*internal/sync.Mutex).unlockSlow", "internal/sync.fatal", "internal/sync.runtime_Semrelease", "sync/atomic.StoreUint32", "sync/atomic.AddInt64", "sync/atomic.LoadInt64"], unfollowed := true, recurses := true, plainKeys := false, apart := false, narrowed := true }
def TopNeverUptoSaid : Prop := topNeverUptoRow.holds Tryz.pinned (OpenSpec.upto topNeverSpec)

/-- 'marigoldlaw20.PlayHonest', WHERE WHAT IT READS IS OF BULK AT MOST 1048576: true; the input reads as it did. -/
def playHonestUptoRow : OpenClaim := { program := "ytbjmcafamkdokaagreat", sum := "e8fa8f4d41e708222bbcf54bda7624a3f71bd73eee1df0a7a4e9f69216fe0f3b", func := "marigold/marigoldlaw20.PlayHonest", spec := "playHonest", inPlace := ["sync/atomic.LoadUint32", "(*internal/sync.Mutex).Lock", "internal/race.Disable", "sync/atomic.CompareAndSwapInt32", "internal/race.Enable", "internal/race.Acquire", "(*internal/sync.Mutex).lockSlow", "internal/sync.runtime_canSpin", "internal/sync.runtime_doSpin", "internal/sync.throw", "internal/sync.runtime_nanotime", "internal/sync.runtime_SemacquireMutex", "sync/atomic.AddInt32", "(*internal/sync.Mutex).Unlock", "internal/race.ReleaseMerge", "(*internal/sync.Mutex).unlockSlow", "internal/sync.fatal", "internal/sync.runtime_Semrelease", "sync/atomic.StoreUint32", "sync/atomic.AddInt64", "sync/atomic.LoadInt64"], unfollowed := true, recurses := true, plainKeys := false, apart := false, narrowed := true }
def PlayHonestUptoSaid : Prop := playHonestUptoRow.holds Tryz.pinned (OpenSpec.upto playHonestSpec)

/-- 'marigoldlaw20.PlayParts', WHERE WHAT IT READS IS OF BULK AT MOST 1048576: true; the input reads as it did. -/
def playPartsUptoRow : OpenClaim := { program := "ytbjmcafamkdokaagreat", sum := "e8fa8f4d41e708222bbcf54bda7624a3f71bd73eee1df0a7a4e9f69216fe0f3b", func := "marigold/marigoldlaw20.PlayParts", spec := "playParts", inPlace := ["sync/atomic.LoadUint32", "(*internal/sync.Mutex).Lock", "internal/race.Disable", "sync/atomic.CompareAndSwapInt32", "internal/race.Enable", "internal/race.Acquire", "(*internal/sync.Mutex).lockSlow", "internal/sync.runtime_canSpin", "internal/sync.runtime_doSpin", "internal/sync.throw", "internal/sync.runtime_nanotime", "internal/sync.runtime_SemacquireMutex", "sync/atomic.AddInt32", "(*internal/sync.Mutex).Unlock", "internal/race.ReleaseMerge", "(*internal/sync.Mutex).unlockSlow", "internal/sync.fatal", "internal/sync.runtime_Semrelease", "sync/atomic.StoreUint32", "sync/atomic.AddInt64", "sync/atomic.LoadInt64"], unfollowed := true, recurses := true, plainKeys := false, apart := false, narrowed := true }
def PlayPartsUptoSaid : Prop := playPartsUptoRow.holds Tryz.pinned (OpenSpec.upto playPartsSpec)

/-- 'marigoldlaw20.PlayQuiet', WHERE WHAT IT READS IS OF BULK AT MOST 1048576: true; the input reads as it did. -/
def playQuietUptoRow : OpenClaim := { program := "ytbjmcafamkdokaagreat", sum := "e8fa8f4d41e708222bbcf54bda7624a3f71bd73eee1df0a7a4e9f69216fe0f3b", func := "marigold/marigoldlaw20.PlayQuiet", spec := "playQuiet", inPlace := ["sync/atomic.LoadUint32", "(*internal/sync.Mutex).Lock", "internal/race.Disable", "sync/atomic.CompareAndSwapInt32", "internal/race.Enable", "internal/race.Acquire", "(*internal/sync.Mutex).lockSlow", "internal/sync.runtime_canSpin", "internal/sync.runtime_doSpin", "internal/sync.throw", "internal/sync.runtime_nanotime", "internal/sync.runtime_SemacquireMutex", "sync/atomic.AddInt32", "(*internal/sync.Mutex).Unlock", "internal/race.ReleaseMerge", "(*internal/sync.Mutex).unlockSlow", "internal/sync.fatal", "internal/sync.runtime_Semrelease", "sync/atomic.StoreUint32", "sync/atomic.AddInt64", "sync/atomic.LoadInt64"], unfollowed := true, recurses := true, plainKeys := false, apart := false, narrowed := true }
def PlayQuietUptoSaid : Prop := playQuietUptoRow.holds Tryz.pinned (OpenSpec.upto playQuietSpec)

/-- 'marigoldlaw20.PlayOther', WHERE WHAT IT READS IS OF BULK AT MOST 1048576: true; the input reads as it did. -/
def playOtherUptoRow : OpenClaim := { program := "ytbjmcafamkdokaagreat", sum := "e8fa8f4d41e708222bbcf54bda7624a3f71bd73eee1df0a7a4e9f69216fe0f3b", func := "marigold/marigoldlaw20.PlayOther", spec := "playOther", inPlace := ["sync/atomic.LoadUint32", "(*internal/sync.Mutex).Lock", "internal/race.Disable", "sync/atomic.CompareAndSwapInt32", "internal/race.Enable", "internal/race.Acquire", "(*internal/sync.Mutex).lockSlow", "internal/sync.runtime_canSpin", "internal/sync.runtime_doSpin", "internal/sync.throw", "internal/sync.runtime_nanotime", "internal/sync.runtime_SemacquireMutex", "sync/atomic.AddInt32", "(*internal/sync.Mutex).Unlock", "internal/race.ReleaseMerge", "(*internal/sync.Mutex).unlockSlow", "internal/sync.fatal", "internal/sync.runtime_Semrelease", "sync/atomic.StoreUint32", "sync/atomic.AddInt64", "sync/atomic.LoadInt64"], unfollowed := true, recurses := true, plainKeys := false, apart := false, narrowed := true }
def PlayOtherUptoSaid : Prop := playOtherUptoRow.holds Tryz.pinned (OpenSpec.upto playOtherSpec)

/-- 'marigoldlaw20.PlayNodes', WHERE WHAT IT READS IS OF BULK AT MOST 1048576: true; the input reads as it did. -/
def playNodesUptoRow : OpenClaim := { program := "ytbjmcafamkdokaagreat", sum := "e8fa8f4d41e708222bbcf54bda7624a3f71bd73eee1df0a7a4e9f69216fe0f3b", func := "marigold/marigoldlaw20.PlayNodes", spec := "playNodes", inPlace := ["sync/atomic.LoadUint32", "(*internal/sync.Mutex).Lock", "internal/race.Disable", "sync/atomic.CompareAndSwapInt32", "internal/race.Enable", "internal/race.Acquire", "(*internal/sync.Mutex).lockSlow", "internal/sync.runtime_canSpin", "internal/sync.runtime_doSpin", "internal/sync.throw", "internal/sync.runtime_nanotime", "internal/sync.runtime_SemacquireMutex", "sync/atomic.AddInt32", "(*internal/sync.Mutex).Unlock", "internal/race.ReleaseMerge", "(*internal/sync.Mutex).unlockSlow", "internal/sync.fatal", "internal/sync.runtime_Semrelease", "sync/atomic.StoreUint32", "sync/atomic.AddInt64", "sync/atomic.LoadInt64"], unfollowed := true, recurses := true, plainKeys := false, apart := false, narrowed := true }
def PlayNodesUptoSaid : Prop := playNodesUptoRow.holds Tryz.pinned (OpenSpec.upto playNodesSpec)

/-- 'marigoldlaw20.PlaySpreads', WHERE WHAT IT READS IS OF BULK AT MOST 1048576: true; the input reads as it did. -/
def playSpreadsUptoRow : OpenClaim := { program := "ytbjmcafamkdokaagreat", sum := "e8fa8f4d41e708222bbcf54bda7624a3f71bd73eee1df0a7a4e9f69216fe0f3b", func := "marigold/marigoldlaw20.PlaySpreads", spec := "playSpreads", inPlace := ["sync/atomic.LoadUint32", "(*internal/sync.Mutex).Lock", "internal/race.Disable", "sync/atomic.CompareAndSwapInt32", "internal/race.Enable", "internal/race.Acquire", "(*internal/sync.Mutex).lockSlow", "internal/sync.runtime_canSpin", "internal/sync.runtime_doSpin", "internal/sync.throw", "internal/sync.runtime_nanotime", "internal/sync.runtime_SemacquireMutex", "sync/atomic.AddInt32", "(*internal/sync.Mutex).Unlock", "internal/race.ReleaseMerge", "(*internal/sync.Mutex).unlockSlow", "internal/sync.fatal", "internal/sync.runtime_Semrelease", "sync/atomic.StoreUint32", "sync/atomic.AddInt64", "sync/atomic.LoadInt64"], unfollowed := true, recurses := true, plainKeys := false, apart := false, narrowed := true }
def PlaySpreadsUptoSaid : Prop := playSpreadsUptoRow.holds Tryz.pinned (OpenSpec.upto playSpreadsSpec)

/-- 'marigoldlaw21.AuditSeen', WHERE WHAT IT READS IS OF BULK AT MOST 1048576: true; the input reads as it did. -/
def auditSeenUptoRow : OpenClaim := { program := "ytbjmcafamkdokaagreat", sum := "e8fa8f4d41e708222bbcf54bda7624a3f71bd73eee1df0a7a4e9f69216fe0f3b", func := "marigold/marigoldlaw21.AuditSeen", spec := "auditSeen", inPlace := ["sync/atomic.LoadUint32", "(*internal/sync.Mutex).Lock", "internal/race.Disable", "sync/atomic.CompareAndSwapInt32", "internal/race.Enable", "internal/race.Acquire", "(*internal/sync.Mutex).lockSlow", "internal/sync.runtime_canSpin", "internal/sync.runtime_doSpin", "internal/sync.throw", "internal/sync.runtime_nanotime", "internal/sync.runtime_SemacquireMutex", "sync/atomic.AddInt32", "(*internal/sync.Mutex).Unlock", "internal/race.ReleaseMerge", "(*internal/sync.Mutex).unlockSlow", "internal/sync.fatal", "internal/sync.runtime_Semrelease", "sync/atomic.StoreUint32", "sync/atomic.AddInt64", "sync/atomic.LoadInt64"], unfollowed := true, recurses := true, plainKeys := false, apart := false, narrowed := true }
def AuditSeenUptoSaid : Prop := auditSeenUptoRow.holds Tryz.pinned (OpenSpec.upto auditSeenSpec)

/-- 'marigoldlaw21.AuditHolds', WHERE WHAT IT READS IS OF BULK AT MOST 1048576: true; the input reads as it did. -/
def auditHoldsUptoRow : OpenClaim := { program := "ytbjmcafamkdokaagreat", sum := "e8fa8f4d41e708222bbcf54bda7624a3f71bd73eee1df0a7a4e9f69216fe0f3b", func := "marigold/marigoldlaw21.AuditHolds", spec := "auditHolds", inPlace := ["sync/atomic.LoadUint32", "(*internal/sync.Mutex).Lock", "internal/race.Disable", "sync/atomic.CompareAndSwapInt32", "internal/race.Enable", "internal/race.Acquire", "(*internal/sync.Mutex).lockSlow", "internal/sync.runtime_canSpin", "internal/sync.runtime_doSpin", "internal/sync.throw", "internal/sync.runtime_nanotime", "internal/sync.runtime_SemacquireMutex", "sync/atomic.AddInt32", "(*internal/sync.Mutex).Unlock", "internal/race.ReleaseMerge", "(*internal/sync.Mutex).unlockSlow", "internal/sync.fatal", "internal/sync.runtime_Semrelease", "sync/atomic.StoreUint32", "sync/atomic.AddInt64", "sync/atomic.LoadInt64"], unfollowed := true, recurses := true, plainKeys := false, apart := false, narrowed := true }
def AuditHoldsUptoSaid : Prop := auditHoldsUptoRow.holds Tryz.pinned (OpenSpec.upto auditHoldsSpec)

end Rows
end Go.Proofs.YtbjmcafamkdokaaGreat
