/-
  No cell of these rows narrows 'for every input' (looked for: loops, veiled, ifaces, maps, wideKeys, modest, calm, conditions, laid).
  DERIVED. THE GIVEN ROWS OF THIS SEAT. 10 by the template 'for every input the law returns true; each argument reads behind the call as it read before'; 0 by the template 'total and deterministic' (their statements: YtabjakfgaodocaaGreatTotals.lean).
  GIVEN WITH THE SEED: the statements are not yours to turn. If you find one false, say at which input.
  Laid BY PROGRAM, IN A SANDBOX (cutbox-rows.mjs): the forced cells as the released guide's own fill.sh prints them over the translation 77e3a8775f701b23… (all of the seat's roots in one cut). By AI agents, Wed Nov 11 2026. No macro, syntax, notation, axiom, sorry.
-/
import Derived.Test.YtabjakfgaodocaaGreatChecked
import GoSem.Claim
import GoSem.ClaimJoined
import GoSem.ClaimMapViews
import Derived.JoinedTies
import Derived.KernelRfl
namespace Go.Proofs.YtabjakfgaodocaaGreat
/- THE CELL 'sum', in the pinned program and in every row, IS THE sha256 OF THE DUMP (.gsa) THAT YtabjakfgaodocaaGreatProg.lean LOADS. Nothing in Lean hashes anything: it is a label: what it is worth is what the hold of that sum in a sandbox is worth. -/
noncomputable def Tryz.pinned : Pinned := { name := "ytabjakfgaodocaagreat", sum := "77e3a8775f701b23f5c6b53c31db5866cf99301deb409bda5c7e8e27658689ad", checked := Tryz.checked }
namespace Rows
def none {H : Type} : Left H := { results := [], args := [] }

/-- 'marigoldlaw18.NodeKeeps': WHATEVER THE INPUT: true; the input reads as it did. -/
def nodeKeepsSpec : ChangeSpec := { name := "nodeKeeps", fn := fun _ => fun
  | [d1, d2, d3, d4] => { results := [.lit (.bool true)], args := [d1, d2, d3, d4] }
  | _ => none }
def nodeKeepsRow : OpenClaim := { program := "ytabjakfgaodocaagreat", sum := "77e3a8775f701b23f5c6b53c31db5866cf99301deb409bda5c7e8e27658689ad", func := "marigold/marigoldlaw18.NodeKeeps", spec := "nodeKeeps", inPlace := ["sync/atomic.LoadUint32", "(*internal/sync.Mutex).Lock", "internal/race.Disable", "sync/atomic.CompareAndSwapInt32", "internal/race.Enable", "internal/race.Acquire", "(*internal/sync.Mutex).lockSlow", "internal/sync.runtime_canSpin", "internal/sync.runtime_doSpin", "internal/sync.throw", "internal/sync.runtime_nanotime", "internal/sync.runtime_SemacquireMutex", "sync/atomic.AddInt32", "(*internal/sync.Mutex).Unlock", "internal/race.ReleaseMerge", "(*internal/sync.Mutex).unlockSlow", "internal/sync.fatal", "internal/sync.runtime_Semrelease", "sync/atomic.StoreUint32", "sync/atomic.AddInt64", "sync/atomic.LoadInt64"], unfollowed := true, recurses := true, plainKeys := false, apart := false }
def NodeKeepsSaid : Prop := nodeKeepsRow.holds Tryz.pinned (OpenSpec.ofChange nodeKeepsSpec)

/-- ITS FALSE NEIGHBOUR: 'it returns false'. Refute it at one input. -/
def nodeKeepsWrong : ChangeSpec := { name := "nodeKeeps", fn := fun _ => fun
  | [d1, d2, d3, d4] => { results := [.lit (.bool false)], args := [d1, d2, d3, d4] }
  | _ => none }
def NodeKeepsWrongFalsely : Prop := nodeKeepsRow.holds Tryz.pinned (OpenSpec.ofChange nodeKeepsWrong)

/-- 'marigoldlaw18.NodeWaits': WHATEVER THE INPUT: true; the input reads as it did. -/
def nodeWaitsSpec : ChangeSpec := { name := "nodeWaits", fn := fun _ => fun
  | [d1, d2, d3, d4] => { results := [.lit (.bool true)], args := [d1, d2, d3, d4] }
  | _ => none }
def nodeWaitsRow : OpenClaim := { program := "ytabjakfgaodocaagreat", sum := "77e3a8775f701b23f5c6b53c31db5866cf99301deb409bda5c7e8e27658689ad", func := "marigold/marigoldlaw18.NodeWaits", spec := "nodeWaits", inPlace := ["sync/atomic.LoadUint32", "(*internal/sync.Mutex).Lock", "internal/race.Disable", "sync/atomic.CompareAndSwapInt32", "internal/race.Enable", "internal/race.Acquire", "(*internal/sync.Mutex).lockSlow", "internal/sync.runtime_canSpin", "internal/sync.runtime_doSpin", "internal/sync.throw", "internal/sync.runtime_nanotime", "internal/sync.runtime_SemacquireMutex", "sync/atomic.AddInt32", "(*internal/sync.Mutex).Unlock", "internal/race.ReleaseMerge", "(*internal/sync.Mutex).unlockSlow", "internal/sync.fatal", "internal/sync.runtime_Semrelease", "sync/atomic.StoreUint32", "sync/atomic.AddInt64", "sync/atomic.LoadInt64"], unfollowed := true, recurses := true, plainKeys := false, apart := false }
def NodeWaitsSaid : Prop := nodeWaitsRow.holds Tryz.pinned (OpenSpec.ofChange nodeWaitsSpec)

/-- ITS FALSE NEIGHBOUR: 'it returns false'. Refute it at one input. -/
def nodeWaitsWrong : ChangeSpec := { name := "nodeWaits", fn := fun _ => fun
  | [d1, d2, d3, d4] => { results := [.lit (.bool false)], args := [d1, d2, d3, d4] }
  | _ => none }
def NodeWaitsWrongFalsely : Prop := nodeWaitsRow.holds Tryz.pinned (OpenSpec.ofChange nodeWaitsWrong)

/-- 'marigoldlaw18.NodeVotes': WHATEVER THE INPUT: true; the input reads as it did. -/
def nodeVotesSpec : ChangeSpec := { name := "nodeVotes", fn := fun _ => fun
  | [d1, d2, d3] => { results := [.lit (.bool true)], args := [d1, d2, d3] }
  | _ => none }
def nodeVotesRow : OpenClaim := { program := "ytabjakfgaodocaagreat", sum := "77e3a8775f701b23f5c6b53c31db5866cf99301deb409bda5c7e8e27658689ad", func := "marigold/marigoldlaw18.NodeVotes", spec := "nodeVotes", inPlace := ["sync/atomic.LoadUint32", "(*internal/sync.Mutex).Lock", "internal/race.Disable", "sync/atomic.CompareAndSwapInt32", "internal/race.Enable", "internal/race.Acquire", "(*internal/sync.Mutex).lockSlow", "internal/sync.runtime_canSpin", "internal/sync.runtime_doSpin", "internal/sync.throw", "internal/sync.runtime_nanotime", "internal/sync.runtime_SemacquireMutex", "sync/atomic.AddInt32", "(*internal/sync.Mutex).Unlock", "internal/race.ReleaseMerge", "(*internal/sync.Mutex).unlockSlow", "internal/sync.fatal", "internal/sync.runtime_Semrelease", "sync/atomic.StoreUint32", "sync/atomic.AddInt64", "sync/atomic.LoadInt64"], unfollowed := true, recurses := true, plainKeys := false, apart := false }
def NodeVotesSaid : Prop := nodeVotesRow.holds Tryz.pinned (OpenSpec.ofChange nodeVotesSpec)

/-- ITS FALSE NEIGHBOUR: 'it returns false'. Refute it at one input. -/
def nodeVotesWrong : ChangeSpec := { name := "nodeVotes", fn := fun _ => fun
  | [d1, d2, d3] => { results := [.lit (.bool false)], args := [d1, d2, d3] }
  | _ => none }
def NodeVotesWrongFalsely : Prop := nodeVotesRow.holds Tryz.pinned (OpenSpec.ofChange nodeVotesWrong)

/-- 'marigoldlaw18.NodeKnown': WHATEVER THE INPUT: true; the input reads as it did. -/
def nodeKnownSpec : ChangeSpec := { name := "nodeKnown", fn := fun _ => fun
  | [d1, d2, d3] => { results := [.lit (.bool true)], args := [d1, d2, d3] }
  | _ => none }
def nodeKnownRow : OpenClaim := { program := "ytabjakfgaodocaagreat", sum := "77e3a8775f701b23f5c6b53c31db5866cf99301deb409bda5c7e8e27658689ad", func := "marigold/marigoldlaw18.NodeKnown", spec := "nodeKnown", inPlace := ["sync/atomic.LoadUint32", "(*internal/sync.Mutex).Lock", "internal/race.Disable", "sync/atomic.CompareAndSwapInt32", "internal/race.Enable", "internal/race.Acquire", "(*internal/sync.Mutex).lockSlow", "internal/sync.runtime_canSpin", "internal/sync.runtime_doSpin", "internal/sync.throw", "internal/sync.runtime_nanotime", "internal/sync.runtime_SemacquireMutex", "sync/atomic.AddInt32", "(*internal/sync.Mutex).Unlock", "internal/race.ReleaseMerge", "(*internal/sync.Mutex).unlockSlow", "internal/sync.fatal", "internal/sync.runtime_Semrelease", "sync/atomic.StoreUint32", "sync/atomic.AddInt64", "sync/atomic.LoadInt64"], unfollowed := true, recurses := true, plainKeys := false, apart := false }
def NodeKnownSaid : Prop := nodeKnownRow.holds Tryz.pinned (OpenSpec.ofChange nodeKnownSpec)

/-- ITS FALSE NEIGHBOUR: 'it returns false'. Refute it at one input. -/
def nodeKnownWrong : ChangeSpec := { name := "nodeKnown", fn := fun _ => fun
  | [d1, d2, d3] => { results := [.lit (.bool false)], args := [d1, d2, d3] }
  | _ => none }
def NodeKnownWrongFalsely : Prop := nodeKnownRow.holds Tryz.pinned (OpenSpec.ofChange nodeKnownWrong)

/-- 'marigoldlaw19.NetAll': WHATEVER THE INPUT: true; the input reads as it did. -/
def netAllSpec : ChangeSpec := { name := "netAll", fn := fun _ => fun
  | [d1, d2] => { results := [.lit (.bool true)], args := [d1, d2] }
  | _ => none }
def netAllRow : OpenClaim := { program := "ytabjakfgaodocaagreat", sum := "77e3a8775f701b23f5c6b53c31db5866cf99301deb409bda5c7e8e27658689ad", func := "marigold/marigoldlaw19.NetAll", spec := "netAll", inPlace := ["sync/atomic.LoadUint32", "(*internal/sync.Mutex).Lock", "internal/race.Disable", "sync/atomic.CompareAndSwapInt32", "internal/race.Enable", "internal/race.Acquire", "(*internal/sync.Mutex).lockSlow", "internal/sync.runtime_canSpin", "internal/sync.runtime_doSpin", "internal/sync.throw", "internal/sync.runtime_nanotime", "internal/sync.runtime_SemacquireMutex", "sync/atomic.AddInt32", "(*internal/sync.Mutex).Unlock", "internal/race.ReleaseMerge", "(*internal/sync.Mutex).unlockSlow", "internal/sync.fatal", "internal/sync.runtime_Semrelease", "sync/atomic.StoreUint32", "sync/atomic.AddInt64", "sync/atomic.LoadInt64"], unfollowed := true, recurses := true, plainKeys := false, apart := false }
def NetAllSaid : Prop := netAllRow.holds Tryz.pinned (OpenSpec.ofChange netAllSpec)

/-- ITS FALSE NEIGHBOUR: 'it returns false'. Refute it at one input. -/
def netAllWrong : ChangeSpec := { name := "netAll", fn := fun _ => fun
  | [d1, d2] => { results := [.lit (.bool false)], args := [d1, d2] }
  | _ => none }
def NetAllWrongFalsely : Prop := netAllRow.holds Tryz.pinned (OpenSpec.ofChange netAllWrong)

/-- 'marigoldlaw19.NetOrder': WHATEVER THE INPUT: true; the input reads as it did. -/
def netOrderSpec : ChangeSpec := { name := "netOrder", fn := fun _ => fun
  | [d1, d2] => { results := [.lit (.bool true)], args := [d1, d2] }
  | _ => none }
def netOrderRow : OpenClaim := { program := "ytabjakfgaodocaagreat", sum := "77e3a8775f701b23f5c6b53c31db5866cf99301deb409bda5c7e8e27658689ad", func := "marigold/marigoldlaw19.NetOrder", spec := "netOrder", inPlace := ["sync/atomic.LoadUint32", "(*internal/sync.Mutex).Lock", "internal/race.Disable", "sync/atomic.CompareAndSwapInt32", "internal/race.Enable", "internal/race.Acquire", "(*internal/sync.Mutex).lockSlow", "internal/sync.runtime_canSpin", "internal/sync.runtime_doSpin", "internal/sync.throw", "internal/sync.runtime_nanotime", "internal/sync.runtime_SemacquireMutex", "sync/atomic.AddInt32", "(*internal/sync.Mutex).Unlock", "internal/race.ReleaseMerge", "(*internal/sync.Mutex).unlockSlow", "internal/sync.fatal", "internal/sync.runtime_Semrelease", "sync/atomic.StoreUint32", "sync/atomic.AddInt64", "sync/atomic.LoadInt64"], unfollowed := true, recurses := true, plainKeys := false, apart := false }
def NetOrderSaid : Prop := netOrderRow.holds Tryz.pinned (OpenSpec.ofChange netOrderSpec)

/-- ITS FALSE NEIGHBOUR: 'it returns false'. Refute it at one input. -/
def netOrderWrong : ChangeSpec := { name := "netOrder", fn := fun _ => fun
  | [d1, d2] => { results := [.lit (.bool false)], args := [d1, d2] }
  | _ => none }
def NetOrderWrongFalsely : Prop := netOrderRow.holds Tryz.pinned (OpenSpec.ofChange netOrderWrong)

/-- 'marigoldlaw19.NetClash': WHATEVER THE INPUT: true; the input reads as it did. -/
def netClashSpec : ChangeSpec := { name := "netClash", fn := fun _ => fun
  | [d1, d2] => { results := [.lit (.bool true)], args := [d1, d2] }
  | _ => none }
def netClashRow : OpenClaim := { program := "ytabjakfgaodocaagreat", sum := "77e3a8775f701b23f5c6b53c31db5866cf99301deb409bda5c7e8e27658689ad", func := "marigold/marigoldlaw19.NetClash", spec := "netClash", inPlace := ["sync/atomic.LoadUint32", "(*internal/sync.Mutex).Lock", "internal/race.Disable", "sync/atomic.CompareAndSwapInt32", "internal/race.Enable", "internal/race.Acquire", "(*internal/sync.Mutex).lockSlow", "internal/sync.runtime_canSpin", "internal/sync.runtime_doSpin", "internal/sync.throw", "internal/sync.runtime_nanotime", "internal/sync.runtime_SemacquireMutex", "sync/atomic.AddInt32", "(*internal/sync.Mutex).Unlock", "internal/race.ReleaseMerge", "(*internal/sync.Mutex).unlockSlow", "internal/sync.fatal", "internal/sync.runtime_Semrelease", "sync/atomic.StoreUint32", "sync/atomic.AddInt64", "sync/atomic.LoadInt64"], unfollowed := true, recurses := true, plainKeys := false, apart := false }
def NetClashSaid : Prop := netClashRow.holds Tryz.pinned (OpenSpec.ofChange netClashSpec)

/-- ITS FALSE NEIGHBOUR: 'it returns false'. Refute it at one input. -/
def netClashWrong : ChangeSpec := { name := "netClash", fn := fun _ => fun
  | [d1, d2] => { results := [.lit (.bool false)], args := [d1, d2] }
  | _ => none }
def NetClashWrongFalsely : Prop := netClashRow.holds Tryz.pinned (OpenSpec.ofChange netClashWrong)

/-- 'marigoldlaw19.NetHeads': WHATEVER THE INPUT: true; the input reads as it did. -/
def netHeadsSpec : ChangeSpec := { name := "netHeads", fn := fun _ => fun
  | [d1, d2] => { results := [.lit (.bool true)], args := [d1, d2] }
  | _ => none }
def netHeadsRow : OpenClaim := { program := "ytabjakfgaodocaagreat", sum := "77e3a8775f701b23f5c6b53c31db5866cf99301deb409bda5c7e8e27658689ad", func := "marigold/marigoldlaw19.NetHeads", spec := "netHeads", inPlace := ["sync/atomic.LoadUint32", "(*internal/sync.Mutex).Lock", "internal/race.Disable", "sync/atomic.CompareAndSwapInt32", "internal/race.Enable", "internal/race.Acquire", "(*internal/sync.Mutex).lockSlow", "internal/sync.runtime_canSpin", "internal/sync.runtime_doSpin", "internal/sync.throw", "internal/sync.runtime_nanotime", "internal/sync.runtime_SemacquireMutex", "sync/atomic.AddInt32", "(*internal/sync.Mutex).Unlock", "internal/race.ReleaseMerge", "(*internal/sync.Mutex).unlockSlow", "internal/sync.fatal", "internal/sync.runtime_Semrelease", "sync/atomic.StoreUint32", "sync/atomic.AddInt64", "sync/atomic.LoadInt64"], unfollowed := true, recurses := true, plainKeys := false, apart := false }
def NetHeadsSaid : Prop := netHeadsRow.holds Tryz.pinned (OpenSpec.ofChange netHeadsSpec)

/-- ITS FALSE NEIGHBOUR: 'it returns false'. Refute it at one input. -/
def netHeadsWrong : ChangeSpec := { name := "netHeads", fn := fun _ => fun
  | [d1, d2] => { results := [.lit (.bool false)], args := [d1, d2] }
  | _ => none }
def NetHeadsWrongFalsely : Prop := netHeadsRow.holds Tryz.pinned (OpenSpec.ofChange netHeadsWrong)

/-- 'marigoldlaw18.NodeTicks': WHATEVER THE INPUT: true; the input reads as it did. -/
def nodeTicksSpec : ChangeSpec := { name := "nodeTicks", fn := fun _ => fun
  | [d1, d2, d3] => { results := [.lit (.bool true)], args := [d1, d2, d3] }
  | _ => none }
def nodeTicksRow : OpenClaim := { program := "ytabjakfgaodocaagreat", sum := "77e3a8775f701b23f5c6b53c31db5866cf99301deb409bda5c7e8e27658689ad", func := "marigold/marigoldlaw18.NodeTicks", spec := "nodeTicks", inPlace := ["sync/atomic.LoadUint32", "(*internal/sync.Mutex).Lock", "internal/race.Disable", "sync/atomic.CompareAndSwapInt32", "internal/race.Enable", "internal/race.Acquire", "(*internal/sync.Mutex).lockSlow", "internal/sync.runtime_canSpin", "internal/sync.runtime_doSpin", "internal/sync.throw", "internal/sync.runtime_nanotime", "internal/sync.runtime_SemacquireMutex", "sync/atomic.AddInt32", "(*internal/sync.Mutex).Unlock", "internal/race.ReleaseMerge", "(*internal/sync.Mutex).unlockSlow", "internal/sync.fatal", "internal/sync.runtime_Semrelease", "sync/atomic.StoreUint32", "sync/atomic.AddInt64", "sync/atomic.LoadInt64"], unfollowed := true, recurses := true, plainKeys := false, apart := false }
def NodeTicksSaid : Prop := nodeTicksRow.holds Tryz.pinned (OpenSpec.ofChange nodeTicksSpec)

/-- ITS FALSE NEIGHBOUR: 'it returns false'. Refute it at one input. -/
def nodeTicksWrong : ChangeSpec := { name := "nodeTicks", fn := fun _ => fun
  | [d1, d2, d3] => { results := [.lit (.bool false)], args := [d1, d2, d3] }
  | _ => none }
def NodeTicksWrongFalsely : Prop := nodeTicksRow.holds Tryz.pinned (OpenSpec.ofChange nodeTicksWrong)

/-- 'marigoldlaw18.NodeSteps': WHATEVER THE INPUT: true; the input reads as it did. -/
def nodeStepsSpec : ChangeSpec := { name := "nodeSteps", fn := fun _ => fun
  | [d1, d2, d3, d4] => { results := [.lit (.bool true)], args := [d1, d2, d3, d4] }
  | _ => none }
def nodeStepsRow : OpenClaim := { program := "ytabjakfgaodocaagreat", sum := "77e3a8775f701b23f5c6b53c31db5866cf99301deb409bda5c7e8e27658689ad", func := "marigold/marigoldlaw18.NodeSteps", spec := "nodeSteps", inPlace := ["sync/atomic.LoadUint32", "(*internal/sync.Mutex).Lock", "internal/race.Disable", "sync/atomic.CompareAndSwapInt32", "internal/race.Enable", "internal/race.Acquire", "(*internal/sync.Mutex).lockSlow", "internal/sync.runtime_canSpin", "internal/sync.runtime_doSpin", "internal/sync.throw", "internal/sync.runtime_nanotime", "internal/sync.runtime_SemacquireMutex", "sync/atomic.AddInt32", "(*internal/sync.Mutex).Unlock", "internal/race.ReleaseMerge", "(*internal/sync.Mutex).unlockSlow", "internal/sync.fatal", "internal/sync.runtime_Semrelease", "sync/atomic.StoreUint32", "sync/atomic.AddInt64", "sync/atomic.LoadInt64"], unfollowed := true, recurses := true, plainKeys := false, apart := false }
def NodeStepsSaid : Prop := nodeStepsRow.holds Tryz.pinned (OpenSpec.ofChange nodeStepsSpec)

/-- ITS FALSE NEIGHBOUR: 'it returns false'. Refute it at one input. -/
def nodeStepsWrong : ChangeSpec := { name := "nodeSteps", fn := fun _ => fun
  | [d1, d2, d3, d4] => { results := [.lit (.bool false)], args := [d1, d2, d3, d4] }
  | _ => none }
def NodeStepsWrongFalsely : Prop := nodeStepsRow.holds Tryz.pinned (OpenSpec.ofChange nodeStepsWrong)

/- THE SECOND FORM. 'bulk': how many values and letters a reading holds, each counted each time it is reached (what is shared counts as often as it is met; a slice's spare places count too). A statement '..UptoSaid' is the law's where the arguments, and the package variables that the reading takes, are together of bulk at most 1048576: NARROWER than '..Said'. Prove '..Said' where nothing that the law and all that it calls make is longer than what came in: it says more and counts as full. Else prove '..UptoSaid'. A law counts once. -/
mutual
def uptoBulk {H : Type} : DataW H → Nat
  | .lit (.string bytes) => bytes.length + 1
  | .lit _ => 1
  | .nil => 1
  | .ptr d => uptoBulk d + 1
  | .slice elems spare => uptoBulkAll elems + uptoBulkAll spare + 1
  | .agg parts => uptoBulkAll parts + 1
  | .iface _ d => uptoBulk d + 1
  | .map entries => uptoBulkEntries entries + 1
  | .held _ => 1
def uptoBulkAll {H : Type} : List (DataW H) → Nat
  | [] => 0
  | d :: r => uptoBulk d + uptoBulkAll r
def uptoBulkEntries {H : Type} : List (Lit × DataW H) → Nat
  | [] => 0
  | x :: r => uptoBulkEntry x + uptoBulkEntries r
def uptoBulkEntry {H : Type} : Lit × DataW H → Nat
  | (.string bytes, d) => bytes.length + uptoBulk d + 1
  | (_, d) => uptoBulk d + 1
 end
def uptoSmall : (H : Type) → List (DataW H) → Bool := fun _ ds => decide (uptoBulkAll ds ≤ 1048576)
def OpenSpec.upto (s : _root_.Go.ChangeSpec) : _root_.Go.OpenSpec := { _root_.Go.OpenSpec.ofChange s with cond := some uptoSmall }

/-- 'marigoldlaw18.NodeKeeps', WHERE WHAT IT READS IS OF BULK AT MOST 1048576: true; the input reads as it did. -/
def nodeKeepsUptoRow : OpenClaim := { program := "ytabjakfgaodocaagreat", sum := "77e3a8775f701b23f5c6b53c31db5866cf99301deb409bda5c7e8e27658689ad", func := "marigold/marigoldlaw18.NodeKeeps", spec := "nodeKeeps", inPlace := ["sync/atomic.LoadUint32", "(*internal/sync.Mutex).Lock", "internal/race.Disable", "sync/atomic.CompareAndSwapInt32", "internal/race.Enable", "internal/race.Acquire", "(*internal/sync.Mutex).lockSlow", "internal/sync.runtime_canSpin", "internal/sync.runtime_doSpin", "internal/sync.throw", "internal/sync.runtime_nanotime", "internal/sync.runtime_SemacquireMutex", "sync/atomic.AddInt32", "(*internal/sync.Mutex).Unlock", "internal/race.ReleaseMerge", "(*internal/sync.Mutex).unlockSlow", "internal/sync.fatal", "internal/sync.runtime_Semrelease", "sync/atomic.StoreUint32", "sync/atomic.AddInt64", "sync/atomic.LoadInt64"], unfollowed := true, recurses := true, plainKeys := false, apart := false, narrowed := true }
def NodeKeepsUptoSaid : Prop := nodeKeepsUptoRow.holds Tryz.pinned (OpenSpec.upto nodeKeepsSpec)

/-- 'marigoldlaw18.NodeWaits', WHERE WHAT IT READS IS OF BULK AT MOST 1048576: true; the input reads as it did. -/
def nodeWaitsUptoRow : OpenClaim := { program := "ytabjakfgaodocaagreat", sum := "77e3a8775f701b23f5c6b53c31db5866cf99301deb409bda5c7e8e27658689ad", func := "marigold/marigoldlaw18.NodeWaits", spec := "nodeWaits", inPlace := ["sync/atomic.LoadUint32", "(*internal/sync.Mutex).Lock", "internal/race.Disable", "sync/atomic.CompareAndSwapInt32", "internal/race.Enable", "internal/race.Acquire", "(*internal/sync.Mutex).lockSlow", "internal/sync.runtime_canSpin", "internal/sync.runtime_doSpin", "internal/sync.throw", "internal/sync.runtime_nanotime", "internal/sync.runtime_SemacquireMutex", "sync/atomic.AddInt32", "(*internal/sync.Mutex).Unlock", "internal/race.ReleaseMerge", "(*internal/sync.Mutex).unlockSlow", "internal/sync.fatal", "internal/sync.runtime_Semrelease", "sync/atomic.StoreUint32", "sync/atomic.AddInt64", "sync/atomic.LoadInt64"], unfollowed := true, recurses := true, plainKeys := false, apart := false, narrowed := true }
def NodeWaitsUptoSaid : Prop := nodeWaitsUptoRow.holds Tryz.pinned (OpenSpec.upto nodeWaitsSpec)

/-- 'marigoldlaw18.NodeVotes', WHERE WHAT IT READS IS OF BULK AT MOST 1048576: true; the input reads as it did. -/
def nodeVotesUptoRow : OpenClaim := { program := "ytabjakfgaodocaagreat", sum := "77e3a8775f701b23f5c6b53c31db5866cf99301deb409bda5c7e8e27658689ad", func := "marigold/marigoldlaw18.NodeVotes", spec := "nodeVotes", inPlace := ["sync/atomic.LoadUint32", "(*internal/sync.Mutex).Lock", "internal/race.Disable", "sync/atomic.CompareAndSwapInt32", "internal/race.Enable", "internal/race.Acquire", "(*internal/sync.Mutex).lockSlow", "internal/sync.runtime_canSpin", "internal/sync.runtime_doSpin", "internal/sync.throw", "internal/sync.runtime_nanotime", "internal/sync.runtime_SemacquireMutex", "sync/atomic.AddInt32", "(*internal/sync.Mutex).Unlock", "internal/race.ReleaseMerge", "(*internal/sync.Mutex).unlockSlow", "internal/sync.fatal", "internal/sync.runtime_Semrelease", "sync/atomic.StoreUint32", "sync/atomic.AddInt64", "sync/atomic.LoadInt64"], unfollowed := true, recurses := true, plainKeys := false, apart := false, narrowed := true }
def NodeVotesUptoSaid : Prop := nodeVotesUptoRow.holds Tryz.pinned (OpenSpec.upto nodeVotesSpec)

/-- 'marigoldlaw18.NodeKnown', WHERE WHAT IT READS IS OF BULK AT MOST 1048576: true; the input reads as it did. -/
def nodeKnownUptoRow : OpenClaim := { program := "ytabjakfgaodocaagreat", sum := "77e3a8775f701b23f5c6b53c31db5866cf99301deb409bda5c7e8e27658689ad", func := "marigold/marigoldlaw18.NodeKnown", spec := "nodeKnown", inPlace := ["sync/atomic.LoadUint32", "(*internal/sync.Mutex).Lock", "internal/race.Disable", "sync/atomic.CompareAndSwapInt32", "internal/race.Enable", "internal/race.Acquire", "(*internal/sync.Mutex).lockSlow", "internal/sync.runtime_canSpin", "internal/sync.runtime_doSpin", "internal/sync.throw", "internal/sync.runtime_nanotime", "internal/sync.runtime_SemacquireMutex", "sync/atomic.AddInt32", "(*internal/sync.Mutex).Unlock", "internal/race.ReleaseMerge", "(*internal/sync.Mutex).unlockSlow", "internal/sync.fatal", "internal/sync.runtime_Semrelease", "sync/atomic.StoreUint32", "sync/atomic.AddInt64", "sync/atomic.LoadInt64"], unfollowed := true, recurses := true, plainKeys := false, apart := false, narrowed := true }
def NodeKnownUptoSaid : Prop := nodeKnownUptoRow.holds Tryz.pinned (OpenSpec.upto nodeKnownSpec)

/-- 'marigoldlaw19.NetAll', WHERE WHAT IT READS IS OF BULK AT MOST 1048576: true; the input reads as it did. -/
def netAllUptoRow : OpenClaim := { program := "ytabjakfgaodocaagreat", sum := "77e3a8775f701b23f5c6b53c31db5866cf99301deb409bda5c7e8e27658689ad", func := "marigold/marigoldlaw19.NetAll", spec := "netAll", inPlace := ["sync/atomic.LoadUint32", "(*internal/sync.Mutex).Lock", "internal/race.Disable", "sync/atomic.CompareAndSwapInt32", "internal/race.Enable", "internal/race.Acquire", "(*internal/sync.Mutex).lockSlow", "internal/sync.runtime_canSpin", "internal/sync.runtime_doSpin", "internal/sync.throw", "internal/sync.runtime_nanotime", "internal/sync.runtime_SemacquireMutex", "sync/atomic.AddInt32", "(*internal/sync.Mutex).Unlock", "internal/race.ReleaseMerge", "(*internal/sync.Mutex).unlockSlow", "internal/sync.fatal", "internal/sync.runtime_Semrelease", "sync/atomic.StoreUint32", "sync/atomic.AddInt64", "sync/atomic.LoadInt64"], unfollowed := true, recurses := true, plainKeys := false, apart := false, narrowed := true }
def NetAllUptoSaid : Prop := netAllUptoRow.holds Tryz.pinned (OpenSpec.upto netAllSpec)

/-- 'marigoldlaw19.NetOrder', WHERE WHAT IT READS IS OF BULK AT MOST 1048576: true; the input reads as it did. -/
def netOrderUptoRow : OpenClaim := { program := "ytabjakfgaodocaagreat", sum := "77e3a8775f701b23f5c6b53c31db5866cf99301deb409bda5c7e8e27658689ad", func := "marigold/marigoldlaw19.NetOrder", spec := "netOrder", inPlace := ["sync/atomic.LoadUint32", "(*internal/sync.Mutex).Lock", "internal/race.Disable", "sync/atomic.CompareAndSwapInt32", "internal/race.Enable", "internal/race.Acquire", "(*internal/sync.Mutex).lockSlow", "internal/sync.runtime_canSpin", "internal/sync.runtime_doSpin", "internal/sync.throw", "internal/sync.runtime_nanotime", "internal/sync.runtime_SemacquireMutex", "sync/atomic.AddInt32", "(*internal/sync.Mutex).Unlock", "internal/race.ReleaseMerge", "(*internal/sync.Mutex).unlockSlow", "internal/sync.fatal", "internal/sync.runtime_Semrelease", "sync/atomic.StoreUint32", "sync/atomic.AddInt64", "sync/atomic.LoadInt64"], unfollowed := true, recurses := true, plainKeys := false, apart := false, narrowed := true }
def NetOrderUptoSaid : Prop := netOrderUptoRow.holds Tryz.pinned (OpenSpec.upto netOrderSpec)

/-- 'marigoldlaw19.NetClash', WHERE WHAT IT READS IS OF BULK AT MOST 1048576: true; the input reads as it did. -/
def netClashUptoRow : OpenClaim := { program := "ytabjakfgaodocaagreat", sum := "77e3a8775f701b23f5c6b53c31db5866cf99301deb409bda5c7e8e27658689ad", func := "marigold/marigoldlaw19.NetClash", spec := "netClash", inPlace := ["sync/atomic.LoadUint32", "(*internal/sync.Mutex).Lock", "internal/race.Disable", "sync/atomic.CompareAndSwapInt32", "internal/race.Enable", "internal/race.Acquire", "(*internal/sync.Mutex).lockSlow", "internal/sync.runtime_canSpin", "internal/sync.runtime_doSpin", "internal/sync.throw", "internal/sync.runtime_nanotime", "internal/sync.runtime_SemacquireMutex", "sync/atomic.AddInt32", "(*internal/sync.Mutex).Unlock", "internal/race.ReleaseMerge", "(*internal/sync.Mutex).unlockSlow", "internal/sync.fatal", "internal/sync.runtime_Semrelease", "sync/atomic.StoreUint32", "sync/atomic.AddInt64", "sync/atomic.LoadInt64"], unfollowed := true, recurses := true, plainKeys := false, apart := false, narrowed := true }
def NetClashUptoSaid : Prop := netClashUptoRow.holds Tryz.pinned (OpenSpec.upto netClashSpec)

/-- 'marigoldlaw19.NetHeads', WHERE WHAT IT READS IS OF BULK AT MOST 1048576: true; the input reads as it did. -/
def netHeadsUptoRow : OpenClaim := { program := "ytabjakfgaodocaagreat", sum := "77e3a8775f701b23f5c6b53c31db5866cf99301deb409bda5c7e8e27658689ad", func := "marigold/marigoldlaw19.NetHeads", spec := "netHeads", inPlace := ["sync/atomic.LoadUint32", "(*internal/sync.Mutex).Lock", "internal/race.Disable", "sync/atomic.CompareAndSwapInt32", "internal/race.Enable", "internal/race.Acquire", "(*internal/sync.Mutex).lockSlow", "internal/sync.runtime_canSpin", "internal/sync.runtime_doSpin", "internal/sync.throw", "internal/sync.runtime_nanotime", "internal/sync.runtime_SemacquireMutex", "sync/atomic.AddInt32", "(*internal/sync.Mutex).Unlock", "internal/race.ReleaseMerge", "(*internal/sync.Mutex).unlockSlow", "internal/sync.fatal", "internal/sync.runtime_Semrelease", "sync/atomic.StoreUint32", "sync/atomic.AddInt64", "sync/atomic.LoadInt64"], unfollowed := true, recurses := true, plainKeys := false, apart := false, narrowed := true }
def NetHeadsUptoSaid : Prop := netHeadsUptoRow.holds Tryz.pinned (OpenSpec.upto netHeadsSpec)

/-- 'marigoldlaw18.NodeTicks', WHERE WHAT IT READS IS OF BULK AT MOST 1048576: true; the input reads as it did. -/
def nodeTicksUptoRow : OpenClaim := { program := "ytabjakfgaodocaagreat", sum := "77e3a8775f701b23f5c6b53c31db5866cf99301deb409bda5c7e8e27658689ad", func := "marigold/marigoldlaw18.NodeTicks", spec := "nodeTicks", inPlace := ["sync/atomic.LoadUint32", "(*internal/sync.Mutex).Lock", "internal/race.Disable", "sync/atomic.CompareAndSwapInt32", "internal/race.Enable", "internal/race.Acquire", "(*internal/sync.Mutex).lockSlow", "internal/sync.runtime_canSpin", "internal/sync.runtime_doSpin", "internal/sync.throw", "internal/sync.runtime_nanotime", "internal/sync.runtime_SemacquireMutex", "sync/atomic.AddInt32", "(*internal/sync.Mutex).Unlock", "internal/race.ReleaseMerge", "(*internal/sync.Mutex).unlockSlow", "internal/sync.fatal", "internal/sync.runtime_Semrelease", "sync/atomic.StoreUint32", "sync/atomic.AddInt64", "sync/atomic.LoadInt64"], unfollowed := true, recurses := true, plainKeys := false, apart := false, narrowed := true }
def NodeTicksUptoSaid : Prop := nodeTicksUptoRow.holds Tryz.pinned (OpenSpec.upto nodeTicksSpec)

/-- 'marigoldlaw18.NodeSteps', WHERE WHAT IT READS IS OF BULK AT MOST 1048576: true; the input reads as it did. -/
def nodeStepsUptoRow : OpenClaim := { program := "ytabjakfgaodocaagreat", sum := "77e3a8775f701b23f5c6b53c31db5866cf99301deb409bda5c7e8e27658689ad", func := "marigold/marigoldlaw18.NodeSteps", spec := "nodeSteps", inPlace := ["sync/atomic.LoadUint32", "(*internal/sync.Mutex).Lock", "internal/race.Disable", "sync/atomic.CompareAndSwapInt32", "internal/race.Enable", "internal/race.Acquire", "(*internal/sync.Mutex).lockSlow", "internal/sync.runtime_canSpin", "internal/sync.runtime_doSpin", "internal/sync.throw", "internal/sync.runtime_nanotime", "internal/sync.runtime_SemacquireMutex", "sync/atomic.AddInt32", "(*internal/sync.Mutex).Unlock", "internal/race.ReleaseMerge", "(*internal/sync.Mutex).unlockSlow", "internal/sync.fatal", "internal/sync.runtime_Semrelease", "sync/atomic.StoreUint32", "sync/atomic.AddInt64", "sync/atomic.LoadInt64"], unfollowed := true, recurses := true, plainKeys := false, apart := false, narrowed := true }
def NodeStepsUptoSaid : Prop := nodeStepsUptoRow.holds Tryz.pinned (OpenSpec.upto nodeStepsSpec)

end Rows
end Go.Proofs.YtabjakfgaodocaaGreat
