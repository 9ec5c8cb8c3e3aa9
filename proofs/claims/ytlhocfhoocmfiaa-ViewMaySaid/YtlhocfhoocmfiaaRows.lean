/-
  No cell of these rows narrows 'for every input' (looked for: loops, veiled, ifaces, maps, wideKeys, modest, calm, conditions, laid).
  DERIVED. THE GIVEN ROWS OF THIS SEAT. 33 by the template 'for every input the law returns true; each argument reads behind the call as it read before'; 0 by the template 'total and deterministic' (their statements: YtlhocfhoocmfiaaTotals.lean).
  GIVEN WITH THE SEED: the statements are not yours to turn. If you find one false, say at which input.
  Laid BY PROGRAM, IN A SANDBOX (cutbox-rows.mjs): the forced cells as the released guide's own fill.sh prints them over the translation 585f21f0f5305919… (all of the seat's roots in one cut). By AI agents, Wed Nov 11 2026. No macro, syntax, notation, axiom, sorry.
-/
import Derived.Test.YtlhocfhoocmfiaaChecked
import GoSem.Claim
import GoSem.ClaimJoined
import GoSem.ClaimMapViews
import Derived.JoinedTies
import Derived.KernelRfl
namespace Go.Proofs.Ytlhocfhoocmfiaa
/- THE CELL 'sum', in the pinned program and in every row, IS THE sha256 OF THE DUMP (.gsa) THAT YtlhocfhoocmfiaaProg.lean LOADS. Nothing in Lean hashes anything: it is a label: what it is worth is what the hold of that sum in a sandbox is worth. -/
noncomputable def Try.pinned : Pinned := { name := "ytlhocfhoocmfiaa", sum := "585f21f0f5305919dd64f6018da67ed30a2305ada41b74deac69a45274e04c71", checked := Try.checked }
namespace Rows
def none {H : Type} : Left H := { results := [], args := [] }

/-- 'marigoldlaw17.CursorMoves': WHATEVER THE INPUT: true; the input reads as it did. -/
def cursorMovesSpec : ChangeSpec := { name := "cursorMoves", fn := fun _ => fun
  | [d1, d2, d3, d4, d5, d6] => { results := [.lit (.bool true)], args := [d1, d2, d3, d4, d5, d6] }
  | _ => none }
def cursorMovesRow : OpenClaim := { program := "ytlhocfhoocmfiaa", sum := "585f21f0f5305919dd64f6018da67ed30a2305ada41b74deac69a45274e04c71", func := "marigold/marigoldlaw17.CursorMoves", spec := "cursorMoves", unfollowed := true, recurses := true, plainKeys := false, apart := false }
def CursorMovesSaid : Prop := cursorMovesRow.holds Try.pinned (OpenSpec.ofChange cursorMovesSpec)

/-- ITS FALSE NEIGHBOUR: 'it returns false'. Refute it at one input. -/
def cursorMovesWrong : ChangeSpec := { name := "cursorMoves", fn := fun _ => fun
  | [d1, d2, d3, d4, d5, d6] => { results := [.lit (.bool false)], args := [d1, d2, d3, d4, d5, d6] }
  | _ => none }
def CursorMovesWrongFalsely : Prop := cursorMovesRow.holds Try.pinned (OpenSpec.ofChange cursorMovesWrong)

/-- 'marigoldlaw17.CursorTwice': WHATEVER THE INPUT: true; the input reads as it did. -/
def cursorTwiceSpec : ChangeSpec := { name := "cursorTwice", fn := fun _ => fun
  | [d1, d2, d3, d4, d5, d6] => { results := [.lit (.bool true)], args := [d1, d2, d3, d4, d5, d6] }
  | _ => none }
def cursorTwiceRow : OpenClaim := { program := "ytlhocfhoocmfiaa", sum := "585f21f0f5305919dd64f6018da67ed30a2305ada41b74deac69a45274e04c71", func := "marigold/marigoldlaw17.CursorTwice", spec := "cursorTwice", unfollowed := true, recurses := true, plainKeys := false, apart := false }
def CursorTwiceSaid : Prop := cursorTwiceRow.holds Try.pinned (OpenSpec.ofChange cursorTwiceSpec)

/-- ITS FALSE NEIGHBOUR: 'it returns false'. Refute it at one input. -/
def cursorTwiceWrong : ChangeSpec := { name := "cursorTwice", fn := fun _ => fun
  | [d1, d2, d3, d4, d5, d6] => { results := [.lit (.bool false)], args := [d1, d2, d3, d4, d5, d6] }
  | _ => none }
def CursorTwiceWrongFalsely : Prop := cursorTwiceRow.holds Try.pinned (OpenSpec.ofChange cursorTwiceWrong)

/-- 'marigoldlaw17.CursorLost': WHATEVER THE INPUT: true; the input reads as it did. -/
def cursorLostSpec : ChangeSpec := { name := "cursorLost", fn := fun _ => fun
  | [d1, d2, d3, d4, d5, d6] => { results := [.lit (.bool true)], args := [d1, d2, d3, d4, d5, d6] }
  | _ => none }
def cursorLostRow : OpenClaim := { program := "ytlhocfhoocmfiaa", sum := "585f21f0f5305919dd64f6018da67ed30a2305ada41b74deac69a45274e04c71", func := "marigold/marigoldlaw17.CursorLost", spec := "cursorLost", unfollowed := true, recurses := true, plainKeys := false, apart := false }
def CursorLostSaid : Prop := cursorLostRow.holds Try.pinned (OpenSpec.ofChange cursorLostSpec)

/-- ITS FALSE NEIGHBOUR: 'it returns false'. Refute it at one input. -/
def cursorLostWrong : ChangeSpec := { name := "cursorLost", fn := fun _ => fun
  | [d1, d2, d3, d4, d5, d6] => { results := [.lit (.bool false)], args := [d1, d2, d3, d4, d5, d6] }
  | _ => none }
def CursorLostWrongFalsely : Prop := cursorLostRow.holds Try.pinned (OpenSpec.ofChange cursorLostWrong)

/-- 'marigoldlaw17.CursorUnder': WHATEVER THE INPUT: true; the input reads as it did. -/
def cursorUnderSpec : ChangeSpec := { name := "cursorUnder", fn := fun _ => fun
  | [d1, d2, d3, d4, d5, d6] => { results := [.lit (.bool true)], args := [d1, d2, d3, d4, d5, d6] }
  | _ => none }
def cursorUnderRow : OpenClaim := { program := "ytlhocfhoocmfiaa", sum := "585f21f0f5305919dd64f6018da67ed30a2305ada41b74deac69a45274e04c71", func := "marigold/marigoldlaw17.CursorUnder", spec := "cursorUnder", unfollowed := true, recurses := true, plainKeys := false, apart := false }
def CursorUnderSaid : Prop := cursorUnderRow.holds Try.pinned (OpenSpec.ofChange cursorUnderSpec)

/-- ITS FALSE NEIGHBOUR: 'it returns false'. Refute it at one input. -/
def cursorUnderWrong : ChangeSpec := { name := "cursorUnder", fn := fun _ => fun
  | [d1, d2, d3, d4, d5, d6] => { results := [.lit (.bool false)], args := [d1, d2, d3, d4, d5, d6] }
  | _ => none }
def CursorUnderWrongFalsely : Prop := cursorUnderRow.holds Try.pinned (OpenSpec.ofChange cursorUnderWrong)

/-- 'marigoldlaw17.CursorStays': WHATEVER THE INPUT: true; the input reads as it did. -/
def cursorStaysSpec : ChangeSpec := { name := "cursorStays", fn := fun _ => fun
  | [d1, d2, d3, d4, d5] => { results := [.lit (.bool true)], args := [d1, d2, d3, d4, d5] }
  | _ => none }
def cursorStaysRow : OpenClaim := { program := "ytlhocfhoocmfiaa", sum := "585f21f0f5305919dd64f6018da67ed30a2305ada41b74deac69a45274e04c71", func := "marigold/marigoldlaw17.CursorStays", spec := "cursorStays", unfollowed := true, recurses := true, plainKeys := false, apart := false }
def CursorStaysSaid : Prop := cursorStaysRow.holds Try.pinned (OpenSpec.ofChange cursorStaysSpec)

/-- ITS FALSE NEIGHBOUR: 'it returns false'. Refute it at one input. -/
def cursorStaysWrong : ChangeSpec := { name := "cursorStays", fn := fun _ => fun
  | [d1, d2, d3, d4, d5] => { results := [.lit (.bool false)], args := [d1, d2, d3, d4, d5] }
  | _ => none }
def CursorStaysWrongFalsely : Prop := cursorStaysRow.holds Try.pinned (OpenSpec.ofChange cursorStaysWrong)

/-- 'marigoldlaw17.CursorLine': WHATEVER THE INPUT: true; the input reads as it did. -/
def cursorLineSpec : ChangeSpec := { name := "cursorLine", fn := fun _ => fun
  | [d1, d2, d3, d4] => { results := [.lit (.bool true)], args := [d1, d2, d3, d4] }
  | _ => none }
def cursorLineRow : OpenClaim := { program := "ytlhocfhoocmfiaa", sum := "585f21f0f5305919dd64f6018da67ed30a2305ada41b74deac69a45274e04c71", func := "marigold/marigoldlaw17.CursorLine", spec := "cursorLine", unfollowed := true, recurses := true, plainKeys := false, apart := false }
def CursorLineSaid : Prop := cursorLineRow.holds Try.pinned (OpenSpec.ofChange cursorLineSpec)

/-- ITS FALSE NEIGHBOUR: 'it returns false'. Refute it at one input. -/
def cursorLineWrong : ChangeSpec := { name := "cursorLine", fn := fun _ => fun
  | [d1, d2, d3, d4] => { results := [.lit (.bool false)], args := [d1, d2, d3, d4] }
  | _ => none }
def CursorLineWrongFalsely : Prop := cursorLineRow.holds Try.pinned (OpenSpec.ofChange cursorLineWrong)

/-- 'marigoldlaw06.TreeTells': WHATEVER THE INPUT: true; the input reads as it did. -/
def treeTellsSpec : ChangeSpec := { name := "treeTells", fn := fun _ => fun
  | [d1, d2, d3] => { results := [.lit (.bool true)], args := [d1, d2, d3] }
  | _ => none }
def treeTellsRow : OpenClaim := { program := "ytlhocfhoocmfiaa", sum := "585f21f0f5305919dd64f6018da67ed30a2305ada41b74deac69a45274e04c71", func := "marigold/marigoldlaw06.TreeTells", spec := "treeTells", unfollowed := true, recurses := true, plainKeys := false, apart := false }
def TreeTellsSaid : Prop := treeTellsRow.holds Try.pinned (OpenSpec.ofChange treeTellsSpec)

/-- ITS FALSE NEIGHBOUR: 'it returns false'. Refute it at one input. -/
def treeTellsWrong : ChangeSpec := { name := "treeTells", fn := fun _ => fun
  | [d1, d2, d3] => { results := [.lit (.bool false)], args := [d1, d2, d3] }
  | _ => none }
def TreeTellsWrongFalsely : Prop := treeTellsRow.holds Try.pinned (OpenSpec.ofChange treeTellsWrong)

/-- 'marigoldlaw06.TreeChains': WHATEVER THE INPUT: true; the input reads as it did. -/
def treeChainsSpec : ChangeSpec := { name := "treeChains", fn := fun _ => fun
  | [d1, d2] => { results := [.lit (.bool true)], args := [d1, d2] }
  | _ => none }
def treeChainsRow : OpenClaim := { program := "ytlhocfhoocmfiaa", sum := "585f21f0f5305919dd64f6018da67ed30a2305ada41b74deac69a45274e04c71", func := "marigold/marigoldlaw06.TreeChains", spec := "treeChains", unfollowed := true, recurses := true, plainKeys := false, apart := false }
def TreeChainsSaid : Prop := treeChainsRow.holds Try.pinned (OpenSpec.ofChange treeChainsSpec)

/-- ITS FALSE NEIGHBOUR: 'it returns false'. Refute it at one input. -/
def treeChainsWrong : ChangeSpec := { name := "treeChains", fn := fun _ => fun
  | [d1, d2] => { results := [.lit (.bool false)], args := [d1, d2] }
  | _ => none }
def TreeChainsWrongFalsely : Prop := treeChainsRow.holds Try.pinned (OpenSpec.ofChange treeChainsWrong)

/-- 'marigoldlaw06.TreeUnder': WHATEVER THE INPUT: true; the input reads as it did. -/
def treeUnderSpec : ChangeSpec := { name := "treeUnder", fn := fun _ => fun
  | [d1, d2, d3, d4] => { results := [.lit (.bool true)], args := [d1, d2, d3, d4] }
  | _ => none }
def treeUnderRow : OpenClaim := { program := "ytlhocfhoocmfiaa", sum := "585f21f0f5305919dd64f6018da67ed30a2305ada41b74deac69a45274e04c71", func := "marigold/marigoldlaw06.TreeUnder", spec := "treeUnder", unfollowed := true, recurses := true, plainKeys := false, apart := false }
def TreeUnderSaid : Prop := treeUnderRow.holds Try.pinned (OpenSpec.ofChange treeUnderSpec)

/-- ITS FALSE NEIGHBOUR: 'it returns false'. Refute it at one input. -/
def treeUnderWrong : ChangeSpec := { name := "treeUnder", fn := fun _ => fun
  | [d1, d2, d3, d4] => { results := [.lit (.bool false)], args := [d1, d2, d3, d4] }
  | _ => none }
def TreeUnderWrongFalsely : Prop := treeUnderRow.holds Try.pinned (OpenSpec.ofChange treeUnderWrong)

/-- 'marigoldlaw06.TreeMore': WHATEVER THE INPUT: true; the input reads as it did. -/
def treeMoreSpec : ChangeSpec := { name := "treeMore", fn := fun _ => fun
  | [d1, d2, d3, d4, d5] => { results := [.lit (.bool true)], args := [d1, d2, d3, d4, d5] }
  | _ => none }
def treeMoreRow : OpenClaim := { program := "ytlhocfhoocmfiaa", sum := "585f21f0f5305919dd64f6018da67ed30a2305ada41b74deac69a45274e04c71", func := "marigold/marigoldlaw06.TreeMore", spec := "treeMore", unfollowed := true, recurses := true, plainKeys := false, apart := false }
def TreeMoreSaid : Prop := treeMoreRow.holds Try.pinned (OpenSpec.ofChange treeMoreSpec)

/-- ITS FALSE NEIGHBOUR: 'it returns false'. Refute it at one input. -/
def treeMoreWrong : ChangeSpec := { name := "treeMore", fn := fun _ => fun
  | [d1, d2, d3, d4, d5] => { results := [.lit (.bool false)], args := [d1, d2, d3, d4, d5] }
  | _ => none }
def TreeMoreWrongFalsely : Prop := treeMoreRow.holds Try.pinned (OpenSpec.ofChange treeMoreWrong)

/-- 'marigoldlaw06.TreeKids': WHATEVER THE INPUT: true; the input reads as it did. -/
def treeKidsSpec : ChangeSpec := { name := "treeKids", fn := fun _ => fun
  | [d] => { results := [.lit (.bool true)], args := [d] }
  | _ => none }
def treeKidsRow : OpenClaim := { program := "ytlhocfhoocmfiaa", sum := "585f21f0f5305919dd64f6018da67ed30a2305ada41b74deac69a45274e04c71", func := "marigold/marigoldlaw06.TreeKids", spec := "treeKids", unfollowed := true, recurses := true, plainKeys := false, apart := false }
def TreeKidsSaid : Prop := treeKidsRow.holds Try.pinned (OpenSpec.ofChange treeKidsSpec)

/-- ITS FALSE NEIGHBOUR: 'it returns false'. Refute it at one input. -/
def treeKidsWrong : ChangeSpec := { name := "treeKids", fn := fun _ => fun
  | [d] => { results := [.lit (.bool false)], args := [d] }
  | _ => none }
def TreeKidsWrongFalsely : Prop := treeKidsRow.holds Try.pinned (OpenSpec.ofChange treeKidsWrong)

/-- 'marigoldlaw06.TreeNames': WHATEVER THE INPUT: true; the input reads as it did. -/
def treeNamesSpec : ChangeSpec := { name := "treeNames", fn := fun _ => fun
  | [d1, d2, d3] => { results := [.lit (.bool true)], args := [d1, d2, d3] }
  | _ => none }
def treeNamesRow : OpenClaim := { program := "ytlhocfhoocmfiaa", sum := "585f21f0f5305919dd64f6018da67ed30a2305ada41b74deac69a45274e04c71", func := "marigold/marigoldlaw06.TreeNames", spec := "treeNames", unfollowed := true, recurses := true, plainKeys := false, apart := false }
def TreeNamesSaid : Prop := treeNamesRow.holds Try.pinned (OpenSpec.ofChange treeNamesSpec)

/-- ITS FALSE NEIGHBOUR: 'it returns false'. Refute it at one input. -/
def treeNamesWrong : ChangeSpec := { name := "treeNames", fn := fun _ => fun
  | [d1, d2, d3] => { results := [.lit (.bool false)], args := [d1, d2, d3] }
  | _ => none }
def TreeNamesWrongFalsely : Prop := treeNamesRow.holds Try.pinned (OpenSpec.ofChange treeNamesWrong)

/-- 'marigoldlaw06.TreeNone': WHATEVER THE INPUT: true; the input reads as it did. -/
def treeNoneSpec : ChangeSpec := { name := "treeNone", fn := fun _ => fun
  | [d1, d2, d3] => { results := [.lit (.bool true)], args := [d1, d2, d3] }
  | _ => none }
def treeNoneRow : OpenClaim := { program := "ytlhocfhoocmfiaa", sum := "585f21f0f5305919dd64f6018da67ed30a2305ada41b74deac69a45274e04c71", func := "marigold/marigoldlaw06.TreeNone", spec := "treeNone", unfollowed := true, recurses := true, plainKeys := false, apart := false }
def TreeNoneSaid : Prop := treeNoneRow.holds Try.pinned (OpenSpec.ofChange treeNoneSpec)

/-- ITS FALSE NEIGHBOUR: 'it returns false'. Refute it at one input. -/
def treeNoneWrong : ChangeSpec := { name := "treeNone", fn := fun _ => fun
  | [d1, d2, d3] => { results := [.lit (.bool false)], args := [d1, d2, d3] }
  | _ => none }
def TreeNoneWrongFalsely : Prop := treeNoneRow.holds Try.pinned (OpenSpec.ofChange treeNoneWrong)

/-- 'marigoldlaw04.ShuffleTells': WHATEVER THE INPUT: true; the input reads as it did. -/
def shuffleTellsSpec : ChangeSpec := { name := "shuffleTells", fn := fun _ => fun
  | [d1, d2, d3] => { results := [.lit (.bool true)], args := [d1, d2, d3] }
  | _ => none }
def shuffleTellsRow : OpenClaim := { program := "ytlhocfhoocmfiaa", sum := "585f21f0f5305919dd64f6018da67ed30a2305ada41b74deac69a45274e04c71", func := "marigold/marigoldlaw04.ShuffleTells", spec := "shuffleTells", inPlace := ["sync/atomic.LoadUint32", "(*internal/sync.Mutex).Lock", "internal/race.Disable", "sync/atomic.CompareAndSwapInt32", "internal/race.Enable", "internal/race.Acquire", "(*internal/sync.Mutex).lockSlow", "internal/sync.runtime_canSpin", "internal/sync.runtime_doSpin", "internal/sync.throw", "internal/sync.runtime_nanotime", "internal/sync.runtime_SemacquireMutex", "sync/atomic.AddInt32", "(*internal/sync.Mutex).Unlock", "internal/race.ReleaseMerge", "(*internal/sync.Mutex).unlockSlow", "internal/sync.fatal", "internal/sync.runtime_Semrelease", "sync/atomic.StoreUint32", "sync/atomic.AddInt64", "sync/atomic.LoadInt64"], unfollowed := true, recurses := true, plainKeys := false, apart := false }
def ShuffleTellsSaid : Prop := shuffleTellsRow.holds Try.pinned (OpenSpec.ofChange shuffleTellsSpec)

/-- ITS FALSE NEIGHBOUR: 'it returns false'. Refute it at one input. -/
def shuffleTellsWrong : ChangeSpec := { name := "shuffleTells", fn := fun _ => fun
  | [d1, d2, d3] => { results := [.lit (.bool false)], args := [d1, d2, d3] }
  | _ => none }
def ShuffleTellsWrongFalsely : Prop := shuffleTellsRow.holds Try.pinned (OpenSpec.ofChange shuffleTellsWrong)

/-- 'marigoldlaw04.ShuffleBack': WHATEVER THE INPUT: true; the input reads as it did. -/
def shuffleBackSpec : ChangeSpec := { name := "shuffleBack", fn := fun _ => fun
  | [d1, d2, d3] => { results := [.lit (.bool true)], args := [d1, d2, d3] }
  | _ => none }
def shuffleBackRow : OpenClaim := { program := "ytlhocfhoocmfiaa", sum := "585f21f0f5305919dd64f6018da67ed30a2305ada41b74deac69a45274e04c71", func := "marigold/marigoldlaw04.ShuffleBack", spec := "shuffleBack", inPlace := ["sync/atomic.LoadUint32", "(*internal/sync.Mutex).Lock", "internal/race.Disable", "sync/atomic.CompareAndSwapInt32", "internal/race.Enable", "internal/race.Acquire", "(*internal/sync.Mutex).lockSlow", "internal/sync.runtime_canSpin", "internal/sync.runtime_doSpin", "internal/sync.throw", "internal/sync.runtime_nanotime", "internal/sync.runtime_SemacquireMutex", "sync/atomic.AddInt32", "(*internal/sync.Mutex).Unlock", "internal/race.ReleaseMerge", "(*internal/sync.Mutex).unlockSlow", "internal/sync.fatal", "internal/sync.runtime_Semrelease", "sync/atomic.StoreUint32", "sync/atomic.AddInt64", "sync/atomic.LoadInt64"], unfollowed := true, recurses := true, plainKeys := false, apart := false }
def ShuffleBackSaid : Prop := shuffleBackRow.holds Try.pinned (OpenSpec.ofChange shuffleBackSpec)

/-- ITS FALSE NEIGHBOUR: 'it returns false'. Refute it at one input. -/
def shuffleBackWrong : ChangeSpec := { name := "shuffleBack", fn := fun _ => fun
  | [d1, d2, d3] => { results := [.lit (.bool false)], args := [d1, d2, d3] }
  | _ => none }
def ShuffleBackWrongFalsely : Prop := shuffleBackRow.holds Try.pinned (OpenSpec.ofChange shuffleBackWrong)

/-- 'marigoldlaw04.ShuffleOnly': WHATEVER THE INPUT: true; the input reads as it did. -/
def shuffleOnlySpec : ChangeSpec := { name := "shuffleOnly", fn := fun _ => fun
  | [d1, d2] => { results := [.lit (.bool true)], args := [d1, d2] }
  | _ => none }
def shuffleOnlyRow : OpenClaim := { program := "ytlhocfhoocmfiaa", sum := "585f21f0f5305919dd64f6018da67ed30a2305ada41b74deac69a45274e04c71", func := "marigold/marigoldlaw04.ShuffleOnly", spec := "shuffleOnly", inPlace := ["sync/atomic.LoadUint32", "(*internal/sync.Mutex).Lock", "internal/race.Disable", "sync/atomic.CompareAndSwapInt32", "internal/race.Enable", "internal/race.Acquire", "(*internal/sync.Mutex).lockSlow", "internal/sync.runtime_canSpin", "internal/sync.runtime_doSpin", "internal/sync.throw", "internal/sync.runtime_nanotime", "internal/sync.runtime_SemacquireMutex", "sync/atomic.AddInt32", "(*internal/sync.Mutex).Unlock", "internal/race.ReleaseMerge", "(*internal/sync.Mutex).unlockSlow", "internal/sync.fatal", "internal/sync.runtime_Semrelease", "sync/atomic.StoreUint32", "sync/atomic.AddInt64", "sync/atomic.LoadInt64"], unfollowed := true, recurses := true, plainKeys := false, apart := false }
def ShuffleOnlySaid : Prop := shuffleOnlyRow.holds Try.pinned (OpenSpec.ofChange shuffleOnlySpec)

/-- ITS FALSE NEIGHBOUR: 'it returns false'. Refute it at one input. -/
def shuffleOnlyWrong : ChangeSpec := { name := "shuffleOnly", fn := fun _ => fun
  | [d1, d2] => { results := [.lit (.bool false)], args := [d1, d2] }
  | _ => none }
def ShuffleOnlyWrongFalsely : Prop := shuffleOnlyRow.holds Try.pinned (OpenSpec.ofChange shuffleOnlyWrong)

/-- 'marigoldlaw04.ShuffleSums': WHATEVER THE INPUT: true; the input reads as it did. -/
def shuffleSumsSpec : ChangeSpec := { name := "shuffleSums", fn := fun _ => fun
  | [d1, d2] => { results := [.lit (.bool true)], args := [d1, d2] }
  | _ => none }
def shuffleSumsRow : OpenClaim := { program := "ytlhocfhoocmfiaa", sum := "585f21f0f5305919dd64f6018da67ed30a2305ada41b74deac69a45274e04c71", func := "marigold/marigoldlaw04.ShuffleSums", spec := "shuffleSums", inPlace := ["sync/atomic.LoadUint32", "(*internal/sync.Mutex).Lock", "internal/race.Disable", "sync/atomic.CompareAndSwapInt32", "internal/race.Enable", "internal/race.Acquire", "(*internal/sync.Mutex).lockSlow", "internal/sync.runtime_canSpin", "internal/sync.runtime_doSpin", "internal/sync.throw", "internal/sync.runtime_nanotime", "internal/sync.runtime_SemacquireMutex", "sync/atomic.AddInt32", "(*internal/sync.Mutex).Unlock", "internal/race.ReleaseMerge", "(*internal/sync.Mutex).unlockSlow", "internal/sync.fatal", "internal/sync.runtime_Semrelease", "sync/atomic.StoreUint32", "sync/atomic.AddInt64", "sync/atomic.LoadInt64"], unfollowed := true, recurses := true, plainKeys := false, apart := false }
def ShuffleSumsSaid : Prop := shuffleSumsRow.holds Try.pinned (OpenSpec.ofChange shuffleSumsSpec)

/-- ITS FALSE NEIGHBOUR: 'it returns false'. Refute it at one input. -/
def shuffleSumsWrong : ChangeSpec := { name := "shuffleSums", fn := fun _ => fun
  | [d1, d2] => { results := [.lit (.bool false)], args := [d1, d2] }
  | _ => none }
def ShuffleSumsWrongFalsely : Prop := shuffleSumsRow.holds Try.pinned (OpenSpec.ofChange shuffleSumsWrong)

/-- 'marigoldlaw04.ShuffleAll': WHATEVER THE INPUT: true; the input reads as it did. -/
def shuffleAllSpec : ChangeSpec := { name := "shuffleAll", fn := fun _ => fun
  | [d1, d2, d3] => { results := [.lit (.bool true)], args := [d1, d2, d3] }
  | _ => none }
def shuffleAllRow : OpenClaim := { program := "ytlhocfhoocmfiaa", sum := "585f21f0f5305919dd64f6018da67ed30a2305ada41b74deac69a45274e04c71", func := "marigold/marigoldlaw04.ShuffleAll", spec := "shuffleAll", inPlace := ["sync/atomic.LoadUint32", "(*internal/sync.Mutex).Lock", "internal/race.Disable", "sync/atomic.CompareAndSwapInt32", "internal/race.Enable", "internal/race.Acquire", "(*internal/sync.Mutex).lockSlow", "internal/sync.runtime_canSpin", "internal/sync.runtime_doSpin", "internal/sync.throw", "internal/sync.runtime_nanotime", "internal/sync.runtime_SemacquireMutex", "sync/atomic.AddInt32", "(*internal/sync.Mutex).Unlock", "internal/race.ReleaseMerge", "(*internal/sync.Mutex).unlockSlow", "internal/sync.fatal", "internal/sync.runtime_Semrelease", "sync/atomic.StoreUint32", "sync/atomic.AddInt64", "sync/atomic.LoadInt64"], unfollowed := true, recurses := true, plainKeys := false, apart := false }
def ShuffleAllSaid : Prop := shuffleAllRow.holds Try.pinned (OpenSpec.ofChange shuffleAllSpec)

/-- ITS FALSE NEIGHBOUR: 'it returns false'. Refute it at one input. -/
def shuffleAllWrong : ChangeSpec := { name := "shuffleAll", fn := fun _ => fun
  | [d1, d2, d3] => { results := [.lit (.bool false)], args := [d1, d2, d3] }
  | _ => none }
def ShuffleAllWrongFalsely : Prop := shuffleAllRow.holds Try.pinned (OpenSpec.ofChange shuffleAllWrong)

/-- 'marigoldlaw05.DutyProposes': WHATEVER THE INPUT: true; the input reads as it did. -/
def dutyProposesSpec : ChangeSpec := { name := "dutyProposes", fn := fun _ => fun
  | [d1, d2] => { results := [.lit (.bool true)], args := [d1, d2] }
  | _ => none }
def dutyProposesRow : OpenClaim := { program := "ytlhocfhoocmfiaa", sum := "585f21f0f5305919dd64f6018da67ed30a2305ada41b74deac69a45274e04c71", func := "marigold/marigoldlaw05.DutyProposes", spec := "dutyProposes", inPlace := ["sync/atomic.LoadUint32", "(*internal/sync.Mutex).Lock", "internal/race.Disable", "sync/atomic.CompareAndSwapInt32", "internal/race.Enable", "internal/race.Acquire", "(*internal/sync.Mutex).lockSlow", "internal/sync.runtime_canSpin", "internal/sync.runtime_doSpin", "internal/sync.throw", "internal/sync.runtime_nanotime", "internal/sync.runtime_SemacquireMutex", "sync/atomic.AddInt32", "(*internal/sync.Mutex).Unlock", "internal/race.ReleaseMerge", "(*internal/sync.Mutex).unlockSlow", "internal/sync.fatal", "internal/sync.runtime_Semrelease", "sync/atomic.StoreUint32", "sync/atomic.AddInt64", "sync/atomic.LoadInt64"], unfollowed := true, recurses := true, plainKeys := false, apart := false }
def DutyProposesSaid : Prop := dutyProposesRow.holds Try.pinned (OpenSpec.ofChange dutyProposesSpec)

/-- ITS FALSE NEIGHBOUR: 'it returns false'. Refute it at one input. -/
def dutyProposesWrong : ChangeSpec := { name := "dutyProposes", fn := fun _ => fun
  | [d1, d2] => { results := [.lit (.bool false)], args := [d1, d2] }
  | _ => none }
def DutyProposesWrongFalsely : Prop := dutyProposesRow.holds Try.pinned (OpenSpec.ofChange dutyProposesWrong)

/-- 'marigoldlaw05.DutySeeds': WHATEVER THE INPUT: true; the input reads as it did. -/
def dutySeedsSpec : ChangeSpec := { name := "dutySeeds", fn := fun _ => fun
  | [d1, d2, d3] => { results := [.lit (.bool true)], args := [d1, d2, d3] }
  | _ => none }
def dutySeedsRow : OpenClaim := { program := "ytlhocfhoocmfiaa", sum := "585f21f0f5305919dd64f6018da67ed30a2305ada41b74deac69a45274e04c71", func := "marigold/marigoldlaw05.DutySeeds", spec := "dutySeeds", inPlace := ["sync/atomic.LoadUint32", "(*internal/sync.Mutex).Lock", "internal/race.Disable", "sync/atomic.CompareAndSwapInt32", "internal/race.Enable", "internal/race.Acquire", "(*internal/sync.Mutex).lockSlow", "internal/sync.runtime_canSpin", "internal/sync.runtime_doSpin", "internal/sync.throw", "internal/sync.runtime_nanotime", "internal/sync.runtime_SemacquireMutex", "sync/atomic.AddInt32", "(*internal/sync.Mutex).Unlock", "internal/race.ReleaseMerge", "(*internal/sync.Mutex).unlockSlow", "internal/sync.fatal", "internal/sync.runtime_Semrelease", "sync/atomic.StoreUint32", "sync/atomic.AddInt64", "sync/atomic.LoadInt64"], unfollowed := true, recurses := true, plainKeys := false, apart := false }
def DutySeedsSaid : Prop := dutySeedsRow.holds Try.pinned (OpenSpec.ofChange dutySeedsSpec)

/-- ITS FALSE NEIGHBOUR: 'it returns false'. Refute it at one input. -/
def dutySeedsWrong : ChangeSpec := { name := "dutySeeds", fn := fun _ => fun
  | [d1, d2, d3] => { results := [.lit (.bool false)], args := [d1, d2, d3] }
  | _ => none }
def DutySeedsWrongFalsely : Prop := dutySeedsRow.holds Try.pinned (OpenSpec.ofChange dutySeedsWrong)

/-- 'marigoldlaw05.DutyTells': WHATEVER THE INPUT: true; the input reads as it did. -/
def dutyTellsSpec : ChangeSpec := { name := "dutyTells", fn := fun _ => fun
  | [d1, d2, d3, d4] => { results := [.lit (.bool true)], args := [d1, d2, d3, d4] }
  | _ => none }
def dutyTellsRow : OpenClaim := { program := "ytlhocfhoocmfiaa", sum := "585f21f0f5305919dd64f6018da67ed30a2305ada41b74deac69a45274e04c71", func := "marigold/marigoldlaw05.DutyTells", spec := "dutyTells", inPlace := ["sync/atomic.LoadUint32", "(*internal/sync.Mutex).Lock", "internal/race.Disable", "sync/atomic.CompareAndSwapInt32", "internal/race.Enable", "internal/race.Acquire", "(*internal/sync.Mutex).lockSlow", "internal/sync.runtime_canSpin", "internal/sync.runtime_doSpin", "internal/sync.throw", "internal/sync.runtime_nanotime", "internal/sync.runtime_SemacquireMutex", "sync/atomic.AddInt32", "(*internal/sync.Mutex).Unlock", "internal/race.ReleaseMerge", "(*internal/sync.Mutex).unlockSlow", "internal/sync.fatal", "internal/sync.runtime_Semrelease", "sync/atomic.StoreUint32", "sync/atomic.AddInt64", "sync/atomic.LoadInt64"], unfollowed := true, recurses := true, plainKeys := false, apart := false }
def DutyTellsSaid : Prop := dutyTellsRow.holds Try.pinned (OpenSpec.ofChange dutyTellsSpec)

/-- ITS FALSE NEIGHBOUR: 'it returns false'. Refute it at one input. -/
def dutyTellsWrong : ChangeSpec := { name := "dutyTells", fn := fun _ => fun
  | [d1, d2, d3, d4] => { results := [.lit (.bool false)], args := [d1, d2, d3, d4] }
  | _ => none }
def DutyTellsWrongFalsely : Prop := dutyTellsRow.holds Try.pinned (OpenSpec.ofChange dutyTellsWrong)

/-- 'marigoldlaw05.DutyOnce': WHATEVER THE INPUT: true; the input reads as it did. -/
def dutyOnceSpec : ChangeSpec := { name := "dutyOnce", fn := fun _ => fun
  | [d1, d2] => { results := [.lit (.bool true)], args := [d1, d2] }
  | _ => none }
def dutyOnceRow : OpenClaim := { program := "ytlhocfhoocmfiaa", sum := "585f21f0f5305919dd64f6018da67ed30a2305ada41b74deac69a45274e04c71", func := "marigold/marigoldlaw05.DutyOnce", spec := "dutyOnce", inPlace := ["sync/atomic.LoadUint32", "(*internal/sync.Mutex).Lock", "internal/race.Disable", "sync/atomic.CompareAndSwapInt32", "internal/race.Enable", "internal/race.Acquire", "(*internal/sync.Mutex).lockSlow", "internal/sync.runtime_canSpin", "internal/sync.runtime_doSpin", "internal/sync.throw", "internal/sync.runtime_nanotime", "internal/sync.runtime_SemacquireMutex", "sync/atomic.AddInt32", "(*internal/sync.Mutex).Unlock", "internal/race.ReleaseMerge", "(*internal/sync.Mutex).unlockSlow", "internal/sync.fatal", "internal/sync.runtime_Semrelease", "sync/atomic.StoreUint32", "sync/atomic.AddInt64", "sync/atomic.LoadInt64"], unfollowed := true, recurses := true, plainKeys := false, apart := false }
def DutyOnceSaid : Prop := dutyOnceRow.holds Try.pinned (OpenSpec.ofChange dutyOnceSpec)

/-- ITS FALSE NEIGHBOUR: 'it returns false'. Refute it at one input. -/
def dutyOnceWrong : ChangeSpec := { name := "dutyOnce", fn := fun _ => fun
  | [d1, d2] => { results := [.lit (.bool false)], args := [d1, d2] }
  | _ => none }
def DutyOnceWrongFalsely : Prop := dutyOnceRow.holds Try.pinned (OpenSpec.ofChange dutyOnceWrong)

/-- 'marigoldlaw05.DutyWeighs': WHATEVER THE INPUT: true; the input reads as it did. -/
def dutyWeighsSpec : ChangeSpec := { name := "dutyWeighs", fn := fun _ => fun
  | [d1, d2, d3] => { results := [.lit (.bool true)], args := [d1, d2, d3] }
  | _ => none }
def dutyWeighsRow : OpenClaim := { program := "ytlhocfhoocmfiaa", sum := "585f21f0f5305919dd64f6018da67ed30a2305ada41b74deac69a45274e04c71", func := "marigold/marigoldlaw05.DutyWeighs", spec := "dutyWeighs", inPlace := ["sync/atomic.LoadUint32", "(*internal/sync.Mutex).Lock", "internal/race.Disable", "sync/atomic.CompareAndSwapInt32", "internal/race.Enable", "internal/race.Acquire", "(*internal/sync.Mutex).lockSlow", "internal/sync.runtime_canSpin", "internal/sync.runtime_doSpin", "internal/sync.throw", "internal/sync.runtime_nanotime", "internal/sync.runtime_SemacquireMutex", "sync/atomic.AddInt32", "(*internal/sync.Mutex).Unlock", "internal/race.ReleaseMerge", "(*internal/sync.Mutex).unlockSlow", "internal/sync.fatal", "internal/sync.runtime_Semrelease", "sync/atomic.StoreUint32", "sync/atomic.AddInt64", "sync/atomic.LoadInt64"], unfollowed := true, recurses := true, plainKeys := false, apart := false }
def DutyWeighsSaid : Prop := dutyWeighsRow.holds Try.pinned (OpenSpec.ofChange dutyWeighsSpec)

/-- ITS FALSE NEIGHBOUR: 'it returns false'. Refute it at one input. -/
def dutyWeighsWrong : ChangeSpec := { name := "dutyWeighs", fn := fun _ => fun
  | [d1, d2, d3] => { results := [.lit (.bool false)], args := [d1, d2, d3] }
  | _ => none }
def DutyWeighsWrongFalsely : Prop := dutyWeighsRow.holds Try.pinned (OpenSpec.ofChange dutyWeighsWrong)

/-- 'marigoldlaw05.DutyAll': WHATEVER THE INPUT: true; the input reads as it did. -/
def dutyAllSpec : ChangeSpec := { name := "dutyAll", fn := fun _ => fun
  | [d1, d2, d3] => { results := [.lit (.bool true)], args := [d1, d2, d3] }
  | _ => none }
def dutyAllRow : OpenClaim := { program := "ytlhocfhoocmfiaa", sum := "585f21f0f5305919dd64f6018da67ed30a2305ada41b74deac69a45274e04c71", func := "marigold/marigoldlaw05.DutyAll", spec := "dutyAll", inPlace := ["sync/atomic.LoadUint32", "(*internal/sync.Mutex).Lock", "internal/race.Disable", "sync/atomic.CompareAndSwapInt32", "internal/race.Enable", "internal/race.Acquire", "(*internal/sync.Mutex).lockSlow", "internal/sync.runtime_canSpin", "internal/sync.runtime_doSpin", "internal/sync.throw", "internal/sync.runtime_nanotime", "internal/sync.runtime_SemacquireMutex", "sync/atomic.AddInt32", "(*internal/sync.Mutex).Unlock", "internal/race.ReleaseMerge", "(*internal/sync.Mutex).unlockSlow", "internal/sync.fatal", "internal/sync.runtime_Semrelease", "sync/atomic.StoreUint32", "sync/atomic.AddInt64", "sync/atomic.LoadInt64"], unfollowed := true, recurses := true, plainKeys := false, apart := false }
def DutyAllSaid : Prop := dutyAllRow.holds Try.pinned (OpenSpec.ofChange dutyAllSpec)

/-- ITS FALSE NEIGHBOUR: 'it returns false'. Refute it at one input. -/
def dutyAllWrong : ChangeSpec := { name := "dutyAll", fn := fun _ => fun
  | [d1, d2, d3] => { results := [.lit (.bool false)], args := [d1, d2, d3] }
  | _ => none }
def DutyAllWrongFalsely : Prop := dutyAllRow.holds Try.pinned (OpenSpec.ofChange dutyAllWrong)

/-- 'marigoldlaw05.DutyParts': WHATEVER THE INPUT: true; the input reads as it did. -/
def dutyPartsSpec : ChangeSpec := { name := "dutyParts", fn := fun _ => fun
  | [d1, d2, d3] => { results := [.lit (.bool true)], args := [d1, d2, d3] }
  | _ => none }
def dutyPartsRow : OpenClaim := { program := "ytlhocfhoocmfiaa", sum := "585f21f0f5305919dd64f6018da67ed30a2305ada41b74deac69a45274e04c71", func := "marigold/marigoldlaw05.DutyParts", spec := "dutyParts", inPlace := ["sync/atomic.LoadUint32", "(*internal/sync.Mutex).Lock", "internal/race.Disable", "sync/atomic.CompareAndSwapInt32", "internal/race.Enable", "internal/race.Acquire", "(*internal/sync.Mutex).lockSlow", "internal/sync.runtime_canSpin", "internal/sync.runtime_doSpin", "internal/sync.throw", "internal/sync.runtime_nanotime", "internal/sync.runtime_SemacquireMutex", "sync/atomic.AddInt32", "(*internal/sync.Mutex).Unlock", "internal/race.ReleaseMerge", "(*internal/sync.Mutex).unlockSlow", "internal/sync.fatal", "internal/sync.runtime_Semrelease", "sync/atomic.StoreUint32", "sync/atomic.AddInt64", "sync/atomic.LoadInt64"], unfollowed := true, recurses := true, plainKeys := false, apart := false }
def DutyPartsSaid : Prop := dutyPartsRow.holds Try.pinned (OpenSpec.ofChange dutyPartsSpec)

/-- ITS FALSE NEIGHBOUR: 'it returns false'. Refute it at one input. -/
def dutyPartsWrong : ChangeSpec := { name := "dutyParts", fn := fun _ => fun
  | [d1, d2, d3] => { results := [.lit (.bool false)], args := [d1, d2, d3] }
  | _ => none }
def DutyPartsWrongFalsely : Prop := dutyPartsRow.holds Try.pinned (OpenSpec.ofChange dutyPartsWrong)

/-- 'marigoldlaw09.GhostTells': WHATEVER THE INPUT: true; the input reads as it did. -/
def ghostTellsSpec : ChangeSpec := { name := "ghostTells", fn := fun _ => fun
  | [d1, d2, d3, d4] => { results := [.lit (.bool true)], args := [d1, d2, d3, d4] }
  | _ => none }
def ghostTellsRow : OpenClaim := { program := "ytlhocfhoocmfiaa", sum := "585f21f0f5305919dd64f6018da67ed30a2305ada41b74deac69a45274e04c71", func := "marigold/marigoldlaw09.GhostTells", spec := "ghostTells", unfollowed := true, recurses := true, plainKeys := false, apart := false }
def GhostTellsSaid : Prop := ghostTellsRow.holds Try.pinned (OpenSpec.ofChange ghostTellsSpec)

/-- ITS FALSE NEIGHBOUR: 'it returns false'. Refute it at one input. -/
def ghostTellsWrong : ChangeSpec := { name := "ghostTells", fn := fun _ => fun
  | [d1, d2, d3, d4] => { results := [.lit (.bool false)], args := [d1, d2, d3, d4] }
  | _ => none }
def GhostTellsWrongFalsely : Prop := ghostTellsRow.holds Try.pinned (OpenSpec.ofChange ghostTellsWrong)

/-- 'marigoldlaw16.ViewOnly': WHATEVER THE INPUT: true; the input reads as it did. -/
def viewOnlySpec : ChangeSpec := { name := "viewOnly", fn := fun _ => fun
  | [d1, d2] => { results := [.lit (.bool true)], args := [d1, d2] }
  | _ => none }
def viewOnlyRow : OpenClaim := { program := "ytlhocfhoocmfiaa", sum := "585f21f0f5305919dd64f6018da67ed30a2305ada41b74deac69a45274e04c71", func := "marigold/marigoldlaw16.ViewOnly", spec := "viewOnly", inPlace := ["sync/atomic.LoadUint32", "(*internal/sync.Mutex).Lock", "internal/race.Disable", "sync/atomic.CompareAndSwapInt32", "internal/race.Enable", "internal/race.Acquire", "(*internal/sync.Mutex).lockSlow", "internal/sync.runtime_canSpin", "internal/sync.runtime_doSpin", "internal/sync.throw", "internal/sync.runtime_nanotime", "internal/sync.runtime_SemacquireMutex", "sync/atomic.AddInt32", "(*internal/sync.Mutex).Unlock", "internal/race.ReleaseMerge", "(*internal/sync.Mutex).unlockSlow", "internal/sync.fatal", "internal/sync.runtime_Semrelease", "sync/atomic.StoreUint32", "sync/atomic.AddInt64", "sync/atomic.LoadInt64"], unfollowed := true, recurses := true, plainKeys := false, apart := false }
def ViewOnlySaid : Prop := viewOnlyRow.holds Try.pinned (OpenSpec.ofChange viewOnlySpec)

/-- ITS FALSE NEIGHBOUR: 'it returns false'. Refute it at one input. -/
def viewOnlyWrong : ChangeSpec := { name := "viewOnly", fn := fun _ => fun
  | [d1, d2] => { results := [.lit (.bool false)], args := [d1, d2] }
  | _ => none }
def ViewOnlyWrongFalsely : Prop := viewOnlyRow.holds Try.pinned (OpenSpec.ofChange viewOnlyWrong)

/-- 'marigoldlaw16.ViewMay': WHATEVER THE INPUT: true; the input reads as it did. -/
def viewMaySpec : ChangeSpec := { name := "viewMay", fn := fun _ => fun
  | [d1, d2, d3] => { results := [.lit (.bool true)], args := [d1, d2, d3] }
  | _ => none }
def viewMayRow : OpenClaim := { program := "ytlhocfhoocmfiaa", sum := "585f21f0f5305919dd64f6018da67ed30a2305ada41b74deac69a45274e04c71", func := "marigold/marigoldlaw16.ViewMay", spec := "viewMay", inPlace := ["sync/atomic.LoadUint32", "(*internal/sync.Mutex).Lock", "internal/race.Disable", "sync/atomic.CompareAndSwapInt32", "internal/race.Enable", "internal/race.Acquire", "(*internal/sync.Mutex).lockSlow", "internal/sync.runtime_canSpin", "internal/sync.runtime_doSpin", "internal/sync.throw", "internal/sync.runtime_nanotime", "internal/sync.runtime_SemacquireMutex", "sync/atomic.AddInt32", "(*internal/sync.Mutex).Unlock", "internal/race.ReleaseMerge", "(*internal/sync.Mutex).unlockSlow", "internal/sync.fatal", "internal/sync.runtime_Semrelease", "sync/atomic.StoreUint32", "sync/atomic.AddInt64", "sync/atomic.LoadInt64"], unfollowed := true, recurses := true, plainKeys := false, apart := false }
def ViewMaySaid : Prop := viewMayRow.holds Try.pinned (OpenSpec.ofChange viewMaySpec)

/-- ITS FALSE NEIGHBOUR: 'it returns false'. Refute it at one input. -/
def viewMayWrong : ChangeSpec := { name := "viewMay", fn := fun _ => fun
  | [d1, d2, d3] => { results := [.lit (.bool false)], args := [d1, d2, d3] }
  | _ => none }
def ViewMayWrongFalsely : Prop := viewMayRow.holds Try.pinned (OpenSpec.ofChange viewMayWrong)

/-- 'marigoldlaw16.ViewKeeps': WHATEVER THE INPUT: true; the input reads as it did. -/
def viewKeepsSpec : ChangeSpec := { name := "viewKeeps", fn := fun _ => fun
  | [d1, d2, d3, d4] => { results := [.lit (.bool true)], args := [d1, d2, d3, d4] }
  | _ => none }
def viewKeepsRow : OpenClaim := { program := "ytlhocfhoocmfiaa", sum := "585f21f0f5305919dd64f6018da67ed30a2305ada41b74deac69a45274e04c71", func := "marigold/marigoldlaw16.ViewKeeps", spec := "viewKeeps", inPlace := ["sync/atomic.LoadUint32", "(*internal/sync.Mutex).Lock", "internal/race.Disable", "sync/atomic.CompareAndSwapInt32", "internal/race.Enable", "internal/race.Acquire", "(*internal/sync.Mutex).lockSlow", "internal/sync.runtime_canSpin", "internal/sync.runtime_doSpin", "internal/sync.throw", "internal/sync.runtime_nanotime", "internal/sync.runtime_SemacquireMutex", "sync/atomic.AddInt32", "(*internal/sync.Mutex).Unlock", "internal/race.ReleaseMerge", "(*internal/sync.Mutex).unlockSlow", "internal/sync.fatal", "internal/sync.runtime_Semrelease", "sync/atomic.StoreUint32", "sync/atomic.AddInt64", "sync/atomic.LoadInt64"], unfollowed := true, recurses := true, plainKeys := false, apart := false }
def ViewKeepsSaid : Prop := viewKeepsRow.holds Try.pinned (OpenSpec.ofChange viewKeepsSpec)

/-- ITS FALSE NEIGHBOUR: 'it returns false'. Refute it at one input. -/
def viewKeepsWrong : ChangeSpec := { name := "viewKeeps", fn := fun _ => fun
  | [d1, d2, d3, d4] => { results := [.lit (.bool false)], args := [d1, d2, d3, d4] }
  | _ => none }
def ViewKeepsWrongFalsely : Prop := viewKeepsRow.holds Try.pinned (OpenSpec.ofChange viewKeepsWrong)

/-- 'marigoldlaw16.ViewOrder': WHATEVER THE INPUT: true; the input reads as it did. -/
def viewOrderSpec : ChangeSpec := { name := "viewOrder", fn := fun _ => fun
  | [d1, d2, d3, d4, d5, d6] => { results := [.lit (.bool true)], args := [d1, d2, d3, d4, d5, d6] }
  | _ => none }
def viewOrderRow : OpenClaim := { program := "ytlhocfhoocmfiaa", sum := "585f21f0f5305919dd64f6018da67ed30a2305ada41b74deac69a45274e04c71", func := "marigold/marigoldlaw16.ViewOrder", spec := "viewOrder", inPlace := ["sync/atomic.LoadUint32", "(*internal/sync.Mutex).Lock", "internal/race.Disable", "sync/atomic.CompareAndSwapInt32", "internal/race.Enable", "internal/race.Acquire", "(*internal/sync.Mutex).lockSlow", "internal/sync.runtime_canSpin", "internal/sync.runtime_doSpin", "internal/sync.throw", "internal/sync.runtime_nanotime", "internal/sync.runtime_SemacquireMutex", "sync/atomic.AddInt32", "(*internal/sync.Mutex).Unlock", "internal/race.ReleaseMerge", "(*internal/sync.Mutex).unlockSlow", "internal/sync.fatal", "internal/sync.runtime_Semrelease", "sync/atomic.StoreUint32", "sync/atomic.AddInt64", "sync/atomic.LoadInt64"], unfollowed := true, recurses := true, plainKeys := false, apart := false }
def ViewOrderSaid : Prop := viewOrderRow.holds Try.pinned (OpenSpec.ofChange viewOrderSpec)

/-- ITS FALSE NEIGHBOUR: 'it returns false'. Refute it at one input. -/
def viewOrderWrong : ChangeSpec := { name := "viewOrder", fn := fun _ => fun
  | [d1, d2, d3, d4, d5, d6] => { results := [.lit (.bool false)], args := [d1, d2, d3, d4, d5, d6] }
  | _ => none }
def ViewOrderWrongFalsely : Prop := viewOrderRow.holds Try.pinned (OpenSpec.ofChange viewOrderWrong)

/-- 'marigoldlaw16.ViewMeets': WHATEVER THE INPUT: true; the input reads as it did. -/
def viewMeetsSpec : ChangeSpec := { name := "viewMeets", fn := fun _ => fun
  | [d1, d2, d3, d4] => { results := [.lit (.bool true)], args := [d1, d2, d3, d4] }
  | _ => none }
def viewMeetsRow : OpenClaim := { program := "ytlhocfhoocmfiaa", sum := "585f21f0f5305919dd64f6018da67ed30a2305ada41b74deac69a45274e04c71", func := "marigold/marigoldlaw16.ViewMeets", spec := "viewMeets", inPlace := ["sync/atomic.LoadUint32", "(*internal/sync.Mutex).Lock", "internal/race.Disable", "sync/atomic.CompareAndSwapInt32", "internal/race.Enable", "internal/race.Acquire", "(*internal/sync.Mutex).lockSlow", "internal/sync.runtime_canSpin", "internal/sync.runtime_doSpin", "internal/sync.throw", "internal/sync.runtime_nanotime", "internal/sync.runtime_SemacquireMutex", "sync/atomic.AddInt32", "(*internal/sync.Mutex).Unlock", "internal/race.ReleaseMerge", "(*internal/sync.Mutex).unlockSlow", "internal/sync.fatal", "internal/sync.runtime_Semrelease", "sync/atomic.StoreUint32", "sync/atomic.AddInt64", "sync/atomic.LoadInt64"], unfollowed := true, recurses := true, plainKeys := false, apart := false }
def ViewMeetsSaid : Prop := viewMeetsRow.holds Try.pinned (OpenSpec.ofChange viewMeetsSpec)

/-- ITS FALSE NEIGHBOUR: 'it returns false'. Refute it at one input. -/
def viewMeetsWrong : ChangeSpec := { name := "viewMeets", fn := fun _ => fun
  | [d1, d2, d3, d4] => { results := [.lit (.bool false)], args := [d1, d2, d3, d4] }
  | _ => none }
def ViewMeetsWrongFalsely : Prop := viewMeetsRow.holds Try.pinned (OpenSpec.ofChange viewMeetsWrong)

/-- 'marigoldlaw16.ViewJoin': WHATEVER THE INPUT: true; the input reads as it did. -/
def viewJoinSpec : ChangeSpec := { name := "viewJoin", fn := fun _ => fun
  | [d1, d2] => { results := [.lit (.bool true)], args := [d1, d2] }
  | _ => none }
def viewJoinRow : OpenClaim := { program := "ytlhocfhoocmfiaa", sum := "585f21f0f5305919dd64f6018da67ed30a2305ada41b74deac69a45274e04c71", func := "marigold/marigoldlaw16.ViewJoin", spec := "viewJoin", inPlace := ["sync/atomic.LoadUint32", "(*internal/sync.Mutex).Lock", "internal/race.Disable", "sync/atomic.CompareAndSwapInt32", "internal/race.Enable", "internal/race.Acquire", "(*internal/sync.Mutex).lockSlow", "internal/sync.runtime_canSpin", "internal/sync.runtime_doSpin", "internal/sync.throw", "internal/sync.runtime_nanotime", "internal/sync.runtime_SemacquireMutex", "sync/atomic.AddInt32", "(*internal/sync.Mutex).Unlock", "internal/race.ReleaseMerge", "(*internal/sync.Mutex).unlockSlow", "internal/sync.fatal", "internal/sync.runtime_Semrelease", "sync/atomic.StoreUint32", "sync/atomic.AddInt64", "sync/atomic.LoadInt64"], unfollowed := true, recurses := true, plainKeys := false, apart := false }
def ViewJoinSaid : Prop := viewJoinRow.holds Try.pinned (OpenSpec.ofChange viewJoinSpec)

/-- ITS FALSE NEIGHBOUR: 'it returns false'. Refute it at one input. -/
def viewJoinWrong : ChangeSpec := { name := "viewJoin", fn := fun _ => fun
  | [d1, d2] => { results := [.lit (.bool false)], args := [d1, d2] }
  | _ => none }
def ViewJoinWrongFalsely : Prop := viewJoinRow.holds Try.pinned (OpenSpec.ofChange viewJoinWrong)

/-- 'marigoldlaw16.ViewEarly': WHATEVER THE INPUT: true; the input reads as it did. -/
def viewEarlySpec : ChangeSpec := { name := "viewEarly", fn := fun _ => fun
  | [d1, d2, d3, d4] => { results := [.lit (.bool true)], args := [d1, d2, d3, d4] }
  | _ => none }
def viewEarlyRow : OpenClaim := { program := "ytlhocfhoocmfiaa", sum := "585f21f0f5305919dd64f6018da67ed30a2305ada41b74deac69a45274e04c71", func := "marigold/marigoldlaw16.ViewEarly", spec := "viewEarly", inPlace := ["sync/atomic.LoadUint32", "(*internal/sync.Mutex).Lock", "internal/race.Disable", "sync/atomic.CompareAndSwapInt32", "internal/race.Enable", "internal/race.Acquire", "(*internal/sync.Mutex).lockSlow", "internal/sync.runtime_canSpin", "internal/sync.runtime_doSpin", "internal/sync.throw", "internal/sync.runtime_nanotime", "internal/sync.runtime_SemacquireMutex", "sync/atomic.AddInt32", "(*internal/sync.Mutex).Unlock", "internal/race.ReleaseMerge", "(*internal/sync.Mutex).unlockSlow", "internal/sync.fatal", "internal/sync.runtime_Semrelease", "sync/atomic.StoreUint32", "sync/atomic.AddInt64", "sync/atomic.LoadInt64"], unfollowed := true, recurses := true, plainKeys := false, apart := false }
def ViewEarlySaid : Prop := viewEarlyRow.holds Try.pinned (OpenSpec.ofChange viewEarlySpec)

/-- ITS FALSE NEIGHBOUR: 'it returns false'. Refute it at one input. -/
def viewEarlyWrong : ChangeSpec := { name := "viewEarly", fn := fun _ => fun
  | [d1, d2, d3, d4] => { results := [.lit (.bool false)], args := [d1, d2, d3, d4] }
  | _ => none }
def ViewEarlyWrongFalsely : Prop := viewEarlyRow.holds Try.pinned (OpenSpec.ofChange viewEarlyWrong)

/- THE SECOND FORM. 'bulk': how many values and letters a reading holds, each counted each time it is reached (what is shared counts as often as it is met; a slice's spare places count too). A statement '..UptoSaid' is the law's where the arguments, and the package variables that the reading takes, are together of bulk at most 1048576: NARROWER than '..Said'. Prove '..Said' where nothing that the law and all that it calls make is longer than what came in: it says more and counts as full. Else prove '..UptoSaid'. A law counts once. -/
mutual
def uptoBulk {H : Type} : DataW H → Nat
  | .lit (.string bytes) => bytes.length + 1
  | .lit _ => 1
  | .nil => 1
  | .ptr d => uptoBulk d + 1
  | .slice elems spare => uptoBulkAll elems + uptoBulkAll spare + 1
  | .agg parts => uptoBulkAll parts + 1
  | .iface _ d => uptoBulk d + 1
  | .map entries => uptoBulkEntries entries + 1
  | .held _ => 1
def uptoBulkAll {H : Type} : List (DataW H) → Nat
  | [] => 0
  | d :: r => uptoBulk d + uptoBulkAll r
def uptoBulkEntries {H : Type} : List (Lit × DataW H) → Nat
  | [] => 0
  | x :: r => uptoBulkEntry x + uptoBulkEntries r
def uptoBulkEntry {H : Type} : Lit × DataW H → Nat
  | (.string bytes, d) => bytes.length + uptoBulk d + 1
  | (_, d) => uptoBulk d + 1
 end
def uptoSmall : (H : Type) → List (DataW H) → Bool := fun _ ds => decide (uptoBulkAll ds ≤ 1048576)
def OpenSpec.upto (s : _root_.Go.ChangeSpec) : _root_.Go.OpenSpec := { _root_.Go.OpenSpec.ofChange s with cond := some uptoSmall }

/-- 'marigoldlaw17.CursorMoves', WHERE WHAT IT READS IS OF BULK AT MOST 1048576: true; the input reads as it did. -/
def cursorMovesUptoRow : OpenClaim := { program := "ytlhocfhoocmfiaa", sum := "585f21f0f5305919dd64f6018da67ed30a2305ada41b74deac69a45274e04c71", func := "marigold/marigoldlaw17.CursorMoves", spec := "cursorMoves", unfollowed := true, recurses := true, plainKeys := false, apart := false, narrowed := true }
def CursorMovesUptoSaid : Prop := cursorMovesUptoRow.holds Try.pinned (OpenSpec.upto cursorMovesSpec)

/-- 'marigoldlaw17.CursorTwice', WHERE WHAT IT READS IS OF BULK AT MOST 1048576: true; the input reads as it did. -/
def cursorTwiceUptoRow : OpenClaim := { program := "ytlhocfhoocmfiaa", sum := "585f21f0f5305919dd64f6018da67ed30a2305ada41b74deac69a45274e04c71", func := "marigold/marigoldlaw17.CursorTwice", spec := "cursorTwice", unfollowed := true, recurses := true, plainKeys := false, apart := false, narrowed := true }
def CursorTwiceUptoSaid : Prop := cursorTwiceUptoRow.holds Try.pinned (OpenSpec.upto cursorTwiceSpec)

/-- 'marigoldlaw17.CursorLost', WHERE WHAT IT READS IS OF BULK AT MOST 1048576: true; the input reads as it did. -/
def cursorLostUptoRow : OpenClaim := { program := "ytlhocfhoocmfiaa", sum := "585f21f0f5305919dd64f6018da67ed30a2305ada41b74deac69a45274e04c71", func := "marigold/marigoldlaw17.CursorLost", spec := "cursorLost", unfollowed := true, recurses := true, plainKeys := false, apart := false, narrowed := true }
def CursorLostUptoSaid : Prop := cursorLostUptoRow.holds Try.pinned (OpenSpec.upto cursorLostSpec)

/-- 'marigoldlaw17.CursorUnder', WHERE WHAT IT READS IS OF BULK AT MOST 1048576: true; the input reads as it did. -/
def cursorUnderUptoRow : OpenClaim := { program := "ytlhocfhoocmfiaa", sum := "585f21f0f5305919dd64f6018da67ed30a2305ada41b74deac69a45274e04c71", func := "marigold/marigoldlaw17.CursorUnder", spec := "cursorUnder", unfollowed := true, recurses := true, plainKeys := false, apart := false, narrowed := true }
def CursorUnderUptoSaid : Prop := cursorUnderUptoRow.holds Try.pinned (OpenSpec.upto cursorUnderSpec)

/-- 'marigoldlaw17.CursorStays', WHERE WHAT IT READS IS OF BULK AT MOST 1048576: true; the input reads as it did. -/
def cursorStaysUptoRow : OpenClaim := { program := "ytlhocfhoocmfiaa", sum := "585f21f0f5305919dd64f6018da67ed30a2305ada41b74deac69a45274e04c71", func := "marigold/marigoldlaw17.CursorStays", spec := "cursorStays", unfollowed := true, recurses := true, plainKeys := false, apart := false, narrowed := true }
def CursorStaysUptoSaid : Prop := cursorStaysUptoRow.holds Try.pinned (OpenSpec.upto cursorStaysSpec)

/-- 'marigoldlaw17.CursorLine', WHERE WHAT IT READS IS OF BULK AT MOST 1048576: true; the input reads as it did. -/
def cursorLineUptoRow : OpenClaim := { program := "ytlhocfhoocmfiaa", sum := "585f21f0f5305919dd64f6018da67ed30a2305ada41b74deac69a45274e04c71", func := "marigold/marigoldlaw17.CursorLine", spec := "cursorLine", unfollowed := true, recurses := true, plainKeys := false, apart := false, narrowed := true }
def CursorLineUptoSaid : Prop := cursorLineUptoRow.holds Try.pinned (OpenSpec.upto cursorLineSpec)

/-- 'marigoldlaw06.TreeTells', WHERE WHAT IT READS IS OF BULK AT MOST 1048576: true; the input reads as it did. -/
def treeTellsUptoRow : OpenClaim := { program := "ytlhocfhoocmfiaa", sum := "585f21f0f5305919dd64f6018da67ed30a2305ada41b74deac69a45274e04c71", func := "marigold/marigoldlaw06.TreeTells", spec := "treeTells", unfollowed := true, recurses := true, plainKeys := false, apart := false, narrowed := true }
def TreeTellsUptoSaid : Prop := treeTellsUptoRow.holds Try.pinned (OpenSpec.upto treeTellsSpec)

/-- 'marigoldlaw06.TreeChains', WHERE WHAT IT READS IS OF BULK AT MOST 1048576: true; the input reads as it did. -/
def treeChainsUptoRow : OpenClaim := { program := "ytlhocfhoocmfiaa", sum := "585f21f0f5305919dd64f6018da67ed30a2305ada41b74deac69a45274e04c71", func := "marigold/marigoldlaw06.TreeChains", spec := "treeChains", unfollowed := true, recurses := true, plainKeys := false, apart := false, narrowed := true }
def TreeChainsUptoSaid : Prop := treeChainsUptoRow.holds Try.pinned (OpenSpec.upto treeChainsSpec)

/-- 'marigoldlaw06.TreeUnder', WHERE WHAT IT READS IS OF BULK AT MOST 1048576: true; the input reads as it did. -/
def treeUnderUptoRow : OpenClaim := { program := "ytlhocfhoocmfiaa", sum := "585f21f0f5305919dd64f6018da67ed30a2305ada41b74deac69a45274e04c71", func := "marigold/marigoldlaw06.TreeUnder", spec := "treeUnder", unfollowed := true, recurses := true, plainKeys := false, apart := false, narrowed := true }
def TreeUnderUptoSaid : Prop := treeUnderUptoRow.holds Try.pinned (OpenSpec.upto treeUnderSpec)

/-- 'marigoldlaw06.TreeMore', WHERE WHAT IT READS IS OF BULK AT MOST 1048576: true; the input reads as it did. -/
def treeMoreUptoRow : OpenClaim := { program := "ytlhocfhoocmfiaa", sum := "585f21f0f5305919dd64f6018da67ed30a2305ada41b74deac69a45274e04c71", func := "marigold/marigoldlaw06.TreeMore", spec := "treeMore", unfollowed := true, recurses := true, plainKeys := false, apart := false, narrowed := true }
def TreeMoreUptoSaid : Prop := treeMoreUptoRow.holds Try.pinned (OpenSpec.upto treeMoreSpec)

/-- 'marigoldlaw06.TreeKids', WHERE WHAT IT READS IS OF BULK AT MOST 1048576: true; the input reads as it did. -/
def treeKidsUptoRow : OpenClaim := { program := "ytlhocfhoocmfiaa", sum := "585f21f0f5305919dd64f6018da67ed30a2305ada41b74deac69a45274e04c71", func := "marigold/marigoldlaw06.TreeKids", spec := "treeKids", unfollowed := true, recurses := true, plainKeys := false, apart := false, narrowed := true }
def TreeKidsUptoSaid : Prop := treeKidsUptoRow.holds Try.pinned (OpenSpec.upto treeKidsSpec)

/-- 'marigoldlaw06.TreeNames', WHERE WHAT IT READS IS OF BULK AT MOST 1048576: true; the input reads as it did. -/
def treeNamesUptoRow : OpenClaim := { program := "ytlhocfhoocmfiaa", sum := "585f21f0f5305919dd64f6018da67ed30a2305ada41b74deac69a45274e04c71", func := "marigold/marigoldlaw06.TreeNames", spec := "treeNames", unfollowed := true, recurses := true, plainKeys := false, apart := false, narrowed := true }
def TreeNamesUptoSaid : Prop := treeNamesUptoRow.holds Try.pinned (OpenSpec.upto treeNamesSpec)

/-- 'marigoldlaw06.TreeNone', WHERE WHAT IT READS IS OF BULK AT MOST 1048576: true; the input reads as it did. -/
def treeNoneUptoRow : OpenClaim := { program := "ytlhocfhoocmfiaa", sum := "585f21f0f5305919dd64f6018da67ed30a2305ada41b74deac69a45274e04c71", func := "marigold/marigoldlaw06.TreeNone", spec := "treeNone", unfollowed := true, recurses := true, plainKeys := false, apart := false, narrowed := true }
def TreeNoneUptoSaid : Prop := treeNoneUptoRow.holds Try.pinned (OpenSpec.upto treeNoneSpec)

/-- 'marigoldlaw04.ShuffleTells', WHERE WHAT IT READS IS OF BULK AT MOST 1048576: true; the input reads as it did. -/
def shuffleTellsUptoRow : OpenClaim := { program := "ytlhocfhoocmfiaa", sum := "585f21f0f5305919dd64f6018da67ed30a2305ada41b74deac69a45274e04c71", func := "marigold/marigoldlaw04.ShuffleTells", spec := "shuffleTells", inPlace := ["sync/atomic.LoadUint32", "(*internal/sync.Mutex).Lock", "internal/race.Disable", "sync/atomic.CompareAndSwapInt32", "internal/race.Enable", "internal/race.Acquire", "(*internal/sync.Mutex).lockSlow", "internal/sync.runtime_canSpin", "internal/sync.runtime_doSpin", "internal/sync.throw", "internal/sync.runtime_nanotime", "internal/sync.runtime_SemacquireMutex", "sync/atomic.AddInt32", "(*internal/sync.Mutex).Unlock", "internal/race.ReleaseMerge", "(*internal/sync.Mutex).unlockSlow", "internal/sync.fatal", "internal/sync.runtime_Semrelease", "sync/atomic.StoreUint32", "sync/atomic.AddInt64", "sync/atomic.LoadInt64"], unfollowed := true, recurses := true, plainKeys := false, apart := false, narrowed := true }
def ShuffleTellsUptoSaid : Prop := shuffleTellsUptoRow.holds Try.pinned (OpenSpec.upto shuffleTellsSpec)

/-- 'marigoldlaw04.ShuffleBack', WHERE WHAT IT READS IS OF BULK AT MOST 1048576: true; the input reads as it did. -/
def shuffleBackUptoRow : OpenClaim := { program := "ytlhocfhoocmfiaa", sum := "585f21f0f5305919dd64f6018da67ed30a2305ada41b74deac69a45274e04c71", func := "marigold/marigoldlaw04.ShuffleBack", spec := "shuffleBack", inPlace := ["sync/atomic.LoadUint32", "(*internal/sync.Mutex).Lock", "internal/race.Disable", "sync/atomic.CompareAndSwapInt32", "internal/race.Enable", "internal/race.Acquire", "(*internal/sync.Mutex).lockSlow", "internal/sync.runtime_canSpin", "internal/sync.runtime_doSpin", "internal/sync.throw", "internal/sync.runtime_nanotime", "internal/sync.runtime_SemacquireMutex", "sync/atomic.AddInt32", "(*internal/sync.Mutex).Unlock", "internal/race.ReleaseMerge", "(*internal/sync.Mutex).unlockSlow", "internal/sync.fatal", "internal/sync.runtime_Semrelease", "sync/atomic.StoreUint32", "sync/atomic.AddInt64", "sync/atomic.LoadInt64"], unfollowed := true, recurses := true, plainKeys := false, apart := false, narrowed := true }
def ShuffleBackUptoSaid : Prop := shuffleBackUptoRow.holds Try.pinned (OpenSpec.upto shuffleBackSpec)

/-- 'marigoldlaw04.ShuffleOnly', WHERE WHAT IT READS IS OF BULK AT MOST 1048576: true; the input reads as it did. -/
def shuffleOnlyUptoRow : OpenClaim := { program := "ytlhocfhoocmfiaa", sum := "585f21f0f5305919dd64f6018da67ed30a2305ada41b74deac69a45274e04c71", func := "marigold/marigoldlaw04.ShuffleOnly", spec := "shuffleOnly", inPlace := ["sync/atomic.LoadUint32", "(*internal/sync.Mutex).Lock", "internal/race.Disable", "sync/atomic.CompareAndSwapInt32", "internal/race.Enable", "internal/race.Acquire", "(*internal/sync.Mutex).lockSlow", "internal/sync.runtime_canSpin", "internal/sync.runtime_doSpin", "internal/sync.throw", "internal/sync.runtime_nanotime", "internal/sync.runtime_SemacquireMutex", "sync/atomic.AddInt32", "(*internal/sync.Mutex).Unlock", "internal/race.ReleaseMerge", "(*internal/sync.Mutex).unlockSlow", "internal/sync.fatal", "internal/sync.runtime_Semrelease", "sync/atomic.StoreUint32", "sync/atomic.AddInt64", "sync/atomic.LoadInt64"], unfollowed := true, recurses := true, plainKeys := false, apart := false, narrowed := true }
def ShuffleOnlyUptoSaid : Prop := shuffleOnlyUptoRow.holds Try.pinned (OpenSpec.upto shuffleOnlySpec)

/-- 'marigoldlaw04.ShuffleSums', WHERE WHAT IT READS IS OF BULK AT MOST 1048576: true; the input reads as it did. -/
def shuffleSumsUptoRow : OpenClaim := { program := "ytlhocfhoocmfiaa", sum := "585f21f0f5305919dd64f6018da67ed30a2305ada41b74deac69a45274e04c71", func := "marigold/marigoldlaw04.ShuffleSums", spec := "shuffleSums", inPlace := ["sync/atomic.LoadUint32", "(*internal/sync.Mutex).Lock", "internal/race.Disable", "sync/atomic.CompareAndSwapInt32", "internal/race.Enable", "internal/race.Acquire", "(*internal/sync.Mutex).lockSlow", "internal/sync.runtime_canSpin", "internal/sync.runtime_doSpin", "internal/sync.throw", "internal/sync.runtime_nanotime", "internal/sync.runtime_SemacquireMutex", "sync/atomic.AddInt32", "(*internal/sync.Mutex).Unlock", "internal/race.ReleaseMerge", "(*internal/sync.Mutex).unlockSlow", "internal/sync.fatal", "internal/sync.runtime_Semrelease", "sync/atomic.StoreUint32", "sync/atomic.AddInt64", "sync/atomic.LoadInt64"], unfollowed := true, recurses := true, plainKeys := false, apart := false, narrowed := true }
def ShuffleSumsUptoSaid : Prop := shuffleSumsUptoRow.holds Try.pinned (OpenSpec.upto shuffleSumsSpec)

/-- 'marigoldlaw04.ShuffleAll', WHERE WHAT IT READS IS OF BULK AT MOST 1048576: true; the input reads as it did. -/
def shuffleAllUptoRow : OpenClaim := { program := "ytlhocfhoocmfiaa", sum := "585f21f0f5305919dd64f6018da67ed30a2305ada41b74deac69a45274e04c71", func := "marigold/marigoldlaw04.ShuffleAll", spec := "shuffleAll", inPlace := ["sync/atomic.LoadUint32", "(*internal/sync.Mutex).Lock", "internal/race.Disable", "sync/atomic.CompareAndSwapInt32", "internal/race.Enable", "internal/race.Acquire", "(*internal/sync.Mutex).lockSlow", "internal/sync.runtime_canSpin", "internal/sync.runtime_doSpin", "internal/sync.throw", "internal/sync.runtime_nanotime", "internal/sync.runtime_SemacquireMutex", "sync/atomic.AddInt32", "(*internal/sync.Mutex).Unlock", "internal/race.ReleaseMerge", "(*internal/sync.Mutex).unlockSlow", "internal/sync.fatal", "internal/sync.runtime_Semrelease", "sync/atomic.StoreUint32", "sync/atomic.AddInt64", "sync/atomic.LoadInt64"], unfollowed := true, recurses := true, plainKeys := false, apart := false, narrowed := true }
def ShuffleAllUptoSaid : Prop := shuffleAllUptoRow.holds Try.pinned (OpenSpec.upto shuffleAllSpec)

/-- 'marigoldlaw05.DutyProposes', WHERE WHAT IT READS IS OF BULK AT MOST 1048576: true; the input reads as it did. -/
def dutyProposesUptoRow : OpenClaim := { program := "ytlhocfhoocmfiaa", sum := "585f21f0f5305919dd64f6018da67ed30a2305ada41b74deac69a45274e04c71", func := "marigold/marigoldlaw05.DutyProposes", spec := "dutyProposes", inPlace := ["sync/atomic.LoadUint32", "(*internal/sync.Mutex).Lock", "internal/race.Disable", "sync/atomic.CompareAndSwapInt32", "internal/race.Enable", "internal/race.Acquire", "(*internal/sync.Mutex).lockSlow", "internal/sync.runtime_canSpin", "internal/sync.runtime_doSpin", "internal/sync.throw", "internal/sync.runtime_nanotime", "internal/sync.runtime_SemacquireMutex", "sync/atomic.AddInt32", "(*internal/sync.Mutex).Unlock", "internal/race.ReleaseMerge", "(*internal/sync.Mutex).unlockSlow", "internal/sync.fatal", "internal/sync.runtime_Semrelease", "sync/atomic.StoreUint32", "sync/atomic.AddInt64", "sync/atomic.LoadInt64"], unfollowed := true, recurses := true, plainKeys := false, apart := false, narrowed := true }
def DutyProposesUptoSaid : Prop := dutyProposesUptoRow.holds Try.pinned (OpenSpec.upto dutyProposesSpec)

/-- 'marigoldlaw05.DutySeeds', WHERE WHAT IT READS IS OF BULK AT MOST 1048576: true; the input reads as it did. -/
def dutySeedsUptoRow : OpenClaim := { program := "ytlhocfhoocmfiaa", sum := "585f21f0f5305919dd64f6018da67ed30a2305ada41b74deac69a45274e04c71", func := "marigold/marigoldlaw05.DutySeeds", spec := "dutySeeds", inPlace := ["sync/atomic.LoadUint32", "(*internal/sync.Mutex).Lock", "internal/race.Disable", "sync/atomic.CompareAndSwapInt32", "internal/race.Enable", "internal/race.Acquire", "(*internal/sync.Mutex).lockSlow", "internal/sync.runtime_canSpin", "internal/sync.runtime_doSpin", "internal/sync.throw", "internal/sync.runtime_nanotime", "internal/sync.runtime_SemacquireMutex", "sync/atomic.AddInt32", "(*internal/sync.Mutex).Unlock", "internal/race.ReleaseMerge", "(*internal/sync.Mutex).unlockSlow", "internal/sync.fatal", "internal/sync.runtime_Semrelease", "sync/atomic.StoreUint32", "sync/atomic.AddInt64", "sync/atomic.LoadInt64"], unfollowed := true, recurses := true, plainKeys := false, apart := false, narrowed := true }
def DutySeedsUptoSaid : Prop := dutySeedsUptoRow.holds Try.pinned (OpenSpec.upto dutySeedsSpec)

/-- 'marigoldlaw05.DutyTells', WHERE WHAT IT READS IS OF BULK AT MOST 1048576: true; the input reads as it did. -/
def dutyTellsUptoRow : OpenClaim := { program := "ytlhocfhoocmfiaa", sum := "585f21f0f5305919dd64f6018da67ed30a2305ada41b74deac69a45274e04c71", func := "marigold/marigoldlaw05.DutyTells", spec := "dutyTells", inPlace := ["sync/atomic.LoadUint32", "(*internal/sync.Mutex).Lock", "internal/race.Disable", "sync/atomic.CompareAndSwapInt32", "internal/race.Enable", "internal/race.Acquire", "(*internal/sync.Mutex).lockSlow", "internal/sync.runtime_canSpin", "internal/sync.runtime_doSpin", "internal/sync.throw", "internal/sync.runtime_nanotime", "internal/sync.runtime_SemacquireMutex", "sync/atomic.AddInt32", "(*internal/sync.Mutex).Unlock", "internal/race.ReleaseMerge", "(*internal/sync.Mutex).unlockSlow", "internal/sync.fatal", "internal/sync.runtime_Semrelease", "sync/atomic.StoreUint32", "sync/atomic.AddInt64", "sync/atomic.LoadInt64"], unfollowed := true, recurses := true, plainKeys := false, apart := false, narrowed := true }
def DutyTellsUptoSaid : Prop := dutyTellsUptoRow.holds Try.pinned (OpenSpec.upto dutyTellsSpec)

/-- 'marigoldlaw05.DutyOnce', WHERE WHAT IT READS IS OF BULK AT MOST 1048576: true; the input reads as it did. -/
def dutyOnceUptoRow : OpenClaim := { program := "ytlhocfhoocmfiaa", sum := "585f21f0f5305919dd64f6018da67ed30a2305ada41b74deac69a45274e04c71", func := "marigold/marigoldlaw05.DutyOnce", spec := "dutyOnce", inPlace := ["sync/atomic.LoadUint32", "(*internal/sync.Mutex).Lock", "internal/race.Disable", "sync/atomic.CompareAndSwapInt32", "internal/race.Enable", "internal/race.Acquire", "(*internal/sync.Mutex).lockSlow", "internal/sync.runtime_canSpin", "internal/sync.runtime_doSpin", "internal/sync.throw", "internal/sync.runtime_nanotime", "internal/sync.runtime_SemacquireMutex", "sync/atomic.AddInt32", "(*internal/sync.Mutex).Unlock", "internal/race.ReleaseMerge", "(*internal/sync.Mutex).unlockSlow", "internal/sync.fatal", "internal/sync.runtime_Semrelease", "sync/atomic.StoreUint32", "sync/atomic.AddInt64", "sync/atomic.LoadInt64"], unfollowed := true, recurses := true, plainKeys := false, apart := false, narrowed := true }
def DutyOnceUptoSaid : Prop := dutyOnceUptoRow.holds Try.pinned (OpenSpec.upto dutyOnceSpec)

/-- 'marigoldlaw05.DutyWeighs', WHERE WHAT IT READS IS OF BULK AT MOST 1048576: true; the input reads as it did. -/
def dutyWeighsUptoRow : OpenClaim := { program := "ytlhocfhoocmfiaa", sum := "585f21f0f5305919dd64f6018da67ed30a2305ada41b74deac69a45274e04c71", func := "marigold/marigoldlaw05.DutyWeighs", spec := "dutyWeighs", inPlace := ["sync/atomic.LoadUint32", "(*internal/sync.Mutex).Lock", "internal/race.Disable", "sync/atomic.CompareAndSwapInt32", "internal/race.Enable", "internal/race.Acquire", "(*internal/sync.Mutex).lockSlow", "internal/sync.runtime_canSpin", "internal/sync.runtime_doSpin", "internal/sync.throw", "internal/sync.runtime_nanotime", "internal/sync.runtime_SemacquireMutex", "sync/atomic.AddInt32", "(*internal/sync.Mutex).Unlock", "internal/race.ReleaseMerge", "(*internal/sync.Mutex).unlockSlow", "internal/sync.fatal", "internal/sync.runtime_Semrelease", "sync/atomic.StoreUint32", "sync/atomic.AddInt64", "sync/atomic.LoadInt64"], unfollowed := true, recurses := true, plainKeys := false, apart := false, narrowed := true }
def DutyWeighsUptoSaid : Prop := dutyWeighsUptoRow.holds Try.pinned (OpenSpec.upto dutyWeighsSpec)

/-- 'marigoldlaw05.DutyAll', WHERE WHAT IT READS IS OF BULK AT MOST 1048576: true; the input reads as it did. -/
def dutyAllUptoRow : OpenClaim := { program := "ytlhocfhoocmfiaa", sum := "585f21f0f5305919dd64f6018da67ed30a2305ada41b74deac69a45274e04c71", func := "marigold/marigoldlaw05.DutyAll", spec := "dutyAll", inPlace := ["sync/atomic.LoadUint32", "(*internal/sync.Mutex).Lock", "internal/race.Disable", "sync/atomic.CompareAndSwapInt32", "internal/race.Enable", "internal/race.Acquire", "(*internal/sync.Mutex).lockSlow", "internal/sync.runtime_canSpin", "internal/sync.runtime_doSpin", "internal/sync.throw", "internal/sync.runtime_nanotime", "internal/sync.runtime_SemacquireMutex", "sync/atomic.AddInt32", "(*internal/sync.Mutex).Unlock", "internal/race.ReleaseMerge", "(*internal/sync.Mutex).unlockSlow", "internal/sync.fatal", "internal/sync.runtime_Semrelease", "sync/atomic.StoreUint32", "sync/atomic.AddInt64", "sync/atomic.LoadInt64"], unfollowed := true, recurses := true, plainKeys := false, apart := false, narrowed := true }
def DutyAllUptoSaid : Prop := dutyAllUptoRow.holds Try.pinned (OpenSpec.upto dutyAllSpec)

/-- 'marigoldlaw05.DutyParts', WHERE WHAT IT READS IS OF BULK AT MOST 1048576: true; the input reads as it did. -/
def dutyPartsUptoRow : OpenClaim := { program := "ytlhocfhoocmfiaa", sum := "585f21f0f5305919dd64f6018da67ed30a2305ada41b74deac69a45274e04c71", func := "marigold/marigoldlaw05.DutyParts", spec := "dutyParts", inPlace := ["sync/atomic.LoadUint32", "(*internal/sync.Mutex).Lock", "internal/race.Disable", "sync/atomic.CompareAndSwapInt32", "internal/race.Enable", "internal/race.Acquire", "(*internal/sync.Mutex).lockSlow", "internal/sync.runtime_canSpin", "internal/sync.runtime_doSpin", "internal/sync.throw", "internal/sync.runtime_nanotime", "internal/sync.runtime_SemacquireMutex", "sync/atomic.AddInt32", "(*internal/sync.Mutex).Unlock", "internal/race.ReleaseMerge", "(*internal/sync.Mutex).unlockSlow", "internal/sync.fatal", "internal/sync.runtime_Semrelease", "sync/atomic.StoreUint32", "sync/atomic.AddInt64", "sync/atomic.LoadInt64"], unfollowed := true, recurses := true, plainKeys := false, apart := false, narrowed := true }
def DutyPartsUptoSaid : Prop := dutyPartsUptoRow.holds Try.pinned (OpenSpec.upto dutyPartsSpec)

/-- 'marigoldlaw09.GhostTells', WHERE WHAT IT READS IS OF BULK AT MOST 1048576: true; the input reads as it did. -/
def ghostTellsUptoRow : OpenClaim := { program := "ytlhocfhoocmfiaa", sum := "585f21f0f5305919dd64f6018da67ed30a2305ada41b74deac69a45274e04c71", func := "marigold/marigoldlaw09.GhostTells", spec := "ghostTells", unfollowed := true, recurses := true, plainKeys := false, apart := false, narrowed := true }
def GhostTellsUptoSaid : Prop := ghostTellsUptoRow.holds Try.pinned (OpenSpec.upto ghostTellsSpec)

/-- 'marigoldlaw16.ViewOnly', WHERE WHAT IT READS IS OF BULK AT MOST 1048576: true; the input reads as it did. -/
def viewOnlyUptoRow : OpenClaim := { program := "ytlhocfhoocmfiaa", sum := "585f21f0f5305919dd64f6018da67ed30a2305ada41b74deac69a45274e04c71", func := "marigold/marigoldlaw16.ViewOnly", spec := "viewOnly", inPlace := ["sync/atomic.LoadUint32", "(*internal/sync.Mutex).Lock", "internal/race.Disable", "sync/atomic.CompareAndSwapInt32", "internal/race.Enable", "internal/race.Acquire", "(*internal/sync.Mutex).lockSlow", "internal/sync.runtime_canSpin", "internal/sync.runtime_doSpin", "internal/sync.throw", "internal/sync.runtime_nanotime", "internal/sync.runtime_SemacquireMutex", "sync/atomic.AddInt32", "(*internal/sync.Mutex).Unlock", "internal/race.ReleaseMerge", "(*internal/sync.Mutex).unlockSlow", "internal/sync.fatal", "internal/sync.runtime_Semrelease", "sync/atomic.StoreUint32", "sync/atomic.AddInt64", "sync/atomic.LoadInt64"], unfollowed := true, recurses := true, plainKeys := false, apart := false, narrowed := true }
def ViewOnlyUptoSaid : Prop := viewOnlyUptoRow.holds Try.pinned (OpenSpec.upto viewOnlySpec)

/-- 'marigoldlaw16.ViewMay', WHERE WHAT IT READS IS OF BULK AT MOST 1048576: true; the input reads as it did. -/
def viewMayUptoRow : OpenClaim := { program := "ytlhocfhoocmfiaa", sum := "585f21f0f5305919dd64f6018da67ed30a2305ada41b74deac69a45274e04c71", func := "marigold/marigoldlaw16.ViewMay", spec := "viewMay", inPlace := ["sync/atomic.LoadUint32", "(*internal/sync.Mutex).Lock", "internal/race.Disable", "sync/atomic.CompareAndSwapInt32", "internal/race.Enable", "internal/race.Acquire", "(*internal/sync.Mutex).lockSlow", "internal/sync.runtime_canSpin", "internal/sync.runtime_doSpin", "internal/sync.throw", "internal/sync.runtime_nanotime", "internal/sync.runtime_SemacquireMutex", "sync/atomic.AddInt32", "(*internal/sync.Mutex).Unlock", "internal/race.ReleaseMerge", "(*internal/sync.Mutex).unlockSlow", "internal/sync.fatal", "internal/sync.runtime_Semrelease", "sync/atomic.StoreUint32", "sync/atomic.AddInt64", "sync/atomic.LoadInt64"], unfollowed := true, recurses := true, plainKeys := false, apart := false, narrowed := true }
def ViewMayUptoSaid : Prop := viewMayUptoRow.holds Try.pinned (OpenSpec.upto viewMaySpec)

/-- 'marigoldlaw16.ViewKeeps', WHERE WHAT IT READS IS OF BULK AT MOST 1048576: true; the input reads as it did. -/
def viewKeepsUptoRow : OpenClaim := { program := "ytlhocfhoocmfiaa", sum := "585f21f0f5305919dd64f6018da67ed30a2305ada41b74deac69a45274e04c71", func := "marigold/marigoldlaw16.ViewKeeps", spec := "viewKeeps", inPlace := ["sync/atomic.LoadUint32", "(*internal/sync.Mutex).Lock", "internal/race.Disable", "sync/atomic.CompareAndSwapInt32", "internal/race.Enable", "internal/race.Acquire", "(*internal/sync.Mutex).lockSlow", "internal/sync.runtime_canSpin", "internal/sync.runtime_doSpin", "internal/sync.throw", "internal/sync.runtime_nanotime", "internal/sync.runtime_SemacquireMutex", "sync/atomic.AddInt32", "(*internal/sync.Mutex).Unlock", "internal/race.ReleaseMerge", "(*internal/sync.Mutex).unlockSlow", "internal/sync.fatal", "internal/sync.runtime_Semrelease", "sync/atomic.StoreUint32", "sync/atomic.AddInt64", "sync/atomic.LoadInt64"], unfollowed := true, recurses := true, plainKeys := false, apart := false, narrowed := true }
def ViewKeepsUptoSaid : Prop := viewKeepsUptoRow.holds Try.pinned (OpenSpec.upto viewKeepsSpec)

/-- 'marigoldlaw16.ViewOrder', WHERE WHAT IT READS IS OF BULK AT MOST 1048576: true; the input reads as it did. -/
def viewOrderUptoRow : OpenClaim := { program := "ytlhocfhoocmfiaa", sum := "585f21f0f5305919dd64f6018da67ed30a2305ada41b74deac69a45274e04c71", func := "marigold/marigoldlaw16.ViewOrder", spec := "viewOrder", inPlace := ["sync/atomic.LoadUint32", "(*internal/sync.Mutex).Lock", "internal/race.Disable", "sync/atomic.CompareAndSwapInt32", "internal/race.Enable", "internal/race.Acquire", "(*internal/sync.Mutex).lockSlow", "internal/sync.runtime_canSpin", "internal/sync.runtime_doSpin", "internal/sync.throw", "internal/sync.runtime_nanotime", "internal/sync.runtime_SemacquireMutex", "sync/atomic.AddInt32", "(*internal/sync.Mutex).Unlock", "internal/race.ReleaseMerge", "(*internal/sync.Mutex).unlockSlow", "internal/sync.fatal", "internal/sync.runtime_Semrelease", "sync/atomic.StoreUint32", "sync/atomic.AddInt64", "sync/atomic.LoadInt64"], unfollowed := true, recurses := true, plainKeys := false, apart := false, narrowed := true }
def ViewOrderUptoSaid : Prop := viewOrderUptoRow.holds Try.pinned (OpenSpec.upto viewOrderSpec)

/-- 'marigoldlaw16.ViewMeets', WHERE WHAT IT READS IS OF BULK AT MOST 1048576: true; the input reads as it did. -/
def viewMeetsUptoRow : OpenClaim := { program := "ytlhocfhoocmfiaa", sum := "585f21f0f5305919dd64f6018da67ed30a2305ada41b74deac69a45274e04c71", func := "marigold/marigoldlaw16.ViewMeets", spec := "viewMeets", inPlace := ["sync/atomic.LoadUint32", "(*internal/sync.Mutex).Lock", "internal/race.Disable", "sync/atomic.CompareAndSwapInt32", "internal/race.Enable", "internal/race.Acquire", "(*internal/sync.Mutex).lockSlow", "internal/sync.runtime_canSpin", "internal/sync.runtime_doSpin", "internal/sync.throw", "internal/sync.runtime_nanotime", "internal/sync.runtime_SemacquireMutex", "sync/atomic.AddInt32", "(*internal/sync.Mutex).Unlock", "internal/race.ReleaseMerge", "(*internal/sync.Mutex).unlockSlow", "internal/sync.fatal", "internal/sync.runtime_Semrelease", "sync/atomic.StoreUint32", "sync/atomic.AddInt64", "sync/atomic.LoadInt64"], unfollowed := true, recurses := true, plainKeys := false, apart := false, narrowed := true }
def ViewMeetsUptoSaid : Prop := viewMeetsUptoRow.holds Try.pinned (OpenSpec.upto viewMeetsSpec)

/-- 'marigoldlaw16.ViewJoin', WHERE WHAT IT READS IS OF BULK AT MOST 1048576: true; the input reads as it did. -/
def viewJoinUptoRow : OpenClaim := { program := "ytlhocfhoocmfiaa", sum := "585f21f0f5305919dd64f6018da67ed30a2305ada41b74deac69a45274e04c71", func := "marigold/marigoldlaw16.ViewJoin", spec := "viewJoin", inPlace := ["sync/atomic.LoadUint32", "(*internal/sync.Mutex).Lock", "internal/race.Disable", "sync/atomic.CompareAndSwapInt32", "internal/race.Enable", "internal/race.Acquire", "(*internal/sync.Mutex).lockSlow", "internal/sync.runtime_canSpin", "internal/sync.runtime_doSpin", "internal/sync.throw", "internal/sync.runtime_nanotime", "internal/sync.runtime_SemacquireMutex", "sync/atomic.AddInt32", "(*internal/sync.Mutex).Unlock", "internal/race.ReleaseMerge", "(*internal/sync.Mutex).unlockSlow", "internal/sync.fatal", "internal/sync.runtime_Semrelease", "sync/atomic.StoreUint32", "sync/atomic.AddInt64", "sync/atomic.LoadInt64"], unfollowed := true, recurses := true, plainKeys := false, apart := false, narrowed := true }
def ViewJoinUptoSaid : Prop := viewJoinUptoRow.holds Try.pinned (OpenSpec.upto viewJoinSpec)

/-- 'marigoldlaw16.ViewEarly', WHERE WHAT IT READS IS OF BULK AT MOST 1048576: true; the input reads as it did. -/
def viewEarlyUptoRow : OpenClaim := { program := "ytlhocfhoocmfiaa", sum := "585f21f0f5305919dd64f6018da67ed30a2305ada41b74deac69a45274e04c71", func := "marigold/marigoldlaw16.ViewEarly", spec := "viewEarly", inPlace := ["sync/atomic.LoadUint32", "(*internal/sync.Mutex).Lock", "internal/race.Disable", "sync/atomic.CompareAndSwapInt32", "internal/race.Enable", "internal/race.Acquire", "(*internal/sync.Mutex).lockSlow", "internal/sync.runtime_canSpin", "internal/sync.runtime_doSpin", "internal/sync.throw", "internal/sync.runtime_nanotime", "internal/sync.runtime_SemacquireMutex", "sync/atomic.AddInt32", "(*internal/sync.Mutex).Unlock", "internal/race.ReleaseMerge", "(*internal/sync.Mutex).unlockSlow", "internal/sync.fatal", "internal/sync.runtime_Semrelease", "sync/atomic.StoreUint32", "sync/atomic.AddInt64", "sync/atomic.LoadInt64"], unfollowed := true, recurses := true, plainKeys := false, apart := false, narrowed := true }
def ViewEarlyUptoSaid : Prop := viewEarlyUptoRow.holds Try.pinned (OpenSpec.upto viewEarlySpec)

end Rows
end Go.Proofs.Ytlhocfhoocmfiaa
