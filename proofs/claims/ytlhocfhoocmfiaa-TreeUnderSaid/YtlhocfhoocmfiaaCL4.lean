/- Laws of trees: every input. Conditions: none. -/
import Derived.Test.YtlhocfhoocmfiaaPBx
import Derived.Test.YtlhocfhoocmfiaaEn
import Derived.Test.YtlhocfhoocmfiaaL2
namespace Go.Proofs.Ytlhocfhoocmfiaa
open Go.Mg Go.ChangeShapes Go.WideShapes Go.ChangeAt Go.RowKit

theorem treeChains_law (qs : List PV) (h : TIss [.slice 5 (.agg [.int .i64, .int .i64, .int .u64, .int .u64, .int .u64]), .agg [.int .u64, .int .u64]] qs) : LPure Try.prog 10 qs [.bool true] := by
  obtain ⟨_, _, rfl, i0, h0⟩ := tissCons h
  obtain ⟨l, rfl⟩ := isSlice (fun _ => isBk) i0
  obtain ⟨_, _, rfl, i1, h1⟩ := tissCons h0
  obtain ⟨id, rfl⟩ := isId i1
  obtain rfl := tissNil h1
  exact c10 chainsLaw

set_option maxRecDepth 100000 in
theorem treeChains_lifted (os : Os) (started : os.Started) (H : Type) (enc : TypeId × Value → H) :
    ReturnsInHanded {} Try.checked os 10 .any (Rows.treeChainsSpec.pre6 enc Try.prog Try.f10 Rows.treeChainsRow.domain false) (Rows.treeChainsSpec.post enc Try.prog Try.f10 false true false false) := by
  refine returnsInHanded_of_change (C := Try.checked) own started (by kernel_rfl) Try.func10
    (ChangeSpec.witness6 (enc := enc) (C := Try.checked) false ⟨#[], #[.slice none 0 0, .agg #[.int .u64 0, .int .u64 0]], []⟩ 8 (by kernel_rfl) (by kernel_rfl) (by kernel_rfl) (by kernel_rfl)) ?_
  intro W base args ds gs before hval hW _ _
  exact law_calls (d := 9) (ts := [27, 24]) laidOut rfl (by kernel_rfl) (by kernel_rfl) rfl (by kernel_rfl) Try.underlying4
    (fun H ds hl => match ds, hl with | [d1, d2], _ => ⟨rfl, rfl, rfl⟩) treeChains_law W base args ds gs before hval hW

theorem treeChains_closed : joinedFacts Try.prog 10 Try.f10 Rows.treeChainsSpec Rows.treeChainsRow = true := by
  unfold joinedFacts
  rw [laidOut, rowed, heard, mayEnter, lifts, makes]
  kernel_rfl

theorem treeChains_holds : Rows.TreeChainsSaid :=
  OpenClaim.holds_of_wide 10 Try.f10 rfl rfl rfl rfl rfl rfl rfl ⟨rfl, rfl, rfl, rfl, rfl⟩ rfl rfl rfl rfl rfl (by kernel_rfl) Try.func10 treeChains_closed
    (of_decide_eq_true (by kernel_rfl)) (by unfold Func.isWrapper; first | (rw [if_pos (by decide +kernel)]; kernel_rfl) | (rw [if_neg (by decide +kernel)]; exact ⟨rfl, rfl⟩))
    (fun os started H enc _ => treeChains_lifted os started H enc)

theorem treeUnder_law (qs : List PV) (h : TIss [.slice 5 (.agg [.int .i64, .int .i64, .int .u64, .int .u64, .int .u64]), .agg [.int .u64, .int .u64], .agg [.int .u64, .int .u64], .agg [.int .u64, .int .u64]] qs) : LPure Try.prog 11 qs [.bool true] := by
  obtain ⟨_, _, rfl, i0, h0⟩ := tissCons h
  obtain ⟨l, rfl⟩ := isSlice (fun _ => isBk) i0
  obtain ⟨_, _, rfl, i1, h1⟩ := tissCons h0
  obtain ⟨a, rfl⟩ := isId i1
  obtain ⟨_, _, rfl, i2, h2⟩ := tissCons h1
  obtain ⟨b, rfl⟩ := isId i2
  obtain ⟨_, _, rfl, i3, h3⟩ := tissCons h2
  obtain ⟨c, rfl⟩ := isId i3
  obtain rfl := tissNil h3
  exact c11 treeUnderLaw

set_option maxRecDepth 100000 in
theorem treeUnder_lifted (os : Os) (started : os.Started) (H : Type) (enc : TypeId × Value → H) :
    ReturnsInHanded {} Try.checked os 11 .any (Rows.treeUnderSpec.pre6 enc Try.prog Try.f11 Rows.treeUnderRow.domain false) (Rows.treeUnderSpec.post enc Try.prog Try.f11 false true false false) := by
  refine returnsInHanded_of_change (C := Try.checked) own started (by kernel_rfl) Try.func11
    (ChangeSpec.witness6 (enc := enc) (C := Try.checked) false ⟨#[], #[.slice none 0 0, .agg #[.int .u64 0, .int .u64 0], .agg #[.int .u64 0, .int .u64 0], .agg #[.int .u64 0, .int .u64 0]], []⟩ 8 (by kernel_rfl) (by kernel_rfl) (by kernel_rfl) (by kernel_rfl)) ?_
  intro W base args ds gs before hval hW _ _
  exact law_calls (d := 9) (ts := [27, 24, 24, 24]) laidOut rfl (by kernel_rfl) (by kernel_rfl) rfl (by kernel_rfl) Try.underlying4
    (fun H ds hl => match ds, hl with | [d1, d2, d3, d4], _ => ⟨rfl, rfl, rfl⟩) treeUnder_law W base args ds gs before hval hW

theorem treeUnder_closed : joinedFacts Try.prog 11 Try.f11 Rows.treeUnderSpec Rows.treeUnderRow = true := by
  unfold joinedFacts
  rw [laidOut, rowed, heard, mayEnter, lifts, makes]
  kernel_rfl

theorem treeUnder_holds : Rows.TreeUnderSaid :=
  OpenClaim.holds_of_wide 11 Try.f11 rfl rfl rfl rfl rfl rfl rfl ⟨rfl, rfl, rfl, rfl, rfl⟩ rfl rfl rfl rfl rfl (by kernel_rfl) Try.func11 treeUnder_closed
    (of_decide_eq_true (by kernel_rfl)) (by unfold Func.isWrapper; first | (rw [if_pos (by decide +kernel)]; kernel_rfl) | (rw [if_neg (by decide +kernel)]; exact ⟨rfl, rfl⟩))
    (fun os started H enc _ => treeUnder_lifted os started H enc)

theorem treeMore_law (qs : List PV) (h : TIss [.slice 5 (.agg [.int .i64, .int .i64, .int .u64, .int .u64, .int .u64]), .agg [.int .i64, .int .i64, .int .u64, .int .u64, .int .u64], .int .i64, .agg [.int .u64, .int .u64], .agg [.int .u64, .int .u64]] qs) : LPure Try.prog 12 qs [.bool true] := by
  obtain ⟨_, _, rfl, i0, h0⟩ := tissCons h
  obtain ⟨l, rfl⟩ := isSlice (fun _ => isBk) i0
  obtain ⟨_, _, rfl, i1, h1⟩ := tissCons h0
  obtain ⟨b, rfl, k_b⟩ := isBkO i1
  obtain ⟨_, _, rfl, i2, h2⟩ := tissCons h1
  obtain ⟨n, rfl, k_n⟩ := isInt i2
  obtain ⟨_, _, rfl, i3, h3⟩ := tissCons h2
  obtain ⟨low, rfl⟩ := isId i3
  obtain ⟨_, _, rfl, i4, h4⟩ := tissCons h3
  obtain ⟨id, rfl⟩ := isId i4
  obtain rfl := tissNil h4
  exact c12 moreLaw

set_option maxRecDepth 100000 in
theorem treeMore_lifted (os : Os) (started : os.Started) (H : Type) (enc : TypeId × Value → H) :
    ReturnsInHanded {} Try.checked os 12 .any (Rows.treeMoreSpec.pre6 enc Try.prog Try.f12 Rows.treeMoreRow.domain false) (Rows.treeMoreSpec.post enc Try.prog Try.f12 false true false false) := by
  refine returnsInHanded_of_change (C := Try.checked) own started (by kernel_rfl) Try.func12
    (ChangeSpec.witness6 (enc := enc) (C := Try.checked) false ⟨#[], #[.slice none 0 0, .agg #[.int .i64 0, .int .i64 0, .int .u64 0, .int .u64 0, .int .u64 0], .int .i64 0, .agg #[.int .u64 0, .int .u64 0], .agg #[.int .u64 0, .int .u64 0]], []⟩ 8 (by kernel_rfl) (by kernel_rfl) (by kernel_rfl) (by kernel_rfl)) ?_
  intro W base args ds gs before hval hW _ _
  exact law_calls (d := 9) (ts := [27, 42, 3, 24, 24]) laidOut rfl (by kernel_rfl) (by kernel_rfl) rfl (by kernel_rfl) Try.underlying4
    (fun H ds hl => match ds, hl with | [d1, d2, d3, d4, d5], _ => ⟨rfl, rfl, rfl⟩) treeMore_law W base args ds gs before hval hW

theorem treeMore_closed : joinedFacts Try.prog 12 Try.f12 Rows.treeMoreSpec Rows.treeMoreRow = true := by
  unfold joinedFacts
  rw [laidOut, rowed, heard, mayEnter, lifts, makes]
  kernel_rfl

theorem treeMore_holds : Rows.TreeMoreSaid :=
  OpenClaim.holds_of_wide 12 Try.f12 rfl rfl rfl rfl rfl rfl rfl ⟨rfl, rfl, rfl, rfl, rfl⟩ rfl rfl rfl rfl rfl (by kernel_rfl) Try.func12 treeMore_closed
    (of_decide_eq_true (by kernel_rfl)) (by unfold Func.isWrapper; first | (rw [if_pos (by decide +kernel)]; kernel_rfl) | (rw [if_neg (by decide +kernel)]; exact ⟨rfl, rfl⟩))
    (fun os started H enc _ => treeMore_lifted os started H enc)

theorem treeKids_law (qs : List PV) (h : TIss [.slice 5 (.agg [.int .i64, .int .i64, .int .u64, .int .u64, .int .u64])] qs) : LPure Try.prog 13 qs [.bool true] := by
  obtain ⟨_, _, rfl, i0, h0⟩ := tissCons h
  obtain ⟨l, rfl⟩ := isSlice (fun _ => isBk) i0
  obtain rfl := tissNil h0
  exact c13 kidsLaw

set_option maxRecDepth 100000 in
theorem treeKids_lifted (os : Os) (started : os.Started) (H : Type) (enc : TypeId × Value → H) :
    ReturnsInHanded {} Try.checked os 13 .any (Rows.treeKidsSpec.pre6 enc Try.prog Try.f13 Rows.treeKidsRow.domain false) (Rows.treeKidsSpec.post enc Try.prog Try.f13 false true false false) := by
  refine returnsInHanded_of_change (C := Try.checked) own started (by kernel_rfl) Try.func13
    (ChangeSpec.witness6 (enc := enc) (C := Try.checked) false ⟨#[], #[.slice none 0 0], []⟩ 8 (by kernel_rfl) (by kernel_rfl) (by kernel_rfl) (by kernel_rfl)) ?_
  intro W base args ds gs before hval hW _ _
  exact law_calls (d := 9) (ts := [27]) laidOut rfl (by kernel_rfl) (by kernel_rfl) rfl (by kernel_rfl) Try.underlying4
    (fun H ds hl => match ds, hl with | [d1], _ => ⟨rfl, rfl, rfl⟩) treeKids_law W base args ds gs before hval hW

theorem treeKids_closed : joinedFacts Try.prog 13 Try.f13 Rows.treeKidsSpec Rows.treeKidsRow = true := by
  unfold joinedFacts
  rw [laidOut, rowed, heard, mayEnter, lifts, makes]
  kernel_rfl

theorem treeKids_holds : Rows.TreeKidsSaid :=
  OpenClaim.holds_of_wide 13 Try.f13 rfl rfl rfl rfl rfl rfl rfl ⟨rfl, rfl, rfl, rfl, rfl⟩ rfl rfl rfl rfl rfl (by kernel_rfl) Try.func13 treeKids_closed
    (of_decide_eq_true (by kernel_rfl)) (by unfold Func.isWrapper; first | (rw [if_pos (by decide +kernel)]; kernel_rfl) | (rw [if_neg (by decide +kernel)]; exact ⟨rfl, rfl⟩))
    (fun os started H enc _ => treeKids_lifted os started H enc)

theorem treeNames_law (qs : List PV) (h : TIss [.agg [.int .i64, .int .i64, .int .u64, .int .u64, .int .u64], .int .u64, .int .i64] qs) : LPure Try.prog 14 qs [.bool true] := by
  obtain ⟨_, _, rfl, i0, h0⟩ := tissCons h
  obtain ⟨b, rfl, k_b⟩ := isBkO i0
  obtain ⟨_, _, rfl, i1, h1⟩ := tissCons h0
  obtain ⟨salt, rfl, k_salt⟩ := isInt i1
  obtain ⟨_, _, rfl, i2, h2⟩ := tissCons h1
  obtain ⟨slot, rfl, k_slot⟩ := isInt i2
  obtain rfl := tissNil h2
  exact c14 (namesLaw k_b k_salt)

set_option maxRecDepth 100000 in
theorem treeNames_lifted (os : Os) (started : os.Started) (H : Type) (enc : TypeId × Value → H) :
    ReturnsInHanded {} Try.checked os 14 .any (Rows.treeNamesSpec.pre6 enc Try.prog Try.f14 Rows.treeNamesRow.domain false) (Rows.treeNamesSpec.post enc Try.prog Try.f14 false true false false) := by
  refine returnsInHanded_of_change (C := Try.checked) own started (by kernel_rfl) Try.func14
    (ChangeSpec.witness6 (enc := enc) (C := Try.checked) false ⟨#[], #[.agg #[.int .i64 0, .int .i64 0, .int .u64 0, .int .u64 0, .int .u64 0], .int .u64 0, .int .i64 0], []⟩ 8 (by kernel_rfl) (by kernel_rfl) (by kernel_rfl) (by kernel_rfl)) ?_
  intro W base args ds gs before hval hW _ _
  exact law_calls (d := 9) (ts := [42, 22, 3]) laidOut rfl (by kernel_rfl) (by kernel_rfl) rfl (by kernel_rfl) Try.underlying4
    (fun H ds hl => match ds, hl with | [d1, d2, d3], _ => ⟨rfl, rfl, rfl⟩) treeNames_law W base args ds gs before hval hW

theorem treeNames_closed : joinedFacts Try.prog 14 Try.f14 Rows.treeNamesSpec Rows.treeNamesRow = true := by
  unfold joinedFacts
  rw [laidOut, rowed, heard, mayEnter, lifts, makes]
  kernel_rfl

theorem treeNames_holds : Rows.TreeNamesSaid :=
  OpenClaim.holds_of_wide 14 Try.f14 rfl rfl rfl rfl rfl rfl rfl ⟨rfl, rfl, rfl, rfl, rfl⟩ rfl rfl rfl rfl rfl (by kernel_rfl) Try.func14 treeNames_closed
    (of_decide_eq_true (by kernel_rfl)) (by unfold Func.isWrapper; first | (rw [if_pos (by decide +kernel)]; kernel_rfl) | (rw [if_neg (by decide +kernel)]; exact ⟨rfl, rfl⟩))
    (fun os started H enc _ => treeNames_lifted os started H enc)

theorem treeNone_law (qs : List PV) (h : TIss [.slice 5 (.agg [.int .i64, .int .i64, .int .u64, .int .u64, .int .u64]), .agg [.int .u64, .int .u64], .agg [.int .u64, .int .u64]] qs) : LPure Try.prog 15 qs [.bool true] := by
  obtain ⟨_, _, rfl, i0, h0⟩ := tissCons h
  obtain ⟨l, rfl⟩ := isSlice (fun _ => isBk) i0
  obtain ⟨_, _, rfl, i1, h1⟩ := tissCons h0
  obtain ⟨id, rfl⟩ := isId i1
  obtain ⟨_, _, rfl, i2, h2⟩ := tissCons h1
  obtain ⟨low, rfl⟩ := isId i2
  obtain rfl := tissNil h2
  exact c15 noneLaw

set_option maxRecDepth 100000 in
theorem treeNone_lifted (os : Os) (started : os.Started) (H : Type) (enc : TypeId × Value → H) :
    ReturnsInHanded {} Try.checked os 15 .any (Rows.treeNoneSpec.pre6 enc Try.prog Try.f15 Rows.treeNoneRow.domain false) (Rows.treeNoneSpec.post enc Try.prog Try.f15 false true false false) := by
  refine returnsInHanded_of_change (C := Try.checked) own started (by kernel_rfl) Try.func15
    (ChangeSpec.witness6 (enc := enc) (C := Try.checked) false ⟨#[], #[.slice none 0 0, .agg #[.int .u64 0, .int .u64 0], .agg #[.int .u64 0, .int .u64 0]], []⟩ 8 (by kernel_rfl) (by kernel_rfl) (by kernel_rfl) (by kernel_rfl)) ?_
  intro W base args ds gs before hval hW _ _
  exact law_calls (d := 9) (ts := [27, 24, 24]) laidOut rfl (by kernel_rfl) (by kernel_rfl) rfl (by kernel_rfl) Try.underlying4
    (fun H ds hl => match ds, hl with | [d1, d2, d3], _ => ⟨rfl, rfl, rfl⟩) treeNone_law W base args ds gs before hval hW

theorem treeNone_closed : joinedFacts Try.prog 15 Try.f15 Rows.treeNoneSpec Rows.treeNoneRow = true := by
  unfold joinedFacts
  rw [laidOut, rowed, heard, mayEnter, lifts, makes]
  kernel_rfl

theorem treeNone_holds : Rows.TreeNoneSaid :=
  OpenClaim.holds_of_wide 15 Try.f15 rfl rfl rfl rfl rfl rfl rfl ⟨rfl, rfl, rfl, rfl, rfl⟩ rfl rfl rfl rfl rfl (by kernel_rfl) Try.func15 treeNone_closed
    (of_decide_eq_true (by kernel_rfl)) (by unfold Func.isWrapper; first | (rw [if_pos (by decide +kernel)]; kernel_rfl) | (rw [if_neg (by decide +kernel)]; exact ⟨rfl, rfl⟩))
    (fun os started H enc _ => treeNone_lifted os started H enc)

end Go.Proofs.Ytlhocfhoocmfiaa
