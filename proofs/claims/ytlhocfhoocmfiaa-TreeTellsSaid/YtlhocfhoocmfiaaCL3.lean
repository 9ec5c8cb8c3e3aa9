/- CursorMoves, TreeTells: every input. Conditions: none. -/
import Derived.Test.YtlhocfhoocmfiaaR1
import Derived.Test.YtlhocfhoocmfiaaEn
import Derived.Test.YtlhocfhoocmfiaaL2
namespace Go.Proofs.Ytlhocfhoocmfiaa
open Go.Mg Go.ChangeShapes Go.WideShapes Go.ChangeAt Go.RowKit

theorem cursorMoves_law (qs : List PV) (h : TIss [.agg [.int .u64, .int .u64, .int .i64, .int .i64], .slice 5 (.agg [.int .i64, .int .i64, .int .u64, .int .u64, .int .u64]), .agg [.int .u64, .int .u64], .agg [.int .u64, .int .u64], .bool, .int .i64] qs) : LPure Try.prog 3 qs [.bool true] := by
  obtain ⟨_, _, rfl, i0, h0⟩ := tissCons h
  obtain ⟨c, rfl⟩ := isCur i0
  obtain ⟨_, _, rfl, i1, h1⟩ := tissCons h0
  obtain ⟨l, rfl, k_l⟩ := isSliceO (fun _ => isBkO) i1
  obtain ⟨_, _, rfl, i2, h2⟩ := tissCons h1
  obtain ⟨head, rfl⟩ := isId i2
  obtain ⟨_, _, rfl, i3, h3⟩ := tissCons h2
  obtain ⟨found, rfl⟩ := isId i3
  obtain ⟨_, _, rfl, i4, h4⟩ := tissCons h3
  obtain ⟨is, rfl⟩ := isBool i4
  obtain ⟨_, _, rfl, i5, h5⟩ := tissCons h4
  obtain ⟨slot, rfl, k_slot⟩ := isInt i5
  obtain rfl := tissNil h5
  exact c3 (movesLaw k_l)

set_option maxRecDepth 100000 in
theorem cursorMoves_lifted (os : Os) (started : os.Started) (H : Type) (enc : TypeId × Value → H) :
    ReturnsInHanded {} Try.checked os 3 .any (Rows.cursorMovesSpec.pre6 enc Try.prog Try.f3 Rows.cursorMovesRow.domain false) (Rows.cursorMovesSpec.post enc Try.prog Try.f3 false true false false) := by
  refine returnsInHanded_of_change (C := Try.checked) own started (by kernel_rfl) Try.func3
    (ChangeSpec.witness6 (enc := enc) (C := Try.checked) false ⟨#[], #[.agg #[.int .u64 0, .int .u64 0, .int .i64 0, .int .i64 0], .slice none 0 0, .agg #[.int .u64 0, .int .u64 0], .agg #[.int .u64 0, .int .u64 0], .bool false, .int .i64 0], []⟩ 8 (by kernel_rfl) (by kernel_rfl) (by kernel_rfl) (by kernel_rfl)) ?_
  intro W base args ds gs before hval hW _ _
  exact law_calls (d := 9) (ts := [26, 27, 24, 24, 4, 3]) laidOut rfl (by kernel_rfl) (by kernel_rfl) rfl (by kernel_rfl) Try.underlying4
    (fun H ds hl => match ds, hl with | [d1, d2, d3, d4, d5, d6], _ => ⟨rfl, rfl, rfl⟩) cursorMoves_law W base args ds gs before hval hW

theorem cursorMoves_closed : joinedFacts Try.prog 3 Try.f3 Rows.cursorMovesSpec Rows.cursorMovesRow = true := by
  unfold joinedFacts
  rw [laidOut, rowed, heard, mayEnter, lifts, makes]
  kernel_rfl

theorem cursorMoves_holds : Rows.CursorMovesSaid :=
  OpenClaim.holds_of_wide 3 Try.f3 rfl rfl rfl rfl rfl rfl rfl ⟨rfl, rfl, rfl, rfl, rfl⟩ rfl rfl rfl rfl rfl (by kernel_rfl) Try.func3 cursorMoves_closed
    (of_decide_eq_true (by kernel_rfl)) (by unfold Func.isWrapper; first | (rw [if_pos (by decide +kernel)]; kernel_rfl) | (rw [if_neg (by decide +kernel)]; exact ⟨rfl, rfl⟩))
    (fun os started H enc _ => cursorMoves_lifted os started H enc)

theorem treeTells_law (qs : List PV) (h : TIss [.slice 5 (.agg [.int .i64, .int .i64, .int .u64, .int .u64, .int .u64]), .agg [.int .u64, .int .u64], .agg [.int .u64, .int .u64]] qs) : LPure Try.prog 9 qs [.bool true] := by
  obtain ⟨_, _, rfl, i0, h0⟩ := tissCons h
  obtain ⟨l, rfl, k_l⟩ := isSliceO (fun _ => isBkO) i0
  obtain ⟨_, _, rfl, i1, h1⟩ := tissCons h0
  obtain ⟨id, rfl⟩ := isId i1
  obtain ⟨_, _, rfl, i2, h2⟩ := tissCons h1
  obtain ⟨low, rfl⟩ := isId i2
  obtain rfl := tissNil h2
  exact c9 (tellsLaw k_l)

set_option maxRecDepth 100000 in
theorem treeTells_lifted (os : Os) (started : os.Started) (H : Type) (enc : TypeId × Value → H) :
    ReturnsInHanded {} Try.checked os 9 .any (Rows.treeTellsSpec.pre6 enc Try.prog Try.f9 Rows.treeTellsRow.domain false) (Rows.treeTellsSpec.post enc Try.prog Try.f9 false true false false) := by
  refine returnsInHanded_of_change (C := Try.checked) own started (by kernel_rfl) Try.func9
    (ChangeSpec.witness6 (enc := enc) (C := Try.checked) false ⟨#[], #[.slice none 0 0, .agg #[.int .u64 0, .int .u64 0], .agg #[.int .u64 0, .int .u64 0]], []⟩ 8 (by kernel_rfl) (by kernel_rfl) (by kernel_rfl) (by kernel_rfl)) ?_
  intro W base args ds gs before hval hW _ _
  exact law_calls (d := 9) (ts := [27, 24, 24]) laidOut rfl (by kernel_rfl) (by kernel_rfl) rfl (by kernel_rfl) Try.underlying4
    (fun H ds hl => match ds, hl with | [d1, d2, d3], _ => ⟨rfl, rfl, rfl⟩) treeTells_law W base args ds gs before hval hW

theorem treeTells_closed : joinedFacts Try.prog 9 Try.f9 Rows.treeTellsSpec Rows.treeTellsRow = true := by
  unfold joinedFacts
  rw [laidOut, rowed, heard, mayEnter, lifts, makes]
  kernel_rfl

theorem treeTells_holds : Rows.TreeTellsSaid :=
  OpenClaim.holds_of_wide 9 Try.f9 rfl rfl rfl rfl rfl rfl rfl ⟨rfl, rfl, rfl, rfl, rfl⟩ rfl rfl rfl rfl rfl (by kernel_rfl) Try.func9 treeTells_closed
    (of_decide_eq_true (by kernel_rfl)) (by unfold Func.isWrapper; first | (rw [if_pos (by decide +kernel)]; kernel_rfl) | (rw [if_neg (by decide +kernel)]; exact ⟨rfl, rfl⟩))
    (fun os started H enc _ => treeTells_lifted os started H enc)

end Go.Proofs.Ytlhocfhoocmfiaa
