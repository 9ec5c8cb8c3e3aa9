/- CursorUnder, CursorStays, CursorLine: every input. Conditions: none. -/
import Derived.Test.YtlhocfhoocmfiaaPB2
import Derived.Test.YtlhocfhoocmfiaaEn
import Derived.Test.YtlhocfhoocmfiaaL2
namespace Go.Proofs.Ytlhocfhoocmfiaa
open Go.Mg Go.ChangeShapes Go.WideShapes Go.ChangeAt Go.RowKit

theorem cursorUnder_law (qs : List PV) (h : TIss [.agg [.int .u64, .int .u64, .int .i64, .int .i64], .slice 5 (.agg [.int .i64, .int .i64, .int .u64, .int .u64, .int .u64]), .agg [.int .u64, .int .u64], .agg [.int .u64, .int .u64], .bool, .int .i64] qs) : LPure Try.prog 6 qs [.bool true] := by
  obtain ⟨_, _, rfl, i0, h0⟩ := tissCons h
  obtain ⟨c, rfl⟩ := isCur i0
  obtain ⟨_, _, rfl, i1, h1⟩ := tissCons h0
  obtain ⟨l, rfl⟩ := isSlice (fun _ => isBk) i1
  obtain ⟨_, _, rfl, i2, h2⟩ := tissCons h1
  obtain ⟨head, rfl⟩ := isId i2
  obtain ⟨_, _, rfl, i3, h3⟩ := tissCons h2
  obtain ⟨found, rfl⟩ := isId i3
  obtain ⟨_, _, rfl, i4, h4⟩ := tissCons h3
  obtain ⟨is, rfl⟩ := isBool i4
  obtain ⟨_, _, rfl, i5, h5⟩ := tissCons h4
  obtain ⟨slot, rfl, k_slot⟩ := isInt i5
  obtain rfl := tissNil h5
  exact c6 underLaw

set_option maxRecDepth 100000 in
theorem cursorUnder_lifted (os : Os) (started : os.Started) (H : Type) (enc : TypeId × Value → H) :
    ReturnsInHanded {} Try.checked os 6 .any (Rows.cursorUnderSpec.pre6 enc Try.prog Try.f6 Rows.cursorUnderRow.domain false) (Rows.cursorUnderSpec.post enc Try.prog Try.f6 false true false false) := by
  refine returnsInHanded_of_change (C := Try.checked) own started (by kernel_rfl) Try.func6
    (ChangeSpec.witness6 (enc := enc) (C := Try.checked) false ⟨#[], #[.agg #[.int .u64 0, .int .u64 0, .int .i64 0, .int .i64 0], .slice none 0 0, .agg #[.int .u64 0, .int .u64 0], .agg #[.int .u64 0, .int .u64 0], .bool false, .int .i64 0], []⟩ 8 (by kernel_rfl) (by kernel_rfl) (by kernel_rfl) (by kernel_rfl)) ?_
  intro W base args ds gs before hval hW _ _
  exact law_calls (d := 9) (ts := [26, 27, 24, 24, 4, 3]) laidOut rfl (by kernel_rfl) (by kernel_rfl) rfl (by kernel_rfl) Try.underlying4
    (fun H ds hl => match ds, hl with | [d1, d2, d3, d4, d5, d6], _ => ⟨rfl, rfl, rfl⟩) cursorUnder_law W base args ds gs before hval hW

theorem cursorUnder_closed : joinedFacts Try.prog 6 Try.f6 Rows.cursorUnderSpec Rows.cursorUnderRow = true := by
  unfold joinedFacts
  rw [laidOut, rowed, heard, mayEnter, lifts, makes]
  kernel_rfl

theorem cursorUnder_holds : Rows.CursorUnderSaid :=
  OpenClaim.holds_of_wide 6 Try.f6 rfl rfl rfl rfl rfl rfl rfl ⟨rfl, rfl, rfl, rfl, rfl⟩ rfl rfl rfl rfl rfl (by kernel_rfl) Try.func6 cursorUnder_closed
    (of_decide_eq_true (by kernel_rfl)) (by unfold Func.isWrapper; first | (rw [if_pos (by decide +kernel)]; kernel_rfl) | (rw [if_neg (by decide +kernel)]; exact ⟨rfl, rfl⟩))
    (fun os started H enc _ => cursorUnder_lifted os started H enc)

theorem cursorStays_law (qs : List PV) (h : TIss [.agg [.int .u64, .int .u64, .int .i64, .int .i64], .slice 5 (.agg [.int .i64, .int .i64, .int .u64, .int .u64, .int .u64]), .agg [.int .u64, .int .u64], .agg [.int .u64, .int .u64], .int .i64] qs) : LPure Try.prog 7 qs [.bool true] := by
  obtain ⟨_, _, rfl, i0, h0⟩ := tissCons h
  obtain ⟨c, rfl⟩ := isCur i0
  obtain ⟨_, _, rfl, i1, h1⟩ := tissCons h0
  obtain ⟨l, rfl⟩ := isSlice (fun _ => isBk) i1
  obtain ⟨_, _, rfl, i2, h2⟩ := tissCons h1
  obtain ⟨head, rfl⟩ := isId i2
  obtain ⟨_, _, rfl, i3, h3⟩ := tissCons h2
  obtain ⟨found, rfl⟩ := isId i3
  obtain ⟨_, _, rfl, i4, h4⟩ := tissCons h3
  obtain ⟨slot, rfl, k_slot⟩ := isInt i4
  obtain rfl := tissNil h4
  exact c7 staysLaw

set_option maxRecDepth 100000 in
theorem cursorStays_lifted (os : Os) (started : os.Started) (H : Type) (enc : TypeId × Value → H) :
    ReturnsInHanded {} Try.checked os 7 .any (Rows.cursorStaysSpec.pre6 enc Try.prog Try.f7 Rows.cursorStaysRow.domain false) (Rows.cursorStaysSpec.post enc Try.prog Try.f7 false true false false) := by
  refine returnsInHanded_of_change (C := Try.checked) own started (by kernel_rfl) Try.func7
    (ChangeSpec.witness6 (enc := enc) (C := Try.checked) false ⟨#[], #[.agg #[.int .u64 0, .int .u64 0, .int .i64 0, .int .i64 0], .slice none 0 0, .agg #[.int .u64 0, .int .u64 0], .agg #[.int .u64 0, .int .u64 0], .int .i64 0], []⟩ 8 (by kernel_rfl) (by kernel_rfl) (by kernel_rfl) (by kernel_rfl)) ?_
  intro W base args ds gs before hval hW _ _
  exact law_calls (d := 9) (ts := [26, 27, 24, 24, 3]) laidOut rfl (by kernel_rfl) (by kernel_rfl) rfl (by kernel_rfl) Try.underlying4
    (fun H ds hl => match ds, hl with | [d1, d2, d3, d4, d5], _ => ⟨rfl, rfl, rfl⟩) cursorStays_law W base args ds gs before hval hW

theorem cursorStays_closed : joinedFacts Try.prog 7 Try.f7 Rows.cursorStaysSpec Rows.cursorStaysRow = true := by
  unfold joinedFacts
  rw [laidOut, rowed, heard, mayEnter, lifts, makes]
  kernel_rfl

theorem cursorStays_holds : Rows.CursorStaysSaid :=
  OpenClaim.holds_of_wide 7 Try.f7 rfl rfl rfl rfl rfl rfl rfl ⟨rfl, rfl, rfl, rfl, rfl⟩ rfl rfl rfl rfl rfl (by kernel_rfl) Try.func7 cursorStays_closed
    (of_decide_eq_true (by kernel_rfl)) (by unfold Func.isWrapper; first | (rw [if_pos (by decide +kernel)]; kernel_rfl) | (rw [if_neg (by decide +kernel)]; exact ⟨rfl, rfl⟩))
    (fun os started H enc _ => cursorStays_lifted os started H enc)

theorem cursorLine_law (qs : List PV) (h : TIss [.agg [.int .u64, .int .u64, .int .i64, .int .i64], .slice 5 (.agg [.int .i64, .int .i64, .int .u64, .int .u64, .int .u64]), .slice 2 (.agg [.int .u64, .int .u64]), .slice 2 (.agg [.int .u64, .int .u64])] qs) : LPure Try.prog 8 qs [.bool true] := by
  obtain ⟨_, _, rfl, i0, h0⟩ := tissCons h
  obtain ⟨c, rfl⟩ := isCur i0
  obtain ⟨_, _, rfl, i1, h1⟩ := tissCons h0
  obtain ⟨l, rfl⟩ := isSlice (fun _ => isBk) i1
  obtain ⟨_, _, rfl, i2, h2⟩ := tissCons h1
  obtain ⟨heads, rfl⟩ := isSlice (fun _ => isId) i2
  obtain ⟨_, _, rfl, i3, h3⟩ := tissCons h2
  obtain ⟨found, rfl⟩ := isSlice (fun _ => isId) i3
  obtain rfl := tissNil h3
  exact c8 lineLaw

set_option maxRecDepth 100000 in
theorem cursorLine_lifted (os : Os) (started : os.Started) (H : Type) (enc : TypeId × Value → H) :
    ReturnsInHanded {} Try.checked os 8 .any (Rows.cursorLineSpec.pre6 enc Try.prog Try.f8 Rows.cursorLineRow.domain false) (Rows.cursorLineSpec.post enc Try.prog Try.f8 false true false false) := by
  refine returnsInHanded_of_change (C := Try.checked) own started (by kernel_rfl) Try.func8
    (ChangeSpec.witness6 (enc := enc) (C := Try.checked) false ⟨#[], #[.agg #[.int .u64 0, .int .u64 0, .int .i64 0, .int .i64 0], .slice none 0 0, .slice none 0 0, .slice none 0 0], []⟩ 8 (by kernel_rfl) (by kernel_rfl) (by kernel_rfl) (by kernel_rfl)) ?_
  intro W base args ds gs before hval hW _ _
  exact law_calls (d := 9) (ts := [26, 27, 31, 31]) laidOut rfl (by kernel_rfl) (by kernel_rfl) rfl (by kernel_rfl) Try.underlying4
    (fun H ds hl => match ds, hl with | [d1, d2, d3, d4], _ => ⟨rfl, rfl, rfl⟩) cursorLine_law W base args ds gs before hval hW

theorem cursorLine_closed : joinedFacts Try.prog 8 Try.f8 Rows.cursorLineSpec Rows.cursorLineRow = true := by
  unfold joinedFacts
  rw [laidOut, rowed, heard, mayEnter, lifts, makes]
  kernel_rfl

theorem cursorLine_holds : Rows.CursorLineSaid :=
  OpenClaim.holds_of_wide 8 Try.f8 rfl rfl rfl rfl rfl rfl rfl ⟨rfl, rfl, rfl, rfl, rfl⟩ rfl rfl rfl rfl rfl (by kernel_rfl) Try.func8 cursorLine_closed
    (of_decide_eq_true (by kernel_rfl)) (by unfold Func.isWrapper; first | (rw [if_pos (by decide +kernel)]; kernel_rfl) | (rw [if_neg (by decide +kernel)]; exact ⟨rfl, rfl⟩))
    (fun os started H enc _ => cursorLine_lifted os started H enc)

end Go.Proofs.Ytlhocfhoocmfiaa
