/- CursorTwice and CursorLost: every input. Conditions: none. -/
import Derived.Test.YtlhocfhoocmfiaaCA7
import Derived.Test.YtlhocfhoocmfiaaEn
import Derived.Test.YtlhocfhoocmfiaaMg20
namespace Go.Proofs.Ytlhocfhoocmfiaa
open Go.Mg Go.ChangeShapes Go.WideShapes Go.ChangeAt Go.RowKit

theorem cursorTwice_law (qs : List PV) (h : TIss [.agg [.int .u64, .int .u64, .int .i64, .int .i64], .slice 5 (.agg [.int .i64, .int .i64, .int .u64, .int .u64, .int .u64]), .agg [.int .u64, .int .u64], .agg [.int .u64, .int .u64], .bool, .int .i64] qs) : LPure Try.prog 4 qs [.bool true] := by
  obtain ⟨_, _, rfl, i0, h0⟩ := tissCons h
  obtain ⟨c, rfl⟩ := isCur i0
  obtain ⟨_, _, rfl, i1, h1⟩ := tissCons h0
  obtain ⟨l, rfl⟩ := isSlice (fun _ => isBk) i1
  obtain ⟨_, _, rfl, i2, h2⟩ := tissCons h1
  obtain ⟨head, rfl⟩ := isId i2
  obtain ⟨_, _, rfl, i3, h3⟩ := tissCons h2
  obtain ⟨found, rfl⟩ := isId i3
  obtain ⟨_, _, rfl, i4, h4⟩ := tissCons h3
  obtain ⟨is, rfl⟩ := isBool i4
  obtain ⟨_, _, rfl, i5, h5⟩ := tissCons h4
  obtain ⟨slot, rfl, hk⟩ := isInt i5
  obtain rfl := tissNil h5
  exact c4

set_option maxRecDepth 100000 in
theorem cursorTwice_lifted (os : Os) (started : os.Started) (H : Type) (enc : TypeId × Value → H) :
    ReturnsInHanded {} Try.checked os 4 .any (Rows.cursorTwiceSpec.pre6 enc Try.prog Try.f4 Rows.cursorTwiceRow.domain false) (Rows.cursorTwiceSpec.post enc Try.prog Try.f4 false true false false) := by
  refine returnsInHanded_of_change (C := Try.checked) own started (by kernel_rfl) Try.func4
    (ChangeSpec.witness6 (enc := enc) (C := Try.checked) false ⟨#[], #[.agg #[.int .u64 0, .int .u64 0, .int .i64 0, .int .i64 0], .slice none 0 0, .agg #[.int .u64 0, .int .u64 0], .agg #[.int .u64 0, .int .u64 0], .bool false, .int .i64 0], []⟩ 8 (by kernel_rfl) (by kernel_rfl) (by kernel_rfl) (by kernel_rfl)) ?_
  intro W base args ds gs before hval hW _ _
  exact law_calls (d := 9) (ts := [26, 27, 24, 24, 4, 3]) laidOut rfl (by kernel_rfl) (by kernel_rfl) rfl (by kernel_rfl) Try.underlying4
    (fun H ds hl => match ds, hl with | [d1, d2, d3, d4, d5, d6], _ => ⟨rfl, rfl, rfl⟩) cursorTwice_law W base args ds gs before hval hW

theorem cursorTwice_closed : joinedFacts Try.prog 4 Try.f4 Rows.cursorTwiceSpec Rows.cursorTwiceRow = true := by
  unfold joinedFacts
  rw [laidOut, rowed, heard, mayEnter, lifts, makes]
  kernel_rfl

theorem cursorTwice_holds : Rows.CursorTwiceSaid :=
  OpenClaim.holds_of_wide 4 Try.f4 rfl rfl rfl rfl rfl rfl rfl ⟨rfl, rfl, rfl, rfl, rfl⟩ rfl rfl rfl rfl rfl (by kernel_rfl) Try.func4 cursorTwice_closed
    (of_decide_eq_true (by kernel_rfl)) (by unfold Func.isWrapper; first | (rw [if_pos (by decide +kernel)]; kernel_rfl) | (rw [if_neg (by decide +kernel)]; exact ⟨rfl, rfl⟩))
    (fun os started H enc _ => cursorTwice_lifted os started H enc)

theorem cursorLost_law (qs : List PV) (h : TIss [.agg [.int .u64, .int .u64, .int .i64, .int .i64], .slice 5 (.agg [.int .i64, .int .i64, .int .u64, .int .u64, .int .u64]), .agg [.int .u64, .int .u64], .agg [.int .u64, .int .u64], .bool, .int .i64] qs) : LPure Try.prog 5 qs [.bool true] := by
  obtain ⟨_, _, rfl, i0, h0⟩ := tissCons h
  obtain ⟨c, rfl⟩ := isCur i0
  obtain ⟨_, _, rfl, i1, h1⟩ := tissCons h0
  obtain ⟨l, rfl⟩ := isSlice (fun _ => isBk) i1
  obtain ⟨_, _, rfl, i2, h2⟩ := tissCons h1
  obtain ⟨head, rfl⟩ := isId i2
  obtain ⟨_, _, rfl, i3, h3⟩ := tissCons h2
  obtain ⟨found, rfl⟩ := isId i3
  obtain ⟨_, _, rfl, i4, h4⟩ := tissCons h3
  obtain ⟨is, rfl⟩ := isBool i4
  obtain ⟨_, _, rfl, i5, h5⟩ := tissCons h4
  obtain ⟨slot, rfl, hk⟩ := isInt i5
  obtain rfl := tissNil h5
  exact c5

set_option maxRecDepth 100000 in
theorem cursorLost_lifted (os : Os) (started : os.Started) (H : Type) (enc : TypeId × Value → H) :
    ReturnsInHanded {} Try.checked os 5 .any (Rows.cursorLostSpec.pre6 enc Try.prog Try.f5 Rows.cursorLostRow.domain false) (Rows.cursorLostSpec.post enc Try.prog Try.f5 false true false false) := by
  refine returnsInHanded_of_change (C := Try.checked) own started (by kernel_rfl) Try.func5
    (ChangeSpec.witness6 (enc := enc) (C := Try.checked) false ⟨#[], #[.agg #[.int .u64 0, .int .u64 0, .int .i64 0, .int .i64 0], .slice none 0 0, .agg #[.int .u64 0, .int .u64 0], .agg #[.int .u64 0, .int .u64 0], .bool false, .int .i64 0], []⟩ 8 (by kernel_rfl) (by kernel_rfl) (by kernel_rfl) (by kernel_rfl)) ?_
  intro W base args ds gs before hval hW _ _
  exact law_calls (d := 9) (ts := [26, 27, 24, 24, 4, 3]) laidOut rfl (by kernel_rfl) (by kernel_rfl) rfl (by kernel_rfl) Try.underlying4
    (fun H ds hl => match ds, hl with | [d1, d2, d3, d4, d5, d6], _ => ⟨rfl, rfl, rfl⟩) cursorLost_law W base args ds gs before hval hW

theorem cursorLost_closed : joinedFacts Try.prog 5 Try.f5 Rows.cursorLostSpec Rows.cursorLostRow = true := by
  unfold joinedFacts
  rw [laidOut, rowed, heard, mayEnter, lifts, makes]
  kernel_rfl

theorem cursorLost_holds : Rows.CursorLostSaid :=
  OpenClaim.holds_of_wide 5 Try.f5 rfl rfl rfl rfl rfl rfl rfl ⟨rfl, rfl, rfl, rfl, rfl⟩ rfl rfl rfl rfl rfl (by kernel_rfl) Try.func5 cursorLost_closed
    (of_decide_eq_true (by kernel_rfl)) (by unfold Func.isWrapper; first | (rw [if_pos (by decide +kernel)]; kernel_rfl) | (rw [if_neg (by decide +kernel)]; exact ⟨rfl, rfl⟩))
    (fun os started H enc _ => cursorLost_lifted os started H enc)

end Go.Proofs.Ytlhocfhoocmfiaa
