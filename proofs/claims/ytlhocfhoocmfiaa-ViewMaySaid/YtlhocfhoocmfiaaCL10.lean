/- ViewMay, ViewKeeps: every input. Conditions: none. -/
import Derived.Test.YtlhocfhoocmfiaaV4
import Derived.Test.YtlhocfhoocmfiaaEn
import Derived.Test.YtlhocfhoocmfiaaL2
namespace Go.Proofs.Ytlhocfhoocmfiaa
open Go.Mg Go.ChangeShapes Go.WideShapes Go.ChangeAt Go.RowKit
theorem viewMay_law (qs : List PV) (h : TIss [.agg [.slice 1 (.int .i64), .int .u64, .int .i64, .int .i64, .int .i64], .agg [.slice 5 (.agg [.int .i64, .int .i64, .int .u64, .int .u64, .int .u64]), .slice 4 (.agg [.int .i64, .int .i64, .int .u64, .int .u64])], .int .i64] qs) : LPure Try.prog 30 qs [.bool true] := by
  obtain ⟨_, _, rfl, i0, h0⟩ := tissCons h
  obtain ⟨c, rfl, k_c⟩ := isCfO i0
  obtain ⟨_, _, rfl, i1, h1⟩ := tissCons h0
  obtain ⟨w, rfl, k_w⟩ := isVwO i1
  obtain ⟨_, _, rfl, i2, h2⟩ := tissCons h1
  obtain ⟨a, rfl, k_a⟩ := isInt i2
  obtain rfl := tissNil h2
  exact (c30 (viMay c w a))
set_option maxRecDepth 100000 in
theorem viewMay_lifted (os : Os) (started : os.Started) (H : Type) (enc : TypeId × Value → H) :
    ReturnsInHanded {} Try.checked os 30 .any (Rows.viewMaySpec.pre6 enc Try.prog Try.f30 Rows.viewMayRow.domain false) (Rows.viewMaySpec.post enc Try.prog Try.f30 false true false false) := by
  refine returnsInHanded_of_change (C := Try.checked) own started (by kernel_rfl) Try.func30
    (ChangeSpec.witness6 (enc := enc) (C := Try.checked) false ⟨#[], #[.agg #[.slice none 0 0, .int .u64 0, .int .i64 0, .int .i64 0, .int .i64 0], .agg #[.slice none 0 0, .slice none 0 0], .int .i64 0], []⟩ 8 (by kernel_rfl) (by kernel_rfl) (by kernel_rfl) (by kernel_rfl)) ?_
  intro W base args ds gs before hval hW _ _
  exact law_calls (d := 9) (ts := [55, 75, 3]) laidOut rfl (by kernel_rfl) (by kernel_rfl) rfl (by kernel_rfl) Try.underlying4
    (fun H ds hl => match ds, hl with | [d1, d2, d3], _ => ⟨rfl, rfl, rfl⟩) viewMay_law W base args ds gs before hval hW
theorem viewMay_closed : joinedFacts Try.prog 30 Try.f30 Rows.viewMaySpec Rows.viewMayRow = true := by
  unfold joinedFacts
  rw [laidOut, rowed, heard, mayEnter, lifts, makes]
  kernel_rfl
theorem viewMay_holds : Rows.ViewMaySaid :=
  OpenClaim.holds_of_wide 30 Try.f30 rfl rfl rfl rfl rfl rfl rfl ⟨rfl, rfl, rfl, rfl, rfl⟩ rfl rfl rfl rfl rfl (by kernel_rfl) Try.func30 viewMay_closed
    (of_decide_eq_true (by kernel_rfl)) (by unfold Func.isWrapper; first | (rw [if_pos (by decide +kernel)]; kernel_rfl) | (rw [if_neg (by decide +kernel)]; exact ⟨rfl, rfl⟩))
    (fun os started H enc _ => viewMay_lifted os started H enc)
end Go.Proofs.Ytlhocfhoocmfiaa
