/- DutyOnce, DutyWeighs, DutyAll, DutyParts: every input. Conditions: none. -/
import Derived.Test.YtlhocfhoocmfiaaE1
import Derived.Test.YtlhocfhoocmfiaaEn
import Derived.Test.YtlhocfhoocmfiaaL2
namespace Go.Proofs.Ytlhocfhoocmfiaa
open Go.Mg Go.ChangeShapes Go.WideShapes Go.ChangeAt Go.RowKit
theorem dutyOnce_law (qs : List PV) (h : TIss [.agg [.slice 1 (.int .i64), .int .u64, .int .i64, .int .i64, .int .i64], .int .i64] qs) : LPure Try.prog 24 qs [.bool true] := by
  obtain ⟨_, _, rfl, i0, h0⟩ := tissCons h
  obtain ⟨c, rfl, k_c⟩ := isCfO i0
  obtain ⟨_, _, rfl, i1, h1⟩ := tissCons h0
  obtain ⟨epoch, rfl, k_epoch⟩ := isInt i1
  obtain rfl := tissNil h1
  exact (c24 (duOnce c epoch))
set_option maxRecDepth 100000 in
theorem dutyOnce_lifted (os : Os) (started : os.Started) (H : Type) (enc : TypeId × Value → H) :
    ReturnsInHanded {} Try.checked os 24 .any (Rows.dutyOnceSpec.pre6 enc Try.prog Try.f24 Rows.dutyOnceRow.domain false) (Rows.dutyOnceSpec.post enc Try.prog Try.f24 false true false false) := by
  refine returnsInHanded_of_change (C := Try.checked) own started (by kernel_rfl) Try.func24
    (ChangeSpec.witness6 (enc := enc) (C := Try.checked) false ⟨#[], #[.agg #[.slice none 0 0, .int .u64 0, .int .i64 0, .int .i64 0, .int .i64 0], .int .i64 0], []⟩ 8 (by kernel_rfl) (by kernel_rfl) (by kernel_rfl) (by kernel_rfl)) ?_
  intro W base args ds gs before hval hW _ _
  exact law_calls (d := 9) (ts := [55, 3]) laidOut rfl (by kernel_rfl) (by kernel_rfl) rfl (by kernel_rfl) Try.underlying4
    (fun H ds hl => match ds, hl with | [d1, d2], _ => ⟨rfl, rfl, rfl⟩) dutyOnce_law W base args ds gs before hval hW
theorem dutyOnce_closed : joinedFacts Try.prog 24 Try.f24 Rows.dutyOnceSpec Rows.dutyOnceRow = true := by
  unfold joinedFacts
  rw [laidOut, rowed, heard, mayEnter, lifts, makes]
  kernel_rfl
theorem dutyOnce_holds : Rows.DutyOnceSaid :=
  OpenClaim.holds_of_wide 24 Try.f24 rfl rfl rfl rfl rfl rfl rfl ⟨rfl, rfl, rfl, rfl, rfl⟩ rfl rfl rfl rfl rfl (by kernel_rfl) Try.func24 dutyOnce_closed
    (of_decide_eq_true (by kernel_rfl)) (by unfold Func.isWrapper; first | (rw [if_pos (by decide +kernel)]; kernel_rfl) | (rw [if_neg (by decide +kernel)]; exact ⟨rfl, rfl⟩))
    (fun os started H enc _ => dutyOnce_lifted os started H enc)
theorem dutyWeighs_law (qs : List PV) (h : TIss [.agg [.slice 1 (.int .i64), .int .u64, .int .i64, .int .i64, .int .i64], .slice 1 (.int .i64), .int .i64] qs) : LPure Try.prog 25 qs [.bool true] := by
  obtain ⟨_, _, rfl, i0, h0⟩ := tissCons h
  obtain ⟨c, rfl, k_c⟩ := isCfO i0
  obtain ⟨_, _, rfl, i1, h1⟩ := tissCons h0
  obtain ⟨l, rfl, k_l⟩ := isInts i1
  obtain ⟨_, _, rfl, i2, h2⟩ := tissCons h1
  obtain ⟨who, rfl, k_who⟩ := isInt i2
  obtain rfl := tissNil h2
  exact (c25 (duWeighs c l who))
set_option maxRecDepth 100000 in
theorem dutyWeighs_lifted (os : Os) (started : os.Started) (H : Type) (enc : TypeId × Value → H) :
    ReturnsInHanded {} Try.checked os 25 .any (Rows.dutyWeighsSpec.pre6 enc Try.prog Try.f25 Rows.dutyWeighsRow.domain false) (Rows.dutyWeighsSpec.post enc Try.prog Try.f25 false true false false) := by
  refine returnsInHanded_of_change (C := Try.checked) own started (by kernel_rfl) Try.func25
    (ChangeSpec.witness6 (enc := enc) (C := Try.checked) false ⟨#[], #[.agg #[.slice none 0 0, .int .u64 0, .int .i64 0, .int .i64 0, .int .i64 0], .slice none 0 0, .int .i64 0], []⟩ 8 (by kernel_rfl) (by kernel_rfl) (by kernel_rfl) (by kernel_rfl)) ?_
  intro W base args ds gs before hval hW _ _
  exact law_calls (d := 9) (ts := [55, 49, 3]) laidOut rfl (by kernel_rfl) (by kernel_rfl) rfl (by kernel_rfl) Try.underlying4
    (fun H ds hl => match ds, hl with | [d1, d2, d3], _ => ⟨rfl, rfl, rfl⟩) dutyWeighs_law W base args ds gs before hval hW
theorem dutyWeighs_closed : joinedFacts Try.prog 25 Try.f25 Rows.dutyWeighsSpec Rows.dutyWeighsRow = true := by
  unfold joinedFacts
  rw [laidOut, rowed, heard, mayEnter, lifts, makes]
  kernel_rfl
theorem dutyWeighs_holds : Rows.DutyWeighsSaid :=
  OpenClaim.holds_of_wide 25 Try.f25 rfl rfl rfl rfl rfl rfl rfl ⟨rfl, rfl, rfl, rfl, rfl⟩ rfl rfl rfl rfl rfl (by kernel_rfl) Try.func25 dutyWeighs_closed
    (of_decide_eq_true (by kernel_rfl)) (by unfold Func.isWrapper; first | (rw [if_pos (by decide +kernel)]; kernel_rfl) | (rw [if_neg (by decide +kernel)]; exact ⟨rfl, rfl⟩))
    (fun os started H enc _ => dutyWeighs_lifted os started H enc)
theorem dutyAll_law (qs : List PV) (h : TIss [.agg [.slice 1 (.int .i64), .int .u64, .int .i64, .int .i64, .int .i64], .int .i64, .int .i64] qs) : LPure Try.prog 26 qs [.bool true] := by
  obtain ⟨_, _, rfl, i0, h0⟩ := tissCons h
  obtain ⟨c, rfl, k_c⟩ := isCfO i0
  obtain ⟨_, _, rfl, i1, h1⟩ := tissCons h0
  obtain ⟨slot, rfl, k_slot⟩ := isInt i1
  obtain ⟨_, _, rfl, i2, h2⟩ := tissCons h1
  obtain ⟨who, rfl, k_who⟩ := isInt i2
  obtain rfl := tissNil h2
  exact (c26 (duAll c slot who))
set_option maxRecDepth 100000 in
theorem dutyAll_lifted (os : Os) (started : os.Started) (H : Type) (enc : TypeId × Value → H) :
    ReturnsInHanded {} Try.checked os 26 .any (Rows.dutyAllSpec.pre6 enc Try.prog Try.f26 Rows.dutyAllRow.domain false) (Rows.dutyAllSpec.post enc Try.prog Try.f26 false true false false) := by
  refine returnsInHanded_of_change (C := Try.checked) own started (by kernel_rfl) Try.func26
    (ChangeSpec.witness6 (enc := enc) (C := Try.checked) false ⟨#[], #[.agg #[.slice none 0 0, .int .u64 0, .int .i64 0, .int .i64 0, .int .i64 0], .int .i64 0, .int .i64 0], []⟩ 8 (by kernel_rfl) (by kernel_rfl) (by kernel_rfl) (by kernel_rfl)) ?_
  intro W base args ds gs before hval hW _ _
  exact law_calls (d := 9) (ts := [55, 3, 3]) laidOut rfl (by kernel_rfl) (by kernel_rfl) rfl (by kernel_rfl) Try.underlying4
    (fun H ds hl => match ds, hl with | [d1, d2, d3], _ => ⟨rfl, rfl, rfl⟩) dutyAll_law W base args ds gs before hval hW
theorem dutyAll_closed : joinedFacts Try.prog 26 Try.f26 Rows.dutyAllSpec Rows.dutyAllRow = true := by
  unfold joinedFacts
  rw [laidOut, rowed, heard, mayEnter, lifts, makes]
  kernel_rfl
theorem dutyAll_holds : Rows.DutyAllSaid :=
  OpenClaim.holds_of_wide 26 Try.f26 rfl rfl rfl rfl rfl rfl rfl ⟨rfl, rfl, rfl, rfl, rfl⟩ rfl rfl rfl rfl rfl (by kernel_rfl) Try.func26 dutyAll_closed
    (of_decide_eq_true (by kernel_rfl)) (by unfold Func.isWrapper; first | (rw [if_pos (by decide +kernel)]; kernel_rfl) | (rw [if_neg (by decide +kernel)]; exact ⟨rfl, rfl⟩))
    (fun os started H enc _ => dutyAll_lifted os started H enc)
theorem dutyParts_law (qs : List PV) (h : TIss [.agg [.slice 1 (.int .i64), .int .u64, .int .i64, .int .i64, .int .i64], .slice 1 (.int .i64), .slice 1 (.int .i64)] qs) : LPure Try.prog 27 qs [.bool true] := by
  obtain ⟨_, _, rfl, i0, h0⟩ := tissCons h
  obtain ⟨c, rfl, k_c⟩ := isCfO i0
  obtain ⟨_, _, rfl, i1, h1⟩ := tissCons h0
  obtain ⟨a, rfl, k_a⟩ := isInts i1
  obtain ⟨_, _, rfl, i2, h2⟩ := tissCons h1
  obtain ⟨b, rfl, k_b⟩ := isInts i2
  obtain rfl := tissNil h2
  exact (c27 (duParts c a b))
set_option maxRecDepth 100000 in
theorem dutyParts_lifted (os : Os) (started : os.Started) (H : Type) (enc : TypeId × Value → H) :
    ReturnsInHanded {} Try.checked os 27 .any (Rows.dutyPartsSpec.pre6 enc Try.prog Try.f27 Rows.dutyPartsRow.domain false) (Rows.dutyPartsSpec.post enc Try.prog Try.f27 false true false false) := by
  refine returnsInHanded_of_change (C := Try.checked) own started (by kernel_rfl) Try.func27
    (ChangeSpec.witness6 (enc := enc) (C := Try.checked) false ⟨#[], #[.agg #[.slice none 0 0, .int .u64 0, .int .i64 0, .int .i64 0, .int .i64 0], .slice none 0 0, .slice none 0 0], []⟩ 8 (by kernel_rfl) (by kernel_rfl) (by kernel_rfl) (by kernel_rfl)) ?_
  intro W base args ds gs before hval hW _ _
  exact law_calls (d := 9) (ts := [55, 49, 49]) laidOut rfl (by kernel_rfl) (by kernel_rfl) rfl (by kernel_rfl) Try.underlying4
    (fun H ds hl => match ds, hl with | [d1, d2, d3], _ => ⟨rfl, rfl, rfl⟩) dutyParts_law W base args ds gs before hval hW
theorem dutyParts_closed : joinedFacts Try.prog 27 Try.f27 Rows.dutyPartsSpec Rows.dutyPartsRow = true := by
  unfold joinedFacts
  rw [laidOut, rowed, heard, mayEnter, lifts, makes]
  kernel_rfl
theorem dutyParts_holds : Rows.DutyPartsSaid :=
  OpenClaim.holds_of_wide 27 Try.f27 rfl rfl rfl rfl rfl rfl rfl ⟨rfl, rfl, rfl, rfl, rfl⟩ rfl rfl rfl rfl rfl (by kernel_rfl) Try.func27 dutyParts_closed
    (of_decide_eq_true (by kernel_rfl)) (by unfold Func.isWrapper; first | (rw [if_pos (by decide +kernel)]; kernel_rfl) | (rw [if_neg (by decide +kernel)]; exact ⟨rfl, rfl⟩))
    (fun os started H enc _ => dutyParts_lifted os started H enc)
end Go.Proofs.Ytlhocfhoocmfiaa
