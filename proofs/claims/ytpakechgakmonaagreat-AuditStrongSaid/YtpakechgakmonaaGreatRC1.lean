/- AuditWeighs, AuditStrong, AuditParts: every input. Conditions: none. -/
import Derived.Test.YtpakechgakmonaaGreatU1
import Derived.Test.YtpakechgakmonaaGreatEn
import Derived.Test.YtpakechgakmonaaGreatL2
namespace Go.Proofs.YtpakechgakmonaaGreat
open Go.Mg Go.ChangeShapes Go.WideShapes Go.ChangeAt Go.RowKit
theorem auditStrong_law (qs : List PV) (h : TIss [.agg [.slice 1 (.int .i64), .int .u64, .int .i64, .int .i64, .int .i64], .slice 1 (.int .i64), .int .i64, .int .i64, .int .i64] qs) : LPure Tryz.prog 4 qs [.bool true] := by
  obtain ⟨_, _, rfl, i0, h0⟩ := tissCons h
  obtain ⟨c, rfl, k_c⟩ := isCfO i0
  obtain ⟨_, _, rfl, i1, h1⟩ := tissCons h0
  obtain ⟨b, rfl, k_b⟩ := isInts i1
  obtain ⟨_, _, rfl, i2, h2⟩ := tissCons h1
  obtain ⟨x, rfl, k_x⟩ := isInt i2
  obtain ⟨_, _, rfl, i3, h3⟩ := tissCons h2
  obtain ⟨y, rfl, k_y⟩ := isInt i3
  obtain ⟨_, _, rfl, i4, h4⟩ := tissCons h3
  obtain ⟨m, rfl, k_m⟩ := isInt i4
  obtain rfl := tissNil h4
  exact (c1004 (auStrong c b x y m))
set_option maxRecDepth 100000 in
theorem auditStrong_lifted (os : Os) (started : os.Started) (H : Type) (enc : TypeId × Value → H) :
    ReturnsInHanded {} Tryz.checked os 4 .any (Rows.auditStrongSpec.pre6 enc Tryz.prog Tryz.f4 Rows.auditStrongRow.domain false) (Rows.auditStrongSpec.post enc Tryz.prog Tryz.f4 false true false false) := by
  refine returnsInHanded_of_change (C := Tryz.checked) own started (by kernel_rfl) Tryz.func4
    (ChangeSpec.witness6 (enc := enc) (C := Tryz.checked) false ⟨#[], #[.agg #[.slice none 0 0, .int .u64 0, .int .i64 0, .int .i64 0, .int .i64 0], .slice none 0 0, .int .i64 0, .int .i64 0, .int .i64 0], []⟩ 8 (by kernel_rfl) (by kernel_rfl) (by kernel_rfl) (by kernel_rfl)) ?_
  intro W base args ds gs before hval hW _ _
  exact law_calls (d := 9) (ts := [25, 22, 3, 3, 3]) laidOut rfl (by kernel_rfl) (by kernel_rfl) rfl (by kernel_rfl) Tryz.underlying4
    (fun H ds hl => match ds, hl with | [d1, d2, d3, d4, d5], _ => ⟨rfl, rfl, rfl⟩) auditStrong_law W base args ds gs before hval hW
theorem auditStrong_closed : joinedFacts Tryz.prog 4 Tryz.f4 Rows.auditStrongSpec Rows.auditStrongRow = true := by
  unfold joinedFacts
  rw [laidOut, rowed, heard, mayEnter, lifts, makes]
  kernel_rfl
theorem auditStrong_holds : Rows.AuditStrongSaid :=
  OpenClaim.holds_of_wide 4 Tryz.f4 rfl rfl rfl rfl rfl rfl rfl ⟨rfl, rfl, rfl, rfl, rfl⟩ rfl rfl rfl rfl rfl (by kernel_rfl) Tryz.func4 auditStrong_closed
    (of_decide_eq_true (by kernel_rfl)) (by unfold Func.isWrapper; first | (rw [if_pos (by decide +kernel)]; kernel_rfl) | (rw [if_neg (by decide +kernel)]; exact ⟨rfl, rfl⟩))
    (fun os started H enc _ => auditStrong_lifted os started H enc)
end Go.Proofs.YtpakechgakmonaaGreat
