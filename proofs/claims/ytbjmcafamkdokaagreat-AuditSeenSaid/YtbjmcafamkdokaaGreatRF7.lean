/- AuditSeen: every input. Conditions: none. -/
import Derived.Test.YtbjmcafamkdokaaGreatX10
import Derived.Test.YtbjmcafamkdokaaGreatX2
set_option maxRecDepth 100000
set_option linter.unusedSimpArgs false
set_option linter.unusedVariables false
namespace Go.Proofs.YtbjmcafamkdokaaGreat
open Go.Mg Go.ChangeShapes Go.WideShapes Go.ChangeAt Go.RowKit
theorem auditSeen_law (qs : List PV) (h : TIss [.agg [.slice 1 (.int .i64), .int .u64, .int .i64, .int .i64, .int .i64], .slice 1 (.int .i64), .slice 5 (.agg [.int .i64, .int .i64, .bool, .slice 5 (.agg [.int .i64, .int .i64, .int .u64, .int .u64, .int .u64]), .slice 4 (.agg [.int .i64, .int .i64, .int .u64, .int .u64])]), .int .i64, .int .i64] qs) : LPure Tryz.prog 12 qs [.bool true] := by
 obtain ⟨_, _, rfl, i0, h0⟩ := tissCons h;obtain ⟨c, rfl, k_c⟩ := isCfO i0;obtain ⟨_, _, rfl, i1, h1⟩ := tissCons h0;obtain ⟨b, rfl, k_b⟩ := isInts i1;obtain ⟨_, _, rfl, i2, h2⟩ := tissCons h1;obtain ⟨l, rfl, k_l⟩ := isSliceO (fun _ h => isAcO h) i2;obtain ⟨_, _, rfl, i3, h3⟩ := tissCons h2;obtain ⟨t, rfl, k_t⟩ := isInt i3;obtain ⟨_, _, rfl, i4, h4⟩ := tissCons h3;obtain ⟨x, rfl, k_x⟩ := isInt i4;obtain rfl := tissNil h4;exact (c4012 (auditSeen F1006_eq c b l t x))
theorem auditSeen_lifted (os : Os) (started : os.Started) (H : Type) (enc : TypeId × Value → H) :
  ReturnsInHanded {} Tryz.checked os 12 .any (Rows.auditSeenSpec.pre6 enc Tryz.prog Tryz.f12 Rows.auditSeenRow.domain false) (Rows.auditSeenSpec.post enc Tryz.prog Tryz.f12 false true false false) := by
 refine returnsInHanded_of_change (C := Tryz.checked) own started (by kernel_rfl) Tryz.func12
  (ChangeSpec.witness6 (enc := enc) (C := Tryz.checked) false ⟨#[], #[.agg #[.slice none 0 0, .int .u64 0, .int .i64 0, .int .i64 0, .int .i64 0], .slice none 0 0, .slice none 0 0, .int .i64 0, .int .i64 0], []⟩ 8 (by kernel_rfl) (by kernel_rfl) (by kernel_rfl) (by kernel_rfl)) ?_
 intro W base args ds gs before hval hW _ _
 exact law_calls (d := 9) (ts := [25, 22, 26, 3, 3]) laidOut Z (by kernel_rfl) (by kernel_rfl) Z (by kernel_rfl) Tryz.underlying4
  (fun H ds hl => match ds, hl with | [d1, d2, d3, d4, d5], _ => ⟨rfl, rfl, rfl⟩) auditSeen_law W base args ds gs before hval hW
theorem auditSeen_closed : joinedFacts Tryz.prog 12 Tryz.f12 Rows.auditSeenSpec Rows.auditSeenRow = true := by
 unfold joinedFacts;rw [laidOut, rowed, heard, mayEnter, lifts, makes]
 kernel_rfl
theorem auditSeen_holds : Rows.AuditSeenSaid :=
 OpenClaim.holds_of_wide 12 Tryz.f12 rfl rfl rfl rfl rfl rfl rfl ⟨rfl, rfl, rfl, rfl, rfl⟩ rfl rfl rfl rfl rfl (by kernel_rfl) Tryz.func12 auditSeen_closed
  (of_decide_eq_true (by kernel_rfl)) (by unfold Func.isWrapper; first | (rw [if_pos (by decide +kernel)]; kernel_rfl) | (rw [if_neg (by decide +kernel)]; exact ⟨rfl, rfl⟩))
  (fun os started H enc _ => auditSeen_lifted os started H enc)
end Go.Proofs.YtbjmcafamkdokaaGreat
