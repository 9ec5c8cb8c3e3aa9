/- NodeWaits: every input. Conditions: none. -/
import Derived.Test.YtabjakfgaodocaaGreatX9
import Derived.Test.YtabjakfgaodocaaGreatX11
import Derived.Test.YtabjakfgaodocaaGreatX2
namespace Go.Proofs.YtabjakfgaodocaaGreat
open Go.Mg Go.ChangeShapes Go.WideShapes Go.ChangeAt Go.RowKit
theorem nodeWaits_law (qs : List PV) (h : TIss [.agg [.slice 1 (.int .i64), .int .u64, .int .i64, .int .i64, .int .i64], .agg [.int .i64, .int .i64, .slice 5 (.agg [.int .i64, .int .i64, .int .u64, .int .u64, .int .u64]), .slice 4 (.agg [.int .i64, .int .i64, .int .u64, .int .u64]), .slice 5 (.agg [.int .i64, .int .i64, .int .u64, .int .u64, .int .u64]), .slice 4 (.agg [.int .i64, .int .i64, .int .u64, .int .u64]), .slice 9 (.agg [.int .i64, .int .i64, .int .i64, .int .i64, .int .u64, .int .u64, .int .u64, .slice 5 (.agg [.int .i64, .int .i64, .int .u64, .int .u64, .int .u64]), .slice 4 (.agg [.int .i64, .int .i64, .int .u64, .int .u64])]), .int .u64, .int .u64, .int .i64, .int .i64, .bool], .agg [.slice 5 (.agg [.int .i64, .int .i64, .int .u64, .int .u64, .int .u64]), .slice 4 (.agg [.int .i64, .int .i64, .int .u64, .int .u64])], .slice 9 (.agg [.int .i64, .int .i64, .int .i64, .int .i64, .int .u64, .int .u64, .int .u64, .slice 5 (.agg [.int .i64, .int .i64, .int .u64, .int .u64, .int .u64]), .slice 4 (.agg [.int .i64, .int .i64, .int .u64, .int .u64])])] qs) : LPure Tryz.prog 4 qs [.bool true] := by
 obtain ⟨_, _, rfl, i0, h0⟩ := tissCons h
 obtain ⟨c, rfl, k_c⟩ := isCfO i0
 obtain ⟨_, _, rfl, i1, h1⟩ := tissCons h0
 obtain ⟨n, rfl, k_n⟩ := isNdO i1
 obtain ⟨_, _, rfl, i2, h2⟩ := tissCons h1
 obtain ⟨i, rfl, k_i⟩ := isVwO i2
 obtain ⟨_, _, rfl, i3, h3⟩ := tissCons h2
 obtain ⟨o, rfl, k_o⟩ := isSliceO (fun _ h => isOfO h) i3
 obtain rfl := tissNil h3
 exact (c3004 (nodeWaits F3013_eq c n i o))
set_option maxRecDepth 100000 in
theorem nodeWaits_lifted (os : Os) (started : os.Started) (H : Type) (enc : TypeId × Value → H) :
  ReturnsInHanded {} Tryz.checked os 4 .any (Rows.nodeWaitsSpec.pre6 enc Tryz.prog Tryz.f4 Rows.nodeWaitsRow.domain false) (Rows.nodeWaitsSpec.post enc Tryz.prog Tryz.f4 false true false false) := by
 refine returnsInHanded_of_change (C := Tryz.checked) own started (by kernel_rfl) Tryz.func4
  (ChangeSpec.witness6 (enc := enc) (C := Tryz.checked) false ⟨#[], #[.agg #[.slice none 0 0, .int .u64 0, .int .i64 0, .int .i64 0, .int .i64 0], .agg #[.int .i64 0, .int .i64 0, .slice none 0 0, .slice none 0 0, .slice none 0 0, .slice none 0 0, .slice none 0 0, .int .u64 0, .int .u64 0, .int .i64 0, .int .i64 0, .bool false], .agg #[.slice none 0 0, .slice none 0 0], .slice none 0 0], []⟩ 8 (by kernel_rfl) (by kernel_rfl) (by kernel_rfl) (by kernel_rfl)) ?_
 intro W base args ds gs before hval hW _ _
 exact law_calls (d := 9) (ts := [25, 36, 29, 30]) laidOut Z (by kernel_rfl) (by kernel_rfl) Z (by kernel_rfl) Tryz.underlying4
  (fun H ds hl => match ds, hl with | [d1, d2, d3, d4], _ => ⟨rfl, rfl, rfl⟩) nodeWaits_law W base args ds gs before hval hW
theorem nodeWaits_closed : joinedFacts Tryz.prog 4 Tryz.f4 Rows.nodeWaitsSpec Rows.nodeWaitsRow = true := by
 unfold joinedFacts
 rw [laidOut, rowed, heard, mayEnter, lifts, makes]
 kernel_rfl
theorem nodeWaits_holds : Rows.NodeWaitsSaid :=
 OpenClaim.holds_of_wide 4 Tryz.f4 rfl rfl rfl rfl rfl rfl rfl ⟨rfl, rfl, rfl, rfl, rfl⟩ rfl rfl rfl rfl rfl (by kernel_rfl) Tryz.func4 nodeWaits_closed
  (of_decide_eq_true (by kernel_rfl)) (by unfold Func.isWrapper; first | (rw [if_pos (by decide +kernel)]; kernel_rfl) | (rw [if_neg (by decide +kernel)]; exact ⟨rfl, rfl⟩))
  (fun os started H enc _ => nodeWaits_lifted os started H enc)
end Go.Proofs.YtabjakfgaodocaaGreat
