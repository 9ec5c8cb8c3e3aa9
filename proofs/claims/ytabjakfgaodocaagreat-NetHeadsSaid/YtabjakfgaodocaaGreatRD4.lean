/- NetHeads: every input. Conditions: none. -/
import Derived.Test.YtabjakfgaodocaaGreatX8
import Derived.Test.YtabjakfgaodocaaGreatX9
import Derived.Test.YtabjakfgaodocaaGreatX2
namespace Go.Proofs.YtabjakfgaodocaaGreat
open Go.Mg Go.ChangeShapes Go.WideShapes Go.ChangeAt Go.RowKit
theorem netHeads_law (qs : List PV) (h : TIss [.agg [.slice 1 (.int .i64), .int .u64, .int .i64, .int .i64, .int .i64], .slice 12 (.agg [.int .i64, .int .i64, .slice 5 (.agg [.int .i64, .int .i64, .int .u64, .int .u64, .int .u64]), .slice 4 (.agg [.int .i64, .int .i64, .int .u64, .int .u64]), .slice 5 (.agg [.int .i64, .int .i64, .int .u64, .int .u64, .int .u64]), .slice 4 (.agg [.int .i64, .int .i64, .int .u64, .int .u64]), .slice 9 (.agg [.int .i64, .int .i64, .int .i64, .int .i64, .int .u64, .int .u64, .int .u64, .slice 5 (.agg [.int .i64, .int .i64, .int .u64, .int .u64, .int .u64]), .slice 4 (.agg [.int .i64, .int .i64, .int .u64, .int .u64])]), .int .u64, .int .u64, .int .i64, .int .i64, .bool])] qs) : LPure Tryz.prog 10 qs [.bool true] := by
  obtain ⟨_, _, rfl, i0, h0⟩ := tissCons h
  obtain ⟨c, rfl, k_c⟩ := isCfO i0
  obtain ⟨_, _, rfl, i1, h1⟩ := tissCons h0
  obtain ⟨l, rfl, k_l⟩ := isSliceO (fun _ h => isNdO h) i1
  obtain rfl := tissNil h1
  exact (c3010 (netHeads F3029_eq c l))
set_option maxRecDepth 100000 in
theorem netHeads_lifted (os : Os) (started : os.Started) (H : Type) (enc : TypeId × Value → H) :
    ReturnsInHanded {} Tryz.checked os 10 .any (Rows.netHeadsSpec.pre6 enc Tryz.prog Tryz.f10 Rows.netHeadsRow.domain false) (Rows.netHeadsSpec.post enc Tryz.prog Tryz.f10 false true false false) := by
  refine returnsInHanded_of_change (C := Tryz.checked) own started (by kernel_rfl) Tryz.func10
    (ChangeSpec.witness6 (enc := enc) (C := Tryz.checked) false ⟨#[], #[.agg #[.slice none 0 0, .int .u64 0, .int .i64 0, .int .i64 0, .int .i64 0], .slice none 0 0], []⟩ 8 (by kernel_rfl) (by kernel_rfl) (by kernel_rfl) (by kernel_rfl)) ?_
  intro W base args ds gs before hval hW _ _
  exact law_calls (d := 9) (ts := [25, 64]) laidOut rfl (by kernel_rfl) (by kernel_rfl) rfl (by kernel_rfl) Tryz.underlying4
    (fun H ds hl => match ds, hl with | [d1, d2], _ => ⟨rfl, rfl, rfl⟩) netHeads_law W base args ds gs before hval hW
theorem netHeads_closed : joinedFacts Tryz.prog 10 Tryz.f10 Rows.netHeadsSpec Rows.netHeadsRow = true := by
  unfold joinedFacts
  rw [laidOut, rowed, heard, mayEnter, lifts, makes]
  kernel_rfl
theorem netHeads_holds : Rows.NetHeadsSaid :=
  OpenClaim.holds_of_wide 10 Tryz.f10 rfl rfl rfl rfl rfl rfl rfl ⟨rfl, rfl, rfl, rfl, rfl⟩ rfl rfl rfl rfl rfl (by kernel_rfl) Tryz.func10 netHeads_closed
    (of_decide_eq_true (by kernel_rfl)) (by unfold Func.isWrapper; first | (rw [if_pos (by decide +kernel)]; kernel_rfl) | (rw [if_neg (by decide +kernel)]; exact ⟨rfl, rfl⟩))
    (fun os started H enc _ => netHeads_lifted os started H enc)
end Go.Proofs.YtabjakfgaodocaaGreat
