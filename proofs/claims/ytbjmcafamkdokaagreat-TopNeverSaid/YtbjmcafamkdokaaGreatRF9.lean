/- TopNever: every input. Conditions: none. -/
import Derived.Test.YtbjmcafamkdokaaGreatX11
import Derived.Test.YtbjmcafamkdokaaGreatX2
set_option maxRecDepth 100000
set_option linter.unusedSimpArgs false
set_option linter.unusedVariables false
namespace Go.Proofs.YtbjmcafamkdokaaGreat
open Go.Mg Go.ChangeShapes Go.WideShapes Go.ChangeAt Go.RowKit
theorem topNever_law (qs : List PV) (h : TIss [.agg [.slice 1 (.int .i64), .int .u64, .int .i64, .int .i64, .int .i64], .slice 1 (.int .i64), .slice 5 (.agg [.int .i64, .int .i64, .bool, .slice 5 (.agg [.int .i64, .int .i64, .int .u64, .int .u64, .int .u64]), .slice 4 (.agg [.int .i64, .int .i64, .int .u64, .int .u64])]), .int .i64] qs) : aw Tryz.prog 5 qs [.bool true] := by
 obtain ⟨_, _, rfl, i0, h0⟩ := nK h;obtain ⟨c, rfl, k_c⟩ := JV i0;obtain ⟨_, _, rfl, i1, h1⟩ := nK h0;obtain ⟨b, rfl, k_b⟩ := Dp i1;obtain ⟨_, _, rfl, i2, h2⟩ := nK h1;obtain ⟨l, rfl, k_l⟩ := ni (fun _ h => JT h) i2;obtain ⟨_, _, rfl, i3, h3⟩ := nK h2;obtain ⟨t, rfl, k_t⟩ := JX i3;obtain rfl := FK h3;exact (Jg (D5 B9 c b l t))
theorem topNever_lifted (os : Os) (started : os.Started) (H : Type) (enc : TypeId × Value → H) :
  ReturnsInHanded {} Tryz.checked os 5 .any (Rows.topNeverSpec.pre6 enc Tryz.prog Tryz.f5 Rows.topNeverRow.domain false) (Rows.topNeverSpec.post enc Tryz.prog Tryz.f5 false true false false) := by
 refine returnsInHanded_of_change (C := Tryz.checked) own started (by kernel_rfl) Tryz.func5
  (ChangeSpec.witness6 (enc := enc) (C := Tryz.checked) false ⟨#[], #[.agg #[.slice none 0 0, .int .u64 0, .int .i64 0, .int .i64 0, .int .i64 0], .slice none 0 0, .slice none 0 0, .int .i64 0], []⟩ 8 (by kernel_rfl) (by kernel_rfl) (by kernel_rfl) (by kernel_rfl)) ?_
 intro W base args ds gs before hval hW _ _
 exact AQ (d := 9) (ts := [25, 22, 26, 3]) yZ Z (by kernel_rfl) (by kernel_rfl) Z (by kernel_rfl) Tryz.underlying4
  (fun H ds hl => match ds, hl with | [d1, d2, d3, d4], _ => ⟨rfl, rfl, rfl⟩) topNever_law W base args ds gs before hval hW
theorem topNever_closed : joinedFacts Tryz.prog 5 Tryz.f5 Rows.topNeverSpec Rows.topNeverRow = true := by
 unfold joinedFacts;rw [yZ, Ka, JQ, mayEnter, J1, J3]
 kernel_rfl
theorem topNever_holds : Rows.TopNeverSaid :=
 OpenClaim.holds_of_wide 5 Tryz.f5 rfl rfl rfl rfl rfl rfl rfl ⟨rfl, rfl, rfl, rfl, rfl⟩ rfl rfl rfl rfl rfl (by kernel_rfl) Tryz.func5 topNever_closed
  (of_decide_eq_true (by kernel_rfl)) (by unfold Func.isWrapper; first | (rw [if_pos (by decide +kernel)]; kernel_rfl) | (rw [if_neg (by decide +kernel)]; exact ⟨rfl, rfl⟩))
  (fun os started H enc _ => topNever_lifted os started H enc)
end Go.Proofs.YtbjmcafamkdokaaGreat
