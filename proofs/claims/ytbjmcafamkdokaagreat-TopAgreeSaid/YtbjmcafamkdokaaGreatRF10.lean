/- TopAgree: every input. Conditions: none. -/
import Derived.Test.YtbjmcafamkdokaaGreatX11
import Derived.Test.YtbjmcafamkdokaaGreatX2
set_option maxRecDepth 100000
set_option linter.unusedSimpArgs false
set_option linter.unusedVariables false
namespace Go.Proofs.YtbjmcafamkdokaaGreat
open Go.Mg Go.ChangeShapes Go.WideShapes Go.ChangeAt Go.RowKit
theorem topAgree_law (qs : List PV) (h : TIss [.agg [.slice 1 (.int .i64), .int .u64, .int .i64, .int .i64, .int .i64], .slice 1 (.int .i64), .slice 5 (.agg [.int .i64, .int .i64, .bool, .slice 5 (.agg [.int .i64, .int .i64, .int .u64, .int .u64, .int .u64]), .slice 4 (.agg [.int .i64, .int .i64, .int .u64, .int .u64])]), .int .i64] qs) : av Tryz.prog 3 qs [.bool true] := by
 obtain ⟨_, _, rfl, i0, h0⟩ := ny h;obtain ⟨c, rfl, k_c⟩ := Je i0;obtain ⟨_, _, rfl, i1, h1⟩ := ny h0;obtain ⟨b, rfl, k_b⟩ := CQ i1;obtain ⟨_, _, rfl, i2, h2⟩ := ny h1;obtain ⟨l, rfl, k_l⟩ := mY (fun _ h => Jc h) i2;obtain ⟨_, _, rfl, i3, h3⟩ := ny h2;obtain ⟨t, rfl, k_t⟩ := Jf i3;obtain rfl := E1 h3;exact (Iv (Dr By c b l t))
theorem topAgree_lifted (os : Os) (started : os.Started) (H : Type) (enc : TypeId × Value → H) :
  ReturnsInHanded {} Tryz.checked os 3 .any (Rows.topAgreeSpec.pre6 enc Tryz.prog Tryz.f3 Rows.topAgreeRow.domain false) (Rows.topAgreeSpec.post enc Tryz.prog Tryz.f3 false true false false) := by
 refine returnsInHanded_of_change (C := Tryz.checked) own started (by kernel_rfl) Tryz.func3
  (ChangeSpec.witness6 (enc := enc) (C := Tryz.checked) false ⟨#[], #[.agg #[.slice none 0 0, .int .u64 0, .int .i64 0, .int .i64 0, .int .i64 0], .slice none 0 0, .slice none 0 0, .int .i64 0], []⟩ 8 (by kernel_rfl) (by kernel_rfl) (by kernel_rfl) (by kernel_rfl)) ?_
 intro W base args ds gs before hval hW _ _
 exact Aj (d := 9) (ts := [25, 22, 26, 3]) ym Z (by kernel_rfl) (by kernel_rfl) Z (by kernel_rfl) Tryz.underlying4
  (fun H ds hl => match ds, hl with | [d1, d2, d3, d4], _ => ⟨rfl, rfl, rfl⟩) topAgree_law W base args ds gs before hval hW
theorem topAgree_closed : joinedFacts Tryz.prog 3 Tryz.f3 Rows.topAgreeSpec Rows.topAgreeRow = true := by
 unfold joinedFacts;rw [ym, Jr, I9, mayEnter, Jj, Jl]
 kernel_rfl
theorem topAgree_holds : Rows.TopAgreeSaid :=
 OpenClaim.holds_of_wide 3 Tryz.f3 rfl rfl rfl rfl rfl rfl rfl ⟨rfl, rfl, rfl, rfl, rfl⟩ rfl rfl rfl rfl rfl (by kernel_rfl) Tryz.func3 topAgree_closed
  (of_decide_eq_true (by kernel_rfl)) (by unfold Func.isWrapper; first | (rw [if_pos (by decide +kernel)]; kernel_rfl) | (rw [if_neg (by decide +kernel)]; exact ⟨rfl, rfl⟩))
  (fun os started H enc _ => topAgree_lifted os started H enc)
end Go.Proofs.YtbjmcafamkdokaaGreat
