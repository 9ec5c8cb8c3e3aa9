/- PlayOther: every input. Conditions: none. -/
import Derived.Test.YtbjmcafamkdokaaGreatX10
import Derived.Test.YtbjmcafamkdokaaGreatX2
set_option maxRecDepth 100000
set_option linter.unusedSimpArgs false
set_option linter.unusedVariables false
namespace Go.Proofs.YtbjmcafamkdokaaGreat
open Go.Mg Go.ChangeShapes Go.WideShapes Go.ChangeAt Go.RowKit
theorem playOther_law (qs : List PV) (h : TIss [.agg [.slice 1 (.int .i64), .int .u64, .int .i64, .int .i64, .int .i64], .slice 1 (.int .i64), .slice 5 (.agg [.int .i64, .int .i64, .bool, .slice 5 (.agg [.int .i64, .int .i64, .int .u64, .int .u64, .int .u64]), .slice 4 (.agg [.int .i64, .int .i64, .int .u64, .int .u64])]), .agg [.int .i64, .int .i64, .bool, .slice 5 (.agg [.int .i64, .int .i64, .int .u64, .int .u64, .int .u64]), .slice 4 (.agg [.int .i64, .int .i64, .int .u64, .int .u64])], .int .i64] qs) : aw Tryz.prog 9 qs [.bool true] := by
 obtain ⟨_, _, rfl, i0, h0⟩ := ka h;obtain ⟨c, rfl, k_c⟩ := GM i0;obtain ⟨_, _, rfl, i1, h1⟩ := ka h0;obtain ⟨b, rfl, k_b⟩ := AO i1;obtain ⟨_, _, rfl, i2, h2⟩ := ka h1;obtain ⟨l, rfl, k_l⟩ := l7 (fun _ h => Dx h) i2;obtain ⟨_, _, rfl, i3, h3⟩ := ka h2;obtain ⟨a, rfl, k_a⟩ := Dx i3;obtain ⟨_, _, rfl, i4, h4⟩ := ka h3;obtain ⟨t, rfl, k_t⟩ := GN i4;obtain rfl := C0 h4;exact (F9 (xN yT c b l a t k_t.1))
theorem playOther_lifted (os : Os) (started : os.Started) (H : Type) (enc : TypeId × Value → H) :
  ReturnsInHanded {} Tryz.checked os 9 .any (Rows.playOtherSpec.pre6 enc Tryz.prog Tryz.f9 Rows.playOtherRow.domain false) (Rows.playOtherSpec.post enc Tryz.prog Tryz.f9 false true false false) := by
 refine returnsInHanded_of_change (C := Tryz.checked) own started (by kernel_rfl) Tryz.func9
  (ChangeSpec.witness6 (enc := enc) (C := Tryz.checked) false ⟨#[], #[.agg #[.slice none 0 0, .int .u64 0, .int .i64 0, .int .i64 0, .int .i64 0], .slice none 0 0, .slice none 0 0, .agg #[.int .i64 0, .int .i64 0, .bool false, .slice none 0 0, .slice none 0 0], .int .i64 0], []⟩ 8 (by kernel_rfl) (by kernel_rfl) (by kernel_rfl) (by kernel_rfl)) ?_
 intro W base args ds gs before hval hW _ _
 exact xA (d := 9) (ts := [25, 22, 26, 73, 3]) wH Z (by kernel_rfl) (by kernel_rfl) Z (by kernel_rfl) Tryz.underlying4
  (fun H ds hl => match ds, hl with | [d1, d2, d3, d4, d5], _ => ⟨rfl, rfl, rfl⟩) playOther_law W base args ds gs before hval hW
theorem playOther_closed : joinedFacts Tryz.prog 9 Tryz.f9 Rows.playOtherSpec Rows.playOtherRow = true := by
 unfold joinedFacts;rw [wH, GZ, GI, mayEnter, GR, GT]
 kernel_rfl
theorem playOther_holds : Rows.PlayOtherSaid :=
 OpenClaim.holds_of_wide 9 Tryz.f9 rfl rfl rfl rfl rfl rfl rfl ⟨rfl, rfl, rfl, rfl, rfl⟩ rfl rfl rfl rfl rfl (by kernel_rfl) Tryz.func9 playOther_closed
  (of_decide_eq_true (by kernel_rfl)) (by unfold Func.isWrapper; first | (rw [if_pos (by decide +kernel)]; kernel_rfl) | (rw [if_neg (by decide +kernel)]; exact ⟨rfl, rfl⟩))
  (fun os started H enc _ => playOther_lifted os started H enc)
end Go.Proofs.YtbjmcafamkdokaaGreat
