/- PlayQuiet: every input. Conditions: none. -/
import Derived.Test.YtbjmcafamkdokaaGreatX10
import Derived.Test.YtbjmcafamkdokaaGreatX2
set_option maxRecDepth 100000
set_option linter.unusedSimpArgs false
set_option linter.unusedVariables false
namespace Go.Proofs.YtbjmcafamkdokaaGreat
open Go.Mg Go.ChangeShapes Go.WideShapes Go.ChangeAt Go.RowKit
theorem playQuiet_law (qs : List PV) (h : TIss [.agg [.slice 1 (.int .i64), .int .u64, .int .i64, .int .i64, .int .i64], .slice 5 (.agg [.int .i64, .int .i64, .bool, .slice 5 (.agg [.int .i64, .int .i64, .int .u64, .int .u64, .int .u64]), .slice 4 (.agg [.int .i64, .int .i64, .int .u64, .int .u64])]), .int .i64] qs) : aw Tryz.prog 8 qs [.bool true] := by
 obtain ⟨_, _, rfl, i0, h0⟩ := pJ h;obtain ⟨c, rfl, k_c⟩ := GJ i0;obtain ⟨_, _, rfl, i1, h1⟩ := pJ h0;obtain ⟨l, rfl, k_l⟩ := lT (fun _ h => GH h) i1;obtain ⟨_, _, rfl, i2, h2⟩ := pJ h1;obtain ⟨t, rfl, k_t⟩ := GK i2;obtain rfl := CU h2;exact (F4 (xI yN c l t))
theorem playQuiet_lifted (os : Os) (started : os.Started) (H : Type) (enc : TypeId × Value → H) :
  ReturnsInHanded {} Tryz.checked os 8 .any (Rows.playQuietSpec.pre6 enc Tryz.prog Tryz.f8 Rows.playQuietRow.domain false) (Rows.playQuietSpec.post enc Tryz.prog Tryz.f8 false true false false) := by
 refine returnsInHanded_of_change (C := Tryz.checked) own started (by kernel_rfl) Tryz.func8
  (ChangeSpec.witness6 (enc := enc) (C := Tryz.checked) false ⟨#[], #[.agg #[.slice none 0 0, .int .u64 0, .int .i64 0, .int .i64 0, .int .i64 0], .slice none 0 0, .int .i64 0], []⟩ 8 (by kernel_rfl) (by kernel_rfl) (by kernel_rfl) (by kernel_rfl)) ?_
 intro W base args ds gs before hval hW _ _
 exact xv (d := 9) (ts := [25, 26, 3]) wC Z (by kernel_rfl) (by kernel_rfl) Z (by kernel_rfl) Tryz.underlying4
  (fun H ds hl => match ds, hl with | [d1, d2, d3], _ => ⟨rfl, rfl, rfl⟩) playQuiet_law W base args ds gs before hval hW
theorem playQuiet_closed : joinedFacts Tryz.prog 8 Tryz.f8 Rows.playQuietSpec Rows.playQuietRow = true := by
 unfold joinedFacts;rw [wC, GW, GE, mayEnter, GO, GQ]
 kernel_rfl
theorem playQuiet_holds : Rows.PlayQuietSaid :=
 OpenClaim.holds_of_wide 8 Tryz.f8 rfl rfl rfl rfl rfl rfl rfl ⟨rfl, rfl, rfl, rfl, rfl⟩ rfl rfl rfl rfl rfl (by kernel_rfl) Tryz.func8 playQuiet_closed
  (of_decide_eq_true (by kernel_rfl)) (by unfold Func.isWrapper; first | (rw [if_pos (by decide +kernel)]; kernel_rfl) | (rw [if_neg (by decide +kernel)]; exact ⟨rfl, rfl⟩))
  (fun os started H enc _ => playQuiet_lifted os started H enc)
end Go.Proofs.YtbjmcafamkdokaaGreat
