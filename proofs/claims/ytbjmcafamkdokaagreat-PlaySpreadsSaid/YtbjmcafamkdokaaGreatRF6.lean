/- PlaySpreads: every input. Conditions: none. -/
import Derived.Test.YtbjmcafamkdokaaGreatX10
import Derived.Test.YtbjmcafamkdokaaGreatX2
set_option maxRecDepth 100000
set_option linter.unusedSimpArgs false
set_option linter.unusedVariables false
namespace Go.Proofs.YtbjmcafamkdokaaGreat
open Go.Mg Go.ChangeShapes Go.WideShapes Go.ChangeAt Go.RowKit
theorem playSpreads_law (qs : List PV) (h : TIss [.agg [.slice 1 (.int .i64), .int .u64, .int .i64, .int .i64, .int .i64], .slice 1 (.int .i64), .slice 5 (.agg [.int .i64, .int .i64, .bool, .slice 5 (.agg [.int .i64, .int .i64, .int .u64, .int .u64, .int .u64]), .slice 4 (.agg [.int .i64, .int .i64, .int .u64, .int .u64])]), .int .i64] qs) : az Tryz.prog 11 qs [.bool true] := by
 obtain ⟨_, _, rfl, i0, h0⟩ := mM h;obtain ⟨c, rfl, k_c⟩ := HC i0;obtain ⟨_, _, rfl, i1, h1⟩ := mM h0;obtain ⟨b, rfl, k_b⟩ := Bu i1;obtain ⟨_, _, rfl, i2, h2⟩ := mM h1;obtain ⟨l, rfl, k_l⟩ := mm (fun _ h => HA h) i2;obtain ⟨_, _, rfl, i3, h3⟩ := mM h2;obtain ⟨t, rfl, k_t⟩ := HD i3;obtain rfl := DE h3;exact (GS (uB Aq c b l t))
theorem playSpreads_lifted (os : Os) (started : os.Started) (H : Type) (enc : TypeId × Value → H) :
  ReturnsInHanded {} Tryz.checked os 11 .any (Rows.playSpreadsSpec.pre6 enc Tryz.prog Tryz.f11 Rows.playSpreadsRow.domain false) (Rows.playSpreadsSpec.post enc Tryz.prog Tryz.f11 false true false false) := by
 refine returnsInHanded_of_change (C := Tryz.checked) own started (by kernel_rfl) Tryz.func11
  (ChangeSpec.witness6 (enc := enc) (C := Tryz.checked) false ⟨#[], #[.agg #[.slice none 0 0, .int .u64 0, .int .i64 0, .int .i64 0, .int .i64 0], .slice none 0 0, .slice none 0 0, .int .i64 0], []⟩ 8 (by kernel_rfl) (by kernel_rfl) (by kernel_rfl) (by kernel_rfl)) ?_
 intro W base args ds gs before hval hW _ _
 exact yi (d := 9) (ts := [25, 22, 26, 3]) xn Z (by kernel_rfl) (by kernel_rfl) Z (by kernel_rfl) Tryz.underlying4
  (fun H ds hl => match ds, hl with | [d1, d2, d3, d4], _ => ⟨rfl, rfl, rfl⟩) playSpreads_law W base args ds gs before hval hW
theorem playSpreads_closed : joinedFacts Tryz.prog 11 Tryz.f11 Rows.playSpreadsSpec Rows.playSpreadsRow = true := by
 unfold joinedFacts;rw [xn, HQ, Hx, mayEnter, HI, HK]
 kernel_rfl
theorem playSpreads_holds : Rows.PlaySpreadsSaid :=
 OpenClaim.holds_of_wide 11 Tryz.f11 rfl rfl rfl rfl rfl rfl rfl ⟨rfl, rfl, rfl, rfl, rfl⟩ rfl rfl rfl rfl rfl (by kernel_rfl) Tryz.func11 playSpreads_closed
  (of_decide_eq_true (by kernel_rfl)) (by unfold Func.isWrapper; first | (rw [if_pos (by decide +kernel)]; kernel_rfl) | (rw [if_neg (by decide +kernel)]; exact ⟨rfl, rfl⟩))
  (fun os started H enc _ => playSpreads_lifted os started H enc)
end Go.Proofs.YtbjmcafamkdokaaGreat
