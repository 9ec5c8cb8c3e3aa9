/- NetClash: every input. Conditions: none. -/
import Derived.Test.YtabjakfgaodocaaGreatX9
import Derived.Test.YtabjakfgaodocaaGreatX10
import Derived.Test.YtabjakfgaodocaaGreatX2
namespace Go.Proofs.YtabjakfgaodocaaGreat
open Go.Mg Go.ChangeShapes Go.WideShapes Go.ChangeAt Go.RowKit
theorem netClash_law (qs : List PV) (h : TIss [.slice 5 (.agg [.int .i64, .int .i64, .int .u64, .int .u64, .int .u64]), .int .i64] qs) : LPure Tryz.prog 9 qs [.bool true] := by
  obtain ⟨_, _, rfl, i0, h0⟩ := tissCons h
  obtain ⟨l, rfl, k_l⟩ := isSliceO (fun _ h => isBkO h) i0
  obtain ⟨_, _, rfl, i1, h1⟩ := tissCons h0
  obtain ⟨k, rfl, k_k⟩ := isInt i1
  obtain rfl := tissNil h1
  exact (c3009 (netClash F3029_eq l k))
set_option maxRecDepth 100000 in
theorem netClash_lifted (os : Os) (started : os.Started) (H : Type) (enc : TypeId × Value → H) :
    ReturnsInHanded {} Tryz.checked os 9 .any (Rows.netClashSpec.pre6 enc Tryz.prog Tryz.f9 Rows.netClashRow.domain false) (Rows.netClashSpec.post enc Tryz.prog Tryz.f9 false true false false) := by
  refine returnsInHanded_of_change (C := Tryz.checked) own started (by kernel_rfl) Tryz.func9
    (ChangeSpec.witness6 (enc := enc) (C := Tryz.checked) false ⟨#[], #[.slice none 0 0, .int .i64 0], []⟩ 8 (by kernel_rfl) (by kernel_rfl) (by kernel_rfl) (by kernel_rfl)) ?_
  intro W base args ds gs before hval hW _ _
  exact law_calls (d := 9) (ts := [26, 3]) laidOut rfl (by kernel_rfl) (by kernel_rfl) rfl (by kernel_rfl) Tryz.underlying4
    (fun H ds hl => match ds, hl with | [d1, d2], _ => ⟨rfl, rfl, rfl⟩) netClash_law W base args ds gs before hval hW
theorem netClash_closed : joinedFacts Tryz.prog 9 Tryz.f9 Rows.netClashSpec Rows.netClashRow = true := by
  unfold joinedFacts
  rw [laidOut, rowed, heard, mayEnter, lifts, makes]
  kernel_rfl
theorem netClash_holds : Rows.NetClashSaid :=
  OpenClaim.holds_of_wide 9 Tryz.f9 rfl rfl rfl rfl rfl rfl rfl ⟨rfl, rfl, rfl, rfl, rfl⟩ rfl rfl rfl rfl rfl (by kernel_rfl) Tryz.func9 netClash_closed
    (of_decide_eq_true (by kernel_rfl)) (by unfold Func.isWrapper; first | (rw [if_pos (by decide +kernel)]; kernel_rfl) | (rw [if_neg (by decide +kernel)]; exact ⟨rfl, rfl⟩))
    (fun os started H enc _ => netClash_lifted os started H enc)
end Go.Proofs.YtabjakfgaodocaaGreat
