/- Laws of the shuffle: every input. Conditions: none. -/
import Derived.Test.YtlhocfhoocmfiaaS2
import Derived.Test.YtlhocfhoocmfiaaEn
import Derived.Test.YtlhocfhoocmfiaaL2
namespace Go.Proofs.Ytlhocfhoocmfiaa
open Go.Mg Go.ChangeShapes Go.WideShapes Go.ChangeAt Go.RowKit

theorem shuffleTells_law (qs : List PV) (h : TIss [.int .u64, .int .i64, .int .i64] qs) : LPure Try.prog 16 qs [.bool true] := by
  obtain ⟨_, _, rfl, i0, h0⟩ := tissCons h
  obtain ⟨seed, rfl, k_seed⟩ := isInt i0
  obtain ⟨_, _, rfl, i1, h1⟩ := tissCons h0
  obtain ⟨n, rfl, k_n⟩ := isInt i1
  obtain ⟨_, _, rfl, i2, h2⟩ := tissCons h1
  obtain ⟨i, rfl, k_i⟩ := isInt i2
  obtain rfl := tissNil h2
  exact (c16 (shTells seed n i))

set_option maxRecDepth 100000 in
theorem shuffleTells_lifted (os : Os) (started : os.Started) (H : Type) (enc : TypeId × Value → H) :
    ReturnsInHanded {} Try.checked os 16 .any (Rows.shuffleTellsSpec.pre6 enc Try.prog Try.f16 Rows.shuffleTellsRow.domain false) (Rows.shuffleTellsSpec.post enc Try.prog Try.f16 false true false false) := by
  refine returnsInHanded_of_change (C := Try.checked) own started (by kernel_rfl) Try.func16
    (ChangeSpec.witness6 (enc := enc) (C := Try.checked) false ⟨#[], #[.int .u64 0, .int .i64 0, .int .i64 0], []⟩ 8 (by kernel_rfl) (by kernel_rfl) (by kernel_rfl) (by kernel_rfl)) ?_
  intro W base args ds gs before hval hW _ _
  exact law_calls (d := 9) (ts := [22, 3, 3]) laidOut rfl (by kernel_rfl) (by kernel_rfl) rfl (by kernel_rfl) Try.underlying4
    (fun H ds hl => match ds, hl with | [d1, d2, d3], _ => ⟨rfl, rfl, rfl⟩) shuffleTells_law W base args ds gs before hval hW

theorem shuffleTells_closed : joinedFacts Try.prog 16 Try.f16 Rows.shuffleTellsSpec Rows.shuffleTellsRow = true := by
  unfold joinedFacts
  rw [laidOut, rowed, heard, mayEnter, lifts, makes]
  kernel_rfl

theorem shuffleTells_holds : Rows.ShuffleTellsSaid :=
  OpenClaim.holds_of_wide 16 Try.f16 rfl rfl rfl rfl rfl rfl rfl ⟨rfl, rfl, rfl, rfl, rfl⟩ rfl rfl rfl rfl rfl (by kernel_rfl) Try.func16 shuffleTells_closed
    (of_decide_eq_true (by kernel_rfl)) (by unfold Func.isWrapper; first | (rw [if_pos (by decide +kernel)]; kernel_rfl) | (rw [if_neg (by decide +kernel)]; exact ⟨rfl, rfl⟩))
    (fun os started H enc _ => shuffleTells_lifted os started H enc)

theorem shuffleBack_law (qs : List PV) (h : TIss [.int .u64, .int .i64, .int .i64] qs) : LPure Try.prog 17 qs [.bool true] := by
  obtain ⟨_, _, rfl, i0, h0⟩ := tissCons h
  obtain ⟨seed, rfl, k_seed⟩ := isInt i0
  obtain ⟨_, _, rfl, i1, h1⟩ := tissCons h0
  obtain ⟨n, rfl, k_n⟩ := isInt i1
  obtain ⟨_, _, rfl, i2, h2⟩ := tissCons h1
  obtain ⟨i, rfl, k_i⟩ := isInt i2
  obtain rfl := tissNil h2
  exact (c17 (shBack seed n i))

set_option maxRecDepth 100000 in
theorem shuffleBack_lifted (os : Os) (started : os.Started) (H : Type) (enc : TypeId × Value → H) :
    ReturnsInHanded {} Try.checked os 17 .any (Rows.shuffleBackSpec.pre6 enc Try.prog Try.f17 Rows.shuffleBackRow.domain false) (Rows.shuffleBackSpec.post enc Try.prog Try.f17 false true false false) := by
  refine returnsInHanded_of_change (C := Try.checked) own started (by kernel_rfl) Try.func17
    (ChangeSpec.witness6 (enc := enc) (C := Try.checked) false ⟨#[], #[.int .u64 0, .int .i64 0, .int .i64 0], []⟩ 8 (by kernel_rfl) (by kernel_rfl) (by kernel_rfl) (by kernel_rfl)) ?_
  intro W base args ds gs before hval hW _ _
  exact law_calls (d := 9) (ts := [22, 3, 3]) laidOut rfl (by kernel_rfl) (by kernel_rfl) rfl (by kernel_rfl) Try.underlying4
    (fun H ds hl => match ds, hl with | [d1, d2, d3], _ => ⟨rfl, rfl, rfl⟩) shuffleBack_law W base args ds gs before hval hW

theorem shuffleBack_closed : joinedFacts Try.prog 17 Try.f17 Rows.shuffleBackSpec Rows.shuffleBackRow = true := by
  unfold joinedFacts
  rw [laidOut, rowed, heard, mayEnter, lifts, makes]
  kernel_rfl

theorem shuffleBack_holds : Rows.ShuffleBackSaid :=
  OpenClaim.holds_of_wide 17 Try.f17 rfl rfl rfl rfl rfl rfl rfl ⟨rfl, rfl, rfl, rfl, rfl⟩ rfl rfl rfl rfl rfl (by kernel_rfl) Try.func17 shuffleBack_closed
    (of_decide_eq_true (by kernel_rfl)) (by unfold Func.isWrapper; first | (rw [if_pos (by decide +kernel)]; kernel_rfl) | (rw [if_neg (by decide +kernel)]; exact ⟨rfl, rfl⟩))
    (fun os started H enc _ => shuffleBack_lifted os started H enc)

theorem shuffleOnly_law (qs : List PV) (h : TIss [.int .u64, .int .i64] qs) : LPure Try.prog 18 qs [.bool true] := by
  obtain ⟨_, _, rfl, i0, h0⟩ := tissCons h
  obtain ⟨seed, rfl, k_seed⟩ := isInt i0
  obtain ⟨_, _, rfl, i1, h1⟩ := tissCons h0
  obtain ⟨n, rfl, k_n⟩ := isInt i1
  obtain rfl := tissNil h1
  exact (c18 (shOnly seed n))

set_option maxRecDepth 100000 in
theorem shuffleOnly_lifted (os : Os) (started : os.Started) (H : Type) (enc : TypeId × Value → H) :
    ReturnsInHanded {} Try.checked os 18 .any (Rows.shuffleOnlySpec.pre6 enc Try.prog Try.f18 Rows.shuffleOnlyRow.domain false) (Rows.shuffleOnlySpec.post enc Try.prog Try.f18 false true false false) := by
  refine returnsInHanded_of_change (C := Try.checked) own started (by kernel_rfl) Try.func18
    (ChangeSpec.witness6 (enc := enc) (C := Try.checked) false ⟨#[], #[.int .u64 0, .int .i64 0], []⟩ 8 (by kernel_rfl) (by kernel_rfl) (by kernel_rfl) (by kernel_rfl)) ?_
  intro W base args ds gs before hval hW _ _
  exact law_calls (d := 9) (ts := [22, 3]) laidOut rfl (by kernel_rfl) (by kernel_rfl) rfl (by kernel_rfl) Try.underlying4
    (fun H ds hl => match ds, hl with | [d1, d2], _ => ⟨rfl, rfl, rfl⟩) shuffleOnly_law W base args ds gs before hval hW

theorem shuffleOnly_closed : joinedFacts Try.prog 18 Try.f18 Rows.shuffleOnlySpec Rows.shuffleOnlyRow = true := by
  unfold joinedFacts
  rw [laidOut, rowed, heard, mayEnter, lifts, makes]
  kernel_rfl

theorem shuffleOnly_holds : Rows.ShuffleOnlySaid :=
  OpenClaim.holds_of_wide 18 Try.f18 rfl rfl rfl rfl rfl rfl rfl ⟨rfl, rfl, rfl, rfl, rfl⟩ rfl rfl rfl rfl rfl (by kernel_rfl) Try.func18 shuffleOnly_closed
    (of_decide_eq_true (by kernel_rfl)) (by unfold Func.isWrapper; first | (rw [if_pos (by decide +kernel)]; kernel_rfl) | (rw [if_neg (by decide +kernel)]; exact ⟨rfl, rfl⟩))
    (fun os started H enc _ => shuffleOnly_lifted os started H enc)

theorem shuffleSums_law (qs : List PV) (h : TIss [.int .u64, .int .i64] qs) : LPure Try.prog 19 qs [.bool true] := by
  obtain ⟨_, _, rfl, i0, h0⟩ := tissCons h
  obtain ⟨seed, rfl, k_seed⟩ := isInt i0
  obtain ⟨_, _, rfl, i1, h1⟩ := tissCons h0
  obtain ⟨n, rfl, k_n⟩ := isInt i1
  obtain rfl := tissNil h1
  exact (c19 (shSums seed n))

set_option maxRecDepth 100000 in
theorem shuffleSums_lifted (os : Os) (started : os.Started) (H : Type) (enc : TypeId × Value → H) :
    ReturnsInHanded {} Try.checked os 19 .any (Rows.shuffleSumsSpec.pre6 enc Try.prog Try.f19 Rows.shuffleSumsRow.domain false) (Rows.shuffleSumsSpec.post enc Try.prog Try.f19 false true false false) := by
  refine returnsInHanded_of_change (C := Try.checked) own started (by kernel_rfl) Try.func19
    (ChangeSpec.witness6 (enc := enc) (C := Try.checked) false ⟨#[], #[.int .u64 0, .int .i64 0], []⟩ 8 (by kernel_rfl) (by kernel_rfl) (by kernel_rfl) (by kernel_rfl)) ?_
  intro W base args ds gs before hval hW _ _
  exact law_calls (d := 9) (ts := [22, 3]) laidOut rfl (by kernel_rfl) (by kernel_rfl) rfl (by kernel_rfl) Try.underlying4
    (fun H ds hl => match ds, hl with | [d1, d2], _ => ⟨rfl, rfl, rfl⟩) shuffleSums_law W base args ds gs before hval hW

theorem shuffleSums_closed : joinedFacts Try.prog 19 Try.f19 Rows.shuffleSumsSpec Rows.shuffleSumsRow = true := by
  unfold joinedFacts
  rw [laidOut, rowed, heard, mayEnter, lifts, makes]
  kernel_rfl

theorem shuffleSums_holds : Rows.ShuffleSumsSaid :=
  OpenClaim.holds_of_wide 19 Try.f19 rfl rfl rfl rfl rfl rfl rfl ⟨rfl, rfl, rfl, rfl, rfl⟩ rfl rfl rfl rfl rfl (by kernel_rfl) Try.func19 shuffleSums_closed
    (of_decide_eq_true (by kernel_rfl)) (by unfold Func.isWrapper; first | (rw [if_pos (by decide +kernel)]; kernel_rfl) | (rw [if_neg (by decide +kernel)]; exact ⟨rfl, rfl⟩))
    (fun os started H enc _ => shuffleSums_lifted os started H enc)

theorem shuffleAll_law (qs : List PV) (h : TIss [.int .u64, .int .i64, .int .i64] qs) : LPure Try.prog 20 qs [.bool true] := by
  obtain ⟨_, _, rfl, i0, h0⟩ := tissCons h
  obtain ⟨seed, rfl, k_seed⟩ := isInt i0
  obtain ⟨_, _, rfl, i1, h1⟩ := tissCons h0
  obtain ⟨n, rfl, k_n⟩ := isInt i1
  obtain ⟨_, _, rfl, i2, h2⟩ := tissCons h1
  obtain ⟨i, rfl, k_i⟩ := isInt i2
  obtain rfl := tissNil h2
  exact (c20 (shAll seed n i))

set_option maxRecDepth 100000 in
theorem shuffleAll_lifted (os : Os) (started : os.Started) (H : Type) (enc : TypeId × Value → H) :
    ReturnsInHanded {} Try.checked os 20 .any (Rows.shuffleAllSpec.pre6 enc Try.prog Try.f20 Rows.shuffleAllRow.domain false) (Rows.shuffleAllSpec.post enc Try.prog Try.f20 false true false false) := by
  refine returnsInHanded_of_change (C := Try.checked) own started (by kernel_rfl) Try.func20
    (ChangeSpec.witness6 (enc := enc) (C := Try.checked) false ⟨#[], #[.int .u64 0, .int .i64 0, .int .i64 0], []⟩ 8 (by kernel_rfl) (by kernel_rfl) (by kernel_rfl) (by kernel_rfl)) ?_
  intro W base args ds gs before hval hW _ _
  exact law_calls (d := 9) (ts := [22, 3, 3]) laidOut rfl (by kernel_rfl) (by kernel_rfl) rfl (by kernel_rfl) Try.underlying4
    (fun H ds hl => match ds, hl with | [d1, d2, d3], _ => ⟨rfl, rfl, rfl⟩) shuffleAll_law W base args ds gs before hval hW

theorem shuffleAll_closed : joinedFacts Try.prog 20 Try.f20 Rows.shuffleAllSpec Rows.shuffleAllRow = true := by
  unfold joinedFacts
  rw [laidOut, rowed, heard, mayEnter, lifts, makes]
  kernel_rfl

theorem shuffleAll_holds : Rows.ShuffleAllSaid :=
  OpenClaim.holds_of_wide 20 Try.f20 rfl rfl rfl rfl rfl rfl rfl ⟨rfl, rfl, rfl, rfl, rfl⟩ rfl rfl rfl rfl rfl (by kernel_rfl) Try.func20 shuffleAll_closed
    (of_decide_eq_true (by kernel_rfl)) (by unfold Func.isWrapper; first | (rw [if_pos (by decide +kernel)]; kernel_rfl) | (rw [if_neg (by decide +kernel)]; exact ⟨rfl, rfl⟩))
    (fun os started H enc _ => shuffleAll_lifted os started H enc)

end Go.Proofs.Ytlhocfhoocmfiaa
