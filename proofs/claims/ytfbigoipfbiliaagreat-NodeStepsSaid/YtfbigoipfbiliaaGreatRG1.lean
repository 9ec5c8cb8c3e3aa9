/- NodeSteps: every input. Conditions: none. -/
import Derived.Test.YtfbigoipfbiliaaGreatX12
import Derived.Test.YtfbigoipfbiliaaGreatX2
set_option maxRecDepth 100000
set_option linter.unusedSimpArgs false
set_option linter.unusedVariables false
namespace Go.Proofs.YtfbigoipfbiliaaGreat
open Go.Mg Go.ChangeShapes Go.WideShapes Go.ChangeAt Go.RowKit
theorem nodeSteps_law (qs:List PV)(h:TIss [.agg [.slice 1 (.int .i64),.int .u64,.int .i64,.int .i64,.int .i64],.agg [.int .i64,.int .i64,.slice 5 (.agg [.int .i64,.int .i64,.int .u64,.int .u64,.int .u64]),.slice 4 (.agg [.int .i64,.int .i64,.int .u64,.int .u64]),.slice 5 (.agg [.int .i64,.int .i64,.int .u64,.int .u64,.int .u64]),.slice 4 (.agg [.int .i64,.int .i64,.int .u64,.int .u64]),.slice 9 (.agg [.int .i64,.int .i64,.int .i64,.int .i64,.int .u64,.int .u64,.int .u64,.slice 5 (.agg [.int .i64,.int .i64,.int .u64,.int .u64,.int .u64]),.slice 4 (.agg [.int .i64,.int .i64,.int .u64,.int .u64])]),.int .u64,.int .u64,.int .i64,.int .i64,.bool],.agg [.slice 5 (.agg [.int .i64,.int .i64,.int .u64,.int .u64,.int .u64]),.slice 4 (.agg [.int .i64,.int .i64,.int .u64,.int .u64])],.slice 9 (.agg [.int .i64,.int .i64,.int .i64,.int .i64,.int .u64,.int .u64,.int .u64,.slice 5 (.agg [.int .i64,.int .i64,.int .u64,.int .u64,.int .u64]),.slice 4 (.agg [.int .i64,.int .i64,.int .u64,.int .u64])])] qs):ar Tryz.prog 3 qs [.bool true]:=by
 obtain⟨_,_,rfl,i0,h0⟩:=oQ h;obtain⟨c,rfl,k_c⟩:=J0 i0;obtain⟨_,_,rfl,i1,h1⟩:=oQ h0;obtain⟨n,rfl,k_n⟩:=J1 i1;obtain⟨_,_,rfl,i2,h2⟩:=oQ h1;obtain⟨i,rfl,k_i⟩:=J2 i2;obtain⟨_,_,rfl,i3,h3⟩:=oQ h2;obtain⟨o,rfl,k_o⟩:=ed (fun _ h=>F2 h) i3;obtain rfl:=Fq h3;exact(I0 (AI BV c n i o k_n k_i k_o))
theorem nodeSteps_lifted (os:Os)(started:os.Started)(H:Type)(enc:TypeId×Value→H) :
  ReturnsInHanded {} Tryz.checked os 3 .any (Rows.nodeStepsSpec.pre6 enc Tryz.prog Tryz.f3 Rows.nodeStepsRow.domain false) (Rows.nodeStepsSpec.post enc Tryz.prog Tryz.f3 false true false false):=by
 refine returnsInHanded_of_change (C:=Tryz.checked) own started (by kernel_rfl) Tryz.func3
  (ChangeSpec.witness6 (enc:=enc) (C:=Tryz.checked) false ⟨#[],#[.agg #[.slice none 0 0,.int .u64 0,.int .i64 0,.int .i64 0,.int .i64 0],.agg #[.int .i64 0,.int .i64 0,.slice none 0 0,.slice none 0 0,.slice none 0 0,.slice none 0 0,.slice none 0 0,.int .u64 0,.int .u64 0,.int .i64 0,.int .i64 0,.bool false],.agg #[.slice none 0 0,.slice none 0 0],.slice none 0 0],[]⟩ 8 (by kernel_rfl) (by kernel_rfl) (by kernel_rfl) (by kernel_rfl)) ?_
 intro W base args ds gs before hval hW _ _
 exact AC (d:=9) (ts:=[25,36,29,30]) yQ Z (by kernel_rfl) (by kernel_rfl) Z (by kernel_rfl) Tryz.underlying4
  (fun H ds hl=>match ds,hl with|[d1,d2,d3,d4],_=>⟨rfl,rfl,rfl⟩) nodeSteps_law W base args ds gs before hval hW
theorem nodeSteps_closed :joinedFacts Tryz.prog 3 Tryz.f3 Rows.nodeStepsSpec Rows.nodeStepsRow=true:=by
 unfold joinedFacts;rw[yQ,Kd,JV,mayEnter,J5,J7]
 kernel_rfl
theorem nodeSteps_holds :Rows.NodeStepsSaid:=
 OpenClaim.holds_of_wide 3 Tryz.f3 rfl rfl rfl rfl rfl rfl rfl ⟨rfl,rfl,rfl,rfl,rfl⟩ rfl rfl rfl rfl rfl (by kernel_rfl) Tryz.func3 nodeSteps_closed
  (of_decide_eq_true (by kernel_rfl)) (by unfold Func.isWrapper;first|(rw[if_pos (by decide +kernel)];kernel_rfl)|(rw[if_neg (by decide +kernel)];exact⟨rfl,rfl⟩))
  (fun os started H enc _=>nodeSteps_lifted os started H enc)
end Go.Proofs.YtfbigoipfbiliaaGreat
