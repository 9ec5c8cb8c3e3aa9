/- PlayDoes: every input. Conditions: none. -/
import Derived.Test.YtfbigoipfbiliaaGreatX13
set_option maxRecDepth 100000
set_option linter.unusedSimpArgs false
set_option linter.unusedVariables false
namespace Go.Proofs.YtfbigoipfbiliaaGreat
open Go.Mg Go.ChangeShapes Go.WideShapes Go.ChangeAt Go.RowKit
theorem playDoes_law (qs:List PV)(h:TIss [.agg [.slice 1 (.int .i64),.int .u64,.int .i64,.int .i64,.int .i64,.slice 1 (.int .i64),.int .i64,.slice 12 (.agg [.int .i64,.int .i64,.slice 5 (.agg [.int .i64,.int .i64,.int .u64,.int .u64,.int .u64]),.slice 4 (.agg [.int .i64,.int .i64,.int .u64,.int .u64]),.slice 5 (.agg [.int .i64,.int .i64,.int .u64,.int .u64,.int .u64]),.slice 4 (.agg [.int .i64,.int .i64,.int .u64,.int .u64]),.slice 9 (.agg [.int .i64,.int .i64,.int .i64,.int .i64,.int .u64,.int .u64,.int .u64,.slice 5 (.agg [.int .i64,.int .i64,.int .u64,.int .u64,.int .u64]),.slice 4 (.agg [.int .i64,.int .i64,.int .u64,.int .u64])]),.int .u64,.int .u64,.int .i64,.int .i64,.bool]),.slice 9 (.agg [.int .i64,.int .i64,.int .i64,.int .i64,.int .u64,.int .u64,.int .u64,.slice 5 (.agg [.int .i64,.int .i64,.int .u64,.int .u64,.int .u64]),.slice 4 (.agg [.int .i64,.int .i64,.int .u64,.int .u64])])],.slice 5 (.agg [.int .i64,.int .i64,.bool,.slice 5 (.agg [.int .i64,.int .i64,.int .u64,.int .u64,.int .u64]),.slice 4 (.agg [.int .i64,.int .i64,.int .u64,.int .u64])])] qs):aq Tryz.prog 4 qs [.bool true]:=by
 obtain⟨_,_,rfl,i0,h0⟩:=AC h;obtain⟨w,rfl,k_w⟩:=Oj i0;obtain⟨_,_,rfl,i1,h1⟩:=AC h0;obtain⟨l,rfl,k_l⟩:=d4 (fun _ h=>Oh h) i1;obtain rfl:=Jr h1;exact(NF (Hv FJ w l k_w k_l))
theorem playDoes_lifted (os:Os)(started:os.Started)(H:Type)(enc:TypeId×Value->H) :
  ReturnsInHanded {} Tryz.checked os 4 .any (Rows.playDoesSpec.pre6 enc Tryz.prog Tryz.f4 Rows.playDoesRow.domain false) (Rows.playDoesSpec.post enc Tryz.prog Tryz.f4 false true false false):=by
 refine returnsInHanded_of_change (C:=Tryz.checked) own started (by kernel_rfl) Tryz.func4
  (ChangeSpec.witness6 (enc:=enc) (C:=Tryz.checked) false ⟨#[],#[.agg #[.slice none 0 0,.int .u64 0,.int .i64 0,.int .i64 0,.int .i64 0,.slice none 0 0,.int .i64 0,.slice none 0 0,.slice none 0 0],.slice none 0 0],[]⟩ 8 (by kernel_rfl) (by kernel_rfl) (by kernel_rfl) (by kernel_rfl)) ?_
 intro W base args ds gs before hval hW _ _
 exact D5 (d:=14) (ts:=[52,53]) C3 Z (by kernel_rfl) (by kernel_rfl) Z (by kernel_rfl) Tryz.underlying4
  (fun H ds hl=>match ds,hl with|[d1,d2],_=>⟨rfl,rfl,rfl⟩) playDoes_law W base args ds gs before hval hW
theorem playDoes_closed :joinedFacts Tryz.prog 4 Tryz.f4 Rows.playDoesSpec Rows.playDoesRow=true:=by
 unfold joinedFacts;rw[C3,Ox,Oc,mayEnter,Om,Oo]
 kernel_rfl
theorem playDoes_holds :Rows.PlayDoesSaid:=
 OpenClaim.holds_of_wide 4 Tryz.f4 rfl rfl rfl rfl rfl rfl rfl ⟨rfl,rfl,rfl,rfl,rfl⟩ rfl rfl rfl rfl rfl (by kernel_rfl) Tryz.func4 playDoes_closed
  (of_decide_eq_true (by kernel_rfl)) (by unfold Func.isWrapper;first|(rw[if_pos (by decide +kernel)];kernel_rfl)|(rw[if_neg (by decide +kernel)];exact⟨rfl,rfl⟩))
  (fun os started H enc _=>playDoes_lifted os started H enc)
end Go.Proofs.YtfbigoipfbiliaaGreat
