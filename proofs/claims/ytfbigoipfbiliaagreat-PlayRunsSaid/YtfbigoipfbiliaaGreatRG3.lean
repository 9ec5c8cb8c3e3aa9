/- PlayRuns: every input. Conditions: none. -/
import Derived.Test.YtfbigoipfbiliaaGreatX13
set_option maxRecDepth 100000
set_option linter.all false
namespace Go.Proofs.YtfbigoipfbiliaaGreat
open Go.Mg Go.ChangeShapes Go.WideShapes Go.ChangeAt Go.RowKit
theorem playRuns_law (qs:List PV)(h:TIss [.agg [.slice 1 (.int .i64),.int .u64,.int .i64,.int .i64,.int .i64],.slice 1 (.int .i64),.slice 5 (.agg [.int .i64,.int .i64,.bool,.slice 5 (.agg [.int .i64,.int .i64,.int .u64,.int .u64,.int .u64]),.slice 4 (.agg [.int .i64,.int .i64,.int .u64,.int .u64])]),.int .i64] qs):aq Tryz.prog 5 qs [.bool true]:=by
 obtain⟨_,_,rfl,i0,h0⟩:=rB h;obtain⟨c,rfl,k_c⟩:=Pa i0;obtain⟨_,_,rfl,i1,h1⟩:=rB h0;obtain⟨b,rfl,k_b⟩:=HJ i1;obtain⟨_,_,rfl,i2,h2⟩:=rB h1;obtain⟨l,rfl,k_l⟩:=qU (fun _ h=>O8 h) i2;obtain⟨_,_,rfl,i3,h3⟩:=rB h2;obtain⟨t,rfl,k_t⟩:=Pb i3;obtain rfl:=Ke h3;exact(Ow (Ie Gn c b l t k_l))
theorem playRuns_lifted (os:Os)(started:os.Started)(H:Type)(enc:TypeId×Value->H) :
  ReturnsInHanded {} Tryz.checked os 5 .any (Rows.playRunsSpec.pre6 enc Tryz.prog Tryz.f5 Rows.playRunsRow.domain false) (Rows.playRunsSpec.post enc Tryz.prog Tryz.f5 false true false false):=by
 refine returnsInHanded_of_change (C:=Tryz.checked) own started (by kernel_rfl) Tryz.func5
  (ChangeSpec.witness6 (enc:=enc) (C:=Tryz.checked) false ⟨#[],#[.agg #[.slice none 0 0,.int .u64 0,.int .i64 0,.int .i64 0,.int .i64 0],.slice none 0 0,.slice none 0 0,.int .i64 0],[]⟩ 8 (by kernel_rfl) (by kernel_rfl) (by kernel_rfl) (by kernel_rfl)) ?_
 intro W base args ds gs before hval hW _ _
 exact EI (d:=9) (ts:=[25,22,53,3]) DE Z (by kernel_rfl) (by kernel_rfl) Z (by kernel_rfl) Tryz.underlying4
  (fun H ds hl=>match ds,hl with|[d1,d2,d3,d4],_=>⟨rfl,rfl,rfl⟩) playRuns_law W base args ds gs before hval hW
theorem playRuns_closed :joinedFacts Tryz.prog 5 Tryz.f5 Rows.playRunsSpec Rows.playRunsRow=true:=by
 unfold joinedFacts;rw[DE,Pq,O4,mayEnter,Pf,Ph]
 kernel_rfl
theorem playRuns_holds :Rows.PlayRunsSaid:=
 OpenClaim.holds_of_wide 5 Tryz.f5 rfl rfl rfl rfl rfl rfl rfl ⟨rfl,rfl,rfl,rfl,rfl⟩ rfl rfl rfl rfl rfl (by kernel_rfl) Tryz.func5 playRuns_closed
  (of_decide_eq_true (by kernel_rfl)) (by unfold Func.isWrapper;first|(rw[if_pos (by decide +kernel)];kernel_rfl)|(rw[if_neg (by decide +kernel)];exact⟨rfl,rfl⟩))
  (fun os started H enc _=>playRuns_lifted os started H enc)
end Go.Proofs.YtfbigoipfbiliaaGreat
