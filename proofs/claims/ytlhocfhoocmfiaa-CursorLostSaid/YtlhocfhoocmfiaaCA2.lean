/- mix.Of. Conditions: none. -/
import Derived.Test.YtlhocfhoocmfiaaCA1
namespace Go.Mg
open Go.Proofs

/-- A word more. -/
def mixStep (p : Int × Int) (x : Int) : Int × Int := (step p.1 x, step p.2 (inv x))
/-- What mix.Of tells of words. -/
def mixOf (l : List Int) : Int × Int := mixStep (l.foldl mixStep (1, 2)) (IntKind.u64.wrap l.length)
def idP (p : Int × Int) : PV := .agg [.int .u64 p.1, .int .u64 p.2]
def wordP (x : Int) : PV := .int .u64 x

set_option maxRecDepth 100000 in
theorem c99 {l : List Int} : LPure Try.prog 99 [.slice 1 (l.map wordP)] [idP (mixOf l)] := by
  refine LPure.start Try.func99 rfl rfl rfl rfl ?_
  refine LW.seq ?_
  refine LW.ok (t := 0) rfl (fun ok => ?_)
  have hlen := ok.len
  simp only [List.length_map, maxLen] at hlen
  refine LW.region ?_
  refine LOps.st rfl rfl rfl (LOp.alloc rfl zt24 rfl rfl) ?_
  refine LOps.nil ?_
  refine thn_n ?_
  refine LW.seq ?_
  refine LW.region ?_
  refine LOps.st rfl rfl rfl (LOp.build rfl bt24 rfl rfl rfl) ?_
  refine LOps.st rfl rfl rfl (LOp.alloc rfl zt24 rfl rfl) ?_
  refine LOps.st rfl rfl rfl (LOp.store rfl rfl rfl rfl vt24 rfl rfl rfl rfl) ?_
  refine LOps.nil ?_
  refine thn_n ?_
  refine LW.seq ?_
  refine LW.region ?_
  refine LOps.st rfl rfl rfl (LOp.makeFunc rfl rfl rfl) ?_
  refine LOps.st rfl rfl rfl (LOp.assign rfl rfl) ?_
  refine LOps.nil ?_
  refine thn_n ?_
  refine LW.seq ?_
  refine LW.seq ?_
  refine LW.region ?_
  refine LOps.st rfl rfl rfl (LOp.move rfl rfl) ?_
  refine LOps.st rfl rfl rfl (LOp.len rfl rfl (by kernel_rfl)) ?_
  refine LOps.st rfl rfl rfl (LOp.move rfl rfl) ?_
  refine LOps.nil ?_
  refine thn_n ?_
  refine LW.block ?_
  refine LW.loopOf (E := fun x : Nat × Int × Int => [(0, .p (.slice 1 (l.map wordP))), (2, .ptr 0 0), (3, .ptr 1 0), (4, .fn 143 [] [.ptr 1 0]), (9, .p (.slice 1 (l.map wordP))), (10, .p (.int .i64 (l.map wordP).length)), (11, .p (.int .i64 (x.1 : Nat)))]) (O := fun x => [.box [.p (.int .u64 0), .p (.int .u64 0)], .box [.p (.int .u64 x.2.1), .p (.int .u64 x.2.2)]]) (G := fun x => x.1 ≤ l.length ∧ x.2 = (l.take x.1).foldl mixStep (1, 2)) (meas := fun x => l.length - x.1) (0, 1, 2) (Weak.of 2 ⟨rfl, rfl, rfl, rfl, rfl, rfl, rfl, trivial⟩ rfl rfl rfl rfl) ⟨Nat.zero_le _, rfl⟩ (fun x hx => ?_)
  refine LW.seq ?_
  refine LW.region ?_
  refine LOps.st rfl rfl rfl (LOp.bin rfl rfl rfl rfl) ?_
  refine LOps.nil ?_
  refine thn_n ?_
  refine LW.seq ?_
  refine LW.cond rfl (fun g1 => ?_) (fun g1 => ?_)
  · -- g1 is True
    refine LW.skip ?_
    refine thn_n ?_
    refine LW.seq ?_
    refine LW.block ?_
    refine LW.seq ?_
    have hlt : x.1 < l.length := by simpa using g1
    obtain ⟨y, hy⟩ := list_get hlt
    refine LW.region ?_
    refine LOps.st rfl rfl rfl (LOp.indexAddr rfl rfl rfl st98 (by omega) (map_get hy) rfl) ?_
    refine LOps.st rfl rfl rfl (LOp.loadC rfl rfl rfl vt22 rfl rfl) ?_
    refine LOps.st rfl rfl rfl (LOp.assign rfl rfl) ?_
    refine LOps.nil ?_
    refine thn_n ?_
    refine LW.region ?_
    refine LOps.st rfl rfl rfl (LOp.move rfl rfl) ?_
    refine LOps.st rfl rfl rfl (LOp.move rfl rfl) ?_
    refine LOps.st rfl rfl rfl (LOp.call rfl rfl rfl (by kernel_rfl) (c143 (id := 1) rfl rfl)) ?_
    refine LOps.nil ?_
    refine inBlk_n ?_
    refine thn_n ?_
    refine LW.region ?_
    refine LOps.st rfl rfl rfl (LOp.isEq (y := .p (.int .i64 ((x.1 + 1 : Nat) : Int))) (LOp.bin rfl rfl rfl rfl) (by rw [wrapI (by omega) (by omega)]; rfl)) ?_
    refine LOps.st rfl rfl rfl (LOp.move rfl rfl) ?_
    refine LOps.nil ?_
    refine thn_n ?_
    refine ⟨(x.1 + 1, mixStep x.2 y), ?_, ?_, Weak.of 2 ⟨rfl, rfl, rfl, rfl, rfl, rfl, rfl, trivial⟩ rfl rfl rfl rfl⟩
    · simp only; omega
    · refine ⟨hlt, ?_⟩; rw [List.take_add_one, hy, List.foldl_append, ← hx.2]; rfl
  · -- g1 is False
    refine LW.exit ?_
    refine thn_e ?_
    refine thn_e ?_
    refine inBlk_self ?_
    refine thn_n ?_
    refine LW.seq ?_
    have hnlt : ¬ x.1 < l.length := by simpa using g1
    have hend : x.1 = l.length := by omega
    have hfold : x.2 = l.foldl mixStep (1, 2) := by rw [hx.2, hend, List.take_length]
    refine LW.region ?_
    refine LOps.st rfl rfl rfl (LOp.move rfl rfl) ?_
    refine LOps.st rfl rfl rfl (LOp.move rfl rfl) ?_
    refine LOps.st rfl rfl rfl (LOp.len rfl rfl (by kernel_rfl)) ?_
    refine LOps.st rfl rfl rfl (LOp.convert (k' := .u64) rfl rfl (by kernel_rfl)) ?_
    refine LOps.st rfl rfl rfl (LOp.call rfl rfl rfl (by kernel_rfl) (c143 (id := 1) rfl rfl)) ?_
    refine LOps.nil ?_
    refine thn_n ?_
    refine LW.seq ?_
    refine LW.region ?_
    refine LOps.st rfl rfl rfl (LOp.load rfl rfl rfl vt24 rfl rfl) ?_
    refine LOps.st rfl rfl rfl (LOp.store rfl rfl rfl rfl vt24 rfl rfl rfl rfl) ?_
    refine LOps.nil ?_
    refine thn_n ?_
    refine LW.ret ?_
    refine finP_ret (.one (.cellAgg rfl rfl (by kernel_rfl) rfl)) ?_
    refine Conv.pe ?_
    simp only [List.length_map, idP, mixOf, ← hfold]
    rfl

end Go.Mg
