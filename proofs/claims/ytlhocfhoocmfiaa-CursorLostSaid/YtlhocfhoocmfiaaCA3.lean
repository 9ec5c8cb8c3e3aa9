/- tree.Name, slices.Index, slices.Contains. Conditions: none. -/
import Derived.Test.YtlhocfhoocmfiaaCA2
namespace Go.Mg
open Go.Proofs

/-- A block: slot, from, parent's two words, salt. -/
structure Bk where
  s : Int
  f : Int
  a : Int
  b : Int
  t : Int
abbrev ID := Int × Int
def blkP (b : Bk) : PV := .agg [.int .i64 b.s, .int .i64 b.f, .int .u64 b.a, .int .u64 b.b, .int .u64 b.t]
def Bk.par (b : Bk) : ID := (b.a, b.b)
def nameWords (b : Bk) : List Int := [1, IntKind.u64.wrap b.s, IntKind.u64.wrap b.f, b.a, b.b, b.t]
/-- A block's name. -/
def nm (b : Bk) : ID := mixOf (nameWords b)

theorem idEq {a b : ID} {r : Bool} (h : eqCells [.int .u64 a.1, .int .u64 a.2] [.int .u64 b.1, .int .u64 b.2] = some r) : r = decide (a = b) := by
  rw [eqCells2] at h
  cases h
  obtain ⟨x, y⟩ := a
  obtain ⟨z, w⟩ := b
  simp only [Bool.and_true, Prod.mk.injEq]
  by_cases h1 : x = z <;> by_cases h2 : y = w <;> simp [h1, h2]

theorem idKey : KeyOk idP 2 true := ⟨fun a b => by
  obtain ⟨x, y⟩ := a
  obtain ⟨z, w⟩ := b
  simp only [idP, keyEq, eqCells2, Bool.and_true, Prod.mk.injEq, Option.some.injEq]
  by_cases h1 : x = z <;> by_cases h2 : y = w <;> simp [h1, h2], fun _ => rfl⟩

/-- Where one is in a list, or -1. -/
def indexOf (l : List ID) (v : ID) : Int := match l.findIdx? (fun x => decide (v = x)) with | some i => (i : Nat) | none => -1

theorem indexOf_at {l : List ID} {v : ID} {i : Nat} (h : l[i]? = some v) (hno : ∀ j, j < i → l[j]? ≠ some v) : indexOf l v = i := by
  have hi := (List.getElem?_eq_some_iff.1 h).1
  have : l.findIdx? (fun x => decide (v = x)) = some i := by
    rw [List.findIdx?_eq_some_iff_getElem]
    refine ⟨hi, by simp [(List.getElem?_eq_some_iff.1 h).2], fun j hj => ?_⟩
    have := hno j hj
    rw [List.getElem?_eq_getElem (by omega)] at this
    simpa using fun e => this (by rw [e])
  simp [indexOf, this]

theorem indexOf_none {l : List ID} {v : ID} (hno : ∀ j, j < l.length → l[j]? ≠ some v) : indexOf l v = -1 := by
  have : l.findIdx? (fun x => decide (v = x)) = none := by
    rw [List.findIdx?_eq_none_iff]
    intro x hx
    obtain ⟨j, hj, rfl⟩ := List.mem_iff_getElem.1 hx
    have := hno j hj
    rw [List.getElem?_eq_getElem hj] at this
    simpa using fun e => this (by rw [e])
  simp [indexOf, this]

set_option maxRecDepth 100000 in
theorem c50 {b : Bk} : LPure Try.prog 50 [blkP b] [idP (nm b)] := by
  refine LPure.start Try.func50 rfl rfl rfl rfl ?_
  refine LW.seq ?_
  refine LW.region ?_
  refine LOps.st rfl rfl rfl (LOp.box rfl rfl rfl rfl rfl) ?_
  refine LOps.st rfl rfl rfl (LOp.alloc rfl zt24 rfl rfl) ?_
  refine LOps.nil ?_
  refine thn_n ?_
  refine LW.seq ?_
  refine LW.region ?_
  refine LOps.st rfl rfl rfl (LOp.fieldAddr rfl rfl ft42_0) ?_
  refine LOps.st rfl rfl rfl (LOp.load rfl rfl rfl vt3 rfl rfl) ?_
  refine LOps.st rfl rfl rfl (LOp.convert (k' := .u64) rfl rfl (by kernel_rfl)) ?_
  refine LOps.st rfl rfl rfl (LOp.fieldAddr rfl rfl ft42_1) ?_
  refine LOps.st rfl rfl rfl (LOp.load rfl rfl rfl vt3 rfl rfl) ?_
  refine LOps.st rfl rfl rfl (LOp.convert (k' := .u64) rfl rfl (by kernel_rfl)) ?_
  refine LOps.st rfl rfl rfl (LOp.fieldAddr rfl rfl ft42_2) ?_
  refine LOps.st rfl rfl rfl (LOp.indexAddrA rfl rfl rfl at24 (by decide) (by decide)) ?_
  refine LOps.st rfl rfl rfl (LOp.load rfl rfl rfl vt22 rfl rfl) ?_
  refine LOps.st rfl rfl rfl (LOp.fieldAddr rfl rfl ft42_2) ?_
  refine LOps.st rfl rfl rfl (LOp.indexAddrA rfl rfl rfl at24 (by decide) (by decide)) ?_
  refine LOps.st rfl rfl rfl (LOp.load rfl rfl rfl vt22 rfl rfl) ?_
  refine LOps.st rfl rfl rfl (LOp.fieldAddr rfl rfl ft42_3) ?_
  refine LOps.st rfl rfl rfl (LOp.load rfl rfl rfl vt22 rfl rfl) ?_
  refine LOps.st rfl rfl rfl (LOp.buildSlice rfl st98 rfl rfl rfl rfl rfl) ?_
  refine LOps.st rfl rfl rfl (LOp.call rfl rfl rfl (by kernel_rfl) (LC.pure (c99 (l := nameWords b)) (.cons Conv.p .nil))) ?_
  refine LOps.st rfl rfl rfl (LOp.store rfl rfl rfl rfl vt24 rfl rfl rfl rfl) ?_
  refine LOps.nil ?_
  refine thn_n ?_
  refine LW.ret ?_
  refine finP_ret (.one (.cellAgg rfl rfl (by kernel_rfl) rfl)) ?_
  exact Conv.p

set_option maxRecDepth 100000 in
theorem c93 {l : List ID} {v : ID} : LPure Try.prog 93 [.slice 2 (l.map idP), idP v] [.int .i64 (indexOf l v)] := by
  refine LPure.start Try.func93 rfl rfl rfl rfl ?_
  refine LW.seq ?_
  refine LW.ok (t := 0) rfl (fun ok => ?_)
  have hlen := ok.len
  simp only [List.length_map, maxLen] at hlen
  refine LW.region ?_
  refine LOps.st rfl rfl rfl (LOp.box rfl rfl rfl rfl rfl) ?_
  refine LOps.st rfl rfl rfl (LOp.assign rfl rfl) ?_
  refine LOps.nil ?_
  refine thn_n ?_
  refine LW.seq ?_
  refine LW.seq ?_
  refine LW.region ?_
  refine LOps.st rfl rfl rfl (LOp.move rfl rfl) ?_
  refine LOps.st rfl rfl rfl (LOp.len rfl rfl (by kernel_rfl)) ?_
  refine LOps.st rfl rfl rfl (LOp.move rfl rfl) ?_
  refine LOps.nil ?_
  refine thn_n ?_
  refine LW.block ?_
  refine LW.loopOf (E := fun x : Nat => [(0, .p (.slice 2 (l.map idP))), (3, .ptr 0 0), (6, .p (.slice 2 (l.map idP))), (7, .p (.int .i64 (l.map idP).length)), (8, .p (.int .i64 (x : Nat)))]) (O := fun x => [.box [.p (.int .u64 v.1), .p (.int .u64 v.2)]]) (G := fun x => x ≤ l.length ∧ ∀ j, j < x → l[j]? ≠ some v) (meas := fun x => l.length - x) 0 (Weak.of 1 ⟨rfl, rfl, rfl, rfl, rfl, trivial⟩ rfl rfl rfl rfl) ⟨Nat.zero_le _, fun j hj => absurd hj (by omega)⟩ (fun x hx => ?_)
  refine LW.seq ?_
  refine LW.region ?_
  refine LOps.st rfl rfl rfl (LOp.bin rfl rfl rfl rfl) ?_
  refine LOps.nil ?_
  refine thn_n ?_
  refine LW.seq ?_
  refine LW.cond rfl (fun g1 => ?_) (fun g1 => ?_)
  · -- g1 is True
    refine LW.skip ?_
    refine thn_n ?_
    refine LW.seq ?_
    refine LW.block ?_
    refine LW.seq ?_
    have hlt : x < l.length := by simpa using g1
    obtain ⟨y, hy⟩ := list_get hlt
    refine LW.region ?_
    refine LOps.st rfl rfl rfl (LOp.move rfl rfl) ?_
    refine LOps.st rfl rfl rfl (LOp.assign rfl rfl) ?_
    refine LOps.nil ?_
    refine thn_n ?_
    refine LW.seq ?_
    refine LW.draw (by kernel_rfl) (by kernel_rfl) ?_
    refine LO.st rfl rfl rfl (LOp.load rfl rfl rfl vt24 rfl rfl) ?_
    refine LO.st rfl rfl rfl (LOp.move rfl rfl) ?_
    refine LO.st rfl rfl rfl (LOp.move rfl rfl) ?_
    refine LO.st rfl rfl rfl (LOp.indexAddr rfl rfl rfl st31 (by omega) (map_get hy) rfl) ?_
    refine LO.st rfl rfl rfl (LOp.loadC rfl rfl rfl vt24 rfl rfl) ?_
    refine LO.st rfl rfl rfl (LOp.eqlAgg rfl rfl rfl rfl rfl eqt24) ?_
    refine LO.nil ?_
    refine thn_n ?_
    refine LW.cond rfl (fun g2 => ?_) (fun g2 => ?_)
    · -- g2 is True
      refine LW.seq ?_
      have he : v = y := of_decide_eq_true ((idEq (a := v) (b := y) rfl).symm.trans g2)
      refine LW.region ?_
      refine LOps.st rfl rfl rfl (LOp.move rfl rfl) ?_
      refine LOps.st rfl rfl rfl (LOp.assign rfl rfl) ?_
      refine LOps.nil ?_
      refine thn_n ?_
      refine LW.ret ?_
      refine inBlk_r ?_
      refine thn_r ?_
      refine thn_r ?_
      refine inBlk_r ?_
      refine thn_r ?_
      refine finP_ret (.one (.tmp rfl)) ?_
      exact Conv.pe (by rw [indexOf_at (hy.trans (congrArg some he.symm)) hx.2])
    · -- g2 is False
      refine LW.skip ?_
      refine inBlk_n ?_
      refine thn_n ?_
      have hne : v ≠ y := of_decide_eq_false ((idEq (a := v) (b := y) rfl).symm.trans g2)
      refine LW.region ?_
      refine LOps.st rfl rfl rfl (LOp.isEq (y := .p (.int .i64 ((x + 1 : Nat) : Int))) (LOp.bin rfl rfl rfl rfl) (by rw [wrapI (by omega) (by omega)]; rfl)) ?_
      refine LOps.st rfl rfl rfl (LOp.move rfl rfl) ?_
      refine LOps.nil ?_
      refine thn_n ?_
      refine ⟨x + 1, ?_, ?_, Weak.of 1 ⟨rfl, rfl, rfl, rfl, rfl, trivial⟩ rfl rfl rfl rfl⟩
      · omega
      · exact ⟨hlt, fun j hj => by rcases Nat.lt_succ_iff_lt_or_eq.1 hj with h | h; exact hx.2 j h; subst h; rw [hy]; exact fun e => hne (Option.some.inj e).symm⟩
  · -- g1 is False
    refine LW.exit ?_
    refine thn_e ?_
    refine thn_e ?_
    refine inBlk_self ?_
    refine thn_n ?_
    refine LW.seq ?_
    have hnlt : ¬ x < l.length := by simpa using g1
    have hend : x = l.length := by omega
    refine LW.region ?_
    refine LOps.st rfl rfl rfl (LOp.assign rfl rfl) ?_
    refine LOps.nil ?_
    refine thn_n ?_
    refine LW.ret ?_
    refine finP_ret (.one (.tmp rfl)) ?_
    exact Conv.pe (by rw [indexOf_none fun j hj => hx.2 j (by omega)])

set_option maxRecDepth 100000 in
theorem c95 {l : List ID} {v : ID} : LPure Try.prog 95 [.slice 2 (l.map idP), idP v] [.bool (decide (indexOf l v ≥ 0))] := by
  refine LPure.start Try.func95 rfl rfl rfl rfl ?_
  refine LW.seq ?_
  refine LW.region ?_
  refine LOps.st rfl rfl rfl (LOp.box rfl rfl rfl rfl rfl) ?_
  refine LOps.st rfl rfl rfl (LOp.assign rfl rfl) ?_
  refine LOps.nil ?_
  refine thn_n ?_
  refine LW.seq ?_
  refine LW.region ?_
  refine LOps.st rfl rfl rfl (LOp.move rfl rfl) ?_
  refine LOps.st rfl rfl rfl (LOp.load rfl rfl rfl vt24 rfl rfl) ?_
  refine LOps.st rfl rfl rfl (LOp.call rfl rfl rfl (by kernel_rfl) (LC.pure c93 (.cons Conv.p (.cons Conv.p .nil)))) ?_
  refine LOps.st rfl rfl rfl (LOp.bin rfl rfl rfl rfl) ?_
  refine LOps.st rfl rfl rfl (LOp.assign rfl rfl) ?_
  refine LOps.nil ?_
  refine thn_n ?_
  refine LW.ret ?_
  refine finP_ret (.one (.tmp rfl)) ?_
  exact Conv.p

end Go.Mg
