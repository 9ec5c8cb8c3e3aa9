/- tree.places. Conditions: none. -/
import Derived.Test.YtlhocfhoocmfiaaCA3
namespace Go.Mg
open Go.Proofs

/-- The slot of the block at i; -1 is the beginning. -/
def slotIx (l : List Bk) (i : Int) : Int := if i = -1 then 0 else match l[i.toNat]? with
  | some b => b.s
  | none => 0

abbrev ixV : Int → LV := fun v => .p (.int .i64 v)

/-- Where each block is, by its name, if blocks may be. -/
def placesGo (l : List Bk) : List Bk → Nat → List (ID × Int) → Option (List (ID × Int))
  | [], _, m => some m
  | b :: r, i, m => match findE m b.par with
    | none => none
    | some p => if b.s ≤ slotIx l p then none else match findE m (nm b) with
      | some _ => none
      | none => placesGo l r (i + 1) (m ++ [(nm b, (i : Int))])

def places (l : List Bk) : Option (List (ID × Int)) := placesGo l l 0 [((0, 0), -1)]

theorem placesGo_at {l : List Bk} {i : Nat} {y : Bk} (hy : l[i]? = some y) (m : List (ID × Int)) : placesGo l (l.drop i) i m = match findE m y.par with
    | none => none
    | some p => if y.s ≤ slotIx l p then none else match findE m (nm y) with
      | some _ => none
      | none => placesGo l (l.drop (i + 1)) (i + 1) (m ++ [(nm y, (i : Int))]) := by
  obtain ⟨hi, rfl⟩ := List.getElem?_eq_some_iff.1 hy
  rw [List.drop_eq_getElem_cons hi]
  rfl

set_option maxRecDepth 100000 in
theorem c142 {l : List Bk} {i : Int} {id : Nat} {H : List LObj} (hH : nth H id = some (.box [.p (.slice 5 (l.map blkP))])) (hi : i = -1 ∨ 0 ≤ i ∧ i < l.length) :
    LC Try.prog 142 [.p (.int .i64 i), .ptr id 0] H (Is (.p (.int .i64 (slotIx l i))) H) := by
  refine LC.start Try.func142 rfl rfl rfl ?_
  refine LW.seq ?_
  refine LW.region ?_
  refine LOps.st rfl rfl rfl (LOp.assign rfl rfl) ?_
  refine LOps.nil ?_
  refine thn_n ?_
  refine LW.seq ?_
  refine LW.seq ?_
  refine LW.region ?_
  refine LOps.st rfl rfl rfl (LOp.move rfl rfl) ?_
  refine LOps.st rfl rfl rfl (LOp.bin rfl rfl rfl rfl) ?_
  refine LOps.nil ?_
  refine thn_n ?_
  refine LW.cond rfl (fun g1 => ?_) (fun g1 => ?_)
  · -- g1 is True
    refine LW.seq ?_
    have he : i = -1 := by simpa using g1
    refine LW.region ?_
    refine LOps.st rfl rfl rfl (LOp.assign rfl rfl) ?_
    refine LOps.nil ?_
    refine thn_n ?_
    refine LW.ret ?_
    refine thn_r ?_
    refine fin_ret (.one (.tmp rfl)) ?_
    exact ⟨by simp [slotIx, he], rfl⟩
  · -- g1 is False
    refine LW.skip ?_
    refine thn_n ?_
    refine LW.seq ?_
    have hne : i ≠ -1 := by simpa using g1
    obtain ⟨y, hy⟩ := list_get (l := l) (i := i.toNat) (by omega)
    have hiy : (l.map blkP)[i.toNat]? = some (blkP y) := by simp [hy]
    refine LW.region ?_
    refine LOps.st rfl rfl rfl (LOp.load rfl rfl hH vt27 rfl rfl) ?_
    refine LOps.st rfl rfl rfl (LOp.move rfl rfl) ?_
    refine LOps.st rfl rfl rfl (LOp.indexAddr rfl rfl rfl st27 (by omega) hiy rfl) ?_
    refine LOps.st rfl rfl rfl (LOp.fieldAddrC rfl rfl ft42_0 rfl) ?_
    refine LOps.st rfl rfl rfl (LOp.loadC rfl rfl rfl vt3 rfl rfl) ?_
    refine LOps.st rfl rfl rfl (LOp.assign rfl rfl) ?_
    refine LOps.nil ?_
    refine thn_n ?_
    refine LW.ret ?_
    refine fin_ret (.one (.tmp rfl)) ?_
    exact ⟨by simp [slotIx, hne, hy], rfl⟩

set_option maxRecDepth 100000 in
theorem c94 {l : List Bk} : LC Try.prog 94 [.p (.slice 5 (l.map blkP))] [] fun x H =>
    (∃ m, places l = some m ∧ x = .tup [.map 1, .p (.bool true)] ∧ H = [.box [.p (.slice 5 (l.map blkP))], .map (entsOf idP ixV m)]) ∨ (places l = none ∧ x = .tup [.nilmap, .p (.bool false)] ∧ H = []) := by
  refine LC.start Try.func94 rfl rfl rfl ?_
  refine LW.seq ?_
  refine LW.ok (t := 0) rfl (fun ok => ?_)
  have hlen := ok.len
  simp only [List.length_map, maxLen] at hlen
  refine LW.region ?_
  refine LOps.st rfl rfl rfl (LOp.box rfl rfl rfl rfl rfl) ?_
  refine LOps.st rfl rfl rfl (LOp.assign rfl rfl) ?_
  refine LOps.st rfl rfl rfl (LOp.assign rfl rfl) ?_
  refine LOps.nil ?_
  refine thn_n ?_
  refine LW.seq ?_
  refine LW.region ?_
  refine LOps.st rfl rfl rfl (LOp.makeMap rfl rfl rfl) ?_
  refine LOps.st rfl rfl rfl (LOp.build rfl bt24 rfl rfl rfl) ?_
  refine LOps.st rfl rfl rfl (LOp.setNew (f := idP) (g := ixV) (m := []) (a := (0, 0)) (v := -1) idKey rfl (.inr rfl) rfl rfl rfl rfl rfl mt91 rfl) ?_
  refine LOps.st rfl rfl rfl (LOp.move rfl rfl) ?_
  refine LOps.st rfl rfl rfl (LOp.assign rfl rfl) ?_
  refine LOps.nil ?_
  refine thn_n ?_
  refine LW.seq ?_
  refine LW.region ?_
  refine LOps.st rfl rfl rfl (LOp.makeFunc rfl rfl rfl) ?_
  refine LOps.st rfl rfl rfl (LOp.assign rfl rfl) ?_
  refine LOps.nil ?_
  refine thn_n ?_
  refine LW.seq ?_
  refine LW.seq ?_
  refine LW.region ?_
  refine LOps.st rfl rfl rfl (LOp.load rfl rfl rfl vt27 rfl rfl) ?_
  refine LOps.st rfl rfl rfl (LOp.len rfl rfl (by kernel_rfl)) ?_
  refine LOps.st rfl rfl rfl (LOp.move rfl rfl) ?_
  refine LOps.nil ?_
  refine thn_n ?_
  refine LW.block ?_
  refine LW.loopOf (E := fun x : Nat × List (ID × Int) => [(1, .ptr 0 0), (4, .map 1), (5, .fn 142 [] [.ptr 0 0]), (17, .p (.slice 5 (l.map blkP))), (18, .p (.int .i64 (l.map blkP).length)), (19, .p (.int .i64 (x.1 : Nat)))]) (O := fun x => [.box [.p (.slice 5 (l.map blkP))], .map (entsOf idP ixV x.2)]) (G := fun x => x.1 ≤ l.length ∧ placesGo l (l.drop x.1) x.1 x.2 = places l ∧ ∀ k v, findE x.2 k = some v → v = -1 ∨ 0 ≤ v ∧ v < l.length) (meas := fun x => l.length - x.1) (0, [((0, 0), -1)]) (Weak.of 2 ⟨rfl, rfl, rfl, rfl, rfl, rfl, trivial⟩ rfl rfl rfl (lowObjs_cons rfl (lowObjs_cons (entsLow (fun _ => rfl) _) rfl))) ⟨Nat.zero_le _, rfl, fun k v h => by unfold findE findE at h; split at h <;> cases h; exact .inl rfl⟩ (fun x hx => ?_)
  refine LW.seq ?_
  refine LW.region ?_
  refine LOps.st rfl rfl rfl (LOp.bin rfl rfl rfl rfl) ?_
  refine LOps.nil ?_
  refine thn_n ?_
  refine LW.seq ?_
  refine LW.cond rfl (fun g1 => ?_) (fun g1 => ?_)
  · -- g1 is True
    refine LW.skip ?_
    refine thn_n ?_
    refine LW.seq ?_
    refine LW.block ?_
    refine LW.seq ?_
    have hlt : x.1 < l.length := by simpa using g1
    obtain ⟨y, hy⟩ := list_get hlt
    refine LW.region ?_
    refine LOps.st rfl rfl rfl (LOp.move rfl rfl) ?_
    refine LOps.st rfl rfl rfl (LOp.indexAddr rfl rfl rfl st27 (by omega) (map_get hy) rfl) ?_
    refine LOps.st rfl rfl rfl (LOp.loadC rfl rfl rfl vt42 rfl rfl) ?_
    refine LOps.st rfl rfl rfl (LOp.alloc rfl zt42 rfl rfl) ?_
    refine LOps.st rfl rfl rfl (LOp.assign rfl rfl) ?_
    refine LOps.st rfl rfl rfl (LOp.store rfl rfl rfl rfl vt42 rfl rfl rfl rfl) ?_
    refine LOps.nil ?_
    refine thn_n ?_
    refine LW.seq ?_
    refine LW.region ?_
    refine LOps.st rfl rfl rfl (LOp.move rfl rfl) ?_
    refine LOps.st rfl rfl rfl (LOp.fieldAddr rfl rfl ft42_2) ?_
    refine LOps.st rfl rfl rfl (LOp.load rfl rfl rfl vt24 rfl rfl) ?_
    rcases hp : findE x.2 y.par with _ | p
    · -- case 0
      refine LOps.st rfl rfl rfl ((LOp.getMiss idKey hp rfl rfl rfl rfl mt91 zl3 rfl)) ?_
      refine LOps.st rfl rfl rfl (LOp.move rfl rfl) ?_
      refine LOps.st rfl rfl rfl (LOp.extract rfl rfl rfl) ?_
      refine LOps.st rfl rfl rfl (LOp.extract rfl rfl rfl) ?_
      refine LOps.st rfl rfl rfl (LOp.assign rfl rfl) ?_
      refine LOps.st rfl rfl rfl (LOp.assign rfl rfl) ?_
      refine LOps.nil ?_
      refine thn_n ?_
      refine LW.seq ?_
      refine LW.seq ?_
      refine LW.draw (by kernel_rfl) (by kernel_rfl) ?_
      refine LO.st rfl rfl rfl (LOp.move rfl rfl) ?_
      refine LO.st rfl rfl rfl (LOp.not rfl rfl) ?_
      refine LO.st rfl rfl rfl (LOp.move rfl rfl) ?_
      refine LO.sk rfl rfl rfl rfl rfl rfl ?_
      refine LO.sk rfl rfl rfl rfl rfl rfl ?_
      refine LO.sk rfl rfl rfl rfl rfl rfl ?_
      refine LO.sk rfl rfl rfl rfl rfl rfl ?_
      refine LO.sk rfl rfl rfl rfl rfl rfl ?_
      refine LO.sk rfl rfl rfl rfl rfl rfl ?_
      refine LO.st rfl rfl rfl (LOp.pickT rfl rfl rfl) ?_
      refine LO.nil ?_
      refine thn_n ?_
      refine LW.condT rfl ?_
      refine LW.seq ?_
      refine LW.region ?_
      refine LOps.st rfl rfl rfl (LOp.assign rfl rfl) ?_
      refine LOps.st rfl rfl rfl (LOp.assign rfl rfl) ?_
      refine LOps.nil ?_
      refine thn_n ?_
      refine LW.ret ?_
      refine thn_r ?_
      refine inBlk_r ?_
      refine thn_r ?_
      refine thn_r ?_
      refine inBlk_r ?_
      refine thn_r ?_
      refine fin_retW (env' := [(2, .nilmap), (3, .p (.bool false))]) (H' := []) (Weak.of 0 ⟨rfl, rfl, trivial⟩ rfl rfl rfl rfl) (.two (.tmp rfl) (.tmp rfl)) (.inr ⟨?_, rfl, rfl⟩)
      rw [← hx.2.1, placesGo_at hy]
      first | (simp only [hp]; done) | (simp only [hp]; rw [if_pos (of_decide_eq_true g2)]; done) | (simp only [hp, hq]; split <;> rfl)
    · -- case 1
      refine LOps.st rfl rfl rfl ((LOp.getHit idKey hp rfl rfl rfl rfl mt91 rfl)) ?_
      refine LOps.st rfl rfl rfl (LOp.move rfl rfl) ?_
      refine LOps.st rfl rfl rfl (LOp.extract rfl rfl rfl) ?_
      refine LOps.st rfl rfl rfl (LOp.extract rfl rfl rfl) ?_
      refine LOps.st rfl rfl rfl (LOp.assign rfl rfl) ?_
      refine LOps.st rfl rfl rfl (LOp.assign rfl rfl) ?_
      refine LOps.nil ?_
      refine thn_n ?_
      refine LW.seq ?_
      refine LW.seq ?_
      refine LW.draw (by kernel_rfl) (by kernel_rfl) ?_
      refine LO.st rfl rfl rfl (LOp.move rfl rfl) ?_
      refine LO.st rfl rfl rfl (LOp.not rfl rfl) ?_
      refine LO.st rfl rfl rfl (LOp.move rfl rfl) ?_
      refine LO.gd rfl rfl rfl rfl rfl (LOp.fieldAddr rfl rfl ft42_0) ?_
      refine LO.gd rfl rfl rfl rfl rfl (LOp.load rfl rfl rfl vt3 rfl rfl) ?_
      refine LO.gd rfl rfl rfl rfl rfl (LOp.move rfl rfl) ?_
      refine LO.gd rfl rfl rfl rfl rfl (LOp.move rfl rfl) ?_
      refine LO.gd rfl rfl rfl rfl rfl (LOp.call rfl rfl rfl (by kernel_rfl) (c142 (id := 0) rfl (hx.2.2 _ _ hp))) ?_
      refine LO.gd rfl rfl rfl rfl rfl (LOp.bin rfl rfl rfl rfl) ?_
      refine LO.st rfl rfl rfl (LOp.pickF rfl rfl rfl) ?_
      refine LO.nil ?_
      refine thn_n ?_
      refine LW.cond rfl (fun g2 => ?_) (fun g2 => ?_)
      · -- g2 is True
        refine LW.seq ?_
        refine LW.region ?_
        refine LOps.st rfl rfl rfl (LOp.assign rfl rfl) ?_
        refine LOps.st rfl rfl rfl (LOp.assign rfl rfl) ?_
        refine LOps.nil ?_
        refine thn_n ?_
        refine LW.ret ?_
        refine thn_r ?_
        refine inBlk_r ?_
        refine thn_r ?_
        refine thn_r ?_
        refine inBlk_r ?_
        refine thn_r ?_
        refine fin_retW (env' := [(2, .nilmap), (3, .p (.bool false))]) (H' := []) (Weak.of 0 ⟨rfl, rfl, trivial⟩ rfl rfl rfl rfl) (.two (.tmp rfl) (.tmp rfl)) (.inr ⟨?_, rfl, rfl⟩)
        rw [← hx.2.1, placesGo_at hy]
        first | (simp only [hp]; done) | (simp only [hp]; rw [if_pos (of_decide_eq_true g2)]; done) | (simp only [hp, hq]; split <;> rfl)
      · -- g2 is False
        refine LW.skip ?_
        refine thn_n ?_
        refine LW.seq ?_
        refine LW.region ?_
        refine LOps.st rfl rfl rfl (LOp.load rfl rfl rfl vt42 rfl rfl) ?_
        refine LOps.st rfl rfl rfl (LOp.call rfl rfl rfl (by kernel_rfl) (LC.pure (c50 (b := y)) (.cons Conv.p .nil))) ?_
        refine LOps.st rfl rfl rfl (LOp.alloc rfl zt24 rfl rfl) ?_
        refine LOps.st rfl rfl rfl (LOp.store rfl rfl rfl rfl vt24 rfl rfl rfl rfl) ?_
        refine LOps.nil ?_
        refine thn_n ?_
        refine LW.seq ?_
        refine LW.seq ?_
        refine LW.region ?_
        refine LOps.st rfl rfl rfl (LOp.move rfl rfl) ?_
        refine LOps.st rfl rfl rfl (LOp.load rfl rfl rfl vt24 rfl rfl) ?_
        rcases hq : findE x.2 (nm y) with _ | q
        · -- case 0
          refine LOps.st rfl rfl rfl ((LOp.getMiss idKey hq rfl rfl rfl rfl mt91 zl3 rfl)) ?_
          refine LOps.st rfl rfl rfl (LOp.move rfl rfl) ?_
          refine LOps.st rfl rfl rfl (LOp.extract rfl rfl rfl) ?_
          refine LOps.st rfl rfl rfl (LOp.extract rfl rfl rfl) ?_
          refine LOps.st rfl rfl rfl (LOp.assign rfl rfl) ?_
          refine LOps.st rfl rfl rfl (LOp.assign rfl rfl) ?_
          refine LOps.nil ?_
          refine thn_n ?_
          refine LW.seq ?_
          refine LW.region ?_
          refine LOps.st rfl rfl rfl (LOp.move rfl rfl) ?_
          refine LOps.nil ?_
          refine thn_n ?_
          refine LW.condF rfl ?_
          refine LW.skip ?_
          refine thn_n ?_
          refine LW.region ?_
          refine LOps.st rfl rfl rfl (LOp.move rfl rfl) ?_
          refine LOps.st rfl rfl rfl (LOp.load rfl rfl rfl vt24 rfl rfl) ?_
          refine LOps.st rfl rfl rfl (LOp.move rfl rfl) ?_
          refine LOps.st rfl rfl rfl (LOp.setNew (f := idP) (g := ixV) (m := x.2) (a := nm y) (v := ((x.1 : Nat) : Int)) idKey hq (.inl rfl) rfl rfl rfl rfl rfl mt91 rfl) ?_
          refine LOps.nil ?_
          refine inBlk_n ?_
          refine thn_n ?_
          refine LW.region ?_
          refine LOps.st rfl rfl rfl (LOp.isEq (y := .p (.int .i64 ((x.1 + 1 : Nat) : Int))) (LOp.bin rfl rfl rfl rfl) (by rw [wrapI (by omega) (by omega)]; rfl)) ?_
          refine LOps.st rfl rfl rfl (LOp.move rfl rfl) ?_
          refine LOps.nil ?_
          refine thn_n ?_
          refine ⟨(x.1 + 1, x.2 ++ [(nm y, ((x.1 : Nat) : Int))]), ?_, ?_, Weak.of 2 ⟨rfl, rfl, rfl, rfl, rfl, rfl, trivial⟩ rfl rfl rfl (lowObjs_cons rfl (lowObjs_cons (entsLow (fun _ => rfl) _) rfl))⟩
          · simp only; omega
          · refine ⟨hlt, ?_, fun k v h => ?_⟩
            · rw [← hx.2.1, placesGo_at hy]; simp only [hp, hq]; rw [if_neg (of_decide_eq_false g2)]
            · rw [findE_append] at h
              rcases hk : findE x.2 k with _ | u
              · rw [hk] at h; simp only [Option.none_or] at h; split at h <;> cases h; omega
              · rw [hk] at h; cases h; exact hx.2.2 k _ hk
        · -- case 1
          refine LOps.st rfl rfl rfl ((LOp.getHit idKey hq rfl rfl rfl rfl mt91 rfl)) ?_
          refine LOps.st rfl rfl rfl (LOp.move rfl rfl) ?_
          refine LOps.st rfl rfl rfl (LOp.extract rfl rfl rfl) ?_
          refine LOps.st rfl rfl rfl (LOp.extract rfl rfl rfl) ?_
          refine LOps.st rfl rfl rfl (LOp.assign rfl rfl) ?_
          refine LOps.st rfl rfl rfl (LOp.assign rfl rfl) ?_
          refine LOps.nil ?_
          refine thn_n ?_
          refine LW.seq ?_
          refine LW.region ?_
          refine LOps.st rfl rfl rfl (LOp.move rfl rfl) ?_
          refine LOps.nil ?_
          refine thn_n ?_
          refine LW.condT rfl ?_
          refine LW.seq ?_
          refine LW.region ?_
          refine LOps.st rfl rfl rfl (LOp.assign rfl rfl) ?_
          refine LOps.st rfl rfl rfl (LOp.assign rfl rfl) ?_
          refine LOps.nil ?_
          refine thn_n ?_
          refine LW.ret ?_
          refine thn_r ?_
          refine inBlk_r ?_
          refine thn_r ?_
          refine thn_r ?_
          refine inBlk_r ?_
          refine thn_r ?_
          refine fin_retW (env' := [(2, .nilmap), (3, .p (.bool false))]) (H' := []) (Weak.of 0 ⟨rfl, rfl, trivial⟩ rfl rfl rfl rfl) (.two (.tmp rfl) (.tmp rfl)) (.inr ⟨?_, rfl, rfl⟩)
          rw [← hx.2.1, placesGo_at hy]
          first | (simp only [hp]; done) | (simp only [hp]; rw [if_pos (of_decide_eq_true g2)]; done) | (simp only [hp, hq]; split <;> rfl)
  · -- g1 is False
    refine LW.exit ?_
    refine thn_e ?_
    refine thn_e ?_
    refine inBlk_self ?_
    refine thn_n ?_
    refine LW.seq ?_
    have hnlt : ¬ x.1 < l.length := by simpa using g1
    have hend : x.1 = l.length := by omega
    refine LW.region ?_
    refine LOps.st rfl rfl rfl (LOp.move rfl rfl) ?_
    refine LOps.st rfl rfl rfl (LOp.assign rfl rfl) ?_
    refine LOps.st rfl rfl rfl (LOp.assign rfl rfl) ?_
    refine LOps.nil ?_
    refine thn_n ?_
    refine LW.ret ?_
    refine fin_retW (env' := [(2, .map 1), (3, .p (.bool true))]) (H' := [.box [.p (.slice 5 (l.map blkP))], .map (entsOf idP ixV x.2)]) (Weak.of 2 ⟨rfl, rfl, trivial⟩ rfl rfl rfl (lowObjs_cons rfl (lowObjs_cons (entsLow (fun _ => rfl) _) rfl))) (.two (.tmp rfl) (.tmp rfl)) (.inl ⟨x.2, ?_, rfl, rfl⟩)
    rw [← hx.2.1, hend, List.drop_length]; rfl

end Go.Mg
