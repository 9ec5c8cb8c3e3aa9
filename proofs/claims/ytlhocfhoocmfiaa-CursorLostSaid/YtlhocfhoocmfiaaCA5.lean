/- tree.Chain. Conditions: none. -/
import Derived.Test.YtlhocfhoocmfiaaCP1
namespace Go.Mg
open Go.Proofs

theorem c94N {l : List Bk} {H : List LObj} (h : places l = none) : LC Try.prog 94 [.p (.slice 5 (l.map blkP))] H (Is (.tup [.nilmap, .p (.bool false)]) H) := by
  have h0 : LC Try.prog 94 ([PV.slice 5 (l.map blkP)].map .p) [] (Is (.tup [.nilmap, .p (.bool false)]) []) := c94.mono fun x H hx => by
    rcases hx with ⟨m, hm, -⟩ | ⟨-, h1, h2⟩
    · rw [h] at hm; cases hm
    · exact ⟨h1, h2⟩
  have := LC.frame (H := H) (d := H.length) h0 (.cons Conv.p .nil) (by rw [lenC_of])
  simpa [LV.shift, LV.shifts] using this

theorem c94S {l : List Bk} {m : List (ID × Int)} {H H1 H2 : List LObj} {d : Nat} (h : places l = some m) (hd : lenC H = some d) (h1 : appC H (.box [.p (.slice 5 (l.map blkP))]) = some H1) (h2 : appC H1 (.map (entsOf idP ixV m)) = some H2) :
    LC Try.prog 94 [.p (.slice 5 (l.map blkP))] H (Is (.tup [.map (d + 1), .p (.bool true)]) H2) := by
  have h0 : LC Try.prog 94 ([PV.slice 5 (l.map blkP)].map .p) [] (Is (.tup [.map 1, .p (.bool true)]) [.box [.p (.slice 5 (l.map blkP))], .map (entsOf idP ixV m)]) := c94.mono fun x H hx => by
    rcases hx with ⟨m', hm, h1, h2⟩ | ⟨h1, -⟩
    · rw [h] at hm; cases hm; exact ⟨h1, h2⟩
    · rw [h] at h1; cases h1
  have := LC.frame (H := H) (d := d) h0 (.cons Conv.p .nil) hd
  have e1 := appC_eq h1
  have e2 := appC_eq h2
  subst e1; subst e2
  simpa [LV.shift, LV.shifts, LObj.shift, entsOf, List.append_assoc, Function.comp_def] using this

set_option maxRecDepth 100000 in
theorem c39n {l : List Bk} {id : ID} (hpl : places l = none) : LPure Try.prog 39 [.slice 5 (l.map blkP), idP id] [.slice 2 ((chainOf l id).map idP)] := by
  refine LPure.start Try.func39 rfl rfl rfl rfl ?_
  refine LW.seq ?_
  refine LW.region ?_
  refine LOps.st rfl rfl rfl (LOp.box rfl rfl rfl rfl rfl) ?_
  refine LOps.st rfl rfl rfl (LOp.assign rfl rfl) ?_
  refine LOps.nil ?_
  refine thn_n ?_
  refine LW.scope ?_
  refine LW.seq ?_
  refine LW.region ?_
  refine LOps.st rfl rfl rfl (LOp.move rfl rfl) ?_
  refine LOps.st rfl rfl rfl ((LOp.call rfl rfl rfl (by kernel_rfl) (c94N hpl))) ?_
  refine LOps.st rfl rfl rfl (LOp.move rfl rfl) ?_
  refine LOps.st rfl rfl rfl (LOp.extract rfl rfl rfl) ?_
  refine LOps.st rfl rfl rfl (LOp.extract rfl rfl rfl) ?_
  refine LOps.st rfl rfl rfl (LOp.assign rfl rfl) ?_
  refine LOps.st rfl rfl rfl (LOp.assign rfl rfl) ?_
  refine LOps.nil ?_
  refine thn_n ?_
  refine LW.seq ?_
  refine LW.seq ?_
  refine LW.region ?_
  refine LOps.st rfl rfl rfl (LOp.move rfl rfl) ?_
  refine LOps.st rfl rfl rfl (LOp.load rfl rfl rfl vt24 rfl rfl) ?_
  refine LOps.st rfl rfl rfl ((LOp.getNil idKey rfl rfl rfl mt91 zl3 rfl)) ?_
  refine LOps.st rfl rfl rfl (LOp.move rfl rfl) ?_
  refine LOps.st rfl rfl rfl (LOp.extract rfl rfl rfl) ?_
  refine LOps.st rfl rfl rfl (LOp.extract rfl rfl rfl) ?_
  refine LOps.st rfl rfl rfl (LOp.assign rfl rfl) ?_
  refine LOps.st rfl rfl rfl (LOp.assign rfl rfl) ?_
  refine LOps.nil ?_
  refine thn_n ?_
  refine LW.seq ?_
  refine LW.region ?_
  refine LOps.st rfl rfl rfl (LOp.move rfl rfl) ?_
  refine LOps.st rfl rfl rfl (LOp.not rfl rfl) ?_
  refine LOps.nil ?_
  refine thn_n ?_
  refine LW.condT rfl ?_
  refine LW.seq ?_
  refine LW.region ?_
  refine LOps.st rfl rfl rfl (LOp.assign rfl rfl) ?_
  refine LOps.nil ?_
  refine thn_n ?_
  refine LW.ret ?_
  refine thn_r ?_
  refine noGo_r ?_
  refine finP_ret (.one (.tmp rfl)) ?_
  exact Conv.zs' (by simp [chainOf, hpl])

set_option maxRecDepth 100000 in
theorem c39s {l : List Bk} {id : ID} {m : List (ID × Int)} (hl : l.length ≤ 1000) (hpl : places l = some m) : LPure Try.prog 39 [.slice 5 (l.map blkP), idP id] [.slice 2 ((chainOf l id).map idP)] := by
  refine LPure.start Try.func39 rfl rfl rfl rfl ?_
  refine LW.seq ?_
  refine LW.region ?_
  refine LOps.st rfl rfl rfl (LOp.box rfl rfl rfl rfl rfl) ?_
  refine LOps.st rfl rfl rfl (LOp.assign rfl rfl) ?_
  refine LOps.nil ?_
  refine thn_n ?_
  refine LW.jumpsOf (l := 0) (E := fun x : List ID × ID × Int => [(0, .p (.slice 5 (l.map blkP))), (3, .ptr 0 0), (5, .map 2), (9, .vec 2 3 (x.1.map idP).length 0 (x.1.map idP).length)]) (O := fun x => [.box [.p (.int .u64 x.2.1.1), .p (.int .u64 x.2.1.2)], .box [.p (.slice 5 (l.map blkP))], .map (entsOf idP ixV m), .vec 2 (x.1.map idP)]) (G := fun x => findE m x.2.1 = some x.2.2 ∧ x.1.length + (x.2.2 + 1).toNat ≤ 1001 ∧ chainOf l id = x.1 ++ chainF l (x.2.2 + 1).toNat x.2.1 x.2.2) (meas := fun x => (x.2.2 + 1).toNat) rfl ?_ (fun x hx => ?_)
  · -- as far as the label, and on
    refine LW.seq ?_
    refine LW.region ?_
    refine LOps.st rfl rfl rfl (LOp.move rfl rfl) ?_
    refine LOps.st rfl rfl rfl ((LOp.call rfl rfl rfl (by kernel_rfl) (c94S hpl rfl rfl rfl))) ?_
    refine LOps.st rfl rfl rfl (LOp.move rfl rfl) ?_
    refine LOps.st rfl rfl rfl (LOp.extract rfl rfl rfl) ?_
    refine LOps.st rfl rfl rfl (LOp.extract rfl rfl rfl) ?_
    refine LOps.st rfl rfl rfl (LOp.assign rfl rfl) ?_
    refine LOps.st rfl rfl rfl (LOp.assign rfl rfl) ?_
    refine LOps.nil ?_
    refine thn_n ?_
    refine LW.seq ?_
    refine LW.seq ?_
    refine LW.region ?_
    refine LOps.st rfl rfl rfl (LOp.move rfl rfl) ?_
    refine LOps.st rfl rfl rfl (LOp.load rfl rfl rfl vt24 rfl rfl) ?_
    rcases hf : findE m id with _ | i
    · -- case 0
      refine LOps.st rfl rfl rfl ((LOp.getMiss idKey hf rfl rfl rfl rfl mt91 zl3 rfl)) ?_
      refine LOps.st rfl rfl rfl (LOp.move rfl rfl) ?_
      refine LOps.st rfl rfl rfl (LOp.extract rfl rfl rfl) ?_
      refine LOps.st rfl rfl rfl (LOp.extract rfl rfl rfl) ?_
      refine LOps.st rfl rfl rfl (LOp.assign rfl rfl) ?_
      refine LOps.st rfl rfl rfl (LOp.assign rfl rfl) ?_
      refine LOps.nil ?_
      refine thn_n ?_
      refine LW.seq ?_
      refine LW.region ?_
      refine LOps.st rfl rfl rfl (LOp.move rfl rfl) ?_
      refine LOps.st rfl rfl rfl (LOp.not rfl rfl) ?_
      refine LOps.nil ?_
      refine thn_n ?_
      refine LW.condT rfl ?_
      refine LW.seq ?_
      refine LW.region ?_
      refine LOps.st rfl rfl rfl (LOp.assign rfl rfl) ?_
      refine LOps.nil ?_
      refine thn_n ?_
      refine LW.ret ?_
      refine thn_r ?_
      refine jmp_r ?_
      refine finP_ret (.one (.tmp rfl)) ?_
      refine Conv.zs' ?_
      simp [chainOf, hpl, hf]
    · -- case 1
      refine LOps.st rfl rfl rfl ((LOp.getHit idKey hf rfl rfl rfl rfl mt91 rfl)) ?_
      refine LOps.st rfl rfl rfl (LOp.move rfl rfl) ?_
      refine LOps.st rfl rfl rfl (LOp.extract rfl rfl rfl) ?_
      refine LOps.st rfl rfl rfl (LOp.extract rfl rfl rfl) ?_
      refine LOps.st rfl rfl rfl (LOp.assign rfl rfl) ?_
      refine LOps.st rfl rfl rfl (LOp.assign rfl rfl) ?_
      refine LOps.nil ?_
      refine thn_n ?_
      refine LW.seq ?_
      refine LW.region ?_
      refine LOps.st rfl rfl rfl (LOp.move rfl rfl) ?_
      refine LOps.st rfl rfl rfl (LOp.not rfl rfl) ?_
      refine LOps.nil ?_
      refine thn_n ?_
      refine LW.condF rfl ?_
      refine LW.skip ?_
      refine thn_n ?_
      refine LW.seq ?_
      refine LW.region ?_
      refine LOps.st rfl rfl rfl (LOp.assign rfl rfl) ?_
      refine LOps.nil ?_
      refine thn_n ?_
      refine LW.seq ?_
      refine LW.label ?_
      refine thn_n ?_
      refine LW.seq ?_
      refine LW.region ?_
      refine LOps.st rfl rfl rfl (LOp.move rfl rfl) ?_
      refine LOps.st rfl rfl rfl (LOp.load rfl rfl rfl vt24 rfl rfl) ?_
      refine LOps.st rfl rfl rfl (LOp.buildSlice rfl st31 rfl rfl rfl rfl rfl) ?_
      refine LOps.st rfl rfl rfl (LOp.appendZ rfl rfl rfl rfl Src.p st31 (by simp only [List.length_singleton]; omega) rfl) ?_
      refine LOps.st rfl rfl rfl (LOp.assign rfl rfl) ?_
      refine LOps.nil ?_
      refine thn_n ?_
      refine LW.seq ?_
      refine LW.seq ?_
      refine LW.region ?_
      refine LOps.st rfl rfl rfl (LOp.move rfl rfl) ?_
      refine LOps.st rfl rfl rfl (LOp.load rfl rfl rfl vt24 rfl rfl) ?_
      refine LOps.st rfl rfl rfl ((LOp.getHit idKey hf rfl rfl rfl rfl mt91 rfl)) ?_
      refine LOps.st rfl rfl rfl (LOp.assign rfl rfl) ?_
      refine LOps.nil ?_
      refine thn_n ?_
      refine LW.seq ?_
      refine LW.region ?_
      refine LOps.st rfl rfl rfl (LOp.move rfl rfl) ?_
      refine LOps.st rfl rfl rfl (LOp.bin rfl rfl rfl rfl) ?_
      refine LOps.nil ?_
      refine thn_n ?_
      refine LW.cond rfl (fun g1 => ?_) (fun g1 => ?_)
      · -- g1 is True
        refine LW.seq ?_
        have hne : i ≠ -1 := by simpa using g1
        obtain ⟨h1, -⟩ | ⟨b, p, h0, hlt, hb, hnb, hp, hpi, hp1, hs⟩ := (places_inv hpl).known _ _ hf
        · exact absurd h1 hne
        have hc : chainOf l id = id :: chainF l (p + 1).toNat b.par p := by
          simp only [chainOf, hpl, hf]
          exact chainF_step hpl hne h0 hb hp hpi hp1
        refine LW.region ?_
        refine LOps.st rfl rfl rfl (LOp.move rfl rfl) ?_
        refine LOps.st rfl rfl rfl (LOp.move rfl rfl) ?_
        refine LOps.st rfl rfl rfl (LOp.indexAddr rfl rfl rfl st27 (by omega) (map_get' hb) rfl) ?_
        refine LOps.st rfl rfl rfl (LOp.fieldAddrC rfl rfl ft42_2 rfl) ?_
        refine LOps.st rfl rfl rfl (LOp.loadC rfl rfl rfl vt24 rfl rfl) ?_
        refine LOps.st rfl rfl rfl (LOp.store rfl rfl rfl rfl vt24 rfl rfl rfl rfl) ?_
        refine LOps.nil ?_
        refine thn_n ?_
        refine LW.goto ?_
        refine thn_g ?_
        refine jmp_g ?_
        refine ⟨([id], b.par, p), ?_, Weak.of 4 ⟨rfl, rfl, rfl, rfl, trivial⟩ rfl rfl rfl (lowObjs_cons rfl (lowObjs_cons rfl (lowObjs_cons (entsLow (fun _ => rfl) _) rfl)))⟩
        · exact ⟨hp, by simp only [List.length_singleton]; omega, hc⟩
      · -- g1 is False
        refine LW.skip ?_
        refine thn_n ?_
        refine LW.seq ?_
        have hend : i = -1 := by simpa using g1
        refine LW.region ?_
        refine LOps.st rfl rfl rfl (LOp.move rfl rfl) ?_
        refine LOps.st rfl rfl rfl (LOp.assign rfl rfl) ?_
        refine LOps.nil ?_
        refine thn_n ?_
        refine LW.ret ?_
        refine jmp_r ?_
        refine finP_ret (.one (.tmp rfl)) ?_
        refine Conv.vecAll' rfl rfl rfl ?_
        rw [show chainOf l id = [id] by simp only [chainOf, hpl, hf, hend]; rfl]; rfl
  · -- from the label
    refine LW.seq ?_
    refine LW.skip ?_
    refine thn_n ?_
    refine LW.seq ?_
    refine LW.region ?_
    refine LOps.st rfl rfl rfl (LOp.move rfl rfl) ?_
    refine LOps.st rfl rfl rfl (LOp.load rfl rfl rfl vt24 rfl rfl) ?_
    refine LOps.st rfl rfl rfl (LOp.buildSlice rfl st31 rfl rfl rfl rfl rfl) ?_
    refine LOps.st rfl rfl rfl (LOp.appendM (f := idP) (xs := x.1) (ys := [x.2.1]) rfl rfl rfl rfl rfl st31 (by simp only [List.length_singleton]; omega) rfl) ?_
    refine LOps.st rfl rfl rfl (LOp.assign rfl rfl) ?_
    refine LOps.nil ?_
    refine thn_n ?_
    refine LW.seq ?_
    refine LW.seq ?_
    refine LW.region ?_
    refine LOps.st rfl rfl rfl (LOp.move rfl rfl) ?_
    refine LOps.st rfl rfl rfl (LOp.load rfl rfl rfl vt24 rfl rfl) ?_
    refine LOps.st rfl rfl rfl ((LOp.getHit idKey hx.1 rfl rfl rfl rfl mt91 rfl)) ?_
    refine LOps.st rfl rfl rfl (LOp.assign rfl rfl) ?_
    refine LOps.nil ?_
    refine thn_n ?_
    refine LW.seq ?_
    refine LW.region ?_
    refine LOps.st rfl rfl rfl (LOp.move rfl rfl) ?_
    refine LOps.st rfl rfl rfl (LOp.bin rfl rfl rfl rfl) ?_
    refine LOps.nil ?_
    refine thn_n ?_
    refine LW.cond rfl (fun g2 => ?_) (fun g2 => ?_)
    · -- g2 is True
      refine LW.seq ?_
      have hne : x.2.2 ≠ -1 := by simpa using g2
      obtain ⟨h1, -⟩ | ⟨b, p, h0, hlt, hb, hnb, hp, hpi, hp1, hs⟩ := (places_inv hpl).known _ _ hx.1
      · exact absurd h1 hne
      have hc := chainF_step (id := x.2.1) hpl hne h0 hb hp hpi hp1
      refine LW.region ?_
      refine LOps.st rfl rfl rfl (LOp.move rfl rfl) ?_
      refine LOps.st rfl rfl rfl (LOp.move rfl rfl) ?_
      refine LOps.st rfl rfl rfl (LOp.indexAddr rfl rfl rfl st27 (by omega) (map_get' hb) rfl) ?_
      refine LOps.st rfl rfl rfl (LOp.fieldAddrC rfl rfl ft42_2 rfl) ?_
      refine LOps.st rfl rfl rfl (LOp.loadC rfl rfl rfl vt24 rfl rfl) ?_
      refine LOps.st rfl rfl rfl (LOp.store rfl rfl rfl rfl vt24 rfl rfl rfl rfl) ?_
      refine LOps.nil ?_
      refine thn_n ?_
      refine LW.goto ?_
      refine thn_g ?_
      refine jmp_g ?_
      refine ⟨(x.1 ++ [x.2.1], b.par, p), ?_, ?_, Weak.of 4 ⟨rfl, rfl, rfl, rfl, trivial⟩ rfl rfl rfl (lowObjs_cons rfl (lowObjs_cons rfl (lowObjs_cons (entsLow (fun _ => rfl) _) rfl)))⟩
      · simp only; omega
      · refine ⟨hp, ?_, ?_⟩
        · have := hx.2.1; simp only [List.length_append, List.length_singleton]; omega
        · rw [hx.2.2, hc, List.append_assoc]; rfl
    · -- g2 is False
      refine LW.skip ?_
      refine thn_n ?_
      refine LW.seq ?_
      have hend : x.2.2 = -1 := by simpa using g2
      refine LW.region ?_
      refine LOps.st rfl rfl rfl (LOp.move rfl rfl) ?_
      refine LOps.st rfl rfl rfl (LOp.assign rfl rfl) ?_
      refine LOps.nil ?_
      refine thn_n ?_
      refine LW.ret ?_
      refine jmp_r ?_
      refine finP_ret (.one (.tmp rfl)) ?_
      refine Conv.vecAll' rfl rfl rfl ?_
      rw [hx.2.2, hend]; rfl

theorem c39 {l : List Bk} {id : ID} (hl : l.length ≤ 1000) : LPure Try.prog 39 [.slice 5 (l.map blkP), idP id] [.slice 2 ((chainOf l id).map idP)] := by
  rcases hpl : places l with _ | m
  · exact c39n hpl
  · exact c39s hl hpl

set_option maxRecDepth 100000 in
theorem c40 {l : List Bk} {a b : ID} (hl : l.length ≤ 1000) : LPure Try.prog 40 [.slice 5 (l.map blkP), idP a, idP b] [.bool (decide (indexOf (chainOf l b) a ≥ 0))] := by
  refine LPure.start Try.func40 rfl rfl rfl rfl ?_
  refine LW.seq ?_
  refine LW.region ?_
  refine LOps.st rfl rfl rfl (LOp.box rfl rfl rfl rfl rfl) ?_
  refine LOps.st rfl rfl rfl (LOp.box rfl rfl rfl rfl rfl) ?_
  refine LOps.st rfl rfl rfl (LOp.assign rfl rfl) ?_
  refine LOps.nil ?_
  refine thn_n ?_
  refine LW.seq ?_
  refine LW.draw (by kernel_rfl) (by kernel_rfl) ?_
  refine LO.st rfl rfl rfl (LOp.move rfl rfl) ?_
  refine LO.st rfl rfl rfl (LOp.load rfl rfl rfl vt24 rfl rfl) ?_
  refine LO.st rfl rfl rfl (LOp.call rfl rfl rfl (by kernel_rfl) (LC.pure (c39 hl) (.cons Conv.p (.cons Conv.p .nil)))) ?_
  refine LO.st rfl rfl rfl (LOp.load rfl rfl rfl vt24 rfl rfl) ?_
  refine LO.st rfl rfl rfl (LOp.call rfl rfl rfl (by kernel_rfl) (LC.pure c95 (.cons Conv.p (.cons Conv.p .nil)))) ?_
  refine LO.st rfl rfl rfl (LOp.assign rfl rfl) ?_
  refine LO.nil ?_
  refine thn_n ?_
  refine LW.ret ?_
  refine finP_ret (.one (.tmp rfl)) ?_
  exact Conv.p

end Go.Mg
