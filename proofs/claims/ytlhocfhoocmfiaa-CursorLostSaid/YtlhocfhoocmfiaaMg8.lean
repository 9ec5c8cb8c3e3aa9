/- Operations that make memory: structs and slices built, appends, makes; what one may take one's state for. Conditions: none. -/
import Derived.Test.YtlhocfhoocmfiaaMg7
namespace Go.Mg

section
variable {μ : List Blk} {I : Nat → Prop} {w : World} {H : List LObj}

/-- A new block that nobody writes any more. -/
theorem St.fresh (hs : St μ I w H) (b : Obj) : St μ (fun c => I c ∨ c = w.heap.size) (w.alloc b) H ∧ Ext μ.length μ I w μ (fun c => I c ∨ c = w.heap.size) (w.alloc b) := by
  have hE : Ext μ.length μ I w μ (fun c => I c ∨ c = w.heap.size) (w.alloc b) :=
    { get := fun _ B _ h => ⟨B, h, Nat.le_refl _, fun _ => .inl rfl, fun _ _ => rfl⟩
      len := Nat.le_refl _
      len' := Nat.le_refl _
      os := rfl
      tape := rfl
      output := rfl
      size := by simp
      imm := fun c hc => ⟨.inl hc, heap_alloc_old w b (hs.ilt c hc)⟩
      shape := fun c cs e f hc => ⟨cs, by rw [heap_alloc_old w b (Array.getElem?_eq_some_iff.1 hc).1]; exact hc, rfl⟩
      inew := fun c hc => by
        rcases hc with h | h
        · exact .inl h
        · exact .inr (.inr (by omega))
      mnew := fun _ h => .inl h
      keep := fun c hc _ => heap_alloc_old w b hc }
  refine ⟨{ len := hs.len, inj := hs.inj, lt := fun c hc => by have := hs.lt c hc; simp; omega, off := fun c hc hi => ?_, ilt := fun c hc => ?_, objs := fun i o c ho hc => ?_ }, hE⟩
  · rcases hi with hi | hi
    · exact hs.off c hc hi
    · have := hs.lt c hc; omega
  · rcases hc with hc | hc
    · have := hs.ilt c hc; simp; omega
    · simp; omega
  · exact (hs.objs i o c ho hc).ext hE fun d hd => heap_alloc_old w b (hs.lt d (.of hc hd))

/-- The world has drawn. -/
theorem St.drew (hs : St μ I w H) : St μ I w.drew H ∧ Ext μ.length μ I w μ I w.drew := by
  have hE : Ext μ.length μ I w μ I w.drew :=
    ⟨fun _ B _ h => ⟨B, h, Nat.le_refl _, fun _ => .inl rfl, fun _ _ => rfl⟩, Nat.le_refl _, Nat.le_refl _, rfl, rfl, rfl, Nat.le_refl _, fun _ h => ⟨h, rfl⟩, fun _ c _ _ h => ⟨c, h, rfl⟩, fun _ h => .inl h, fun _ h => .inl h, fun _ _ _ => rfl⟩
  exact ⟨⟨hs.len, hs.inj, hs.lt, hs.off, hs.ilt, fun i o b ho hb => (hs.objs i o b ho hb).ext hE fun _ _ => rfl⟩, hE⟩
end

section
variable {P : Program} {o : Oper} {env : Env} {H : List LObj}

/-! Structs built. -/

def levParts (env : Env) : List (Nat × Operand) → Option (List (Nat × LV))
  | [] => some []
  | (i, x) :: r => match lev env x, levParts env r with | some y, some ys => some ((i, y) :: ys) | _, _ => none

def fillL (places : List (Nat × Nat)) : List LV → List (Nat × LV) → Option (List LV)
  | cells, [] => some cells
  | cells, (i, l) :: r =>
    match nth places i, cells1 l with
    | some (off, size), some cs =>
      match lenC cs with
      | some n => match Nat.beq n size with
        | true => match splC cells off cs with | some c => fillL places c r | none => none
        | false => none
      | none => none
    | _, _ => none

theorem foldl_sets (off : Nat) : ∀ (vs : List Value) (j : Nat) (cs : Array Value), off + j + vs.length ≤ cs.size →
    ((vs.zipIdx j).foldl (fun cs (c, j) => cs.setIfInBounds (off + j) c) cs).toList = cs.toList.take (off + j) ++ vs ++ cs.toList.drop (off + j + vs.length)
  | [], j, cs, _ => by simp
  | v :: vs, j, cs, h => by
    rw [List.zipIdx_cons, List.foldl_cons, foldl_sets off vs (j + 1) _ (by simp at h ⊢; omega)]
    have hlt : off + j < cs.toList.length := by simp at h ⊢; omega
    simp only [Array.toList_setIfInBounds, List.length_cons]
    rw [show off + (j + 1) = off + j + 1 by omega, List.take_set, List.drop_set, if_pos (by omega), List.take_succ_eq_append_getElem hlt]
    rw [List.set_append, if_neg (by simp; omega)]
    simp only [List.length_take]
    rw [show off + j - min (off + j) cs.toList.length = 0 by omega]
    simp
    omega

theorem fill_rep {μ : List Blk} {I : Nat → Prop} {w : World} {places : List (Nat × Nat)} {pf : Nat → Option (Nat × Nat)} (hpf : ∀ i r, nth places i = some r → pf i = some r) :
    ∀ {ls : List (Nat × LV)} {vs : List (Nat × Value)} {zs cs : List LV} {cells : Array Value}, ls.length = vs.length →
      (∀ (i : Nat) a b, ls[i]? = some a → vs[i]? = some b → a.1 = b.1 ∧ LRep μ I w a.2 b.2) →
      cells.size = zs.length → (∀ u ∈ cells, one1 u = true) → (∀ (i : Nat) c u, zs[i]? = some c → cells[i]? = some u → LRep μ I w c u) →
      fillL places zs ls = some cs →
      ∃ out, Instr.fill pf cells vs = some out ∧ out.size = cs.length ∧ (∀ u ∈ out, one1 u = true) ∧ ∀ (i : Nat) c u, cs[i]? = some c → out[i]? = some u → LRep μ I w c u
  | [], [], zs, cs, cells, _, _, h1, h2, h3, hf => by
    simp [fillL] at hf
    subst hf
    exact ⟨cells, rfl, h1, h2, h3⟩
  | (i, l) :: ls, (i', v) :: vs, zs, cs, cells, hl, hr, h1, h2, h3, hf => by
    obtain ⟨e, hv⟩ := hr 0 _ _ rfl rfl
    simp only at e hv
    subst e
    simp only [fillL] at hf
    split at hf
    · rename_i off size ps hp hc
      split at hf
      · rename_i n hn
        split at hf
        · rename_i hb
          split at hf
          · rename_i c hcc
            obtain ⟨c1, c2, c3⟩ := cells1_rep hc hv
            have hn' := lenC_eq hn
            have hb' := Nat.eq_of_beq_eq_true hb
            obtain ⟨s1, s2⟩ := splC_eq hcc
            have hsz : v.cells.size = size := by omega
            have hfold := foldl_sets off v.cells.toList 0 cells (by simp; omega)
            simp only [Nat.add_zero] at hfold
            obtain ⟨nc, hnc⟩ : ∃ nc, nc = (v.cells.toList.zipIdx).foldl (fun cs (c, j) => cs.setIfInBounds (off + j) c) cells := ⟨_, rfl⟩
            rw [← hnc] at hfold
            have hncs : nc.size = cells.size := by
              have := congrArg List.length hfold
              simp at this; omega
            have hzip : (v.cells.zipIdx).foldl (fun cs (c, j) => cs.setIfInBounds (off + j) c) cells = nc := by
              rw [hnc, ← Array.foldl_toList, Array.toList_zipIdx]
            have hone : ∀ u ∈ nc, one1 u = true := by
              intro u hu
              have hu' : u ∈ nc.toList := by simpa using hu
              rw [hfold] at hu'
              simp at hu'
              rcases hu' with hu' | hu' | hu'
              · exact h2 u (by simpa using List.mem_of_mem_take hu')
              · exact c2 u (by simpa using hu')
              · exact h2 u (by simpa using List.mem_of_mem_drop hu')
            have hrep : ∀ (i : Nat) d u, c[i]? = some d → nc[i]? = some u → LRep μ I w d u := by
              intro i d u hd hu
              have hu' : nc.toList[i]? = some u := by simpa using hu
              rw [hfold] at hu'
              rw [s1] at hd
              rw [List.append_assoc, List.getElem?_append] at hd hu'
              have l1 : (List.take off cells.toList).length = off := by simp; omega
              have l2 : (List.take off zs).length = off := by simp; omega
              rw [l1] at hu'
              rw [l2] at hd
              split at hd
              · rename_i hi
                rw [if_pos hi, List.getElem?_take_of_lt hi] at hu'
                rw [List.getElem?_take_of_lt hi] at hd
                exact h3 i d u hd (by simpa using hu')
              · rename_i hi
                rw [if_neg hi] at hu'
                rw [List.getElem?_append] at hd hu'
                have l3 : v.cells.toList.length = ps.length := by simpa using c1
                rw [l3] at hu'
                split at hd
                · rename_i hj
                  rw [if_pos hj] at hu'
                  exact c3 _ d u hd (by simpa using hu')
                · rename_i hj
                  rw [if_neg hj] at hu'
                  rw [List.getElem?_drop] at hd hu'
                  exact h3 _ d u hd (by simpa using hu')
            obtain ⟨out, o1, o2⟩ := fill_rep hpf (ls := ls) (vs := vs) (zs := c) (cs := cs) (cells := nc) (by simpa using hl) (fun i a b ha hb => hr (i + 1) a b (by simpa using ha) (by simpa using hb)) (by rw [hncs, h1, s1]; simp; omega) hone hrep hf
            refine ⟨out, ?_, o2⟩
            simp only [Instr.fill, hpf i _ hp]
            rw [if_neg (by simp; omega), hzip]
            exact o1
          · cases hf
        · cases hf
      · cases hf
    · cases hf
  | [], _ :: _, _, _, _, hl, _, _, _, _, _ => by simp at hl
  | _ :: _, [], _, _, _, hl, _, _, _, _, _ => by simp at hl

theorem levParts_rep {μ : List Blk} {I : Nat → Prop} {w : World} {a : Act} (he : EOn μ I w o env a) : ∀ {ps : List (Nat × Operand)} {ls : List (Nat × LV)}, (∀ p ∈ ps, p.2 ∈ o.op.operands) → levParts env ps = some ls →
    ls.length = (ps.map fun p => (p.1, a.eval p.2)).length ∧ ∀ (i : Nat) x y, ls[i]? = some x → (ps.map fun p => (p.1, a.eval p.2))[i]? = some y → x.1 = y.1 ∧ LRep μ I w x.2 y.2
  | [], ls, _, h => by simp [levParts] at h; subst h; simp
  | (j, x) :: ps, ls, hm, h => by
    simp only [levParts] at h
    split at h
    · rename_i y ys hy hys
      cases h
      obtain ⟨h1, h2⟩ := levParts_rep he (ps := ps) (fun p hp => hm p (.tail _ hp)) hys
      refine ⟨by simp at h1 ⊢; omega, fun i u v hu hv => ?_⟩
      cases i with
      | zero => simp at hu hv; subst hu; subst hv; exact ⟨rfl, he.ev (hm _ (.head _)) hy⟩
      | succ i => exact h2 i u v (by simpa using hu) (by simpa using hv)
    · cases h

def buildTy (P : Program) (t : TypeId) : Option (List LV × List (Nat × Nat)) :=
  match P.info? t, P.underlying t with
  | some it, some (.struct fields) =>
    match it.zero, fields.toList.mapM (fun f => (P.info? f.type).map fun i => (f.offset, i.size)) with
    | some z, some places => match cellsOfConst z.cells.toList with | some zs => some (zs, places) | none => none
    | _, _ => none
  | some it, some (.array n e) =>
    match it.zero, P.info? e with
    | some z, some ie => match cellsOfConst z.cells.toList with | some zs => some (zs, (List.range n).map fun i => (i * ie.size, ie.size)) | none => none
    | _, _ => none
  | _, _ => none

theorem LOp.build {t : TypeId} {parts : Array (Nat × Operand)} {zs cs : List LV} {places : List (Nat × Nat)} {ls : List (Nat × LV)} {r : LV} (ho : o.op = .build t parts) (hT : buildTy P t = some (zs, places))
    (hl : levParts env parts.toList = some ls) (hf : fillL places zs ls = some cs) (hr : aggO cs = some r) : LOp P o env H (Is r H) :=
  LOp.val fun a w μ I hst he => by
    obtain ⟨l1, l2⟩ := levParts_rep he (ps := parts.toList) (fun p hp => by
      rw [ho]; simp [Op.operands]
      exact ⟨p.1, by simpa using hp⟩) hl
    have e : (parts.map fun (i, x) => (i, a.eval x)).toList = parts.toList.map fun p => (p.1, a.eval p.2) := by simp
    unfold buildTy at hT
    split at hT
    · rename_i it fields hi hu
      split at hT
      · rename_i z pl hz hpl
        split at hT
        · rename_i zs' hzs
          cases hT
          obtain ⟨z1, z2, z3⟩ := cellsOfConst_spec (μ := μ) (I := I) (w := w) hzs
          obtain ⟨out, o1, o2, o3, o4⟩ := fill_rep (μ := μ) (I := I) (w := w) (places := places) (pf := (places.toArray[·]?)) (fun i r h => by rw [nth_eq] at h; simpa using h) l1 l2 (cells := z.cells) (by simpa using z1)
            (fun u hu => z2 u (by simpa using hu)) (fun i c u hc hu => z3 i c u hc (by simpa using hu)) hf
          have hb : P.built t (parts.map fun (i, x) => (i, a.eval x)).toList = some out := by
            unfold Program.built
            simp only [hi, hu, hz, hpl, e, o1]
          exact ⟨.agg out, by simp only [execOp, ho]; simp [run_build w t _ out hb], by rw [aggO_eq hr]; exact mkAgg_rep o2 o3 o4⟩
        · cases hT
      · cases hT
    · rename_i it n el hi hu
      split at hT
      · rename_i z ie hz hie
        split at hT
        · rename_i zs' hzs
          cases hT
          obtain ⟨z1, z2, z3⟩ := cellsOfConst_spec (μ := μ) (I := I) (w := w) hzs
          obtain ⟨out, o1, o2, o3, o4⟩ := fill_rep (μ := μ) (I := I) (w := w) (pf := fun i => some (i * ie.size, ie.size)) (fun i r h => by
            rw [nth_eq, List.getElem?_map] at h
            cases hx : (List.range n)[i]? with
            | none => rw [hx] at h; cases h
            | some j =>
              rw [hx] at h; cases h
              have := (List.getElem?_eq_some_iff.1 hx).2
              simp at this; subst this; rfl) l1 l2 (cells := z.cells) (by simpa using z1)
            (fun u hu => z2 u (by simpa using hu)) (fun i c u hc hu => z3 i c u hc (by simpa using hu)) hf
          have hb : P.built t (parts.map fun (i, x) => (i, a.eval x)).toList = some out := by
            unfold Program.built
            simp only [hi, hu, hz, hie, e, o1]
          exact ⟨.agg out, by simp only [execOp, ho]; simp [run_build w t _ out hb], by rw [aggO_eq hr]; exact mkAgg_rep o2 o3 o4⟩
        · cases hT
      · cases hT
    · cases hT
end
end Go.Mg
