/- Slices made: literals, appends, makes, stores into one's own; ghost steps. Conditions: none. -/
import Derived.Test.YtlhocfhoocmfiaaMg8
namespace Go.Mg

def PV.oneB : PV → Bool
  | .agg _ => false
  | _ => true

def onesB : List PV → Bool
  | [] => true
  | x :: r => match PV.oneB x with | true => onesB r | false => false

def elemsB (m : Nat) : List PV → Bool
  | [] => true
  | x :: r => match cellsP x with
    | some ps => match lenC ps with
      | some n => match Nat.beq n m with
        | true => match onesB ps with | true => elemsB m r | false => false
        | false => false
      | none => false
    | none => false

theorem onesB_spec : ∀ {ps : List PV}, onesB ps = true → ∀ c ∈ ps, c.one
  | [], _, c, hc => by simp at hc
  | x :: r, h, c, hc => by
    simp only [onesB] at h
    split at h
    · rename_i h1
      cases hc with
      | head => cases x <;> simp_all [PV.oneB, PV.one]
      | tail _ hc => exact onesB_spec h c hc
    · cases h

theorem elemsB_spec {m : Nat} : ∀ {xs : List PV}, elemsB m xs = true → Elems m xs
  | [], _ => .nil
  | x :: r, h => by
    simp only [elemsB] at h
    split at h
    · rename_i ps hp
      have e := cellsP_eq hp
      subst e
      split at h
      · rename_i n hn
        split at h
        · rename_i hb
          split at h
          · rename_i ho
            exact .cons ⟨by rw [← lenC_eq hn]; exact Nat.eq_of_beq_eq_true hb, onesB_spec ho⟩ (elemsB_spec h)
          · cases h
        · cases h
      · cases h
    · cases h

theorem Elems.map {α : Type} {m : Nat} {f : α → PV} (h : ∀ a, (f a).cells.length = m ∧ ∀ c ∈ (f a).cells, c.one) (l : List α) : Elems m (l.map f) := by
  intro x hx
  obtain ⟨a, -, rfl⟩ := List.mem_map.1 hx
  exact h a

/-- The parts of a slice literal, in order and all given, plain. -/
def litP : Nat → List (Nat × LV) → Option (List PV)
  | _, [] => some []
  | i, (j, .p y) :: r => match Nat.beq j i with | true => (match litP (i + 1) r with | some s => some (y :: s) | none => none) | false => none
  | _, _ :: _ => none

theorem litP_spec : ∀ {ls : List (Nat × LV)} {i : Nat} {ys : List PV}, litP i ls = some ys → ls.length = ys.length ∧ ∀ (q : Nat) x, ls[q]? = some x → ∃ y, ys[q]? = some y ∧ x = (i + q, .p y)
  | [], i, ys, h => by simp [litP] at h; subst h; simp
  | (j, .p y) :: r, i, ys, h => by
    simp only [litP] at h
    split at h
    · rename_i hb
      split at h
      · rename_i s hs
        cases h
        obtain ⟨h1, h2⟩ := litP_spec hs
        refine ⟨by simp [h1], fun q x hq => ?_⟩
        cases q with
        | zero => simp at hq; subst hq; exact ⟨y, rfl, by rw [Nat.eq_of_beq_eq_true hb]; rfl⟩
        | succ q =>
          obtain ⟨z, hz, e⟩ := h2 q x (by simpa using hq)
          exact ⟨z, by simpa using hz, by rw [e, show i + 1 + q = i + (q + 1) by omega]⟩
      · cases h
    · cases h
  | (j, .agg _) :: _, _, _, h => by simp [litP] at h
  | (j, .tup _) :: _, _, _, h => by simp [litP] at h
  | (j, .ptr _ _) :: _, _, _, h => by simp [litP] at h
  | (j, .cptr _) :: _, _, _, h => by simp [litP] at h
  | (j, .vec _ _ _ _ _) :: _, _, _, h => by simp [litP] at h
  | (j, .vptr _ _ _ _ _) :: _, _, _, h => by simp [litP] at h
  | (j, .zs) :: _, _, _, h => by simp [litP] at h
  | (j, .map _) :: _, _, _, h => by simp [litP] at h
  | (j, .nilmap) :: _, _, _, h => by simp [litP] at h
  | (j, .fn _ _ _) :: _, _, _, h => by simp [litP] at h
  | (j, .any) :: _, _, _, h => by simp [litP] at h

section
variable {μ : List Blk} {I : Nat → Prop} {w : World}

theorem fill_lit {m : Nat} (hm : 0 < m) : ∀ {vs : List (Nat × Value)} {i : Nat} {ys : List PV} {cells : Array Value}, vs.length = ys.length → Elems m ys →
    (∀ (q : Nat) y v, ys[q]? = some y → vs[q]? = some v → v.1 = i + q ∧ Rep I w y v.2) → m * (i + ys.length) = cells.size →
    ∃ out, Instr.fill (fun i => some (i * m, m)) cells vs = some out ∧ out.size = cells.size ∧ (∀ q, q < m * i → out[q]? = cells[q]?) ∧
      ∀ (q : Nat) c u, (flat ys)[q]? = some c → out[m * i + q]? = some u → Rep I w c u
  | [], i, [], cells, _, _, _, _ => ⟨cells, rfl, rfl, fun _ _ => rfl, fun q c u hc => by simp [flat] at hc⟩
  | (j, v) :: vs, i, y :: ys, cells, hl, he, hr, hs => by
    obtain ⟨e, hv⟩ := hr 0 y (j, v) rfl rfl
    simp only [Nat.add_zero] at e hv
    subst e
    have hye := he y (.head _)
    have hvc : v.cells.size = m ∧ (∀ (q : Nat) c u, y.cells[q]? = some c → v.cells[q]? = some u → Rep I w c u) := by
      cases hv with
      | int h => exact ⟨by have := hye.1; simp only [PV.cells, List.length_singleton] at this; simpa [Value.cells] using this, fun q c u hc hu => by cases q <;> simp [PV.cells, Value.cells] at hc hu; subst hc; subst hu; exact .int h⟩
      | bool => exact ⟨by have := hye.1; simp only [PV.cells, List.length_singleton] at this; simpa [Value.cells] using this, fun q c u hc hu => by cases q <;> simp [PV.cells, Value.cells] at hc hu; subst hc; subst hu; exact .bool⟩
      | agg hl' ho h => exact ⟨by simp only [Value.cells]; rw [hl']; exact hye.1, h⟩
      | slice f h1 h2 h3 h4 h5 h6 => exact ⟨by have := hye.1; simp only [PV.cells, List.length_singleton] at this; simpa [Value.cells] using this, fun q c u hc hu => by cases q <;> simp [PV.cells, Value.cells] at hc hu; subst hc; subst hu; exact .slice f h1 h2 h3 h4 h5 h6⟩
    have hmi : m * (j + (y :: ys).length) = m * j + m + m * ys.length := by rw [List.length_cons, Nat.mul_add, Nat.mul_add, Nat.mul_one]; omega
    have hfold := foldl_sets (j * m) v.cells.toList 0 cells (by simp only [Nat.add_zero, Array.length_toList]; rw [Nat.mul_comm]; omega)
    simp only [Nat.add_zero] at hfold
    obtain ⟨nc, hnc⟩ : ∃ nc, nc = (v.cells.toList.zipIdx).foldl (fun cs (c, q) => cs.setIfInBounds (j * m + q) c) cells := ⟨_, rfl⟩
    rw [← hnc] at hfold
    have hzip : (v.cells.zipIdx).foldl (fun cs (c, q) => cs.setIfInBounds (j * m + q) c) cells = nc := by
      rw [hnc, ← Array.foldl_toList, Array.toList_zipIdx]
    have hncs : nc.size = cells.size := by
      have := congrArg List.length hfold
      simp only [List.length_append, List.length_take, List.length_drop, Array.length_toList] at this
      rw [Nat.mul_comm j m] at this; omega
    have hmj : j * m = m * j := Nat.mul_comm _ _
    have hget : ∀ q, nc[q]? = if q < m * j then cells[q]? else if q < m * j + m then v.cells[q - m * j]? else cells[q]? := by
      intro q
      have h1 : nc.toList[q]? = nc[q]? := by simp
      rw [← h1, hfold, hmj, List.append_assoc, List.getElem?_append, List.getElem?_append]
      simp only [List.length_take, Array.length_toList]
      rw [Nat.min_eq_left (show m * j ≤ cells.size by omega)]
      split
      · rw [List.getElem?_take_of_lt (by assumption)]; simp
      · rw [hvc.1]
        split
        · rw [if_pos (by omega)]; simp
        · rw [if_neg (by omega), List.getElem?_drop]
          simp
          congr 1
          omega
    obtain ⟨out, o1, o2, o3, o4⟩ := fill_lit hm (vs := vs) (i := j + 1) (ys := ys) (cells := nc) (by simpa using hl) he.tail
      (fun q z u hz hu => by have := hr (q + 1) z u (by simpa using hz) (by simpa using hu); exact ⟨by omega, this.2⟩) (by rw [hncs, ← hs, hmi, Nat.mul_add, Nat.mul_add, Nat.mul_one])
    have hm1 : m * (j + 1) = m * j + m := by rw [Nat.mul_add, Nat.mul_one]
    refine ⟨out, ?_, by omega, fun q hq => ?_, fun q c u hc hu => ?_⟩
    · simp only [Instr.fill]
      rw [if_neg (by rw [hvc.1, hmj]; simp; omega), hzip]
      exact o1
    · rw [o3 q (by omega), hget q, if_pos hq]
    · rw [flat_cons, List.getElem?_append] at hc
      rw [hye.1] at hc
      split at hc
      · rename_i hq
        rw [o3 _ (by omega), hget, if_neg (by omega), if_pos (by omega)] at hu
        exact hvc.2 q c u hc (by rw [show m * j + q - m * j = q by omega] at hu; exact hu)
      · rename_i hq
        exact o4 (q - m) c u hc (by rw [hm1, show m * j + m + (q - m) = m * j + q by omega]; exact hu)
  | [], _, _ :: _, _, hl, _, _, _ => by simp at hl
  | _ :: _, _, [], _, hl, _, _, _ => by simp at hl
end

section
variable {P : Program} {o : Oper} {env : Env} {H : List LObj}

theorem cell_alloc_new (w : World) (cs : Array Value) (e : TypeId) (i : Nat) : (w.alloc (.cells cs e)).cell? ⟨w.heap.size, i, none⟩ = cs[i]? := by
  unfold World.cell?
  rw [show (w.alloc (.cells cs e)).heap[(⟨w.heap.size, i, none⟩ : Addr).block]? = some (.cells cs e) from heap_alloc_new w _]
  rfl

theorem LOp.buildSlice {t : TypeId} {len m bytes : Nat} {parts : Array (Nat × Operand)} {ls : List (Nat × LV)} {ys : List PV} (ho : o.op = .buildSlice t len parts) (hT : slTy P t = some (m, bytes))
    (hl : levParts env parts.toList = some ls) (hy : litP 0 ls = some ys) (hlen : lenC ys = some len) (he : elemsB m ys = true) (hsm : Nat.ble (len * m) 16777216 = true) :
    LOp P o env H (Is (.p (.slice m ys)) H) := by
  intro a w μ I hs hE K Q hK
  obtain ⟨l1, l2⟩ := levParts_rep hE (ps := parts.toList) (fun p hp => by
    rw [ho]; simp [Op.operands]
    exact ⟨p.1, by simpa using hp⟩) hl
  have e : (parts.map fun (i, x) => (i, a.eval x)).toList = parts.toList.map fun p => (p.1, a.eval p.2) := by simp
  obtain ⟨p1, p2⟩ := litP_spec hy
  have hlen' := lenC_eq hlen
  obtain ⟨el, i, z, hu, hi, hz, hzs, rfl, rfl, hpos⟩ := slTy_spec hT
  have hel := elemsB_spec he
  have hcz : ((Array.range (len * i.size)).map (z.cells[· % z.cells.size]!)).size = len * i.size := by simp
  obtain ⟨out, o1, o2, -, o4⟩ := fill_lit (I := I) (w := w) hpos (vs := parts.toList.map fun p => (p.1, a.eval p.2)) (i := 0) (ys := ys) (cells := (Array.range (len * i.size)).map (z.cells[· % z.cells.size]!))
    (by omega) hel (fun q y v hy hv => by
      have hq := (List.getElem?_eq_some_iff.1 hy).1
      have hx : ls[q]? = some (ls[q]'(by omega)) := List.getElem?_eq_getElem (by omega)
      obtain ⟨y', hy', e'⟩ := p2 q _ hx
      obtain ⟨h5, h6⟩ := l2 q _ v hx hv
      rw [hy] at hy'; cases hy'
      rw [e'] at h5 h6
      refine ⟨h5.symm, ?_⟩
      cases h6; assumption) (by rw [hcz, ← hlen', Nat.zero_add, Nat.mul_comm])
  have hrun : (execOp a.eval o).run P w = .ok (.value (.slice (some ⟨w.heap.size, 0, none⟩) len len)) (w.alloc (.cells out el)) := by
    simp only [execOp, ho, Instr.buildSlice]
    have h1 : ¬ (len * i.size > 16777216) := by have := Nat.le_of_ble_eq_true hsm; omega
    simp only [Sem.run_bind, run_underlying hu, Result.andThen_ok, Sem.run_pure]
    have hso : (sizeOf el).run P w = .ok i.size w := by simp [sizeOf, typeInfo, hi]
    simp only [hso, Result.andThen_ok]
    rw [if_neg (by simpa using h1)]
    by_cases h0 : len * i.size = 0
    · have hl0 : len = 0 := by
        rcases Nat.mul_eq_zero.1 h0 with h | h
        · exact h
        · omega
      subst hl0
      rw [if_pos h0]
      have hp0 : parts.toList.map (fun p => (p.1, a.eval p.2)) = [] := by
        apply List.eq_nil_of_length_eq_zero; omega
      rw [hp0] at o1
      simp [Instr.fill] at o1
      have hr0 : Array.range 0 = #[] := rfl
      have ho1 : out = #[] := by rw [← o1, hr0]; simp
      simp [hp0, e, Instr.fill, newRow, ho1, hr0]
    · rw [if_neg h0]
      have hzv : (zeroValue el).run P w = .ok z w := by simp [zeroValue, typeInfo, hi, hz]
      simp only [Sem.run_bind, hzv, Result.andThen_ok, Sem.run_pure, e, o1]
      simp [newRow]
  unfold Oper.wp
  rw [hrun]
  obtain ⟨hs', hE'⟩ := hs.fresh (.cells out el)
  refine hK (.p (.slice i.size ys)) H _ _ μ _ ⟨rfl, rfl⟩ hs' (.p ?_) hE'
  have hfl := flat_length hel
  refine .slice (fun q => out.getD q undef) hlen' (Nat.le_refl _) ?_ hel (fun q c hc => ?_) (fun q c hc => ?_)
  · have := Nat.le_of_ble_eq_true hsm
    have h2 : len ≤ len * i.size := Nat.le_mul_of_pos_right _ hpos
    unfold maxLen; omega
  · have hq := (List.getElem?_eq_some_iff.1 hc).1
    refine ⟨w.heap.size, 0, rfl, .inr rfl, ?_⟩
    have hqs : q < out.size := by rw [o2, hcz, hlen', Nat.mul_comm]; omega
    rw [Nat.zero_add, cell_alloc_new]
    simp [Array.getElem?_eq_getElem hqs]
  · have hq := (List.getElem?_eq_some_iff.1 hc).1
    have hqs : q < out.size := by rw [o2, hcz, hlen', Nat.mul_comm]; omega
    have hg : out[0 + q]? = some out[q] := by rw [Nat.zero_add]; exact Array.getElem?_eq_getElem hqs
    have := o4 q c _ hc (by rw [Nat.mul_zero]; exact hg)
    simp only [Array.getD_eq_getD_getElem?, Array.getElem?_eq_getElem hqs, Option.getD_some]
    exact this.mono hE'.imm
end
end Go.Mg
