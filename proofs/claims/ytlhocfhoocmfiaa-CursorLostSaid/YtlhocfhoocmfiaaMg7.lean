/- Operations on slices: elements, parts, lengths, builds, appends; structs built; functions made. Conditions: none. -/
import Derived.Test.YtlhocfhoocmfiaaMg6
namespace Go.Mg

def dropC {α : Type} : List α → Nat → Option (List α)
  | l, 0 => some l
  | [], _ + 1 => none
  | _ :: r, n + 1 => dropC r n

theorem dropC_eq {α : Type} : ∀ {l : List α} {n : Nat} {s : List α}, dropC l n = some s → s = l.drop n
  | l, 0, s, h => by cases l <;> simp [dropC] at h <;> subst h <;> simp
  | [], n + 1, s, h => by simp [dropC] at h
  | x :: r, n + 1, s, h => by have := dropC_eq (show dropC r n = some s from h); simpa using this

/-- The cells of an element. -/
def cellsP : PV → Option (List PV)
  | .agg cs => some cs
  | .int k n => some [.int k n]
  | .bool b => some [.bool b]
  | .slice m xs => some [.slice m xs]

theorem cellsP_eq {x : PV} {ps : List PV} (h : cellsP x = some ps) : ps = x.cells := by
  cases x <;> simp [cellsP] at h <;> subst h <;> rfl

theorem flat_get {m : Nat} {xs : List PV} (h : Elems m xs) {i : Nat} {y : PV} (hi : xs[i]? = some y) {j : Nat} {c : PV} (hj : y.cells[j]? = some c) : (flat xs)[m * i + j]? = some c := by
  have hd := flat_drop i h
  have hlt := (List.getElem?_eq_some_iff.1 hi).1
  rw [List.drop_eq_getElem_cons hlt, (List.getElem?_eq_some_iff.1 hi).2, flat_cons] at hd
  have := congrArg (·[j]?) hd
  simp only [List.getElem?_drop] at this
  rw [← this, List.getElem?_append_left (List.getElem?_eq_some_iff.1 hj).1]
  exact hj

/-- A slice's type: the cells and the bytes of an element. -/
def slTy (P : Program) (t : TypeId) : Option (Nat × Nat) :=
  match P.underlying t with
  | some (.slice e) => match P.info? e with
    | some i => match i.zero with
      | some z => if z.cells.size == i.size && Nat.blt 0 i.size then some (i.size, i.bytes) else none
      | none => none
    | none => none
  | _ => none

theorem slTy_spec {P : Program} {t : TypeId} {m bytes : Nat} (h : slTy P t = some (m, bytes)) :
    ∃ e i z, P.underlying t = some (.slice e) ∧ P.info? e = some i ∧ i.zero = some z ∧ z.cells.size = i.size ∧ i.size = m ∧ i.bytes = bytes ∧ 0 < m := by
  unfold slTy at h
  split at h
  · rename_i e hu
    split at h
    · rename_i i hi
      split at h
      · rename_i z hz
        split at h
        · rename_i hc
          simp only [Bool.and_eq_true, beq_iff_eq] at hc
          cases h
          exact ⟨e, i, z, hu, hi, hz, hc.1, rfl, rfl, by simpa using hc.2⟩
        · cases h
      · cases h
    · cases h
  · cases h

theorem rep_slice {I : Nat → Prop} {w : World} {m : Nat} {xs : List PV} {v : Value} (h : Rep I w (.slice m xs) v) :
    ∃ (a : Option Addr) (cap : Nat) (f : Nat → Value), v = .slice a xs.length cap ∧ xs.length ≤ cap ∧ cap ≤ maxLen ∧ Elems m xs ∧
      (∀ (i : Nat) (c : PV), (flat xs)[i]? = some c → ∃ b o, a = some ⟨b, o, none⟩ ∧ I b ∧ w.cell? ⟨b, o + i, none⟩ = some (f i)) ∧
      (∀ (i : Nat) (c : PV), (flat xs)[i]? = some c → Rep I w c (f i)) := by
  cases h with
  | slice f hl hcap hmax hm hc hr => subst hl; exact ⟨_, _, f, rfl, hcap, hmax, hm, hc, hr⟩

theorem lrep_slice {μ : List Blk} {I : Nat → Prop} {w : World} {m : Nat} {xs : List PV} {v : Value} (h : LRep μ I w (.p (.slice m xs)) v) : Rep I w (.slice m xs) v := by
  cases h with
  | p h => exact h

section
variable {P : Program} {o : Oper} {env : Env} {H : List LObj}

theorem LOp.fieldAddrC {s : TypeId} {x : Operand} {i fo n : Nat} {ag : Bool} {ps qs : List PV} (ho : o.op = .fieldAddr s x i) (hx : lev env x = some (.cptr ps)) (hT : fieldTy P s i = some (fo, n, ag))
    (hq : dropC ps fo = some qs) : LOp P o env H (Is (.cptr qs) H) :=
  LOp.val fun a w μ I hst he => by
    have hr := he.ev (x := x) (by simp [ho, Op.operands]) hx
    generalize hv : a.eval x = v at hr
    have e := dropC_eq hq
    subst e
    cases hr with
    | @cptr _ b off f hI hc =>
      obtain ⟨fs, g, hu, hf, rfl, hsz, hv0⟩ := fieldTy_spec hT (w := w)
      refine ⟨.pointer (some ⟨b, off + g.offset, none⟩), by simp [execOp, ho, hv, Instr.fieldAt, run_underlying hu, hf, Instr.sureAddr, fieldPlace, addr_add, hsz, hv0], .cptr (fun j => f (g.offset + j)) hI fun j c hj => ?_⟩
      rw [List.getElem?_drop] at hj
      have := hc _ c hj
      rwa [show off + g.offset + j = off + (g.offset + j) by omega]

theorem LOp.field {s : TypeId} {x : Operand} {i fo n : Nat} {ag : Bool} {l r : LV} {cs q : List LV} (ho : o.op = .field s x i) (hx : lev env x = some l) (hc : cellsL l = some cs)
    (hT : fieldTy P s i = some (fo, n, ag)) (hq : subC cs fo n = some q) (hr : valOf ag q = some r) : LOp P o env H (Is r H) :=
  LOp.val fun a w μ I hst he => by
    obtain ⟨vs, hv, h1, h2, h3⟩ := cellsL_rep hc (he.ev (x := x) (by simp [ho, Op.operands]) hx)
    obtain ⟨fs, g, hu, hf, rfl, hvar⟩ := fieldTy_var hT
    obtain ⟨q1, q2, q3, q4⟩ := subC_eq hq
    have hfit : g.offset + n ≤ vs.size := by
      rcases Nat.eq_zero_or_pos n with rfl | hn
      · omega
      · have := q2 hn; omega
    have hp := run_partVar (P := P) (w := w) hvar vs g.offset hfit
    refine ⟨_, by simp only [execOp, ho, hv, Instr.field]; simp [run_underlying hu, hf, asAgg, hp]; rfl, ?_⟩
    have := valOf_rep (μ := μ) (I := I) (w := w) hr (vs := vs.extract g.offset (g.offset + n)) (by simp; omega) (fun u hu => by
      obtain ⟨i, hi, rfl⟩ := Array.mem_iff_getElem.1 hu
      simp; exact h2 _ (Array.getElem_mem _)) (fun i c u hc hu => by
      obtain ⟨h5, h6⟩ := subC_get hq hc
      refine h3 (g.offset + i) c u h5 ?_
      rw [Array.getElem?_extract] at hu
      split at hu
      · exact hu
      · cases hu)
    cases ag with
    | true => simpa using this
    | false =>
      have hn1 := (run_isAgg_var (w := w) hvar).2.2 rfl
      subst hn1
      have hg : vs[g.offset]? = some vs[g.offset] := Array.getElem?_eq_getElem (by omega)
      simp only [Bool.false_eq_true, if_false, Array.getD_eq_getD_getElem?] at this ⊢
      rw [Array.getElem?_extract] at this
      rw [if_pos (by omega)] at this
      simpa using this

/-- An array's type: how many, and how an element lies. -/
def arrTy (P : Program) (t : TypeId) : Option (Nat × Nat × Bool) :=
  match P.underlying t with
  | some (.array n e) => match varTy P e with | some (m, a) => some (n, m, a) | none => none
  | _ => none

theorem arrTy_spec {t : TypeId} {n m : Nat} {ag : Bool} (h : arrTy P t = some (n, m, ag)) : ∃ e, P.underlying t = some (.array n e) ∧ varTy P e = some (m, ag) := by
  unfold arrTy at h
  split at h
  · rename_i n' e hu
    split at h
    · rename_i hv; cases h; exact ⟨e, hu, hv⟩
    · cases h
  · cases h

theorem LOp.index {t : TypeId} {x y : Operand} {n m : Nat} {ag : Bool} {k : IntKind} {j : Int} {l r : LV} {cs q : List LV} (ho : o.op = .index t x y) (hx : lev env x = some l) (hc : cellsL l = some cs)
    (hy : lev env y = some (.p (.int k j))) (hT : arrTy P t = some (n, m, ag)) (h0 : 0 ≤ j) (hn : j < n) (hq : subC cs (j.toNat * m) m = some q) (hr : valOf ag q = some r) : LOp P o env H (Is r H) :=
  LOp.val fun a w μ I hst he => by
    obtain ⟨vs, hv, h1, h2, h3⟩ := cellsL_rep hc (he.ev (x := x) (by simp [ho, Op.operands]) hx)
    have hyv := (lrep_int (he.ev (x := y) (by simp [ho, Op.operands]) hy)).1
    obtain ⟨e, hu, hvar⟩ := arrTy_spec hT
    obtain ⟨q1, q2, q3, q4⟩ := subC_eq hq
    have hfit : j.toNat * m + m ≤ vs.size := by
      rcases Nat.eq_zero_or_pos m with rfl | hm
      · omega
      · have := q2 hm; omega
    have hp := run_partVar (P := P) (w := w) hvar vs (j.toNat * m) hfit
    have hsz := (run_isAgg_var (P := P) (w := w) hvar).2.1
    refine ⟨_, by simp only [execOp, ho, hv, hyv, Instr.index]; simp [run_underlying hu, asIntOf, h0, hn, hsz, hp]; rfl, ?_⟩
    have := valOf_rep (μ := μ) (I := I) (w := w) hr (vs := vs.extract (j.toNat * m) (j.toNat * m + m)) (by simp; omega) (fun u hu => by
      obtain ⟨i, hi, rfl⟩ := Array.mem_iff_getElem.1 hu
      simp; exact h2 _ (Array.getElem_mem _)) (fun i c u hc hu => by
      obtain ⟨h5, h6⟩ := subC_get hq hc
      refine h3 (j.toNat * m + i) c u h5 ?_
      rw [Array.getElem?_extract] at hu
      split at hu
      · exact hu
      · cases hu)
    cases ag with
    | true => simpa using this
    | false =>
      have hn1 := (run_isAgg_var (w := w) hvar).2.2 rfl
      subst hn1
      have hg : vs[j.toNat * 1]? = some vs[j.toNat * 1] := Array.getElem?_eq_getElem (by omega)
      simp only [Bool.false_eq_true, if_false, Array.getD_eq_getD_getElem?] at this ⊢
      rw [Array.getElem?_extract] at this
      rw [if_pos (by omega)] at this
      simpa using this

/-- The address of an element of an array variable. -/
theorem LOp.indexAddrA {t : TypeId} {x y : Operand} {n m id off : Nat} {ag : Bool} {k : IntKind} {j : Int} (ho : o.op = .indexAddr t x y) (hx : lev env x = some (.ptr id off))
    (hy : lev env y = some (.p (.int k j))) (hT : arrTy P t = some (n, m, ag)) (h0 : 0 ≤ j) (hn : j < n) : LOp P o env H (Is (.ptr id (off + j.toNat * m)) H) :=
  LOp.val fun a w μ I hst he => by
    have hr := he.ev (x := x) (by simp [ho, Op.operands]) hx
    have hyv := (lrep_int (he.ev (x := y) (by simp [ho, Op.operands]) hy)).1
    generalize hv : a.eval x = v at hr
    obtain ⟨e, hu, hvar⟩ := arrTy_spec hT
    have hsz := (run_isAgg_var (P := P) (w := w) hvar).2.1
    cases hr with
    | @ptr _ _ b hid =>
      exact ⟨.pointer (some ⟨b, off + j.toNat * m, none⟩), by simp only [execOp, ho, hv, hyv, Instr.indexAt]; simp [run_underlying hu, asIntOf, Instr.sureAddr, h0, hn, hsz, addr_add], .ptr hid⟩

/-- The address of an element of a slice that is data. -/
theorem LOp.indexAddr {t : TypeId} {x y : Operand} {m bytes : Nat} {xs : List PV} {k : IntKind} {j : Int} {z : PV} {ps : List PV} (ho : o.op = .indexAddr t x y) (hx : lev env x = some (.p (.slice m xs)))
    (hy : lev env y = some (.p (.int k j))) (hT : slTy P t = some (m, bytes)) (h0 : 0 ≤ j) (hz : xs[j.toNat]? = some z) (hp : cellsP z = some ps) : LOp P o env H (Is (.cptr ps) H) :=
  LOp.val fun a w μ I hst he => by
    obtain ⟨ad, cap, f, hv, hcap, hmax, hm, hc, hr⟩ := rep_slice (lrep_slice (he.ev (x := x) (by simp [ho, Op.operands]) hx))
    have hyv := (lrep_int (he.ev (x := y) (by simp [ho, Op.operands]) hy)).1
    obtain ⟨e, i, zz, hu, hi, hz0, hzs, rfl, rfl, hpos⟩ := slTy_spec hT
    have e1 := cellsP_eq hp
    subst e1
    have hjl := (List.getElem?_eq_some_iff.1 hz).1
    have hzc := hm z (List.mem_of_getElem? hz)
    have hidx := fun (j' : Nat) c (h : z.cells[j']? = some c) => flat_get hm hz h
    obtain ⟨c0, hc0⟩ : ∃ c0, z.cells[0]? = some c0 := ⟨_, List.getElem?_eq_getElem (by omega)⟩
    obtain ⟨b, off, rfl, hI, -⟩ := hc _ _ (hidx 0 c0 hc0)
    refine ⟨.pointer (some ⟨b, off + j.toNat * i.size, none⟩), ?_, ?_⟩
    · simp only [execOp, ho, hv, hyv, Instr.indexAt]
      simp [run_underlying hu, asIntOf, sizeOf, typeInfo, hi, h0, show j < (xs.length : Int) by omega, addr_add]
    · refine .cptr (fun q => f (i.size * j.toNat + q)) hI fun q c hq => ?_
      have h1 := hidx q c hq
      obtain ⟨b', off', hb', hI', hcell⟩ := hc _ _ h1
      cases hb'
      refine ⟨flat_ones hm c (List.mem_of_getElem? h1), ?_, hr _ _ h1⟩
      rw [show off + j.toNat * i.size + q = off + (i.size * j.toNat + q) by rw [Nat.mul_comm]; omega]
      exact hcell

theorem vec_now {μ : List Blk} {I : Nat → Prop} {w : World} {H : List LObj} (hs : St μ I w H) {m id n off len : Nat} {xs : List PV} {v : Value} (hH : nth H id = some (.vec m xs)) (hn : n = xs.length)
    (hr : LRep μ I w (.vec m id n off len) v) : ∃ B, μ[id]? = some B ∧ B.n = n ∧ ORep μ I w (.vec m xs) B ∧ VFit w B.b m off len v := by
  rw [nth_eq] at hH
  cases hr with
  | @vec _ _ _ _ _ B _ hid h1 hnB hf =>
    have ho := hs.objs id _ _ hH hid
    have hBn : n = B.n := by cases ho <;> simp_all
    exact ⟨B, hid, hBn.symm, ho, hf hBn⟩

/-- The address of an element of one's own slice. -/
theorem LOp.indexAddrV {t : TypeId} {x y : Operand} {m bytes id n off len : Nat} {k : IntKind} {j : Int} {xs : List PV} (ho : o.op = .indexAddr t x y) (hx : lev env x = some (.vec m id n off len))
    (hy : lev env y = some (.p (.int k j))) (hH : nth H id = some (.vec m xs)) (hn : n = xs.length) (hT : slTy P t = some (m, bytes)) (h0 : 0 ≤ j) (hj : j < len) :
    LOp P o env H (Is (.vptr m id n (off + j.toNat) 0) H) :=
  LOp.val fun a w μ I hst he => by
    have hr := he.ev (x := x) (by simp [ho, Op.operands]) hx
    have hyv := (lrep_int (he.ev (x := y) (by simp [ho, Op.operands]) hy)).1
    generalize hv : a.eval x = v at hr
    obtain ⟨e, i, zz, hu, hi, hz0, hzs, rfl, rfl, hpos⟩ := slTy_spec hT
    obtain ⟨B, hid, hBn, hob, hf⟩ := vec_now hst hH hn hr
    rcases hf with ⟨rfl, -⟩ | ⟨b, cap, hB, rfl, hlc, hmax, hs⟩
    · omega
    · refine ⟨.pointer (some ⟨b, i.size * (off + j.toNat), none⟩), ?_, .vptr hid rfl (by omega) fun _ => ⟨b, hB, rfl⟩⟩
      simp only [execOp, ho, hv, hyv, Instr.indexAt]
      simp [run_underlying hu, asIntOf, sizeOf, typeInfo, hi, h0, hj, addr_add, Nat.mul_add, Nat.mul_comm]

theorem LOp.fieldAddrV {s : TypeId} {x : Operand} {i m id n j fo go q : Nat} {ag : Bool} (ho : o.op = .fieldAddr s x i) (hx : lev env x = some (.vptr m id n j fo)) {xs : List PV} (hH : nth H id = some (.vec m xs)) (hn : n = xs.length)
    (hT : fieldTy P s i = some (go, q, ag)) : LOp P o env H (Is (.vptr m id n j (fo + go)) H) :=
  LOp.val fun a w μ I hst he => by
    have hr := he.ev (x := x) (by simp [ho, Op.operands]) hx
    generalize hv : a.eval x = v at hr
    rw [nth_eq] at hH
    cases hr with
    | @vptr _ _ _ _ _ B _ hid h1 hnB hf =>
      have hob := hst.objs id _ _ hH hid
      have hBn : n = B.n := by cases hob <;> simp_all
      obtain ⟨b, hB, rfl⟩ := hf hBn
      obtain ⟨fs, g, hu, hgf, rfl, hsz, hv0⟩ := fieldTy_spec hT (w := w)
      exact ⟨.pointer (some ⟨b, m * j + (fo + g.offset), none⟩), by simp [execOp, ho, hv, Instr.fieldAt, run_underlying hu, hgf, Instr.sureAddr, fieldPlace, addr_add, hsz, hv0, Nat.add_assoc], .vptr hid rfl hnB fun _ => ⟨b, hB, rfl⟩⟩

def isAggP : PV → Bool
  | .agg _ => true
  | _ => false

/-- An element, or a field of it, read from one's own slice. -/
theorem LOp.loadV {t : TypeId} {x : Operand} {m id ver j fo n : Nat} {ag : Bool} {xs : List PV} {y : PV} {ps : List PV} {cs q : List LV} {l : LV} (ho : o.op = .load t x)
    (hx : lev env x = some (.vptr m id ver j fo)) (hH : nth H id = some (.vec m xs)) (hver : ver = xs.length) (hT : varTy P t = some (n, ag)) (hy : xs[j]? = some y) (hp : cellsP y = some ps) (hcs : mapP ps = some cs)
    (hq : subC cs fo n = some q) (hl : valOf ag q = some l) : LOp P o env H (Is l H) :=
  LOp.val fun a w μ I hst he => by
    have hr := he.ev (x := x) (by simp [ho, Op.operands]) hx
    generalize hv : a.eval x = v at hr
    rw [nth_eq] at hH
    have e1 := cellsP_eq hp
    subst e1
    have e2 := mapP_eq hcs
    subst e2
    obtain ⟨q1, q2, q3, q4⟩ := subC_eq hq
    cases hr with
    | @vptr _ _ _ _ _ B _ hid h1 hnB hf =>
      have hob := hst.objs id _ _ hH hid
      have hBn : ver = B.n := by cases hob <;> simp_all
      obtain ⟨b, hB, rfl⟩ := hf hBn
      cases hob with
      | vecE => cases hB
      | @vec _ _ b' vs e hb hlen hne hm hrep =>
        cases hB
        have hycl := (hm y (List.mem_of_getElem? hy)).1
        have hjl := (List.getElem?_eq_some_iff.1 hy).1
        have hfit : m * j + fo + n ≤ vs.size := by
          have h5 : m * (j + 1) ≤ m * xs.length := Nat.mul_le_mul_left _ hjl
          rw [Nat.mul_add] at h5
          simp at q4
          rcases Nat.eq_zero_or_pos n with rfl | hn
          · omega
          · have := q2 hn; simp at this; omega
        have hload := run_loadVar (P := P) (w := w) hT b (m * j + fo) (fun i => vs.getD (m * j + fo + i) undef) (fun i hi => by simp [World.cell?, hb, Array.getElem?_eq_getElem (show m * j + fo + i < vs.size by omega)])
        rw [extract_range vs _ n hfit] at hload
        refine ⟨_, by simp only [execOp, ho, Instr.loadAt, hv, Instr.sureAddr]; simp [hload]; rfl, ?_⟩
        have hpt : ∀ (i : Nat) c u, q[i]? = some c → vs[m * j + fo + i]? = some u → ∃ x, c = .p x ∧ x.one ∧ Rep I w x u := fun i c u hc hu => by
          obtain ⟨h5, h6⟩ := subC_get hq hc
          rw [List.getElem?_map] at h5
          cases hx : y.cells[fo + i]? with
          | none => rw [hx] at h5; cases h5
          | some z =>
            rw [hx] at h5; cases h5
            have h7 := flat_get hm hy hx
            exact ⟨z, rfl, flat_ones hm z (List.mem_of_getElem? h7), hrep _ z u h7 (by rw [show m * j + (fo + i) = m * j + fo + i by omega]; exact hu)⟩
        have := valOf_rep (μ := μ) (I := I) (w := w) hl (vs := vs.extract (m * j + fo) (m * j + fo + n)) (by simp; omega) (fun u hu => by
          obtain ⟨i, hi, rfl⟩ := Array.mem_iff_getElem.1 hu
          have hin : i < n := by simp at hi; omega
          have hc : q[i]? = some (q[i]'(by omega)) := List.getElem?_eq_getElem (by omega)
          obtain ⟨z, -, hz, hrz⟩ := hpt i _ _ hc (Array.getElem?_eq_getElem (show m * j + fo + i < vs.size by omega))
          simpa using hrz.one hz) (fun i c u hc hu => by
          rw [Array.getElem?_extract] at hu
          split at hu
          · obtain ⟨z, rfl, -, hrz⟩ := hpt i c u hc hu
            exact .p hrz
          · cases hu)
        cases ag with
        | true => simpa using this
        | false =>
          have hn1 := (run_isAgg_var (w := w) hT).2.2 rfl
          subst hn1
          have hg : vs[m * j + fo]? = some vs[m * j + fo] := Array.getElem?_eq_getElem (by omega)
          simp only [Bool.false_eq_true, if_false, Array.getD_eq_getD_getElem?] at this ⊢
          rw [Array.getElem?_extract] at this
          rw [if_pos (by omega)] at this
          simpa [hg] using this

/-! Lengths. -/

def isSl (P : Program) (t : TypeId) : Bool := match P.underlying t with | some (.slice _) => true | _ => false

theorem run_lenOp {w : World} {t ty : TypeId} (hT : isSl P t = true) (b : Option Addr) (n c : Nat) : (Builtin.len_ #[t] ty #[.slice b n c]).run P w = .ok (goInt n) w := by
  unfold isSl at hT
  split at hT
  · rename_i e hu; simp [Builtin.len_, run_underlying hu]
  · cases hT

theorem inKind_len {n : Nat} (h : n ≤ maxLen) : InKind .i64 (n : Int) := by
  unfold maxLen at h
  unfold InKind IntKind.min IntKind.max
  simp [IntKind.signed, IntKind.bits]
  omega

theorem LOp.len {t : TypeId} {x : Operand} {m : Nat} {xs : List PV} (ho : o.op = .call { callee := .builtin .len, args := #[x], argTypes := #[t] }) (hx : lev env x = some (.p (.slice m xs)))
    (hT : isSl P t = true) : LOp P o env H (Is (.p (.int .i64 xs.length)) H) :=
  LOp.val fun a w μ I hst he => by
    obtain ⟨ad, cap, f, hv, hcap, hmax, hm, hc, hr⟩ := rep_slice (lrep_slice (he.ev (x := x) (by simp [ho, Op.operands, Call.operands]) hx))
    refine ⟨goInt xs.length, ?_, .p (.int (inKind_len (by omega)))⟩
    simp only [execOp, ho, resolve, invoke, builtin, Sem.run_bind, Sem.run_pure, Result.andThen_ok, List.map_toArray, List.map_cons, List.map_nil, hv, run_lenOp hT]

theorem LOp.lenZ {t : TypeId} {x : Operand} (ho : o.op = .call { callee := .builtin .len, args := #[x], argTypes := #[t] }) (hx : lev env x = some .zs)
    (hT : isSl P t = true) : LOp P o env H (Is (.p (.int .i64 0)) H) :=
  LOp.val fun a w μ I hst he => by
    have hr := he.ev (x := x) (by simp [ho, Op.operands, Call.operands]) hx
    generalize hv : a.eval x = v at hr
    cases hr
    refine ⟨goInt (0 : Nat), ?_, .p (.int (by unfold InKind; decide))⟩
    simp only [execOp, ho, resolve, invoke, builtin, Sem.run_bind, Sem.run_pure, Result.andThen_ok, List.map_toArray, List.map_cons, List.map_nil, hv, run_lenOp hT]

theorem LOp.lenV {t : TypeId} {x : Operand} {m id n off len : Nat} {xs : List PV} (ho : o.op = .call { callee := .builtin .len, args := #[x], argTypes := #[t] }) (hx : lev env x = some (.vec m id n off len))
    (hH : nth H id = some (.vec m xs)) (hn : n = xs.length) (hT : isSl P t = true) : LOp P o env H (Is (.p (.int .i64 len)) H) :=
  LOp.val fun a w μ I hst he => by
    have hr := he.ev (x := x) (by simp [ho, Op.operands, Call.operands]) hx
    generalize hv : a.eval x = v at hr
    obtain ⟨B, hid, hBn, hob, hf⟩ := vec_now hst hH hn hr
    have : ∃ b c, v = .slice b len c ∧ len ≤ maxLen := by
      rcases hf with ⟨rfl, a', rfl⟩ | ⟨b, cap, hB, rfl, hlc, hmax, hs⟩
      · exact ⟨_, _, rfl, by simp⟩
      · exact ⟨_, _, rfl, by omega⟩
    obtain ⟨b, c, rfl, hl⟩ := this
    refine ⟨goInt len, ?_, .p (.int (inKind_len hl))⟩
    simp only [execOp, ho, resolve, invoke, builtin, Sem.run_bind, Sem.run_pure, Result.andThen_ok, List.map_toArray, List.map_cons, List.map_nil, hv, run_lenOp hT]

/-! Parts of slices that are data. -/

theorem rep_part {I : Nat → Prop} {w : World} {m : Nat} {xs : List PV} {a : Option Addr} {cap : Nat} (h : Rep I w (.slice m xs) (.slice a xs.length cap)) (lo hi mx : Nat) (h1 : lo ≤ hi) (h2 : hi ≤ xs.length) (h3 : hi ≤ mx) (h4 : mx ≤ cap) :
    Rep I w (.slice m ((xs.drop lo).take (hi - lo))) (.slice (if mx = lo then a else a.map (·.add (lo * m))) (hi - lo) (mx - lo)) := by
  obtain ⟨a', cap', f, hv, hcap, hmax, hm, hc, hr⟩ := rep_slice h
  cases hv
  have hidx : ∀ (i : Nat) c, (flat ((xs.drop lo).take (hi - lo)))[i]? = some c → (flat xs)[m * lo + i]? = some c ∧ i < m * (hi - lo) := by
    intro i c hi'
    rw [flat_take _ (hm.drop lo), flat_drop _ hm, List.getElem?_take] at hi'
    split at hi'
    · rename_i hlt; rw [List.getElem?_drop] at hi'; exact ⟨hi', hlt⟩
    · cases hi'
  refine .slice (fun i => f (m * lo + i)) (by simp; omega) (by omega) (by omega) ((hm.drop lo).take _) (fun i c hi' => ?_) (fun i c hi' => hr _ c (hidx i c hi').1)
  obtain ⟨h5, h6⟩ := hidx i c hi'
  obtain ⟨b, off, rfl, hI, hcell⟩ := hc _ c h5
  have hne : ¬ mx = lo := by
    intro e
    have : hi - lo = 0 := by omega
    rw [this] at h6; simp at h6
  rw [if_neg hne]
  refine ⟨b, off + lo * m, by simp [addr_add], hI, ?_⟩
  rw [show off + lo * m + i = off + (m * lo + i) by rw [Nat.mul_comm]; omega]
  exact hcell

def optInt (env : Env) : Option Operand → Option (Option Int)
  | none => some none
  | some x => match lev env x with | some (.p (.int _ n)) => some (some n) | _ => none

theorem optInt_rep {μ : List Blk} {I : Nat → Prop} {w : World} {a : Act} {x : Option Operand} {r : Option Int} (he : EOn μ I w o env a) (hm : ∀ y, x = some y → y ∈ o.op.operands) (h : optInt env x = some r) :
    ∃ kv, x.map a.eval = kv ∧ (r = none → kv = none) ∧ ∀ n, r = some n → ∃ k, kv = some (.int k n) := by
  cases x with
  | none => simp [optInt] at h; subst h; exact ⟨none, rfl, by simp, by simp⟩
  | some y =>
    simp only [optInt] at h
    split at h
    · rename_i k n hy
      cases h
      have := (lrep_int (he.ev (hm y rfl) hy)).1
      exact ⟨_, rfl, by simp, fun n' hn => by cases hn; exact ⟨k, by simp [this]⟩⟩
    · cases h

theorem LOp.slice {t : TypeId} {x : Operand} {lo hi : Option Operand} {m bytes : Nat} {xs : List PV} {l h : Option Int} (ho : o.op = .slice t x lo hi none) (hx : lev env x = some (.p (.slice m xs)))
    (hlo : optInt env lo = some l) (hhi : optInt env hi = some h) (hT : slTy P t = some (m, bytes)) (h0 : 0 ≤ l.getD 0) (h1 : l.getD 0 ≤ h.getD xs.length) (h2 : h.getD xs.length ≤ xs.length) :
    LOp P o env H (Is (.p (.slice m ((xs.drop (l.getD 0).toNat).take ((h.getD xs.length).toNat - (l.getD 0).toNat)))) H) :=
  LOp.val fun a w μ I hst he => by
    have hrep := lrep_slice (he.ev (x := x) (by simp [ho, Op.operands]) hx)
    obtain ⟨ad, cap, f, hv, hcap, hmax, hm, hc, hr⟩ := rep_slice hrep
    rw [hv] at hrep
    obtain ⟨kl, hkl, hl1, hl2⟩ := optInt_rep he (fun y hy => by subst hy; simp [ho, Op.operands]) hlo
    obtain ⟨kh, hkh, hh1, hh2⟩ := optInt_rep he (fun y hy => by subst hy; simp [ho, Op.operands]) hhi
    obtain ⟨e, i, zz, hu, hi', hz0, hzs, rfl, rfl, hpos⟩ := slTy_spec hT
    have hb : (Instr.sliceBounds true xs.length cap kl kh none).run P w = .ok ((l.getD 0).toNat, (h.getD xs.length).toNat, cap) w := by
      cases l with
      | none =>
        rw [hl1 rfl]
        cases h with
        | none => rw [hh1 rfl]; simp [Instr.sliceBounds]
        | some n =>
          obtain ⟨k, hk⟩ := hh2 n rfl
          simp only [Option.getD_some, Option.getD_none] at h0 h1 h2
          rw [hk]; simp [Instr.sliceBounds, Instr.sliceBound, asIntOf, h1, show n ≤ (cap : Int) by omega]
      | some q =>
        obtain ⟨k, hk⟩ := hl2 q rfl
        rw [hk]
        cases h with
        | none =>
          simp only [Option.getD_some, Option.getD_none] at h0 h1 h2
          rw [hh1 rfl]; simp [Instr.sliceBounds, Instr.sliceBound, asIntOf, h0, h1]
        | some n =>
          obtain ⟨k', hk'⟩ := hh2 n rfl
          simp only [Option.getD_some] at h0 h1 h2
          rw [hk']; simp [Instr.sliceBounds, Instr.sliceBound, asIntOf, h0, show n ≤ (cap : Int) by omega, show 0 ≤ n by omega, show q ≤ (n.toNat : Int) by omega]
          try (intro hh; exfalso; omega)
    refine ⟨_, ?_, .p (rep_part hrep (l.getD 0).toNat (h.getD xs.length).toNat cap (by omega) (by omega) (by omega) (Nat.le_refl _))⟩
    simp only [execOp, ho, hv, hkl, hkh, Option.map_none, Instr.sliceAt]
    simp [run_underlying hu, Instr.slice, hb, sizeOf, typeInfo, hi']

/-- 'xs[:hi:max]' of data. -/
theorem LOp.slice3 {t : TypeId} {x : Operand} {hi mx : Operand} {m bytes : Nat} {xs : List PV} {h q : Int} {k k' : IntKind} (ho : o.op = .slice t x none (some hi) (some mx)) (hx : lev env x = some (.p (.slice m xs)))
    (hhi : lev env hi = some (.p (.int k h))) (hmx : lev env mx = some (.p (.int k' q))) (hT : slTy P t = some (m, bytes)) (h0 : 0 ≤ h) (h1 : h ≤ q) (h2 : q ≤ xs.length) :
    LOp P o env H (Is (.p (.slice m (xs.take h.toNat))) H) :=
  LOp.val fun a w μ I hst he => by
    have hrep := lrep_slice (he.ev (x := x) (by simp [ho, Op.operands]) hx)
    obtain ⟨ad, cap, f, hv, hcap, hmax, hm, hc, hr⟩ := rep_slice hrep
    rw [hv] at hrep
    have e1 := (lrep_int (he.ev (x := hi) (by simp [ho, Op.operands]) hhi)).1
    have e2 := (lrep_int (he.ev (x := mx) (by simp [ho, Op.operands]) hmx)).1
    obtain ⟨e, i, zz, hu, hi', hz0, hzs, rfl, rfl, hpos⟩ := slTy_spec hT
    have := rep_part hrep 0 h.toNat q.toNat (by omega) (by omega) (by omega) (by omega)
    simp only [List.drop_zero, Nat.sub_zero, Nat.zero_mul] at this
    refine ⟨_, ?_, .p this⟩
    simp only [execOp, ho, hv, e1, e2, Option.map_none, Option.map_some, Instr.sliceAt]
    simp [run_underlying hu, Instr.slice, Instr.sliceBounds, Instr.sliceBound, asIntOf, h0, show 0 ≤ q by omega, show q ≤ (cap : Int) by omega, show h ≤ (q.toNat : Int) by omega, sizeOf, typeInfo, hi']
    try (intro hh; exfalso; omega)

/-- 'xs[:0:0]'. -/
theorem LOp.slice00 {t : TypeId} {x : Operand} {hi mx : Operand} {m bytes : Nat} {xs : List PV} {k k' : IntKind} (ho : o.op = .slice t x none (some hi) (some mx)) (hx : lev env x = some (.p (.slice m xs)))
    (hhi : lev env hi = some (.p (.int k 0))) (hmx : lev env mx = some (.p (.int k' 0))) (hT : slTy P t = some (m, bytes)) : LOp P o env H (Is .zs H) :=
  LOp.val fun a w μ I hst he => by
    have hrep := lrep_slice (he.ev (x := x) (by simp [ho, Op.operands]) hx)
    obtain ⟨ad, cap, f, hv, hcap, hmax, hm, hc, hr⟩ := rep_slice hrep
    have e1 := (lrep_int (he.ev (x := hi) (by simp [ho, Op.operands]) hhi)).1
    have e2 := (lrep_int (he.ev (x := mx) (by simp [ho, Op.operands]) hmx)).1
    obtain ⟨e, i, zz, hu, hi', hz0, hzs, rfl, rfl, hpos⟩ := slTy_spec hT
    refine ⟨.slice ad 0 0, ?_, .zs⟩
    simp only [execOp, ho, hv, e1, e2, Option.map_none, Option.map_some, Instr.sliceAt]
    simp [run_underlying hu, Instr.slice, Instr.sliceBounds, Instr.sliceBound, asIntOf, show (0 : Int) ≤ (cap : Int) by omega, sizeOf, typeInfo, hi']

theorem LOp.makeFunc {f : FuncId} {first caps : Array Operand} {ls qs : List LV} (ho : o.op = .makeFunc (.func f) first caps) (hl : levs env first.toList = some ls) (hq : levs env caps.toList = some qs) :
    LOp P o env H (Is (.fn f ls qs) H) :=
  LOp.val fun a w μ I hst he => by
    have h1 := levs_rep he (xs := first.toList) (by intro x hx; rw [ho]; simp [Op.operands]; exact .inl (by simpa using hx)) hl
    have h2 := levs_rep he (xs := caps.toList) (by intro x hx; rw [ho]; simp [Op.operands]; exact .inr (by simpa using hx)) hq
    refine ⟨.func (.func f) (first.map a.eval) (caps.map a.eval), by simp [execOp, ho, Instr.makeFunc], .fn ?_ ?_ ?_ ?_⟩
    · have := h1.len; simpa using this
    · have := h2.len; simpa using this
    · exact fun i c v hc hv => h1.get i c v hc (by rw [← Array.toList_map]; simpa using hv)
    · exact fun i c v hc hv => h2.get i c v hc (by rw [← Array.toList_map]; simpa using hv)

theorem LOp.nilCheck {x : Operand} {id off : Nat} (ho : o.op = .nilCheck x) (hx : lev env x = some (.ptr id off)) : LOp P o env H (Is (.ptr id off) H) :=
  LOp.val fun a w μ I hst he => by
    have hr := he.ev (x := x) (by simp [ho, Op.operands]) hx
    generalize hv : a.eval x = v at hr
    cases hr with
    | ptr h => exact ⟨_, by simp [execOp, ho, hv], .ptr h⟩

theorem LOp.nilCheckC {x : Operand} {ps : List PV} (ho : o.op = .nilCheck x) (hx : lev env x = some (.cptr ps)) : LOp P o env H (Is (.cptr ps) H) :=
  LOp.val fun a w μ I hst he => by
    have hr := he.ev (x := x) (by simp [ho, Op.operands]) hx
    generalize hv : a.eval x = v at hr
    cases hr with
    | cptr f hI hc => exact ⟨_, by simp [execOp, ho, hv], .cptr f hI hc⟩

theorem LOp.nilCheckF {x : Operand} {f : FuncId} {ls qs : List LV} (ho : o.op = .nilCheck x) (hx : lev env x = some (.fn f ls qs)) : LOp P o env H (Is (.fn f ls qs) H) :=
  LOp.val fun a w μ I hst he => by
    have hr := he.ev (x := x) (by simp [ho, Op.operands]) hx
    generalize hv : a.eval x = v at hr
    cases hr with
    | fn h1 h2 h3 h4 => exact ⟨_, by simp [execOp, ho, hv], .fn h1 h2 h3 h4⟩
end
end Go.Mg
