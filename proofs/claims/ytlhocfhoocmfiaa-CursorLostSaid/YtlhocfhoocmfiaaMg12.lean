/- What one knows of values that stand in slots; small rules; min, max, makes, stores into one's own slices. Conditions: none. -/
import Derived.Test.YtlhocfhoocmfiaaMg11
namespace Go.Mg

/-- It stands somewhere: so numbers are of their kinds, slices are no longer than may be. -/
def Okv (x : PV) : Prop := ∃ I w v, Rep I w x v

theorem Okv.int {k : IntKind} {n : Int} (h : Okv (.int k n)) : InKind k n := by
  obtain ⟨I, w, v, h⟩ := h
  cases h; assumption

theorem Okv.agg {cs : List PV} (h : Okv (.agg cs)) : ∀ c ∈ cs, Okv c := by
  obtain ⟨I, w, v, h⟩ := h
  cases h with
  | agg hl ho h =>
    intro c hc
    obtain ⟨i, hi, rfl⟩ := List.mem_iff_getElem.1 hc
    exact ⟨I, w, _, h i _ _ (List.getElem?_eq_getElem hi) (Array.getElem?_eq_getElem (by omega))⟩

theorem Okv.len {m : Nat} {xs : List PV} (h : Okv (.slice m xs)) : xs.length ≤ maxLen := by
  obtain ⟨I, w, v, h⟩ := h
  obtain ⟨a, cap, f, -, h1, h2, -⟩ := rep_slice h
  omega

theorem Okv.elems {m : Nat} {xs : List PV} (h : Okv (.slice m xs)) : Elems m xs := by
  obtain ⟨I, w, v, h⟩ := h
  obtain ⟨a, cap, f, -, h1, h2, h3, -⟩ := rep_slice h
  exact h3

theorem Okv.cells {m : Nat} {xs : List PV} (h : Okv (.slice m xs)) {x : PV} (hx : x ∈ xs) : ∀ c ∈ x.cells, Okv c := by
  have he := h.elems
  obtain ⟨I, w, v, h⟩ := h
  obtain ⟨a, cap, f, -, h1, h2, h3, h4, h5⟩ := rep_slice h
  intro c hc
  obtain ⟨i, hi⟩ := mem_get hx
  obtain ⟨j, hj⟩ := mem_get hc
  exact ⟨I, w, _, h5 _ c (flat_get he hi hj)⟩

section
variable {P : Program} {n k : Nat} {env : Env} {H : List LObj} {Q : Exit → Env → List LObj → Prop} {o : Oper}

theorem LW.ok {c : Code} {t : Nat} {x : PV} (h : env.get t = some (.p x)) (hw : Okv x → LW P n k c env H Q) : LW P n k c env H Q := by
  intro a w μ I hn
  obtain ⟨v, -, hr⟩ := hn.env t _ h
  cases hr with
  | p hr => exact hw ⟨_, _, _, hr⟩ a w μ I hn

theorem inBlk_self {id : Nat} (h : Q .normal env H) : inBlk id Q (.exit id) env H := by
  simp only [inBlk, if_true]; exact h

theorem inBlk_other {id id' : Nat} (hne : id' ≠ id) (h : Q (.exit id') env H) : inBlk id Q (.exit id') env H := by
  simp only [inBlk, if_neg hne]; exact h

theorem LW.exitHere {id : Nat} (h : Q .normal env H) : LW P n k (.exit id) env H (inBlk id Q) := LW.exit (inBlk_self h)

theorem Conv.pe {b : Bool} {x y : PV} (h : x = y) : Conv b H (.p x) y := by subst h; exact Conv.p

/-- A value told otherwise. -/
theorem LOp.eq {R R' : LV → List LObj → Prop} (h : LOp P o env H R) (hr : R = R') : LOp P o env H R' := hr ▸ h

theorem LOp.isEq {x y : LV} {H' : List LObj} (h : LOp P o env H (Is x H')) (e : x = y) : LOp P o env H (Is y H') := e ▸ h

theorem LOp.max {t : Array TypeId} {x y : Operand} {k : IntKind} {p q : Int} (ho : o.op = .call { callee := .builtin .max, args := #[x, y], argTypes := t }) (hx : lev env x = some (.p (.int k p)))
    (hy : lev env y = some (.p (.int k q))) : LOp P o env H (Is (.p (.int k (if q > p then q else p))) H) :=
  LOp.val fun a w μ I hst he => by
    obtain ⟨e1, h1⟩ := lrep_int (he.ev (x := x) (by simp [ho, Op.operands, Call.operands]) hx)
    obtain ⟨e2, h2⟩ := lrep_int (he.ev (x := y) (by simp [ho, Op.operands, Call.operands]) hy)
    refine ⟨.int k (if q > p then q else p), ?_, .p (.int (by split <;> assumption))⟩
    simp only [execOp, ho, resolve, invoke, builtin, Sem.run_bind, Sem.run_pure, Result.andThen_ok, List.map_toArray, List.map_cons, List.map_nil, e1, e2, Builtin.max_, List.foldlM_cons, List.foldlM_nil, Builtin.max2]

theorem LOp.min {t : Array TypeId} {x y : Operand} {k : IntKind} {p q : Int} (ho : o.op = .call { callee := .builtin .min, args := #[x, y], argTypes := t }) (hx : lev env x = some (.p (.int k p)))
    (hy : lev env y = some (.p (.int k q))) : LOp P o env H (Is (.p (.int k (if q < p then q else p))) H) :=
  LOp.val fun a w μ I hst he => by
    obtain ⟨e1, h1⟩ := lrep_int (he.ev (x := x) (by simp [ho, Op.operands, Call.operands]) hx)
    obtain ⟨e2, h2⟩ := lrep_int (he.ev (x := y) (by simp [ho, Op.operands, Call.operands]) hy)
    refine ⟨.int k (if q < p then q else p), ?_, .p (.int (by split <;> assumption))⟩
    simp only [execOp, ho, resolve, invoke, builtin, Sem.run_bind, Sem.run_pure, Result.andThen_ok, List.map_toArray, List.map_cons, List.map_nil, e1, e2, Builtin.min_, List.foldlM_cons, List.foldlM_nil, Builtin.min2]
end
end Go.Mg
