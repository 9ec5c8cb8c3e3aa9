/- Maps told by lists of keys and values of plain types; lists of plain types. Conditions: none. -/
import Derived.Test.YtlhocfhoocmfiaaMg17
namespace Go.Mg

/-- What a list of keys and values has at a key. -/
def findE {α β : Type} [DecidableEq α] : List (α × β) → α → Option β
  | [], _ => none
  | (a, b) :: r, k => if a = k then some b else findE r k

theorem findE_append {α β : Type} [DecidableEq α] {m : List (α × β)} {a : α} {b : β} {k : α} : findE (m ++ [(a, b)]) k = (findE m k).or (if a = k then some b else none) := by
  induction m with
  | nil => rfl
  | cons e r ih =>
    obtain ⟨c, d⟩ := e
    simp only [List.cons_append, findE, ih]
    split <;> simp

/-- What a lookup yields. -/
def okR : Bool → LV → Bool → Option LV
  | true, x, b => some (.tup [x, .p (.bool b)])
  | false, x, _ => some x

theorem okR_eq {ok b : Bool} {x r : LV} (h : okR ok x b = some r) : r = if ok then .tup [x, .p (.bool b)] else x := by
  cases ok <;> cases h <;> rfl

section
variable {α β : Type} [DecidableEq α]

/-- Keys told by α. -/
structure KeyOk (f : α → PV) (n : Nat) (ag : Bool) : Prop where
  eq : ∀ a b, keyEq (f a) (f b) = some (decide (a = b))
  fits : ∀ a, keyFits n ag (f a) = true

def entsOf (f : α → PV) (g : β → LV) (m : List (α × β)) : List (PV × LV) := m.map fun e => (f e.1, g e.2)

theorem findE_hit {f : α → PV} {g : β → LV} {n : Nat} {ag : Bool} (hk : KeyOk f n ag) : ∀ {m : List (α × β)} {k : α} {v : β}, findE m k = some v → ∃ i, MFind (f k) (entsOf f g m) (some i) ∧ (entsOf f g m)[i]? = some (f k, g v)
  | [], k, v, h => by cases h
  | (a, b) :: r, k, v, h => by
    unfold findE at h
    split at h
    · rename_i e
      cases h; subst e
      exact ⟨0, .hit (e := (f a, g b)) rfl (by rw [hk.eq]; simp) (fun j e hj => absurd hj (by omega)), rfl⟩
    · rename_i hne
      obtain ⟨i, h1, h2⟩ := findE_hit hk h
      cases h1 with
      | hit hi he hlt =>
        refine ⟨i + 1, .hit (by simpa [entsOf] using hi) he fun j e hj hje => ?_, by simpa [entsOf] using h2⟩
        cases j with
        | zero =>
          simp [entsOf] at hje
          subst hje
          rw [hk.eq]
          simp; exact fun h => hne (Eq.symm h)
        | succ j => exact hlt j e (by omega) (by simpa [entsOf] using hje)

theorem findE_miss {f : α → PV} {g : β → LV} {n : Nat} {ag : Bool} (hk : KeyOk f n ag) : ∀ {m : List (α × β)} {k : α}, findE m k = none → MFind (f k) (entsOf f g m) none := by
  intro m
  induction m with
  | nil => intro k _; exact .miss (by simp [entsOf])
  | cons e r ih =>
    obtain ⟨a, b⟩ := e
    intro k h
    unfold findE at h
    split at h
    · cases h
    · rename_i hne
      cases ih h with
      | miss hm =>
        refine .miss fun e he => ?_
        rcases List.mem_cons.1 he with e1 | he
        · subst e1
          rw [hk.eq]
          simp; exact fun h => hne (Eq.symm h)
        · exact hm e he

variable {P : Program} {o : Oper} {env : Env} {H : List LObj} {t k e : TypeId} {n id : Nat} {ag : Bool} {x y z : Operand}

/-- 'm[k]' where k is there. -/
theorem LOp.getHit {f : α → PV} {g : β → LV} {m : List (α × β)} {a : α} {v : β} {ok : Bool} {r : LV} (hk : KeyOk f n ag) (hf : findE m a = some v) (ho : o.op = .lookup t x y ok) (hx : lev env x = some (.map id)) (hy : lev env y = some (.p (f a)))
    (hH : nth H id = some (.map (entsOf f g m))) (hT : mapTy P t = some (k, e, n, ag)) (hr : okR ok (g v) true = some r) : LOp P o env H (Is r H) := by
  obtain ⟨i, h1, h2⟩ := findE_hit (g := g) hk hf
  exact LOp.lookupHit ho hx hy hH hT (hk.fits a) h1 h2 (okR_eq hr)

theorem LOp.getMiss {f : α → PV} {g : β → LV} {m : List (α × β)} {a : α} {ok : Bool} {z r : LV} (hk : KeyOk f n ag) (hf : findE m a = none) (ho : o.op = .lookup t x y ok) (hx : lev env x = some (.map id)) (hy : lev env y = some (.p (f a)))
    (hH : nth H id = some (.map (entsOf f g m))) (hT : mapTy P t = some (k, e, n, ag)) (hz : zeroL P e = some z) (hr : okR ok z false = some r) : LOp P o env H (Is r H) :=
  LOp.lookupMiss ho hx hy hH hT (hk.fits a) hz (findE_miss hk hf) (okR_eq hr)

theorem LOp.getNil {f : α → PV} {a : α} {ok : Bool} {z r : LV} (hk : KeyOk f n ag) (ho : o.op = .lookup t x y ok) (hx : lev env x = some .nilmap) (hy : lev env y = some (.p (f a)))
    (hT : mapTy P t = some (k, e, n, ag)) (hz : zeroL P e = some z) (hr : okR ok z false = some r) : LOp P o env H (Is r H) :=
  LOp.lookupNil ho hx hy hT (hk.fits a) hz (okR_eq hr)

/-- 'm[k] = v' where k is not there. -/
theorem LOp.setNew {f : α → PV} {g : β → LV} {m : List (α × β)} {a : α} {v : β} {l : LV} {H' : List LObj} (hk : KeyOk f n ag) (hf : findE m a = none) (ho : o.op = .mapUpdate t x y z ∨ o.op = .insert t x y z) (hx : lev env x = some (.map id)) (hy : lev env y = some (.p (f a)))
    (hz : lev env z = some l) (hl : l = g v) (hH : nth H id = some (.map (entsOf f g m))) (hT : mapTy P t = some (k, e, n, ag)) (hH' : setC H id (.map (entsOf f g (m ++ [(a, v)]))) = some H') : LOp P o env H (Is .any H') := by
  subst hl
  refine upd_new ho hx hy hz hH hT (hk.fits a) (findE_miss hk hf) ?_
  simpa [entsOf] using hH'
end

/-- A key of two numbers. -/
theorem eqCells2 (k k' : IntKind) (a b c d : Int) : eqCells [.int k a, .int k' b] [.int k c, .int k' d] = some ((a == c) && ((b == d) && true)) := by
  simp [eqCells]
theorem lowObjs_cons {k : Nat} {o : LObj} {r : List LObj} (h : o.lowB k = true) (h' : lowObjs k r = true) : lowObjs k (o :: r) = true := by
  simp only [lowObjs, h, h']

theorem entsLow {α β : Type} {f : α → PV} {g : β → LV} {k : Nat} (h : ∀ v, (g v).lowB k = true) (m : List (α × β)) : (LObj.map (entsOf f g m)).lowB k = true := by
  show lowMap k (entsOf f g m) = true
  induction m with
  | nil => rfl
  | cons e r ih =>
    show lowMap k ((f e.1, g e.2) :: entsOf f g r) = true
    simp only [lowMap, h, ih]
/-- A label to which code jumps back, told by one datum. -/
theorem LW.jumpsOf {P : Program} {n k : Nat} {env : Env} {H : List LObj} {Q : Exit → Env → List LObj → Prop} {α : Type} {c rest : Code} {l : Nat} (E : α → Env) (O : α → List LObj) (G : α → Prop) (meas : α → Nat)
    (hf : findLabel c l = some rest) (first : LW P n k c env H (jmp l (fun env' H' => ∃ y, G y ∧ Weak k (E y) (O y) env' H') Q))
    (pass : ∀ x, G x → LW P n k rest (E x) (O x) (jmp l (fun env' H' => ∃ y, meas y < meas x ∧ G y ∧ Weak k (E y) (O y) env' H') Q)) : LW P n k (.scope c) env H Q := by
  refine LW.jumps (fun m env H => ∃ x, m = meas x ∧ G x ∧ Weak k (E x) (O x) env H) hf (first.mono fun e env' H' q => ?_) ?_
  · cases e with
    | goto l' => obtain ⟨h1, y, h2, h3⟩ := q; exact ⟨h1, _, y, rfl, h2, h3⟩
    | _ => exact q
  · rintro m env H ⟨x, rfl, hg, hw⟩
    refine LW.weak hw ((pass x hg).mono fun e env' H' q => ?_)
    cases e with
    | goto l' => obtain ⟨h1, y, h2, h3, h4⟩ := q; exact ⟨h1, _, h2, y, rfl, h3, h4⟩
    | _ => exact q
/-- 'append(s, x..)' of elements told by α. -/
theorem LOp.appendM {P : Program} {o : Oper} {env : Env} {H H' : List LObj} {α : Type} {f : α → PV} {xs ys : List α} {t : TypeId} {x y : Operand} {m bytes id : Nat} {zs : List PV}
    (ho : o.op = .call { callee := .builtin .append, args := #[x, y], argTypes := #[t, t] }) (hx : lev env x = some (.vec m id (xs.map f).length 0 (xs.map f).length)) (hH : nth H id = some (.vec m (xs.map f)))
    (hy : lev env y = some (.p (.slice m zs))) (hz : zs = ys.map f) (hT : slTy P t = some (m, bytes)) (hb : (xs.length + ys.length) * (bytes + 1) ≤ 140737488355328) (hH' : setC H id (.vec m ((xs ++ ys).map f)) = some H') :
    LOp P o env H (Is (.vec m id ((xs ++ ys).map f).length 0 ((xs ++ ys).map f).length) H') := by
  subst hz
  have h := LOp.append (H' := H') ho hx hH rfl rfl hy Src.p hT (by simpa using hb) (by rw [← List.map_append]; exact hH')
  simpa [Nat.add_comm] using h

theorem lenC_of {α : Type} (l : List α) : lenC l = some l.length := by
  induction l with
  | nil => rfl
  | cons a r ih => simp [lenC, ih]
end Go.Mg
