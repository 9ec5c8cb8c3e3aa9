/- Short words for the ends of functions. Conditions: none. -/
import Derived.Test.YtlhocfhoocmfiaaMg16
namespace Go.Mg

section
variable {P : Program} {fn : Func} {env : Env} {H : List LObj} {k : Nat}

theorem finP_ret {x : LV} {rs : List PV} (h : ResAll P env H fn.results x) (hc : Conv1 H x rs) : FinP P fn rs .ret env H := ⟨.inr rfl, x, h, hc⟩
theorem finP_end {x : LV} {rs : List PV} (h : ResAll P env H fn.results x) (hc : Conv1 H x rs) : FinP P fn rs .normal env H := ⟨.inl rfl, x, h, hc⟩
theorem fin_ret {x : LV} {R : LV → List LObj → Prop} (h : ResAll P env H fn.results x) (hR : R x H) : Fin P fn k R .ret env H := ⟨.inr rfl, .inl ⟨x, h, hR⟩⟩
theorem fin_end {x : LV} {R : LV → List LObj → Prop} (h : ResAll P env H fn.results x) (hR : R x H) : Fin P fn k R .normal env H := ⟨.inl rfl, .inl ⟨x, h, hR⟩⟩
theorem fin_retW {env' : Env} {H' : List LObj} {x : LV} {R : LV → List LObj → Prop} (hw : Weak k env' H' env H) (h : ResAll P env' H' fn.results x) (hR : R x H') : Fin P fn k R .ret env H := ⟨.inr rfl, .inr ⟨env', H', x, hw, h, hR⟩⟩
theorem fin_endW {env' : Env} {H' : List LObj} {x : LV} {R : LV → List LObj → Prop} (hw : Weak k env' H' env H) (h : ResAll P env' H' fn.results x) (hR : R x H') : Fin P fn k R .normal env H := ⟨.inl rfl, .inr ⟨env', H', x, hw, h, hR⟩⟩
end

/-- After code whose end is told by less. -/
theorem LW.cut {P : Program} {n k : Nat} {env E : Env} {H O : List LObj} {Q : Exit → Env → List LObj → Prop} {x y : Code}
    (h : LW P n k x env H (thn (fun env' H' => Weak k E O env' H') Q)) (hy : LW P n k y E O Q) : LW P n k (.seq x y) env H Q :=
  LW.seq (h.mono fun e env' H' q => by
    cases e with
    | normal => exact LW.weak q hy
    | _ => exact q)
section
variable {P : Program} {n k : Nat} {env : Env} {H : List LObj} {Q : Exit → Env → List LObj → Prop} {ops : Array Oper}

/-- A guarded operation that is wanted, of just this value. -/
theorem LOps.gis {i : Nat} {l : List Nat} {o : Oper} {j t : Nat} {b : Bool} {x : LV} {H' : List LObj} {Q : Env → List LObj → Prop} (ho : ops[i]? = some o) (hg : o.guard = some (j, b))
    (ht : (ops[j]?).bind (·.dst) = some t) (hb : env.get t = some (.p (.bool b))) (hd : dstOk n o.dst = true)
    (h : LOp P o env H (Is x H')) (hr : LOps P ops n k l (eput env o.dst x) H' Q) : LOps P ops n k (i :: l) env H Q :=
  LOps.guarded ho hg ht hb hd h (by rintro y H'' ⟨rfl, rfl⟩; exact hr)

/-- Two cases of a slot's bool. -/
theorem LOps.split {l : List Nat} {Q : Env → List LObj → Prop} (t : Nat) {b : Bool} (hb : env.get t = some (.p (.bool b)))
    (ht : b = true → LOps P ops n k l ((t, .p (.bool true)) :: env) H Q) (hf : b = false → LOps P ops n k l ((t, .p (.bool false)) :: env) H Q) : LOps P ops n k l env H Q := by
  have key : ∀ c, b = c → ∀ a w (μ : List Blk) (I : Nat → Prop), Now n μ I w H env a → Now n μ I w H ((t, .p (.bool c)) :: env) a := by
    rintro c rfl a w μ I hn
    refine ⟨hn.size, hn.defers, hn.st, fun s y hs => ?_⟩
    rw [Env.get_cons] at hs
    split at hs
    · rename_i e; subst e; cases hs; exact hn.env _ _ hb
    · exact hn.env _ _ hs
  intro a w μ I hn hk Q' hq
  cases hc : b with
  | true => exact ht hc a w μ I (key _ hc a w μ I hn) hk Q' hq
  | false => exact hf hc a w μ I (key _ hc a w μ I hn) hk Q' hq

theorem LW.split {c : Code} (t : Nat) {b : Bool} (hb : env.get t = some (.p (.bool b)))
    (ht : b = true → LW P n k c ((t, .p (.bool true)) :: env) H Q) (hf : b = false → LW P n k c ((t, .p (.bool false)) :: env) H Q) : LW P n k c env H Q := by
  have key : ∀ c, b = c → ∀ a w (μ : List Blk) (I : Nat → Prop), Now n μ I w H env a → Now n μ I w H ((t, .p (.bool c)) :: env) a := by
    rintro c rfl a w μ I hn
    refine ⟨hn.size, hn.defers, hn.st, fun s y hs => ?_⟩
    rw [Env.get_cons] at hs
    split at hs
    · rename_i e; subst e; cases hs; exact hn.env _ _ hb
    · exact hn.env _ _ hs
  intro a w μ I hn hk Q' hq
  cases hc : b with
  | true => exact ht hc a w μ I (key _ hc a w μ I hn) hk Q' hq
  | false => exact hf hc a w μ I (key _ hc a w μ I hn) hk Q' hq

theorem LW.condT {c : Operand} {x y : Code} (hc : lev env c = some (.p (.bool true))) (h : LW P n k x env H Q) : LW P n k (.cond c x y) env H Q :=
  LW.cond hc (fun _ => h) (fun e => nomatch e)
theorem LW.condF {c : Operand} {x y : Code} (hc : lev env c = some (.p (.bool false))) (h : LW P n k y env H Q) : LW P n k (.cond c x y) env H Q :=
  LW.cond hc (fun e => nomatch e) (fun _ => h)
end
section
variable {P : Program} {n k : Nat} {env : Env} {H : List LObj} {Q : Exit → Env → List LObj → Prop} {ops : Array Oper}

theorem gd {t : Nat} {b c : Bool} (h : b = c) (hb : env.get t = some (.p (.bool b))) : env.get t = some (.p (.bool c)) := h ▸ hb
theorem gdl {x : Operand} {b c : Bool} (h : b = c) (hb : lev env x = some (.p (.bool b))) : lev env x = some (.p (.bool c)) := h ▸ hb

theorem LOps.cases {l : List Nat} {Q : Env → List LObj → Prop} (t : Nat) {b : Bool} (_ : env.get t = some (.p (.bool b)))
    (ht : b = true → LOps P ops n k l env H Q) (hf : b = false → LOps P ops n k l env H Q) : LOps P ops n k l env H Q :=
  match b, ht, hf with
  | true, ht, _ => ht rfl
  | false, _, hf => hf rfl
theorem LO.cases {l : List Nat} {Q : Env → Prop} (t : Nat) {b : Bool} (_ : env.get t = some (.p (.bool b)))
    (ht : b = true → LO P ops n l env H Q) (hf : b = false → LO P ops n l env H Q) : LO P ops n l env H Q :=
  match b, ht, hf with
  | true, ht, _ => ht rfl
  | false, _, hf => hf rfl
theorem LF.cases {l : List Nat} {Q : List FP → Env → List LObj → Prop} (t : Nat) {b : Bool} (_ : env.get t = some (.p (.bool b)))
    (ht : b = true → LF P ops n l env H Q) (hf : b = false → LF P ops n l env H Q) : LF P ops n l env H Q :=
  match b, ht, hf with
  | true, ht, _ => ht rfl
  | false, _, hf => hf rfl
end
section
variable {P : Program} {n k : Nat} {env : Env} {H : List LObj} {ops : Array Oper}

/-- The environment behind an operation, computed. -/
def putC (n : Nat) (o : Oper) (x : LV) (env : Env) : Option Env :=
  match o.dst with
  | none => some env
  | some d => match Nat.blt d n with
    | true => some ((d, x) :: env)
    | false => none

theorem putC_eq {o : Oper} {x : LV} {env' : Env} (h : putC n o x env = some env') : env' = eput env o.dst x ∧ dstOk n o.dst = true := by
  unfold putC at h
  unfold eput dstOk
  cases hd : o.dst with
  | none => rw [hd] at h; cases h; exact ⟨rfl, rfl⟩
  | some d =>
    rw [hd] at h
    simp only at h ⊢
    split at h
    · rename_i hb; cases h; exact ⟨rfl, hb⟩
    · cases h

theorem ops_get {i : Nat} {o : Oper} (h : nth ops.toList i = some o) : ops[i]? = some o := by
  rw [nth_eq] at h; simpa using h

/-- The slot of the operation by which another one is guarded. -/
def slotOf (ops : List Oper) (j : Nat) : Option Nat := match nth ops j with | some o => o.dst | none => none

theorem slotOf_eq {j t : Nat} (h : slotOf ops.toList j = some t) : (ops[j]?).bind (·.dst) = some t := by
  unfold slotOf at h
  rw [nth_eq] at h
  cases hx : ops[j]? with
  | none => simp [hx] at h
  | some o => simp [hx] at h ⊢; exact h

section
variable {i : Nat} {l : List Nat} {o : Oper} {x : LV} {H' : List LObj} {env' : Env} {Q : Env → List LObj → Prop}

theorem LOps.st (ho : nth ops.toList i = some o) (hg : o.guard = none) (hd : putC n o x env = some env') (h : LOp P o env H (Is x H')) (hr : LOps P ops n k l env' H' Q) : LOps P ops n k (i :: l) env H Q := by
  obtain ⟨rfl, h2⟩ := putC_eq hd
  exact LOps.is (ops_get ho) hg h2 h hr

theorem LOps.gd {j t : Nat} {b : Bool} (ho : nth ops.toList i = some o) (hg : o.guard = some (j, b)) (ht : slotOf ops.toList j = some t) (hb : env.get t = some (.p (.bool b)))
    (hd : putC n o x env = some env') (h : LOp P o env H (Is x H')) (hr : LOps P ops n k l env' H' Q) : LOps P ops n k (i :: l) env H Q := by
  obtain ⟨rfl, h2⟩ := putC_eq hd
  exact LOps.gis (ops_get ho) hg (slotOf_eq ht) hb h2 h hr

theorem LOps.sk {j t : Nat} {b c : Bool} (ho : nth ops.toList i = some o) (hg : o.guard = some (j, b)) (ht : slotOf ops.toList j = some t) (hb : env.get t = some (.p (.bool c))) (hbc : c = !b)
    (hd : putC n o .any env = some env') (hr : LOps P ops n k l env' H Q) : LOps P ops n k (i :: l) env H Q := by
  obtain ⟨rfl, h2⟩ := putC_eq hd
  exact LOps.skipped (ops_get ho) hg (slotOf_eq ht) hb hbc h2 hr
end

section
variable {i : Nat} {l : List Nat} {o : Oper} {x : LV} {env' : Env} {Q : Env → Prop}

theorem LO.st (ho : nth ops.toList i = some o) (hg : o.guard = none) (hd : putC n o x env = some env') (h : LOp P o env H (Is x H)) (hr : LO P ops n l env' H Q) : LO P ops n (i :: l) env H Q := by
  obtain ⟨rfl, h2⟩ := putC_eq hd
  exact LO.is (ops_get ho) hg h2 h hr

theorem LO.gd {j t : Nat} {b : Bool} (ho : nth ops.toList i = some o) (hg : o.guard = some (j, b)) (ht : slotOf ops.toList j = some t) (hb : env.get t = some (.p (.bool b)))
    (hd : putC n o x env = some env') (h : LOp P o env H (Is x H)) (hr : LO P ops n l env' H Q) : LO P ops n (i :: l) env H Q := by
  obtain ⟨rfl, h2⟩ := putC_eq hd
  exact LO.guarded (ops_get ho) hg (slotOf_eq ht) hb h2 h hr

theorem LO.sk {j t : Nat} {b c : Bool} (ho : nth ops.toList i = some o) (hg : o.guard = some (j, b)) (ht : slotOf ops.toList j = some t) (hb : env.get t = some (.p (.bool c))) (hbc : c = !b)
    (hd : putC n o .any env = some env') (hr : LO P ops n l env' H Q) : LO P ops n (i :: l) env H Q := by
  obtain ⟨rfl, h2⟩ := putC_eq hd
  exact LO.skipped (ops_get ho) hg (slotOf_eq ht) hb hbc h2 hr
end

/-- The objects behind a write, computed. -/
def wsetC (H : List LObj) : Option (Nat × LObj) → Option (List LObj)
  | some (i, o) => setC H i o
  | none => some H

theorem wsetC_eq {s : Option (Nat × LObj)} {H1 : List LObj} (h : wsetC H s = some H1) : wset H s = H1 := by
  rcases s with _ | ⟨i, o⟩
  · cases h; rfl
  · exact (setC_eq h).1.symm

section
variable {i : Nat} {l : List Nat} {o : Oper} {x : LV} {H1 : List LObj} {env' : Env} {F : List Nat} {s : Option (Nat × LObj)} {Q : List FP → Env → List LObj → Prop}

theorem LF.st (ho : nth ops.toList i = some o) (hg : o.guard = none) (hd : putC n o x env = some env') (h : LAt P o env H F s x) (hH : wsetC H s = some H1)
    (hr : LF P ops n l env' H1 fun fs env H => Q (⟨F, fpWr s⟩ :: fs) env H) : LF P ops n (i :: l) env H Q := by
  obtain ⟨rfl, h2⟩ := putC_eq hd
  exact LF.is (ops_get ho) hg h2 h (wsetC_eq hH) hr

theorem LF.gd {j t : Nat} {b : Bool} (ho : nth ops.toList i = some o) (hg : o.guard = some (j, b)) (ht : slotOf ops.toList j = some t) (hb : env.get t = some (.p (.bool b)))
    (hd : putC n o x env = some env') (h : LAt P o env H F s x) (hH : wsetC H s = some H1)
    (hr : LF P ops n l env' H1 fun fs env H => Q (⟨F, fpWr s⟩ :: fs) env H) : LF P ops n (i :: l) env H Q := by
  obtain ⟨rfl, h2⟩ := putC_eq hd
  exact LF.guarded (ops_get ho) hg (slotOf_eq ht) hb h2 h (wsetC_eq hH) hr

theorem LF.sk {j t : Nat} {b c : Bool} (ho : nth ops.toList i = some o) (hg : o.guard = some (j, b)) (ht : slotOf ops.toList j = some t) (hb : env.get t = some (.p (.bool c))) (hbc : c = !b)
    (hd : putC n o .any env = some env') (hr : LF P ops n l env' H fun fs env H => Q (⟨[], none⟩ :: fs) env H) : LF P ops n (i :: l) env H Q := by
  obtain ⟨rfl, h2⟩ := putC_eq hd
  exact LF.skipped (ops_get ho) hg (slotOf_eq ht) hb hbc h2 hr
end

/-- The environment at a function's start, computed. -/
def penvC : Nat → List LV → Option Env
  | _, [] => some []
  | i, a :: r => match penvC (i + 1) r with
    | some e => some ((i, a) :: e)
    | none => none

theorem penvC_eq : ∀ {as : List LV} {i : Nat} {e : Env}, penvC i as = some e → e = penv i as
  | [], _, _, h => by cases h; rfl
  | a :: r, i, e, h => by
    simp only [penvC] at h
    split at h
    · rename_i e' he; cases h; rw [penvC_eq he]; rfl
    · cases h

theorem LPure.start {f : FuncId} {fn : Func} {c : Code} {as rs : List PV} {ls : List LV} {e : Env} (hf : P.funcs[f]? = some fn) (hb : fn.body = some c)
    (hn : Nat.ble as.length fn.ntmps = true) (hl : mapP as = some ls) (he : penvC 0 ls = some e) (h : LW P fn.ntmps 0 c e [] (FinP P fn rs)) : LPure P f as rs := by
  have e1 := mapP_eq hl
  have e2 := penvC_eq he
  subst e1; subst e2
  exact LPure.of hf hb hn h

theorem LC.start {f : FuncId} {fn : Func} {c : Code} {as : List LV} {R : LV → List LObj → Prop} {e : Env} (hf : P.funcs[f]? = some fn) (hb : fn.body = some c)
    (hn : Nat.ble as.length fn.ntmps = true) (he : penvC 0 as = some e) (h : LW P fn.ntmps H.length c e H (Fin P fn H.length R)) : LC P f as H R := by
  have e2 := penvC_eq he
  subst e2
  exact LC.of hf hb hn h
end

def lowObjs (k : Nat) : List LObj → Bool
  | [] => true
  | o :: r => match o.lowB k with | true => lowObjs k r | false => false

theorem lowObjs_spec {k : Nat} : ∀ {H : List LObj}, lowObjs k H = true → ∀ o ∈ H, o.Low k
  | [], _, o, ho => by simp at ho
  | x :: r, h, o, ho => by
    simp only [lowObjs] at h
    split at h
    · rename_i h1
      cases ho with
      | head => exact LObj.low_of h1
      | tail _ ho => exact lowObjs_spec h o ho
    · cases h

theorem Weak.of {k : Nat} {env' env : Env} {H' H : List LObj} (j : Nat) (hs : SubL env' env) (hk : Nat.ble k j = true) (hH : takeC H j = some H') (hl : lowEnv j env' = true) (ho : lowObjs j H' = true) : Weak k env' H' env H where
  sub := hs
  objs := by
    obtain ⟨e1, e2⟩ := takeC_eq hH
    exact ⟨j, Nat.le_of_ble_eq_true hk, e2, e1, lowEnv_spec hl, lowObjs_spec ho⟩

theorem wrapI {n : Int} (h1 : -9223372036854775808 ≤ n) (h2 : n ≤ 9223372036854775807) : IntKind.i64.wrap n = n := by
  unfold IntKind.wrap
  simp [IntKind.signed, IntKind.bits]
  omega

theorem wrapU {n : Int} (h1 : 0 ≤ n) (h2 : n ≤ 18446744073709551615) : IntKind.u64.wrap n = n := by
  unfold IntKind.wrap
  simp [IntKind.signed, IntKind.bits]
  omega

theorem map_get {α : Type} {f : α → PV} {l : List α} {i : Nat} {a : α} (h : l[i]? = some a) : (l.map f)[(i : Int).toNat]? = some (f a) := by
  simp [h]

theorem list_get {α : Type} {l : List α} {i : Nat} (h : i < l.length) : ∃ a, l[i]? = some a := ⟨_, List.getElem?_eq_getElem h⟩
section
variable {R : Env → List LObj → Prop} {Q : Exit → Env → List LObj → Prop} {env : Env} {H : List LObj} {i l : Nat}
theorem thn_n (h : R env H) : thn R Q .normal env H := h
theorem thn_e (h : Q (.exit i) env H) : thn R Q (.exit i) env H := h
theorem thn_r (h : Q .ret env H) : thn R Q .ret env H := h
theorem thn_g (h : Q (.goto i) env H) : thn R Q (.goto i) env H := h
theorem inBlk_n (h : Q .normal env H) : inBlk i Q .normal env H := h
theorem inBlk_r (h : Q .ret env H) : inBlk i Q .ret env H := h
theorem inBlk_g (h : Q (.goto l) env H) : inBlk i Q (.goto l) env H := h
theorem noGo_n (h : Q .normal env H) : noGo Q .normal env H := h
theorem noGo_e (h : Q (.exit i) env H) : noGo Q (.exit i) env H := h
theorem noGo_r (h : Q .ret env H) : noGo Q .ret env H := h
theorem jmp_n (h : Q .normal env H) : jmp l R Q .normal env H := h
theorem jmp_e (h : Q (.exit i) env H) : jmp l R Q (.exit i) env H := h
theorem jmp_r (h : Q .ret env H) : jmp l R Q .ret env H := h
theorem jmp_g (h : R env H) : jmp l R Q (.goto l) env H := ⟨rfl, h⟩
end
end Go.Mg
