/- The judgements (an operation, a region, code, a call) over logical states, and the rules of control flow, of regions in every order, and of functions. Conditions: none. -/
import Derived.Test.YtlhocfhoocmfiaaMg1
namespace Go.Mg
open Go.RowKit (Below)

/-- A moment of a walk. -/
structure Now (n : Nat) (μ : List Blk) (I : Nat → Prop) (w : World) (H : List LObj) (env : Env) (a : Act) : Prop where
  size : a.tmps.size = n
  defers : a.defers = []
  st : St μ I w H
  env : ERep μ I w env a.tmps

/-- An operation comes to a logical value and objects of R. -/
def LOp (P : Program) (o : Oper) (env : Env) (H : List LObj) (R : LV → List LObj → Prop) : Prop :=
  ∀ (a : Act) (w : World) (μ : List Blk) (I : Nat → Prop), St μ I w H → EOn μ I w o env a →
    ∀ (K : Act → World → Prop) (Q : Exit → Act → World → Prop),
      (∀ x H' v w' μ' I', R x H' → St μ' I' w' H' → LRep μ' I' w' x v → Ext μ.length μ I w μ' I' w' → K (a.put o.dst v) w') → o.wp P a w K Q

/-- Just this value, all objects as they were. -/
def Is (x : LV) (H : List LObj) : LV → List LObj → Prop := fun y H' => y = x ∧ H' = H

theorem LOp.mono {P : Program} {o : Oper} {env : Env} {H : List LObj} {R R' : LV → List LObj → Prop} (h : LOp P o env H R) (hr : ∀ x H', R x H' → R' x H') : LOp P o env H R' :=
  fun a w μ I hs he K Q k => h a w μ I hs he K Q fun x H' v w' μ' I' r => k x H' v w' μ' I' (hr _ _ r)

/-- Operations one after the other. -/
def LOps (P : Program) (ops : Array Oper) (n k : Nat) (l : List Nat) (env : Env) (H : List LObj) (Q : Env → List LObj → Prop) : Prop :=
  ∀ a w μ I, Now n μ I w H env a → k ≤ μ.length → ∀ Q' : Exit → Act → World → Prop,
    (∀ env' H' a' w' μ' I', Q env' H' → Now n μ' I' w' H' env' a' → Ext k μ I w μ' I' w' → Q' .normal a' w') → wpOps P ops Q' l a w

def LW (P : Program) (n k : Nat) (c : Code) (env : Env) (H : List LObj) (Q : Exit → Env → List LObj → Prop) : Prop :=
  ∀ a w μ I, Now n μ I w H env a → k ≤ μ.length → ∀ Q' : Exit → Act → World → Prop,
    (∀ e env' H' a' w' μ' I', Q e env' H' → Now n μ' I' w' H' env' a' → Ext k μ I w μ' I' w' → Q' e a' w') → c.wp P Q' a w

section
variable {P : Program} {n k : Nat} {env : Env} {H : List LObj} {Q : Exit → Env → List LObj → Prop} {ops : Array Oper}

theorem Now.put {μ : List Blk} {I : Nat → Prop} {w : World} {a : Act} {μ' : List Blk} {I' : Nat → Prop} {w' : World} {H' : List LObj} {x : LV} {v : Value} {dst : Option Tmp}
    (h : Now n μ I w H env a) (hd : ∀ d, dst = some d → d < n) (hs : St μ' I' w' H') (hv : LRep μ' I' w' x v) (hE : Ext μ.length μ I w μ' I' w') :
    Now n μ' I' w' H' (eput env dst x) (a.put dst v) where
  size := by cases dst <;> simp [Act.put, h.size]
  defers := by cases dst <;> simp [Act.put, h.defers]
  st := hs
  env := (h.env.ext hE).put (fun d hd' => by rw [h.size]; exact hd d hd') hv

theorem LOps.nil {Q : Env → List LObj → Prop} (h : Q env H) : LOps P ops n k [] env H Q :=
  fun a w μ I hn hk Q' hq => hq env H a w μ I h hn (Ext.refl _ _ _ _ hk)

/-- The slot that an operation writes is one of the frame's. -/
def dstOk (n : Nat) : Option Tmp → Bool
  | some d => Nat.blt d n
  | none => true

theorem dstOk_spec {dst : Option Tmp} (h : dstOk n dst = true) : ∀ d, dst = some d → d < n := by
  rintro d rfl
  simpa [dstOk] using h

theorem LOps.cons {i : Nat} {l : List Nat} {o : Oper} {R : LV → List LObj → Prop} {Q : Env → List LObj → Prop} (ho : ops[i]? = some o) (hg : o.guard = none) (hd : dstOk n o.dst = true)
    (h : LOp P o env H R) (hr : ∀ x H', R x H' → LOps P ops n k l (eput env o.dst x) H' Q) : LOps P ops n k (i :: l) env H Q := by
  intro a w μ I hn hk Q' hq
  simp only [wpOps, ho, Region.wanted, hg, if_true]
  refine .inl (h a w μ I hn.st (hn.env.on o) _ _ fun x H' v w' μ' I' hR hs hv hE => ?_)
  refine hr x H' hR (a.put o.dst v) w' μ' I' (hn.put (dstOk_spec hd) hs hv hE) (Nat.le_trans hk hE.len') Q' ?_
  exact fun env' H'' a' w'' μ'' I'' q hn' hE' => hq env' H'' a' w'' μ'' I'' q hn' ((hE.weak hk).trans hE')

/-- The commonest step: just this value. -/
theorem LOps.is {i : Nat} {l : List Nat} {o : Oper} {x : LV} {H' : List LObj} {Q : Env → List LObj → Prop} (ho : ops[i]? = some o) (hg : o.guard = none) (hd : dstOk n o.dst = true)
    (h : LOp P o env H (Is x H')) (hr : LOps P ops n k l (eput env o.dst x) H' Q) : LOps P ops n k (i :: l) env H Q :=
  LOps.cons ho hg hd h (by rintro y H'' ⟨rfl, rfl⟩; exact hr)

theorem yielded_of {μ : List Blk} {I : Nat → Prop} {w : World} {a : Act} (h : ERep μ I w env a.tmps) {j t : Nat} {b : Bool}
    (ht : (ops[j]?).bind (·.dst) = some t) (hb : env.get t = some (.p (.bool b))) : yielded ops a.tmps j = some b := by
  obtain ⟨v, hv, hr⟩ := h t _ hb
  cases hr with
  | p hr => cases hr; simp [yielded, ht, hv]

/-- A guarded operation that is wanted. -/
theorem LOps.guarded {i : Nat} {l : List Nat} {o : Oper} {j t : Nat} {b : Bool} {R : LV → List LObj → Prop} {Q : Env → List LObj → Prop} (ho : ops[i]? = some o) (hg : o.guard = some (j, b))
    (ht : (ops[j]?).bind (·.dst) = some t) (hb : env.get t = some (.p (.bool b))) (hd : dstOk n o.dst = true)
    (h : LOp P o env H R) (hr : ∀ x H', R x H' → LOps P ops n k l (eput env o.dst x) H' Q) : LOps P ops n k (i :: l) env H Q := by
  intro a w μ I hn hk Q' hq
  simp only [wpOps, ho, Region.wanted, hg, yielded_of hn.env ht hb, beq_self_eq_true, if_true]
  refine .inl (h a w μ I hn.st (hn.env.on o) _ _ fun x H' v w' μ' I' hR hs hv hE => ?_)
  refine hr x H' hR (a.put o.dst v) w' μ' I' (hn.put (dstOk_spec hd) hs hv hE) (Nat.le_trans hk hE.len') Q' ?_
  exact fun env' H'' a' w'' μ'' I'' q hn' hE' => hq env' H'' a' w'' μ'' I'' q hn' ((hE.weak hk).trans hE')

/-- A guarded operation that is passed over. -/
theorem LOps.skipped {i : Nat} {l : List Nat} {o : Oper} {j t : Nat} {b c : Bool} {Q : Env → List LObj → Prop} (ho : ops[i]? = some o) (hg : o.guard = some (j, b))
    (ht : (ops[j]?).bind (·.dst) = some t) (hb : env.get t = some (.p (.bool c))) (hbc : c = !b) (hd : dstOk n o.dst = true)
    (hr : LOps P ops n k l (eput env o.dst .any) H Q) : LOps P ops n k (i :: l) env H Q := by
  intro a w μ I hn hk Q' hq
  have hne : (some c == some b) = false := by subst hbc; cases b <;> rfl
  simp only [wpOps, ho, Region.wanted, hg, yielded_of hn.env ht hb, hne, Bool.false_eq_true, if_false]
  exact hr (a.put o.dst undef) w μ I (hn.put (dstOk_spec hd) hn.st .any (Ext.refl _ _ _ _ (Nat.le_refl _))) hk Q' hq

/-! Control flow. -/

theorem LW.mono {c : Code} {Q' : Exit → Env → List LObj → Prop} (h : LW P n k c env H Q) (hq : ∀ e env H, Q e env H → Q' e env H) : LW P n k c env H Q' :=
  fun a w μ I hn hk Q'' k' => h a w μ I hn hk Q'' fun e env' H' a' w' μ' I' q => k' e env' H' a' w' μ' I' (hq _ _ _ q)

/-- What follows: on normal ending go on with R. -/
def thn (R : Env → List LObj → Prop) (Q : Exit → Env → List LObj → Prop) : Exit → Env → List LObj → Prop
  | .normal, env, H => R env H
  | e, env, H => Q e env H

theorem LW.seq {x y : Code} (h : LW P n k x env H (thn (fun env H => LW P n k y env H Q) Q)) : LW P n k (.seq x y) env H Q := by
  intro a w μ I hn hk Q' hq
  refine wp_seq (h a w μ I hn hk _ fun e env' H' a' w' μ' I' q hn' hE => ?_)
  cases e with
  | normal => exact q a' w' μ' I' hn' hE.len' Q' fun e env'' H'' a'' w'' μ'' I'' q' hn'' hE' => hq e env'' H'' a'' w'' μ'' I'' q' hn'' (hE.trans hE')
  | _ => exact hq _ _ _ _ _ _ _ q hn' hE

theorem LW.skip (h : Q .normal env H) : LW P n k .skip env H Q :=
  fun a w μ I hn hk Q' hq => wp_skip (hq _ _ _ _ _ _ _ h hn (Ext.refl _ _ _ _ hk))
theorem LW.label {l : Nat} (h : Q .normal env H) : LW P n k (.label l) env H Q :=
  fun a w μ I hn hk Q' hq => wp_label (hq _ _ _ _ _ _ _ h hn (Ext.refl _ _ _ _ hk))
theorem LW.exit {id : Nat} (h : Q (.exit id) env H) : LW P n k (.exit id) env H Q :=
  fun a w μ I hn hk Q' hq => wp_exit (hq _ _ _ _ _ _ _ h hn (Ext.refl _ _ _ _ hk))
theorem LW.goto {l : Nat} (h : Q (.goto l) env H) : LW P n k (.goto l) env H Q :=
  fun a w μ I hn hk Q' hq => wp_goto (hq _ _ _ _ _ _ _ h hn (Ext.refl _ _ _ _ hk))
theorem LW.ret (h : Q .ret env H) : LW P n k .ret env H Q :=
  fun a w μ I hn hk Q' hq => wp_ret (hq _ _ _ _ _ _ _ h hn (Ext.refl _ _ _ _ hk))

theorem eval_bool {μ : List Blk} {I : Nat → Prop} {w : World} {a : Act} (h : ERep μ I w env a.tmps) {c : Operand} {b : Bool} (hc : lev env c = some (.p (.bool b))) : a.eval c = .bool b := by
  have hr : LRep μ I w (.p (.bool b)) (a.eval c) := by
    cases c with
    | tmp t =>
      obtain ⟨v, hv, hr⟩ := h t _ hc
      simpa [Act.eval, hv] using hr
    | const v => exact ofConst_rep hc
    | func f => cases hc
    | global g => cases hc
  generalize a.eval c = v at hr
  cases hr with
  | p hr => cases hr; rfl

theorem LW.cond {c : Operand} {x y : Code} {b : Bool} (hc : lev env c = some (.p (.bool b))) (ht : b = true → LW P n k x env H Q) (hf : b = false → LW P n k y env H Q) :
    LW P n k (.cond c x y) env H Q :=
  fun a w μ I hn hk Q' hq => wp_cond_split (eval_bool hn.env hc) (fun e => ht e a w μ I hn hk Q' hq) (fun e => hf e a w μ I hn hk Q' hq)

def inBlk (id : Nat) (Q : Exit → Env → List LObj → Prop) : Exit → Env → List LObj → Prop
  | .exit id', env, H => if id' = id then Q .normal env H else Q (.exit id') env H
  | e, env, H => Q e env H

theorem LW.block {id : Nat} {c : Code} (h : LW P n k c env H (inBlk id Q)) : LW P n k (.block id c) env H Q := by
  intro a w μ I hn hk Q' hq
  refine wp_block (h a w μ I hn hk _ fun e env' H' a' w' μ' I' q hn' hE => ?_)
  cases e with
  | exit id' =>
    simp only [Exit.inBlock]
    simp only [inBlk] at q
    split
    · rename_i he; simp only [he, if_true] at q; exact hq _ _ _ _ _ _ _ q hn' hE
    · rename_i he; simp only [he, if_false] at q; exact hq _ _ _ _ _ _ _ q hn' hE
  | _ => exact hq _ _ _ _ _ _ _ q hn' hE

/-- A loop: at each round's head Inv m holds, m falls. -/
theorem LW.loop {c : Code} (Inv : Nat → Env → List LObj → Prop) (m : Nat) (h0 : Inv m env H)
    (round : ∀ m env H, Inv m env H → LW P n k c env H (thn (fun env' H' => ∃ m', m' < m ∧ Inv m' env' H') Q)) : LW P n k (.loop c) env H Q := by
  intro a w μ I hn hk Q' hq
  refine wp_loop_rounds (m + 1) ?_
  have key : ∀ m env H, Inv m env H → ∀ a' w' μ' I', Now n μ' I' w' H env a' → Ext k μ I w μ' I' w' → ∀ j, m < j → Code.rounds P c Q' j a' w' := by
    intro m
    induction m using Nat.strongRecOn with
    | ind m ih =>
      intro env H hi a' w' μ' I' hn' hE j hj
      obtain ⟨j, rfl⟩ : ∃ i, j = i + 1 := ⟨j - 1, by omega⟩
      rw [rounds_succ]
      refine round m env H hi a' w' μ' I' hn' hE.len' _ fun e env'' H'' a'' w'' μ'' I'' q hn'' hE' => ?_
      cases e with
      | normal =>
        obtain ⟨m', hm', hi'⟩ := q
        exact ih m' hm' _ _ hi' a'' w'' μ'' I'' hn'' (hE.trans hE') j (by omega)
      | _ => exact hq _ _ _ _ _ _ _ q hn'' (hE.trans hE')
  exact key m env H h0 a w μ I hn (Ext.refl _ _ _ _ hk) (m + 1) (by omega)

def noGo (Q : Exit → Env → List LObj → Prop) : Exit → Env → List LObj → Prop
  | .goto _, _, _ => False
  | e, env, H => Q e env H

theorem LW.scope {c : Code} (h : LW P n k c env H (noGo Q)) : LW P n k (.scope c) env H Q := by
  intro a w μ I hn hk Q' hq
  refine wp_scope_straight (h a w μ I hn hk _ fun e env' H' a' w' μ' I' q hn' hE => ?_)
  cases e with
  | goto l => exact q
  | _ => exact hq _ _ _ _ _ _ _ q hn' hE

def jmp (l : Nat) (R : Env → List LObj → Prop) (Q : Exit → Env → List LObj → Prop) : Exit → Env → List LObj → Prop
  | .goto l', env, H => l' = l ∧ R env H
  | e, env, H => Q e env H

theorem least {p : Nat → Prop} (h : ∃ m, p m) : ∃ m, p m ∧ ∀ j, p j → m ≤ j := by
  obtain ⟨m, hm⟩ := h
  induction m using Nat.strongRecOn with
  | ind m ih =>
    by_cases hx : ∃ j, j < m ∧ p j
    · obtain ⟨j, hj, hp⟩ := hx
      exact ih j hj hp
    · exact ⟨m, hm, fun j hj => Nat.le_of_not_lt fun hlt => hx ⟨j, hlt, hj⟩⟩

open Classical in
noncomputable def leastOf (p : Nat → Prop) : Nat := if h : ∃ m, p m then (least h).choose else 0

theorem leastOf_le {p : Nat → Prop} {m : Nat} (h : p m) : leastOf p ≤ m ∧ p (leastOf p) := by
  have hx : ∃ m, p m := ⟨m, h⟩
  unfold leastOf
  rw [dif_pos hx]
  exact ⟨(least hx).choose_spec.2 m h, (least hx).choose_spec.1⟩

/-- A label to which code jumps back: at the label Inv m holds, m falls. -/
theorem LW.jumps {c rest : Code} {l : Nat} (Inv : Nat → Env → List LObj → Prop) (hf : findLabel c l = some rest)
    (first : LW P n k c env H (jmp l (fun env' H' => ∃ m, Inv m env' H') Q))
    (pass : ∀ m env H, Inv m env H → LW P n k rest env H (jmp l (fun env' H' => ∃ m', m' < m ∧ Inv m' env' H') Q)) : LW P n k (.scope c) env H Q := by
  intro a w μ I hn hk Q' hq
  let J : Nat → Act → World → Prop := fun m a' w' => ∃ env' H' μ' I', Inv m env' H' ∧ Now n μ' I' w' H' env' a' ∧ Ext k μ I w μ' I' w'
  refine wp_scope_jumps l (fun a' w' => ∃ m, J m a' w') (fun a' w' => leastOf fun m => J m a' w') hf ?_ ?_
  · refine first a w μ I hn hk _ fun e env' H' a' w' μ' I' q hn' hE => ?_
    cases e with
    | goto l' =>
      obtain ⟨rfl, m, hm⟩ := q
      exact ⟨rfl, m, env', H', μ', I', hm, hn', hE⟩
    | _ => exact hq _ _ _ _ _ _ _ q hn' hE
  · rintro a' w' ⟨m, hm⟩
    obtain ⟨-, env', H', μ', I', hi, hn', hE⟩ := leastOf_le (p := fun m => J m a' w') hm
    refine pass _ _ _ hi a' w' μ' I' hn' hE.len' _ fun e env'' H'' a'' w'' μ'' I'' q hn'' hE' => ?_
    cases e with
    | goto l' =>
      obtain ⟨rfl, m', hlt, hi'⟩ := q
      have hJ : J m' a'' w'' := ⟨env'', H'', μ'', I'', hi', hn'', hE.trans hE'⟩
      exact ⟨rfl, ⟨m', hJ⟩, Nat.lt_of_le_of_lt (leastOf_le (p := fun m => J m a'' w'') hJ).1 hlt⟩
    | _ => exact hq _ _ _ _ _ _ _ q hn'' (hE.trans hE')

/-! Forgetting. -/

def SubL : Env → Env → Prop
  | [], _ => True
  | (t, x) :: r, env => env.get t = some x ∧ SubL r env

theorem SubL.get : ∀ {e env : Env}, SubL e env → ∀ t x, e.get t = some x → env.get t = some x := by
  intro e
  induction e with
  | nil => intro env _ t x h; cases h
  | cons p r ih =>
    obtain ⟨j, y⟩ := p
    intro env h t x ht
    rw [Env.get_cons] at ht
    split at ht
    · rename_i e; subst e; cases ht; exact h.1
    · exact ih h.2 t x ht

mutual
def LV.lowB (k : Nat) : LV → Bool
  | .p _ => true
  | .agg cs => LV.lowsB k cs
  | .tup cs => LV.lowsB k cs
  | .ptr id _ => Nat.blt id k
  | .cptr _ => true
  | .vec _ id _ _ _ => Nat.blt id k
  | .vptr _ id _ _ _ => Nat.blt id k
  | .zs => true
  | .map id => Nat.blt id k
  | .nilmap => true
  | .fn _ f c => match LV.lowsB k f with | true => LV.lowsB k c | false => false
  | .any => true
def LV.lowsB (k : Nat) : List LV → Bool
  | [] => true
  | x :: r => match LV.lowB k x with | true => LV.lowsB k r | false => false
end

mutual
theorem LV.low_of : ∀ {k : Nat} {x : LV}, LV.lowB k x = true → LV.Low k x
  | _, .p _, _ => .p
  | k, .agg cs, h => .agg (LV.lows_of (by simpa [LV.lowB] using h))
  | k, .tup cs, h => .tup (LV.lows_of (by simpa [LV.lowB] using h))
  | k, .ptr id o, h => .ptr (by simpa [LV.lowB] using h)
  | _, .cptr _, _ => .cptr
  | k, .vec m id n o l, h => .vec (by simpa [LV.lowB] using h)
  | k, .vptr m id n j f, h => .vptr (by simpa [LV.lowB] using h)
  | _, .zs, _ => .zs
  | k, .map id, h => .map (by simpa [LV.lowB] using h)
  | _, .nilmap, _ => .nilmap
  | k, .fn f a c, h => by
    simp only [LV.lowB] at h
    split at h
    · rename_i h1; exact .fn (LV.lows_of h1) (LV.lows_of h)
    · cases h
  | _, .any, _ => .any
theorem LV.lows_of : ∀ {k : Nat} {xs : List LV}, LV.lowsB k xs = true → ∀ c ∈ xs, LV.Low k c
  | _, [], _ => by simp
  | k, x :: r, h => by
    simp only [LV.lowsB] at h
    split at h
    · rename_i h1
      intro c hc
      cases hc with
      | head => exact LV.low_of h1
      | tail _ hc => exact LV.lows_of h c hc
    · cases h
end

def lowEnv (k : Nat) : Env → Bool
  | [] => true
  | (_, x) :: r => match LV.lowB k x with | true => lowEnv k r | false => false

theorem lowEnv_spec {k : Nat} : ∀ {env : Env}, lowEnv k env = true → ∀ t x, env.get t = some x → LV.Low k x := by
  intro env
  induction env with
  | nil => intro _ t x h; cases h
  | cons p r ih =>
    obtain ⟨j, y⟩ := p
    intro h t x ht
    simp only [lowEnv] at h
    split at h
    · rename_i h1
      rw [Env.get_cons] at ht
      split at ht
      · cases ht; exact LV.low_of h1
      · exact ih h t x ht
    · cases h

def lowMap (k : Nat) : List (PV × LV) → Bool
  | [] => true
  | (_, x) :: r => match LV.lowB k x with | true => lowMap k r | false => false

/-- Objects without numbers from k on: a map's values are asked apart. -/
def LObj.lowB (k : Nat) : LObj → Bool
  | .box cs => LV.lowsB k cs
  | .vec _ _ => true
  | .map es => lowMap k es
  | .dead => true
  | .slot => true

theorem lowMap_spec {k : Nat} : ∀ {es : List (PV × LV)}, lowMap k es = true → ∀ e ∈ es, LV.Low k e.2 := by
  intro es
  induction es with
  | nil => simp
  | cons p r ih =>
    obtain ⟨j, y⟩ := p
    intro h e he
    simp only [lowMap] at h
    split at h
    · rename_i h1
      cases he with
      | head => exact LV.low_of h1
      | tail _ he => exact ih h e he
    · cases h

theorem LObj.low_of {k : Nat} {o : LObj} (h : o.lowB k = true) : o.Low k := by
  cases o with
  | box cs => exact LV.lows_of (by simpa [LObj.lowB] using h)
  | vec => trivial
  | map es => exact lowMap_spec (by simpa [LObj.lowB] using h)
  | dead => trivial
  | slot => trivial

/-- What is left of a state: fewer slots, and the first j objects. -/
structure Weak (k : Nat) (env' : Env) (H' : List LObj) (env : Env) (H : List LObj) : Prop where
  sub : SubL env' env
  objs : ∃ j, k ≤ j ∧ j ≤ H.length ∧ H' = H.take j ∧ (∀ t x, env'.get t = some x → LV.Low j x) ∧ ∀ o ∈ H', o.Low j

theorem LRep.cut {μ : List Blk} {I : Nat → Prop} {w : World} {j : Nat} {x : LV} {v : Value} (h : LRep μ I w x v) (hj : j ≤ μ.length) (hl : LV.Low j x) : LRep (μ.take j) I w x v :=
  h.mono (k := j) (μ' := μ.take j) ⟨fun i B hi hb => ⟨B, by rw [List.getElem?_take_of_lt hi]; exact hb, Nat.le_refl _, fun _ => .inl rfl, fun _ _ => rfl⟩, hj, by rw [List.length_take]; omega, rfl, rfl, rfl, Nat.le_refl _, fun _ h => ⟨h, rfl⟩,
    fun _ c _ _ h => ⟨c, h, rfl⟩, fun _ h => .inl h, fun _ ⟨n, h⟩ => .inl ⟨n, List.mem_of_mem_take h⟩, fun _ _ _ => rfl⟩ hl

theorem St.cut {μ : List Blk} {I : Nat → Prop} {w : World} {j : Nat} (h : St μ I w H) (hj : j ≤ H.length) (hl : ∀ o ∈ H.take j, o.Low j) : St (μ.take j) I w (H.take j) where
  len := by simp [h.len]
  inj := fun i i' b n n' hi hi' => by
    have h1 := (List.getElem?_eq_some_iff.1 hi).1
    have h2 := (List.getElem?_eq_some_iff.1 hi').1
    rw [List.length_take] at h1 h2
    rw [List.getElem?_take_of_lt (by omega)] at hi hi'
    exact h.inj i i' b n n' hi hi'
  lt := fun b ⟨n, hb⟩ => h.lt b ⟨n, List.mem_of_mem_take hb⟩
  off := fun b ⟨n, hb⟩ => h.off b ⟨n, List.mem_of_mem_take hb⟩
  ilt := h.ilt
  objs := fun i o b ho hb => by
    have hi : i < j := by
      by_cases hi : i < j
      · exact hi
      · rw [List.getElem?_eq_none (by simp; omega)] at ho; cases ho
    have hlo : o.Low j := hl o (List.mem_of_getElem? ho)
    rw [List.getElem?_take_of_lt hi] at ho hb
    have hj' : j ≤ μ.length := by rw [h.len]; exact hj
    have := h.objs i o b ho hb
    cases this with
    | box h1 h2 h3 h4 => exact .box h1 h2 h3 fun i c v hc hv => (h4 i c v hc hv).cut hj' (hlo c (List.mem_of_getElem? hc))
    | vecE => exact .vecE
    | vec h1 h2 h3 h4 h5 => exact .vec h1 h2 h3 h4 h5
    | map h1 h2 h3 h4 h5 => exact .map h1 h2 (fun i c e hc he => ⟨(h3 i c e hc he).1, (h3 i c e hc he).2.cut hj' (hlo c (List.mem_of_getElem? hc))⟩) h4 h5
    | dead => exact .dead
    | slot => exact .slot

theorem Now.weak {μ : List Blk} {I : Nat → Prop} {w : World} {a : Act} {env' : Env} {H' : List LObj} (h : Now n μ I w H env a) (hw : Weak k env' H' env H) (hk : k ≤ μ.length) :
    ∃ μ', Now n μ' I w H' env' a ∧ Ext k μ I w μ' I w := by
  obtain ⟨hs, j, hkj, hjl, rfl, hel, hol⟩ := hw
  have hjm : j ≤ μ.length := by rw [h.st.len]; exact hjl
  refine ⟨μ.take j, ⟨h.size, h.defers, h.st.cut hjl hol, fun t x ht => ?_⟩, ⟨fun i B hi hb => ⟨B, by rw [List.getElem?_take_of_lt (by omega)]; exact hb, Nat.le_refl _, fun _ => .inl rfl, fun _ _ => rfl⟩, hk, by rw [List.length_take]; omega, rfl, rfl, rfl, Nat.le_refl _, fun _ h => ⟨h, rfl⟩, fun _ c _ _ h => ⟨c, h, rfl⟩, fun _ h => .inl h, fun _ ⟨n, h⟩ => .inl ⟨n, List.mem_of_mem_take h⟩, fun _ _ _ => rfl⟩⟩
  obtain ⟨v, hv, hr⟩ := h.env t x (hs.get t x ht)
  exact ⟨v, hv, hr.cut hjm (hel t x ht)⟩

theorem LW.weak {c : Code} {env' : Env} {H' : List LObj} (hw : Weak k env' H' env H) (h : LW P n k c env' H' Q) : LW P n k c env H Q := by
  intro a w μ I hn hk Q' hq
  obtain ⟨μ', hn', hE⟩ := hn.weak hw hk
  exact h a w μ' I hn' hE.len' Q' fun e env'' H'' a' w' μ'' I'' q hn'' hE' => hq e env'' H'' a' w' μ'' I'' q hn'' (hE.trans hE')

/-- A loop whose heads are told by one datum. -/
theorem LW.loopOf {α : Type} {c : Code} (E : α → Env) (O : α → List LObj) (G : α → Prop) (meas : α → Nat) (x0 : α) (hw : Weak k (E x0) (O x0) env H) (h0 : G x0)
    (round : ∀ x, G x → LW P n k c (E x) (O x) (thn (fun env' H' => ∃ y, meas y < meas x ∧ G y ∧ Weak k (E y) (O y) env' H') Q)) : LW P n k (.loop c) env H Q := by
  refine LW.loop (fun m env H => ∃ x, m = meas x ∧ G x ∧ Weak k (E x) (O x) env H) (meas x0) ⟨x0, rfl, h0, hw⟩ ?_
  rintro m env H ⟨x, rfl, hg, hw⟩
  refine LW.weak hw ((round x hg).mono fun e env' H' q => ?_)
  cases e with
  | normal =>
    obtain ⟨y, hm, hy, hw'⟩ := q
    exact ⟨_, hm, y, rfl, hy, hw'⟩
  | _ => exact q

end
end Go.Mg
