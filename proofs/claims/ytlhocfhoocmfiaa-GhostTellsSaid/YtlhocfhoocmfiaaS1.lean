/- Atomic words, marks for a race finder, functions with deferred calls, pointers of the untyped kind. Functions with deferred calls: their walks, and their ends. Slices made of zeros, and elements of one's own slices written: elements of one cell. A contract upon the first objects, used where there are more. Ranges over functions: the records of such loops, calls of yield, rounds, the statement. Calls of yield, as a walk meets them. Ranges over functions: the statement, and functions that hold it. Closures over data that is not changed any more; less told ahead of a range over a function. An array of one's own, looked at as a slice. Atomic words, locks. sync.Once as the deck uses it. The rounds of the deck. shuffle.At, Back, Perm. marigoldref04. Conditions: none. -/
import Derived.Test.YtlhocfhoocmfiaaL2
import Derived.RangeFuncLeaves
import Derived.RangeFuncRecord
import Derived.OrdersIn
import Derived.Test.YtlhocfhoocmfiaaL3
import Derived.Test.YtlhocfhoocmfiaaR1
namespace Go.Mg
section
variable {P : Program} {μ : List Blk} {I : Nat → Prop} {w : World} {H : List LObj}
theorem box_of (hs : St μ I w H) {id b : Nat} {cs : List LV} (hid : μ[id]? = some ⟨some b, 0⟩) (hH : H[id]? = some (.box cs)) :
    ∃ vs e, w.heap[b]? = some (.cells vs e (0, 0)) ∧ vs.size = cs.length ∧ (∀ v ∈ vs, one1 v = true) ∧ ∀ (i : Nat) c v, cs[i]? = some c → vs[i]? = some v → LRep μ I w c v := by
  have hob := hs.objs id _ _ hH hid
  cases hob with
  | box hb hlen hone hrep => exact ⟨_, _, hb, hlen, hone, hrep⟩
/-- One cell of a variable written. -/
theorem St.cell (hs : St μ I w H) {id b off : Nat} {cs : List LV} {x : LV} {v : Value} (hid : μ[id]? = some ⟨some b, 0⟩) (hH : H[id]? = some (.box cs)) (hoff : off < cs.length) (h1 : one1 v = true) (hv : LRep μ I w x v) :
    St μ I (w.setCell ⟨b, off, none⟩ v) (H.set id (.box (cs.set off x))) ∧ Ext μ.length μ I w μ I (w.setCell ⟨b, off, none⟩ v) := by
  obtain ⟨vs, e, hb, hlen, hone, hrep⟩ := box_of hs hid hH
  have hw : (w.setCell ⟨b, off, none⟩ v).heap[b]? = some (.cells (vs.setIfInBounds off v) e (0, 0)) := by
    simp [World.setCell, Array.getElem?_modify, hb]
  refine hs.write (o := .box (cs.set off x)) hid (w' := w.setCell ⟨b, off, none⟩ v) (fun c hc => ?_) (by simp [World.setCell]) rfl rfl rfl (fun c e' f hc => ?_) (fun hE => ?_)
  · simp [World.setCell, Array.getElem?_modify, Ne.symm hc]
  · rw [hb] at hc; cases hc
    exact ⟨_, hw, by simp⟩
  · refine .box hw (by simp [hlen]) (fun u hu => ?_) (fun i c u hc hu => ?_)
    · have hu' : u ∈ vs.toList.set off v := by rw [← Array.toList_setIfInBounds]; exact Array.mem_toList_iff.2 hu
      rcases List.mem_or_eq_of_mem_set hu' with h | h
      · exact hone u (by simpa using h)
      · subst h; exact h1
    · rw [List.getElem?_set] at hc
      by_cases e' : off = i
      · subst e'
        rw [if_pos rfl, if_pos hoff] at hc
        cases hc
        rw [Array.getElem?_setIfInBounds_self_of_lt (by omega)] at hu
        cases hu
        exact hv.ext hE
      · rw [if_neg e'] at hc
        rw [Array.getElem?_setIfInBounds_ne e'] at hu
        exact (hrep i c u hc hu).ext hE
end
section
variable {P : Program} {o : Oper} {env : Env} {H : List LObj}
/-- A call of what has no body of its own. -/
theorem LOp.ext {f : FuncId} {fn : Func} {e : Array Value → Sem Value} {fo : Operand} {args : Array Operand} {ats : Array TypeId} {ls : List LV} {x : LV} {H' : List LObj}
    (ho : o.op = .call { callee := .value fo, args := args, argTypes := ats }) (hf : lev env fo = some (.fn f [] [])) (hl : levs env args.toList = some ls)
    (hfn : P.funcs[f]? = some fn) (hb : fn.body.isNone = true) (hn : (fn.name == "runtime.NumGoroutine") = false) (hx : Extern.findNext fn = none) (he : Extern.find fn = some e)
    (h : ∀ μ I w vs, St μ I w H → LRepL μ I w ls vs → ∃ v w', (e vs.toArray).run P w = .ok v w' ∧ St μ I w' H' ∧ LRep μ I w' x v ∧ Ext μ.length μ I w μ I w') : LOp P o env H (Is x H') := by
  intro a w μ I hs hE K Q hK
  have hfo : LRep μ I w (.fn f [] []) (a.eval fo) := hE.ev (by rw [ho]; simp [Op.operands, Call.operands]) hf
  have hargs := levs_rep hE (xs := args.toList) (by intro x hx; rw [ho]; simp [Op.operands, Call.operands]; exact .inr (by simpa using hx)) hl
  obtain ⟨v, w', h1, h2, h3, h4⟩ := h μ I w _ hs hargs
  generalize hv : a.eval fo = u at hfo
  cases hfo with
  | @fn _ _ _ fs cs g1 g2 g3 g4 =>
    have e1 : fs = #[] := Array.eq_empty_of_size_eq_zero g1
    have e2 : cs = #[] := Array.eq_empty_of_size_eq_zero g2
    subst e1; subst e2
    have ha : (args.toList.map a.eval).toArray = args.map a.eval := by rw [← Array.toList_map, Array.toArray_toList]
    rw [ha] at h1
    have hb' : fn.body = none := Option.isNone_iff_eq_none.1 hb
    have hrun : (execOp a.eval o).run P w = .ok (.value v) w' := by
      have hn' : ¬ fn.name = "runtime.NumGoroutine" := by simpa using hn
      simp [execOp, ho, resolve, Deferred.ofValue, hv, invoke, callFunc, hfn, hn', hb', mark, Sem.run, hx, he, h1]
    unfold Oper.wp
    rw [hrun]
    exact hK x H' v w' μ I ⟨rfl, rfl⟩ h2 h3 h4
end
/-- What is deferred, told by functions and logical arguments. -/
def DRep (μ : List Blk) (I : Nat → Prop) (w : World) : List (FuncId × List LV) → List Deferred → Prop
  | [], [] => True
  | (f, ls) :: r, d :: ds => (d.target = .fn (.func f) #[] ∧ LRepL μ I w ls d.args.toList) ∧ DRep μ I w r ds
  | _, _ => False
theorem LRepL.ext {μ μ' : List Blk} {I I' : Nat → Prop} {w w' : World} (hE : Ext μ.length μ I w μ' I' w') : ∀ {ls : List LV} {vs : List Value}, LRepL μ I w ls vs → LRepL μ' I' w' ls vs
  | [], [], _ => trivial
  | _ :: _, _ :: _, h => ⟨h.1.ext hE, LRepL.ext hE h.2⟩
  | [], _ :: _, h => h.elim
  | _ :: _, [], h => h.elim
theorem DRep.ext {μ μ' : List Blk} {I I' : Nat → Prop} {w w' : World} (hE : Ext μ.length μ I w μ' I' w') : ∀ {dl : List (FuncId × List LV)} {ds : List Deferred}, DRep μ I w dl ds → DRep μ' I' w' dl ds
  | [], [], _ => trivial
  | _ :: _, _ :: _, h => ⟨⟨h.1.1, h.1.2.ext hE⟩, DRep.ext hE h.2⟩
  | [], _ :: _, h => h.elim
  | _ :: _, [], h => h.elim
/-- A moment of a walk, with what is deferred. -/
structure NowD (dl : List (FuncId × List LV)) (n : Nat) (μ : List Blk) (I : Nat → Prop) (w : World) (H : List LObj) (env : Env) (a : Act) : Prop where
  size : a.tmps.size = n
  defers : DRep μ I w dl a.defers
  st : St μ I w H
  env : ERep μ I w env a.tmps
def LOpsD (P : Program) (ops : Array Oper) (n : Nat) (l : List Nat) (dl : List (FuncId × List LV)) (env : Env) (H : List LObj) (Q : List (FuncId × List LV) → Env → List LObj → Prop) : Prop :=
  ∀ a w μ I, NowD dl n μ I w H env a → ∀ Q' : Exit → Act → World → Prop,
    (∀ dl' env' H' a' w' μ' I', Q dl' env' H' → NowD dl' n μ' I' w' H' env' a' → Ext μ.length μ I w μ' I' w' → Q' .normal a' w') → wpOps P ops Q' l a w
def LWD (P : Program) (n : Nat) (c : Code) (dl : List (FuncId × List LV)) (env : Env) (H : List LObj) (Q : Exit → List (FuncId × List LV) → Env → List LObj → Prop) : Prop :=
  ∀ a w μ I, NowD dl n μ I w H env a → ∀ Q' : Exit → Act → World → Prop,
    (∀ e dl' env' H' a' w' μ' I', Q e dl' env' H' → NowD dl' n μ' I' w' H' env' a' → Ext μ.length μ I w μ' I' w' → Q' e a' w') → c.wp P Q' a w
theorem Ext.app {μ μ' μ'' : List Blk} {I I' I'' : Nat → Prop} {w w' w'' : World} (h : Ext μ.length μ I w μ' I' w') (h' : Ext μ'.length μ' I' w' μ'' I'' w'') : Ext μ.length μ I w μ'' I'' w'' :=
  h.trans (h'.weak h.len')
section
variable {P : Program} {n : Nat} {dl : List (FuncId × List LV)} {env : Env} {H : List LObj} {ops : Array Oper}
theorem LOpsD.nil {Q : List (FuncId × List LV) → Env → List LObj → Prop} (h : Q dl env H) : LOpsD P ops n [] dl env H Q :=
  fun a w μ I hn _ hq => hq dl env H a w μ I h hn (Ext.refl _ _ _ _ (Nat.le_refl _))
theorem NowD.put {μ : List Blk} {I : Nat → Prop} {w : World} {a : Act} {μ' : List Blk} {I' : Nat → Prop} {w' : World} {H' : List LObj} {x : LV} {v : Value} {dst : Option Tmp}
    (h : NowD dl n μ I w H env a) (hd : ∀ d, dst = some d → d < n) (hs : St μ' I' w' H') (hv : LRep μ' I' w' x v) (hE : Ext μ.length μ I w μ' I' w') :
    NowD dl n μ' I' w' H' (eput env dst x) (a.put dst v) where
  size := by cases dst <;> simp [Act.put, h.size]
  defers := by cases dst <;> exact h.defers.ext hE
  st := hs
  env := (h.env.ext hE).put (fun d hd' => by rw [h.size]; exact hd d hd') hv
theorem LOpsD.st {i : Nat} {l : List Nat} {o : Oper} {x : LV} {H' : List LObj} {env' : Env} {Q : List (FuncId × List LV) → Env → List LObj → Prop} (ho : nth ops.toList i = some o) (hg : o.guard = none) (hd : putC n o x env = some env')
    (h : LOp P o env H (Is x H')) (hr : LOpsD P ops n l dl env' H' Q) : LOpsD P ops n (i :: l) dl env H Q := by
  obtain ⟨e1, e2⟩ := putC_eq hd
  subst e1
  intro a w μ I hn Q' hq
  simp only [wpOps, ops_get ho, Region.wanted, hg, if_true]
  refine .inl (h a w μ I hn.st (hn.env.on o) _ _ ?_)
  rintro y H'' v w' μ' I' ⟨rfl, rfl⟩ hs hv hE
  refine hr (a.put o.dst v) w' μ' I' (hn.put (dstOk_spec e2) hs hv hE) Q' ?_
  exact fun dl' env' H'' a' w'' μ'' I'' q hn' hE' => hq dl' env' H'' a' w'' μ'' I'' q hn' (hE.app hE')
/-- A call deferred. -/
theorem LOpsD.defer {i : Nat} {l : List Nat} {o : Oper} {f : FuncId} {args : Array Operand} {ats : Array TypeId} {ls : List LV} {Q : List (FuncId × List LV) → Env → List LObj → Prop} (ho : nth ops.toList i = some o) (hg : o.guard = none) (hd : o.dst = none)
    (hop : o.op = .defer { callee := .value (.func f), args := args, argTypes := ats }) (hl : levs env args.toList = some ls) (hr : LOpsD P ops n l ((f, ls) :: dl) env H Q) : LOpsD P ops n (i :: l) dl env H Q := by
  intro a w μ I hn Q' hq
  simp only [wpOps, ops_get ho, Region.wanted, hg, if_true]
  have hrep := levs_rep (hn.env.on o) (xs := args.toList) (by intro x hx; rw [hop]; simp [Op.operands, Call.operands]; exact .inr (by simpa using hx)) hl
  have hrun : (execOp a.eval o).run P w = .ok (.defer { target := .fn (.func f) #[], args := args.map a.eval }) w := by
    simp [execOp, hop, resolve, Act.eval, Deferred.ofValue]
  refine .inl ?_
  unfold Oper.wp
  rw [hrun]
  show wpOps P ops Q' l (Act.put { a with defers := _ :: a.defers } o.dst undef) w
  rw [hd]
  have hd2 : DRep μ I w ((f, ls) :: dl) ({ target := .fn (.func f) #[], args := args.map a.eval } :: a.defers) := by
    unfold DRep
    exact ⟨⟨rfl, by rw [Array.toList_map]; exact hrep⟩, hn.defers⟩
  exact hr { a with defers := { target := .fn (.func f) #[], args := args.map a.eval } :: a.defers } w μ I ⟨hn.size, hd2, hn.st, hn.env⟩ Q' hq
theorem LWD.region {id : Nat} {Q : Exit → List (FuncId × List LV) → Env → List LObj → Prop} (h : LOpsD P ops n (List.range ops.size) dl env H (fun dl env H => Q .normal dl env H)) : LWD P n (.region id ops false) dl env H Q :=
  fun a w μ I hn Q' hq => wp_region (h a w μ I hn Q' fun dl' env' H' a' w' μ' I' q => hq .normal dl' env' H' a' w' μ' I' q)
def thnD (R : List (FuncId × List LV) → Env → List LObj → Prop) (Q : Exit → List (FuncId × List LV) → Env → List LObj → Prop) : Exit → List (FuncId × List LV) → Env → List LObj → Prop
  | .normal, dl, env, H => R dl env H
  | e, dl, env, H => Q e dl env H
theorem LWD.seq {x y : Code} {Q : Exit → List (FuncId × List LV) → Env → List LObj → Prop} (h : LWD P n x dl env H (thnD (fun dl env H => LWD P n y dl env H Q) Q)) : LWD P n (.seq x y) dl env H Q := by
  intro a w μ I hn Q' hq
  refine wp_seq (h a w μ I hn _ fun e dl' env' H' a' w' μ' I' q hn' hE => ?_)
  cases e with
  | normal => exact q a' w' μ' I' hn' Q' fun e dl'' env'' H'' a'' w'' μ'' I'' q' hn'' hE' => hq e dl'' env'' H'' a'' w'' μ'' I'' q' hn'' (hE.app hE')
  | _ => exact hq _ _ _ _ _ _ _ _ q hn' hE
theorem LWD.skip {Q : Exit → List (FuncId × List LV) → Env → List LObj → Prop} (h : Q .normal dl env H) : LWD P n .skip dl env H Q :=
  fun _ _ _ _ hn _ hq => wp_skip (hq _ _ _ _ _ _ _ _ h hn (Ext.refl _ _ _ _ (Nat.le_refl _)))
theorem LWD.condT {c : Operand} {x y : Code} {Q : Exit → List (FuncId × List LV) → Env → List LObj → Prop} (hc : lev env c = some (.p (.bool true))) (h : LWD P n x dl env H Q) : LWD P n (.cond c x y) dl env H Q :=
  fun a w μ I hn Q' hq => wp_cond (eval_bool hn.env hc) (h a w μ I hn Q' hq)
theorem LWD.condF {c : Operand} {x y : Code} {Q : Exit → List (FuncId × List LV) → Env → List LObj → Prop} (hc : lev env c = some (.p (.bool false))) (h : LWD P n y dl env H Q) : LWD P n (.cond c x y) dl env H Q :=
  fun a w μ I hn Q' hq => wp_cond (eval_bool hn.env hc) (h a w μ I hn Q' hq)
/-- A function that is called when another one leaves. -/
def LCd (P : Program) (f : FuncId) (ls : List LV) (H H' : List LObj) : Prop :=
  callable P f = true ∧ ∀ (args : Array Value) (w : World) (μ : List Blk) (I : Nat → Prop), St μ I w H → LRepL μ I w ls args.toList → ∀ u,
    CallsD P f args u w fun e u' w' => u' = u ∧ ∃ v μ' I', e = .returned v ∧ St μ' I' w' H' ∧ Ext μ.length μ I w μ' I' w'
theorem LCd.start {f : FuncId} {fn : Func} {c : Code} {als : List LV} {e : Env} {R : LV → List LObj → Prop} {H' : List LObj} (hcall : callable P f = true) (hf : P.funcs[f]? = some fn) (hb : fn.body = some c)
    (hn : Nat.ble als.length fn.ntmps = true) (he : penvC 0 als = some e) (hR : ∀ x H2, R x H2 → H2 = H') (h : LW P fn.ntmps H.length c e H (Fin P fn H.length R)) : LCd P f als H H' := by
  refine ⟨hcall, fun args w μ I hs ha u => ?_⟩
  have e1 := penvC_eq he
  subst e1
  have hnow := start_now (fn := fn) hs ha (by simpa using hn)
  refine callsD_of_wp (u := u) hf hb (R := fun e w' => ∃ v μ' I', e = .returned v ∧ St μ' I' w' H' ∧ Ext μ.length μ I w μ' I' w') (h _ w μ I hnow (by rw [hs.len]; exact Nat.le_refl _) _ ?_)
  rintro e env' H2 a' w' μ' I' ⟨he, ⟨x, hres, hR'⟩ | ⟨env'', H'', x, hw, hres, hR'⟩⟩ hn' hE
  · obtain ⟨v, hrun, hv⟩ := hres.run hn'
    have := hR _ _ hR'
    subst this
    have hE2 := hE
    rw [← hs.len] at hE2
    rcases he with rfl | rfl <;> exact ⟨hn'.defers, v, hrun, v, μ', I', rfl, hn'.st, hE2⟩
  obtain ⟨μ'', hn'', hE'⟩ := hn'.weak hw hE.len'
  obtain ⟨v, hrun, hv⟩ := hres.run hn''
  have := hR _ _ hR'
  subst this
  have hE2 := hE.trans hE'
  rw [← hs.len] at hE2
  rcases he with rfl | rfl <;> exact ⟨hn'.defers, v, hrun, v, μ'', I', rfl, hn''.st, hE2⟩
/-- What is deferred, run at the end. -/
inductive Ends (P : Program) : List (FuncId × List LV) → List LObj → List LObj → Prop
  | nil {H : List LObj} : Ends P [] H H
  | cons {f : FuncId} {ls : List LV} {r : List (FuncId × List LV)} {H H1 H2 : List LObj} (h : LCd P f ls H H1) (hr : Ends P r H1 H2) : Ends P ((f, ls) :: r) H H2
end
theorem LRepL.cut {μ : List Blk} {I : Nat → Prop} {w : World} {j : Nat} (hj : j ≤ μ.length) : ∀ {ls : List LV} {vs : List Value}, LRepL μ I w ls vs → (∀ x ∈ ls, LV.Low j x) → LRepL (μ.take j) I w ls vs
  | [], [], _, _ => trivial
  | x :: _, _ :: _, h, hl => ⟨h.1.cut hj (hl x (.head _)), LRepL.cut hj h.2 fun y hy => hl y (.tail _ hy)⟩
  | [], _ :: _, h, _ => h.elim
  | _ :: _, [], h, _ => h.elim
theorem LRep.more {μ ν : List Blk} {I : Nat → Prop} {w : World} {x : LV} {v : Value} (h : LRep μ I w x v) : LRep (μ ++ ν) I w x v := by
  have hg : ∀ {i : Nat} {B : Blk}, μ[i]? = some B → (μ ++ ν)[i]? = some B := fun h => by rw [List.getElem?_append_left (List.getElem?_eq_some_iff.1 h).1]; exact h
  induction h with
  | p h => exact .p h
  | agg hl ho h ih => exact .agg hl ho fun i c v hc hv => ih i c v hc hv
  | tup hl h ih => exact .tup hl fun i c v hc hv => ih i c v hc hv
  | ptr h => exact .ptr (hg h)
  | cptr f h1 h2 => exact .cptr f h1 h2
  | vec h h1 hn hf => exact .vec (hg h) h1 hn hf
  | vptr h h1 hn hf => exact .vptr (hg h) h1 hn hf
  | zs => exact .zs
  | map h => exact .map (hg h)
  | nilmap => exact .nilmap
  | fn h1 h2 h3 h4 ih1 ih2 => exact .fn h1 h2 (fun i c v hc hv => ih1 i c v hc hv) (fun i c v hc hv => ih2 i c v hc hv)
  | any => exact .any
  | yld h => exact .yld (hg h)
  | fptr hI hc ho h ih => exact .fptr hI hc ho ih
theorem ORep.more {μ ν : List Blk} {I : Nat → Prop} {w : World} {o : LObj} {B : Blk} (h : ORep μ I w o B) : ORep (μ ++ ν) I w o B := by
  cases h with
  | box h1 h2 h3 h4 => exact .box h1 h2 h3 fun i c v hc hv => (h4 i c v hc hv).more
  | vecE => exact .vecE
  | vec h1 h2 h3 h4 h5 => exact .vec h1 h2 h3 h4 h5
  | map h1 h2 h3 h4 h5 => exact .map h1 h2 (fun i c e hc he => ⟨(h3 i c e hc he).1, (h3 i c e hc he).2.more⟩) h4 h5
  | dead => exact .dead
  | slot => exact .slot
  | loop h1 hs hp hps hA hB hn he => exact .loop h1 hs hp hps hA hB hn fun t x ht => let ⟨v, h2, h3⟩ := he t x ht; ⟨v, h2, h3.more⟩
  | defd h1 => exact .defd h1
theorem LC.pre {P : Program} {f : FuncId} {als : List LV} {H H' Hr : List LObj} {x : LV} (h : LC P f als H (Is x H')) (hl : H'.length = H.length) (hlow : lowObjs H.length H = true) (hal : LV.lowsB H.length als = true) :
    LC P f als (H ++ Hr) (Is x (H' ++ Hr)) := by
  intro args w μ I hs ha
  have hlen := hs.len
  rw [List.length_append] at hlen
  have hj : H.length ≤ μ.length := by omega
  have hcut := hs.cut (j := H.length) (by simp) (by rw [List.take_left']; exact lowObjs_spec hlow; rfl)
  rw [List.take_left' rfl] at hcut
  refine (h args w (μ.take H.length) I hcut (ha.cut hj (LV.lows_of hal))).mono ?_
  rintro e w' ⟨_, v, _, μ', I', rfl, ⟨e1, e2⟩, hs', hv, hE⟩
  rw [e2] at hs'
  rw [e1] at hv
  have hml : μ'.length = H.length := by rw [hs'.len, hl]
  have htl : (μ.take H.length).length = H.length := by rw [List.length_take]; omega
  have hdrop : ∀ i, H.length ≤ i → (μ' ++ μ.drop H.length)[i]? = μ[i]? := by
    intro i hi
    rw [List.getElem?_append_right (by omega), List.getElem?_drop, hml]
    congr 1; omega
  have hfirst : ∀ i, i < H.length → (μ' ++ μ.drop H.length)[i]? = μ'[i]? := fun i hi => List.getElem?_append_left (by omega)
  -- who is not of the first ones
  have hnot : ∀ (i : Nat) (b n : Nat), H.length ≤ i → μ[i]? = some ⟨some b, n⟩ → ¬ Own (μ.take H.length) b := by
    rintro i b n hi hb ⟨n', hm⟩
    obtain ⟨q, hq⟩ := mem_get hm
    have hql := (List.getElem?_eq_some_iff.1 hq).1
    rw [htl] at hql
    rw [List.getElem?_take_of_lt hql] at hq
    have := hs.inj i q b n n' hb hq
    omega
  have hsub : ∀ b, Own (μ.take H.length) b → Own μ b := fun b ⟨n, hb⟩ => ⟨n, List.mem_of_mem_take hb⟩
  have hEx : Ext μ.length μ I w (μ' ++ μ.drop H.length) I' w' :=
    { get := fun i B hi hb => by
        by_cases h1 : i < H.length
        · have := hE.get i B (by omega) (by rw [List.getElem?_take_of_lt h1]; exact hb)
          rw [hfirst i h1]; exact this
        · exact ⟨B, by rw [hdrop i (by omega)]; exact hb, Nat.le_refl _, fun _ => .inl rfl, fun _ _ => rfl⟩
      len := Nat.le_refl _
      len' := by rw [List.length_append, List.length_drop]; omega
      os := hE.os
      tape := hE.tape
      output := hE.output
      size := hE.size
      imm := hE.imm
      shape := hE.shape
      inew := fun b hb => (hE.inew b hb).imp id (Or.imp (hsub b) id)
      mnew := fun b ⟨n, hb⟩ => by
        rcases List.mem_append.1 hb with hb | hb
        · exact (hE.mnew b ⟨n, hb⟩).imp (hsub b) id
        · exact .inl ⟨n, List.mem_of_mem_drop hb⟩
      keep := fun b hb hn => hE.keep b hb fun hm => hn (hsub b hm) }
  have hblk : ∀ (i b n : Nat), H.length ≤ i → μ[i]? = some ⟨some b, n⟩ → w'.heap[b]? = w.heap[b]? := fun i b n hi hb => hE.keep b (hs.lt b (Own.mk hb)) (hnot i b n hi hb)
  have hst : St (μ' ++ μ.drop H.length) I' w' (H' ++ Hr) :=
    { len := by rw [List.length_append, List.length_append, List.length_drop]; omega
      inj := fun i j b n n' hi hj' => by
        by_cases h1 : i < H.length
        · rw [hfirst i h1] at hi
          by_cases h2 : j < H.length
          · rw [hfirst j h2] at hj'
            exact hs'.inj i j b n n' hi hj'
          · rw [hdrop j (by omega)] at hj'
            rcases hE.mnew b (Own.mk hi) with h3 | h3
            · exact absurd h3 (hnot j b n' (by omega) hj')
            · have := hs.lt b (Own.mk hj'); omega
        · rw [hdrop i (by omega)] at hi
          by_cases h2 : j < H.length
          · rw [hfirst j h2] at hj'
            rcases hE.mnew b (Own.mk hj') with h3 | h3
            · exact absurd h3 (hnot i b n (by omega) hi)
            · have := hs.lt b (Own.mk hi); omega
          · rw [hdrop j (by omega)] at hj'
            exact hs.inj i j b n n' hi hj'
      lt := fun b ⟨n, hb⟩ => by
        rcases List.mem_append.1 hb with hb | hb
        · exact hs'.lt b ⟨n, hb⟩
        · exact Nat.lt_of_lt_of_le (hs.lt b ⟨n, List.mem_of_mem_drop hb⟩) hE.size
      off := fun b ⟨n, hb⟩ hI => by
        rcases List.mem_append.1 hb with hb | hb
        · exact hs'.off b ⟨n, hb⟩ hI
        · have hown : Own μ b := ⟨n, List.mem_of_mem_drop hb⟩
          rcases hE.inew b hI with h3 | h3 | h3
          · exact hs.off b hown h3
          · obtain ⟨q, hq⟩ := mem_get hb
            rw [List.getElem?_drop] at hq
            exact hnot _ b n (by omega) hq h3
          · have := hs.lt b hown; omega
      ilt := hs'.ilt
      objs := fun i o B ho hB => by
        by_cases h1 : i < H.length
        · rw [List.getElem?_append_left (by omega)] at ho
          rw [hfirst i h1] at hB
          have hob := hs'.objs i o B ho hB
          exact hob.more
        · rw [List.getElem?_append_right (by omega), hl] at ho
          rw [hdrop i (by omega)] at hB
          have hob := hs.objs i o B (by rw [List.getElem?_append_right (by omega)]; exact ho) hB
          exact hob.ext hEx fun c hc => by
            obtain ⟨Bb, Bn⟩ := B
            simp only at hc
            subst hc
            exact hblk i c Bn (by omega) hB }
  refine ⟨x, v, H' ++ Hr, _, I', rfl, ⟨rfl, rfl⟩, hst, hv.more, hEx⟩
/-- The fence that lets all in, within a round or not. -/
def WF (ro : Option Nat) : Fence := { fn := fun _ => True, depth := none, alive := false, round := ro }
theorem callsIn_WF {ro : Option Nat} {n : Nat} {P : Program} {f : FuncId} {args : Array Value} {w : World} {R : Ending → World → Prop} (h : Calls P f args w R) : CallsIn (WF ro) n P f args w R :=
  (callsIn_wide (n := n)).2 h
theorem rowsIn_WF {ro : Option Nat} {n : Nat} {P : Program} {row : String} {args : Array Value} {w : World} {R : Value → World → Prop} (h : Rows P row args w R) : RowsIn (WF ro) n P row args w R :=
  fun c cs _ => let ⟨v, w', r, s⟩ := h c cs; ⟨v, w', r, stepsIn_wide.2 s⟩
theorem uponIn_of {ro : Option Nat} {m : Nat} {P : Program} {o : Oper} {a : Act} {K K' : Act → World → Prop} {Q : Exit → Act → World → Prop} {r : Result Next} (h : o.upon P a K Q r) (hk : ∀ a w, K a w → K' a w) :
    o.uponIn (WF ro) m P a K' Q r := by
  cases r with
  | ok x w =>
    cases x with
    | value v => exact hk _ _ h
    | skip => exact hk _ _ h
    | defer d => exact hk _ _ h
    | enter f args =>
      refine ⟨(fun e => nomatch (show false = true from e)), (callsIn_WF h).mono ?_⟩
      intro e w' he
      cases e with
      | returned v => exact hk _ _ he
      | panicked c => exact he
      | outgrown => exact he
    | row row args => exact ⟨(fun e => nomatch (show false = true from e)), (rowsIn_WF h).mono fun _ _ => hk _ _⟩
    | _ => exact h.elim
  | halt s w =>
    cases s with
    | panic v => exact h
    | _ => exact h.elim
def noDefer (o : Oper) : Bool := match o.op with | .defer _ => false | _ => true
theorem wpIn_of {ro : Option Nat} {m : Nat} {P : Program} {o : Oper} {a : Act} {w : World} {K K' : Act → World → Prop} {Q : Exit → Act → World → Prop} (hd : noDefer o = true) (h : o.wp P a w K Q) (hk : ∀ a w, K a w → K' a w) :
    o.wpIn (WF ro) m P a w K' Q := by
  refine ⟨fun _ _ => trivial, ?_⟩
  have e : o.semAt (WF ro).round a.eval = execOp a.eval o := Oper.semAt_eq _ _ _ fun c hc => by rw [noDefer, hc] at hd; cases hd
  rw [e]
  exact uponIn_of h hk
theorem wpOpsIn_of {ro : Option Nat} {m : Nat} {P : Program} {ops : Array Oper} {Q : Exit → Act → World → Prop} (hd : ops.toList.all noDefer = true) (hQ : ¬ LetsOut Q) :
    ∀ (l : List Nat) (a : Act) (w : World), wpOps P ops Q l a w → wpOpsIn (WF ro) m P ops Q l a w
  | [], _, _, h => h
  | i :: l, a, w, h => by
    simp only [wpOps] at h
    simp only [wpOpsIn]
    cases ho : ops[i]? with
    | none => rw [ho] at h; exact wpOpsIn_of hd hQ l a w h
    | some o =>
      rw [ho] at h
      simp only at h ⊢
      have hdo : noDefer o = true := List.all_eq_true.1 hd o (Array.mem_toList_iff.2 (Array.mem_of_getElem? ho))
      split at h
      · next hw =>
        rw [if_pos hw]
        rcases h with h | ⟨_, h⟩
        · exact wpIn_of hdo h fun a w => wpOpsIn_of hd hQ l a w
        · exact absurd h hQ
      · next hw =>
        rw [if_neg hw]
        exact ⟨fun _ _ => trivial, wpOpsIn_of hd hQ l _ w h⟩
theorem wpAnyIn_of {ro : Option Nat} {m : Nat} {P : Program} {md : Region.Mode} {ops : Array Oper} {Q : Exit → Act → World → Prop} (hd : ops.toList.all noDefer = true) (hQ : ¬ LetsOut Q) :
    ∀ (f : Nat) (l : Array Bool) (a : Act) (w : World), wpAny P md ops Q f l a w → wpAnyIn (WF ro) m P md ops Q f l a w
  | 0, _, _, _, h => h
  | f + 1, l, a, w, h => by
    refine ⟨h.1, fun i hi => ?_⟩
    have h := h.2 i hi
    unfold wpOp at h
    unfold wpOpIn
    cases ho : ops[i]? with
    | none => rw [ho] at h; exact wpAnyIn_of hd hQ f _ a w h
    | some o =>
      rw [ho] at h
      simp only at h ⊢
      have hdo : noDefer o = true := List.all_eq_true.1 hd o (Array.mem_toList_iff.2 (Array.mem_of_getElem? ho))
      split at h
      · next hw =>
        rw [if_pos hw]
        rcases h with h | ⟨_, h⟩
        · exact wpIn_of hdo h fun a w => wpAnyIn_of hd hQ f _ a w
        · exact absurd h hQ
      · next hw =>
        rw [if_neg hw]
        exact ⟨fun _ _ => trivial, wpAnyIn_of hd hQ f _ _ w h⟩
theorem RgOk.wpIn {P : Program} {ro : Option Nat} {m id : Nat} {ops : Array Oper} {draws : Bool} {Q : Exit → Act → World → Prop} {a : Act} {w : World} (hd : ops.toList.all noDefer = true) (hQ : ¬ LetsOut Q) (h : RgOk P ops draws Q a w) :
    (Code.region id ops draws).wpIn (WF ro) m P Q a w := by
  cases draws with
  | true => exact wpIn_region_any h.1 (wpAnyIn_of hd hQ _ _ _ _ h.2)
  | false => exact wpIn_region (wpOpsIn_of hd hQ _ _ _ h)
theorem LRg.plain {P : Program} {n k : Nat} {ops : Array Oper} {env : Env} {H : List LObj} {Q : Exit → Env → List LObj → Prop} (h : LOps P ops n k (List.range ops.size) env H (fun env H => Q .normal env H)) : LRg P n k ops false env H Q :=
  fun a w μ I hn hk Q' hq => h a w μ I hn hk Q' fun env' H' a' w' μ' I' q => hq .normal env' H' a' w' μ' I' q
theorem Ext.same {k : Nat} {μ μ' : List Blk} {I I' : Nat → Prop} {w w' : World} {id b : Nat} (hE : Ext k μ I w μ' I' w') (hk : id < k) (h : μ[id]? = some ⟨some b, 0⟩) : μ'[id]? = some ⟨some b, 0⟩ := by
  obtain ⟨B', h1, -, -, h4⟩ := hE.get _ _ hk h
  have e := h4 rfl (by simp)
  rw [h1, e]
def LOpI (P : Program) (o : Oper) (env : Env) (H : List LObj) (R : LV → List LObj → Prop) : Prop :=
  ∀ (a : Act) (w : World) (μ : List Blk) (I : Nat → Prop), St μ I w H → EOn μ I w o env a → ∀ (K : Act → World → Prop) (Q : Exit → Act → World → Prop),
    (∀ x H' v w' μ' I', R x H' → St μ' I' w' H' → LRep μ' I' w' x v → Ext μ.length μ I w μ' I' w' → K (a.put o.dst v) w') → o.wpIn (WF none) 0 P a w K Q
theorem LOpI.of {P : Program} {o : Oper} {env : Env} {H : List LObj} {R : LV → List LObj → Prop} (h : LOp P o env H R) (hd : noDefer o = true) : LOpI P o env H R :=
  fun a w μ I hs he K Q hK => wpIn_of hd (h a w μ I hs he K Q hK) fun _ _ h => h
def LOpsI (P : Program) (ops : Array Oper) (n k : Nat) (l : List Nat) (env : Env) (H : List LObj) (Q : Env → List LObj → Prop) : Prop :=
  ∀ a w μ I, Now n μ I w H env a → k ≤ μ.length → ∀ Q' : Exit → Act → World → Prop,
    (∀ env' H' a' w' μ' I', Q env' H' → Now n μ' I' w' H' env' a' → Ext k μ I w μ' I' w' → Q' .normal a' w') → wpOpsIn (WF none) 0 P ops Q' l a w
section
variable {P : Program} {n k : Nat} {env : Env} {H : List LObj} {ops : Array Oper} {i : Nat} {l : List Nat} {o : Oper} {x : LV} {H' : List LObj} {env' : Env} {Q : Env → List LObj → Prop}
theorem LW.regionI {id : Nat} {Q : Exit → Env → List LObj → Prop} (h : LOpsI P ops n k (List.range ops.size) env H (fun env H => Q .normal env H)) : LW P n k (.region id ops false) env H Q :=
  fun a w μ I hn hk Q' hq => (wpIn_wide (n := 0)).1 (wpIn_region (h a w μ I hn hk Q' fun env' H' a' w' μ' I' q => hq .normal env' H' a' w' μ' I' q))
theorem LOpsI.nil (h : Q env H) : LOpsI P ops n k [] env H Q := fun a w μ I hn hk _ hq => hq env H a w μ I h hn (Ext.refl _ _ _ _ hk)
theorem LOpsI.st (ho : nth ops.toList i = some o) (hg : o.guard = none) (hd : putC n o x env = some env') (h : LOpI P o env H (Is x H')) (hr : LOpsI P ops n k l env' H' Q) : LOpsI P ops n k (i :: l) env H Q := by
  obtain ⟨rfl, h2⟩ := putC_eq hd
  intro a w μ I hn hk Q' hq
  simp only [wpOpsIn, ops_get ho, Region.wanted, hg, if_true]
  refine h a w μ I hn.st (hn.env.on o) _ _ fun y H2 v w' μ' I' hR hs hv hE => ?_
  obtain ⟨rfl, rfl⟩ := hR
  refine hr (a.put o.dst v) w' μ' I' (hn.put (dstOk_spec h2) hs hv hE) (Nat.le_trans hk hE.len') Q' ?_
  exact fun env' H'' a' w'' μ'' I'' q hn' hE' => hq env' H'' a' w'' μ'' I'' q hn' ((hE.weak hk).trans hE')
theorem LOpsI.gd {j t : Nat} {b : Bool} (ho : nth ops.toList i = some o) (hg : o.guard = some (j, b)) (ht : slotOf ops.toList j = some t) (hb : env.get t = some (.p (.bool b)))
    (hd : putC n o x env = some env') (h : LOpI P o env H (Is x H')) (hr : LOpsI P ops n k l env' H' Q) : LOpsI P ops n k (i :: l) env H Q := by
  obtain ⟨rfl, h2⟩ := putC_eq hd
  intro a w μ I hn hk Q' hq
  simp only [wpOpsIn, ops_get ho, Region.wanted, hg, yielded_of hn.env (slotOf_eq ht) hb, beq_self_eq_true, if_true]
  refine h a w μ I hn.st (hn.env.on o) _ _ fun y H2 v w' μ' I' hR hs hv hE => ?_
  obtain ⟨rfl, rfl⟩ := hR
  refine hr (a.put o.dst v) w' μ' I' (hn.put (dstOk_spec h2) hs hv hE) (Nat.le_trans hk hE.len') Q' ?_
  exact fun env' H'' a' w'' μ'' I'' q hn' hE' => hq env' H'' a' w'' μ'' I'' q hn' ((hE.weak hk).trans hE')
theorem LOpsI.sk {j t : Nat} {b c : Bool} (ho : nth ops.toList i = some o) (hg : o.guard = some (j, b)) (ht : slotOf ops.toList j = some t) (hb : env.get t = some (.p (.bool c))) (hbc : c = !b)
    (hd : putC n o (.tup []) env = some env') (hr : LOpsI P ops n k l env' H Q) : LOpsI P ops n k (i :: l) env H Q := by
  obtain ⟨rfl, h2⟩ := putC_eq hd
  intro a w μ I hn hk Q' hq
  have hne : (some c == some b) = false := by subst hbc; cases b <;> rfl
  simp only [wpOpsIn, ops_get ho, Region.wanted, hg, yielded_of hn.env (slotOf_eq ht) hb, hne, Bool.false_eq_true, if_false]
  exact ⟨fun _ _ => trivial, hr (a.put o.dst undef) w μ I (hn.put (dstOk_spec h2) hn.st (.tup rfl fun i c v hc => by simp at hc) (Ext.refl _ _ _ _ (Nat.le_refl _))) hk Q' hq⟩
theorem LOpsI.sku {j t : Nat} {b : Bool} (ho : nth ops.toList i = some o) (hg : o.guard = some (j, b)) (ht : slotOf ops.toList j = some t) (hb : env.get t = some (.tup []))
    (hd : putC n o (.tup []) env = some env') (hr : LOpsI P ops n k l env' H Q) : LOpsI P ops n k (i :: l) env H Q := by
  obtain ⟨rfl, h2⟩ := putC_eq hd
  intro a w μ I hn hk Q' hq
  have hne : ((none : Option Bool) == some b) = false := rfl
  simp only [wpOpsIn, ops_get ho, Region.wanted, hg, yielded_undef hn.env (slotOf_eq ht) hb, hne, Bool.false_eq_true, if_false]
  exact ⟨fun _ _ => trivial, hr (a.put o.dst undef) w μ I (hn.put (dstOk_spec h2) hn.st (.tup rfl fun i c v hc => by simp at hc) (Ext.refl _ _ _ _ (Nat.le_refl _))) hk Q' hq⟩
theorem LOpsI.cases (t : Nat) {b : Bool} (_ : env.get t = some (.p (.bool b))) (ht : b = true → LOpsI P ops n k l env H Q) (hf : b = false → LOpsI P ops n k l env H Q) : LOpsI P ops n k l env H Q :=
  match b, ht, hf with
  | true, ht, _ => ht rfl
  | false, _, hf => hf rfl
/-- The record of a loop is written anew. -/
theorem St.loopTo {μ : List Blk} {I : Nat → Prop} {w : World} {id b n : Nat} {b0 : Bool} {env1 : Env} {ps : Array Tmp} {A B : Code} {r : Loop} (b1 : Bool) (st : LoopState) (hst : st = cond b1 .busy .ready)
    (hs : St μ I w H) (hH : H[id]? = some (.loop b0 n env1 ps A B)) (hid : μ[id]? = some ⟨some b, 0⟩) (hb : w.heap[b]? = some (.loop r)) :
    St μ I (w.putObj b (.loop { r with state := st, pending := none })) (H.set id (.loop b1 n env1 ps A B)) ∧ Ext μ.length μ I w μ I (w.putObj b (.loop { r with state := st, pending := none })) := by
  have hlt : b < w.heap.size := (Array.getElem?_eq_some_iff.1 hb).1
  have hob := hs.objs id _ _ hH hid
  refine hs.write (o := .loop b1 n env1 ps A B) hid (fun c hc => World.putObj_heap_other hc) (by simp [World.putObj]) rfl rfl rfl (fun c e f h => by rw [hb] at h; cases h) (fun hE => ?_)
  cases hob with
  | loop hb1 h1 h2 h3 h4 h5 h6 h7 =>
    rw [hb] at hb1
    cases hb1
    exact .loop (World.putObj_heap_same hlt) hst rfl h3 h4 h5 h6 fun t x ht => let ⟨v, hv, hr⟩ := h7 t x ht; ⟨v, hv, hr.ext hE⟩
theorem LOpI.yield {fo xo : Operand} {ats : Array TypeId} {id p ra rb bid : Nat} {draws : Bool} {lx : LV} {env1 env2 : Env} {opsA opsB : Array Oper} {Hb H2 H3 : List LObj}
    (ho : o.op = .call { callee := .value fo, args := #[xo], argTypes := ats }) (hf : lev env fo = some (.yld id)) (hx : lev env xo = some lx)
    (hH : nth H id = some (.loop false n env1 #[p] (.region ra opsA false) (.block bid (.region rb opsB draws)))) (hp : Nat.blt p n = true)
    (hdA : opsA.toList.all noDefer = true) (hdB : opsB.toList.all noDefer = true) (hHb : setC H id (.loop true n env1 #[p] (.region ra opsA false) (.block bid (.region rb opsB draws))) = some Hb)
    (hA : LRg P n H.length opsA false (eput env1 (some p) lx) H (fun e e2 H2 => e = .normal ∧ e2 = env2 ∧ H2 = H)) (hB : LRg P n H.length opsB draws env2 Hb (fun e _ H3 => e = .normal ∧ H3 = H2))
    (h2 : nth H2 id = some (.loop true n env1 #[p] (.region ra opsA false) (.block bid (.region rb opsB draws))))
    (hH3 : setC H2 id (.loop false n env1 #[p] (.region ra opsA false) (.block bid (.region rb opsB draws))) = some H3) : LOpI P o env H (Is (.p (.bool true)) H3) := by
  intro a w μ I hs he K Q hK
  rw [nth_eq] at hH h2
  have hfo : LRep μ I w (.yld id) (a.eval fo) := he.ev (by rw [ho]; simp [Op.operands, Call.operands]) hf
  have hxo : LRep μ I w lx (a.eval xo) := he.ev (by rw [ho]; simp [Op.operands, Call.operands]) hx
  generalize hv : a.eval fo = v at hfo
  cases hfo with
  | @yld _ b hid =>
    have hlen := hs.len
    have hidl : id < H.length := (List.getElem?_eq_some_iff.1 hH).1
    have hob := hs.objs id _ _ hH hid
    cases hob with
    | @loop _ _ _ _ _ _ _ r hb hst hpe hps hAs hBs hn hen =>
      have hrun : (execOp a.eval o).run P w = .ok (.round b r.fn (r.tmps.setIfInBounds p (a.eval xo)) (.region ra opsA false) (.block bid (.region rb opsB draws))) w := by
        have := run_yield (P := P) (args := #[a.eval xo]) hb (by rw [hps]; rfl)
        rw [hps, hAs, hBs] at this
        simp [execOp, ho, resolve, Deferred.ofValue, hv, invoke] at this ⊢
        rw [this]
      refine ⟨fun _ _ => trivial, ?_⟩
      show o.uponIn (WF none) 0 P a K Q ((execOp a.eval o).run P w)
      rw [hrun]
      refine ⟨(fun e => nomatch (show false = true from e)), roundIn_of_wpIn trivial ?_⟩
      have hnow : Now n μ I w H (eput env1 (some p) lx) { tmps := r.tmps.setIfInBounds p (a.eval xo), defers := [] } := by
        have hp' : p < n := by simpa using hp
        have := ERep.put (a := { tmps := r.tmps, defers := [] }) (dst := some p) (env := env1) hen (fun d hd => by cases hd; show p < r.tmps.size; omega) hxo
        exact ⟨by simp [hn], rfl, hs, this⟩
      refine RgOk.wpIn (ro := some b) hdA (fun ⟨_, _, h⟩ => h) (hA _ w μ I hnow (by omega) _ ?_)
      rintro e e2 H2x a1 w1 μ1 I1 ⟨rfl, rfl, rfl⟩ hn1 hE1
      have hid1 := hE1.same hidl hid
      have hlen1 := hn1.st.len
      have hob1 := hn1.st.objs id _ _ hH hid1
      cases hob1 with
      | @loop _ _ _ _ _ _ _ r1 hb1 hst1 hpe1 hps1 hAs1 hBs1 hnn1 hen1 =>
        refine ⟨_, run_beginRound hb1 hst1, ?_⟩
        have e1 : ({ r1 with state := .busy } : Loop) = { r1 with state := .busy, pending := none } := by rw [← hpe1]
        rw [e1]
        obtain ⟨hs2, hE2⟩ := hn1.st.loopTo true .busy rfl hH hid1 hb1
        have e2 := (setC_eq hHb).1
        subst e2
        refine wpIn_block (RgOk.wpIn (ro := some b) hdB (fun ⟨_, _, h⟩ => h) (hB a1 _ μ1 I1 ⟨hn1.size, hn1.defers, hs2, hn1.env.ext hE2⟩ (by omega) _ ?_))
        rintro e e3 H3x a3 w3 μ3 I3 ⟨rfl, rfl⟩ hn3 hE3
        have hid3 := hE3.same hidl hid1
        have hob3 := hn3.st.objs id _ _ h2 hid3
        cases hob3 with
        | @loop _ _ _ _ _ _ _ r3 hb3 hst3 hpe3 hps3 hAs3 hBs3 hnn3 hen3 =>
          refine ⟨_, _, run_endRound none hb3, ?_⟩
          obtain ⟨hs4, hE4⟩ := hn3.st.loopTo false .ready rfl h2 hid3 hb3
          have e4 := (setC_eq hH3).1
          subst e4
          refine hK (.p (.bool true)) _ _ _ μ3 I3 ⟨rfl, rfl⟩ hs4 (.p .bool) ?_
          rw [hlen]
          exact (hE1.trans (hE2.weak (by omega))).trans (hE3.trans (hE4.weak hE3.len'))
end
/-- A state in which a range over a function may have left its mark. -/
structure NowM (m : Option Nat) (n : Nat) (μ : List Blk) (I : Nat → Prop) (w : World) (H : List LObj) (env : Env) (a : Act) : Prop where
  size : a.tmps.size = n
  defers : match m with
    | none => a.defers = []
    | some d => ∃ D, μ[d]? = some ⟨some D, 0⟩ ∧ H[d]? = some .defd ∧ a.defers = [{ target := .collected D, args := #[] }]
  st : St μ I w H
  env : ERep μ I w env a.tmps
def LWm (P : Program) (n k : Nat) (m : Option Nat) (c : Code) (env : Env) (H : List LObj) (Q : Option Nat → Exit → Env → List LObj → Prop) : Prop :=
  ∀ a w μ I, NowM m n μ I w H env a → k ≤ μ.length → ∀ Q' : Exit → Act → World → Prop,
    (∀ m' e env' H' a' w' μ' I', Q m' e env' H' → NowM m' n μ' I' w' H' env' a' → Ext k μ I w μ' I' w' → Q' e a' w') → c.wp P Q' a w
section
variable {P : Program} {n k : Nat} {env : Env} {H : List LObj} {Q : Option Nat → Exit → Env → List LObj → Prop} {m : Option Nat}
theorem LWm.of {c : Code} (h : LW P n k c env H (Q none)) : LWm P n k none c env H Q :=
  fun a w μ I hn hk Q' hq => h a w μ I ⟨hn.size, hn.defers, hn.st, hn.env⟩ hk Q' fun e env' H' a' w' μ' I' q hn' => hq none e env' H' a' w' μ' I' q ⟨hn'.size, hn'.defers, hn'.st, hn'.env⟩
/-- First what leaves no mark. -/
theorem LWm.seqW {x y : Code} (h : LW P n k x env H (thn (fun env H => LWm P n k none y env H Q) (Q none))) : LWm P n k none (.seq x y) env H Q := by
  intro a w μ I hn hk Q' hq
  refine wp_seq (h a w μ I ⟨hn.size, hn.defers, hn.st, hn.env⟩ hk _ fun e env' H' a' w' μ' I' q hn' hE => ?_)
  cases e with
  | normal => exact q a' w' μ' I' ⟨hn'.size, hn'.defers, hn'.st, hn'.env⟩ hE.len' Q' fun m' e env'' H'' a'' w'' μ'' I'' q' hn'' hE' => hq m' e env'' H'' a'' w'' μ'' I'' q' hn'' (hE.trans hE')
  | _ => exact hq none _ _ _ _ _ _ _ q ⟨hn'.size, hn'.defers, hn'.st, hn'.env⟩ hE
def thnM (R : Option Nat → Env → List LObj → Prop) (Q : Option Nat → Exit → Env → List LObj → Prop) : Option Nat → Exit → Env → List LObj → Prop
  | m, .normal, env, H => R m env H
  | m, e, env, H => Q m e env H
theorem LWm.seq {x y : Code} (h : LWm P n k m x env H (thnM (fun m env H => LWm P n k m y env H Q) Q)) : LWm P n k m (.seq x y) env H Q := by
  intro a w μ I hn hk Q' hq
  refine wp_seq (h a w μ I hn hk _ fun m' e env' H' a' w' μ' I' q hn' hE => ?_)
  cases e with
  | normal => exact q a' w' μ' I' hn' hE.len' Q' fun m' e env'' H'' a'' w'' μ'' I'' q' hn'' hE' => hq m' e env'' H'' a'' w'' μ'' I'' q' hn'' (hE.trans hE')
  | _ => exact hq m' _ _ _ _ _ _ _ q hn' hE
/-- A block that is left at its end. -/
theorem LWm.block {id : Nat} {c : Code} (h : LWm P n k m c env H (fun m e env H => e = .normal ∧ Q m .normal env H)) : LWm P n k m (.block id c) env H Q := by
  intro a w μ I hn hk Q' hq
  refine wp_block (h a w μ I hn hk _ ?_)
  rintro m' e env' H' a' w' μ' I' ⟨rfl, q⟩ hn' hE
  exact hq m' .normal env' H' a' w' μ' I' q hn' hE
def LOpsM (P : Program) (ops : Array Oper) (n k d : Nat) (l : List Nat) (env : Env) (H : List LObj) (Q : Env → List LObj → Prop) : Prop :=
  ∀ a w μ I, NowM (some d) n μ I w H env a → k ≤ μ.length → ∀ Q' : Exit → Act → World → Prop,
    (∀ env' H' a' w' μ' I', Q env' H' → NowM (some d) n μ' I' w' H' env' a' → Ext k μ I w μ' I' w' → Q' .normal a' w') → wpOps P ops Q' l a w
theorem LWm.region {id d : Nat} {ops : Array Oper} (h : LOpsM P ops n k d (List.range ops.size) env H (fun env H => Q (some d) .normal env H)) : LWm P n k (some d) (.region id ops false) env H Q :=
  fun a w μ I hn hk Q' hq => wp_region (h a w μ I hn hk Q' fun env' H' a' w' μ' I' q => hq (some d) .normal env' H' a' w' μ' I' q)
theorem LOpsM.nil {d : Nat} {ops : Array Oper} {Q : Env → List LObj → Prop} (h : Q env H) : LOpsM P ops n k d [] env H Q := fun a w μ I hn hk _ hq => hq env H a w μ I h hn (Ext.refl _ _ _ _ hk)
theorem LOpsM.st {d i : Nat} {l : List Nat} {o : Oper} {x : LV} {H' : List LObj} {env' : Env} {ops : Array Oper} {Q : Env → List LObj → Prop} (ho : nth ops.toList i = some o) (hg : o.guard = none) (hd : putC n o x env = some env') (h : LOp P o env H (Is x H')) (hD : nth H' d = some .defd)
    (hr : LOpsM P ops n k d l env' H' Q) : LOpsM P ops n k d (i :: l) env H Q := by
  obtain ⟨rfl, h2⟩ := putC_eq hd
  intro a w μ I hn hk Q' hq
  simp only [wpOps, ops_get ho, Region.wanted, hg, if_true]
  refine .inl (h a w μ I hn.st (hn.env.on o) _ _ fun y H2 v w' μ' I' hR hs hv hE => ?_)
  obtain ⟨rfl, rfl⟩ := hR
  have hnow : NowM (some d) n μ' I' w' H2 (eput env o.dst y) (a.put o.dst v) := by
    obtain ⟨D, hm, hH, hdf⟩ := hn.defers
    have hml := (List.getElem?_eq_some_iff.1 hm).1
    have e := (hn.env.ext hE).put (a := a) (dst := o.dst) (fun d hd => by rw [hn.size]; exact dstOk_spec h2 d hd) hv
    refine ⟨?_, ⟨D, hE.same hml hm, by rw [← nth_eq]; exact hD, ?_⟩, hs, e⟩
    · have := hn.size
      cases o.dst <;> simp [Act.put, this]
    · cases o.dst <;> simp [Act.put, hdf]
  refine hr (a.put o.dst v) w' μ' I' hnow (Nat.le_trans hk hE.len') Q' ?_
  exact fun env' H'' a' w'' μ'' I'' q hn' hE' => hq env' H'' a' w'' μ'' I'' q hn' ((hE.weak hk).trans hE')
/-- The statement: the function that is ranged over is called upon the record of the loop. -/
theorem LWm.rangeFunc {t gf d : Nat} {ps : Array Tmp} {A B : Code} {caps : List LV} {xr : LV} {H2 H3 : List LObj} (hg : env.get t = some (.fn gf [] caps)) (hcall : callable P gf = true) (hd : lenC H = some d)
    (hc : LC P gf (.yld (d + 1) :: caps) (H ++ [.defd, .loop false n env ps A B]) (Is xr H2)) (hL : nth H2 (d + 1) = some (.loop false n env ps A B)) (hD : nth H2 d = some .defd)
    (hH3 : setC H2 (d + 1) .dead = some H3) (hq : Q (some d) .normal env H3) : LWm P n k none (.rangeFunc (.tmp t) ps A B) env H Q := by
  intro a w μ I hn hk Q' hQ
  have hd := lenC_eq hd
  have hdef : a.defers = [] := hn.defers
  have hlen := hn.st.len
  rw [nth_eq] at hL hD
  obtain ⟨v, hv, hr⟩ := hn.env t _ hg
  have hev : a.eval (.tmp t) = v := by simp [Act.eval, hv]
  cases hr with
  | @fn _ _ _ fs cs h1 h2 h3 h4 =>
    have hfs : fs = #[] := by
      apply Array.eq_empty_of_size_eq_zero
      simpa using h1
    subst hfs
    refine (wpIn_wide (n := 0)).1 (wpIn_rangeFunc fun fn hfn => ?_)
    obtain ⟨hs1, hE1⟩ := hn.st.push (.deferred (some [])) .defd 0 fun μ' w' hE hb => .defd hb
    obtain ⟨rec, hrec⟩ : ∃ rec : Loop, rec = { state := .ready, pending := none, fn, tmps := a.tmps, params := ps, assign := A, body := B, defers := w.heap.size } := ⟨_, rfl⟩
    obtain ⟨hs2, hE2⟩ := hs1.push (.loop rec) (.loop false n env ps A B) 0 fun μ' w' hE hb => by
      refine .loop hb (by rw [hrec]; rfl) (by rw [hrec]) (by rw [hrec]) (by rw [hrec]) (by rw [hrec]) (by rw [hrec]; exact hn.size) fun t x ht => ?_
      obtain ⟨v, hv, hr⟩ := hn.env t x ht
      exact ⟨v, by rw [hrec]; exact hv, (hr.ext hE1).ext hE⟩
    have hsz : (w.alloc (.deferred (some []))).heap.size = w.heap.size + 1 := by simp
    have hmid : ((μ ++ [⟨some w.heap.size, 0⟩]) ++ [⟨some (w.alloc (.deferred (some []))).heap.size, 0⟩])[d + 1]? = some ⟨some (w.heap.size + 1), 0⟩ := by
      rw [List.getElem?_append_right (by simp; omega), hsz]; simp [hlen, hd]
    have hmid0 : ((μ ++ [⟨some w.heap.size, 0⟩]) ++ [⟨some (w.alloc (.deferred (some []))).heap.size, 0⟩])[d]? = some ⟨some w.heap.size, 0⟩ := by
      rw [List.append_assoc, List.getElem?_append_right (by omega)]; simp [hlen, hd]
    have eH : (H ++ [LObj.defd]) ++ [LObj.loop false n env ps A B] = H ++ [.defd, .loop false n env ps A B] := by simp
    rw [eH] at hs2
    have hE12 : Ext μ.length μ I w _ I _ := hE1.trans (hE2.weak (by simp))
    refine ⟨w.heap.size + 1, [{ target := .collected w.heap.size, args := #[] }], (w.alloc (.deferred (some []))).alloc (.loop rec), { target := .fn (.func gf) cs, args := #[.func (.yield (w.heap.size + 1)) #[] #[]] },
      (w.alloc (.deferred (some []))).alloc (.loop rec), gf, #[.func (.yield (w.heap.size + 1)) #[] #[]] ++ cs, (w.alloc (.deferred (some []))).alloc (.loop rec), ?_, ?_, fun _ _ => trivial, ?_, (fun e => nomatch (show false = true from e)), ?_⟩
    · rw [hrec]; exact run_enterLoop_outer _ _ _ _ _
    · simp only [resolve, hev]
      simp [go_sem]
    · unfold callable at hcall
      cases hfn : P.funcs[gf]? with
      | none => rw [hfn] at hcall; simp at hcall
      | some fn' =>
        rw [hfn] at hcall
        simp only [Option.any_some, Bool.and_eq_true, bne_iff_ne, ne_eq] at hcall
        have hnb : ¬ fn'.body = none := by intro hb; rw [hb] at hcall; simp at hcall
        simp [invoke, callFunc, hfn]
        rw [if_neg hcall.1, if_neg hnb]
    · refine (callsIn_wide (n := 0 - 1)).2 ((hc _ _ _ I hs2 ?_).mono ?_)
      · have e : (#[Value.func (.yield (w.heap.size + 1)) #[] #[]] ++ cs).toList = .func (.yield (w.heap.size + 1)) #[] #[] :: cs.toList := by simp
        rw [e]
        refine ⟨.yld hmid, LRepL.mk (by simpa using h2) fun i x v hx hv => ?_⟩
        exact (h4 i x v hx (by simpa using hv)).ext hE12
      · rintro e w3 ⟨x, v3, H2', μ3, I3, rfl, ⟨e1, e2⟩, hs3, -, hE3⟩
        rw [e2] at hs3
        have hm3 := hE3.same (by simp; omega) hmid
        have hm30 := hE3.same (by simp; omega) hmid0
        have hob := hs3.objs _ _ _ hL hm3
        cases hob with
        | @loop _ _ _ _ _ _ _ r3 hb3 hst3 hpe3 hps3 hAs3 hBs3 hnn3 hen3 =>
          have hlt3 := (Array.getElem?_eq_some_iff.1 hb3).1
          have hend := run_endLoop (P := P) hb3 (by rw [hst3]; simp)
          rw [hpe3] at hend
          refine ⟨none, _, hend, ?_⟩
          obtain ⟨hs4, hE4⟩ := hs3.write (o := .dead) hm3 (w' := w3.putObj (w.heap.size + 1) (.loop { r3 with state := .exhausted, pending := none })) (fun c hc => World.putObj_heap_other hc) (by simp [World.putObj]) rfl rfl rfl (fun c e f h => by rw [hb3] at h; cases h) (fun _ => .dead)
          have e3 := (setC_eq hH3).1
          subst e3
          have hEall : Ext μ.length μ I w μ3 I3 (w3.putObj (w.heap.size + 1) (.loop { r3 with state := .exhausted, pending := none })) :=
            hE12.trans ((hE3.weak (by simp)).trans (hE4.weak (by have := hE3.len'; simp at this; omega)))
          refine hQ (some d) .normal env _ _ _ μ3 I3 hq ⟨hn.size, ⟨w.heap.size, hm30, ?_, ?_⟩, hs4, fun t x ht => ?_⟩ (hEall.weak hk)
          · rw [List.getElem?_set_ne (by omega)]; exact hD
          · show [_] ++ a.defers = _
            rw [hdef]; rfl
          · obtain ⟨v, hv, hr⟩ := hn.env t x ht
            exact ⟨v, hv, hr.ext hEall⟩
/-- The end of a function in which a range over a function was. -/
def FinM (P : Program) (fn : Func) (k : Nat) (R : LV → List LObj → Prop) : Option Nat → Exit → Env → List LObj → Prop
  | none, e, env, H => Fin P fn k R e env H
  | some d, e, env, H => (e = .normal ∨ e = .ret) ∧ ∃ H0 env' H' x, setC H d .dead = some H0 ∧ Weak k env' H' env H0 ∧ ResAll P env' H' fn.results x ∧ R x H'
theorem LC.ofM {f : FuncId} {fn : Func} {c : Code} {als : List LV} {R : LV → List LObj → Prop} {e : Env} (hf : P.funcs[f]? = some fn) (hb : fn.body = some c)
    (hn : Nat.ble als.length fn.ntmps = true) (he : penvC 0 als = some e) (h : LWm P fn.ntmps H.length none c e H (FinM P fn H.length R)) : LC P f als H R := by
  have e1 := penvC_eq he
  subst e1
  intro args w μ I hs ha
  have hnow := start_now (fn := fn) hs ha (by simpa using hn)
  refine (callsIn_wide (n := 0)).1 (callsIn_of_wp_marks (F := Fence.wide) (n := 0) hf hb trivial ((wpIn_wide (n := 0)).2 (h _ w μ I ⟨hnow.size, hnow.defers, hnow.st, hnow.env⟩ (by rw [hs.len]; exact Nat.le_refl _) _ ?_)))
  rintro m e env' H' a' w' μ' I' hfin hn' hE
  cases m with
  | none =>
    have hdef : a'.defers = [] := hn'.defers
    have hn2 : Now fn.ntmps μ' I' w' H' env' a' := ⟨hn'.size, hdef, hn'.st, hn'.env⟩
    obtain ⟨hee, ⟨x, hres, hR⟩ | ⟨env'', H'', x, hw, hres, hR⟩⟩ := hfin
    · obtain ⟨v, hrun, hv⟩ := hres.run hn2
      have hE2 := hE
      rw [← hs.len] at hE2
      rcases hee with rfl | rfl <;> (show LeavesInM _ _ _ _ _ _ a'.defers _ _; rw [hdef]; exact ⟨v, hrun, x, v, H', μ', I', rfl, hR, hn'.st, hv, hE2⟩)
    · obtain ⟨μ'', hn'', hE'⟩ := hn2.weak hw hE.len'
      obtain ⟨v, hrun, hv⟩ := hres.run hn''
      have hE2 := hE.trans hE'
      rw [← hs.len] at hE2
      rcases hee with rfl | rfl <;> (show LeavesInM _ _ _ _ _ _ a'.defers _ _; rw [hdef]; exact ⟨v, hrun, x, v, H'', μ'', I', rfl, hR, hn''.st, hv, hE2⟩)
  | some d =>
    obtain ⟨hee, H0, env'', H'', x, hH0, hw, hres, hR⟩ := hfin
    obtain ⟨D, hm, hHd, hdf⟩ := hn'.defers
    have e0 := (setC_eq hH0).1
    subst e0
    have hob := hn'.st.objs _ _ _ hHd hm
    cases hob with
    | defd hbD =>
      have hlt := (Array.getElem?_eq_some_iff.1 hbD).1
      obtain ⟨hs4, hE4⟩ := hn'.st.write (o := .dead) hm (w' := w'.putObj D (.deferred none)) (fun c hc => World.putObj_heap_other hc) (by simp [World.putObj]) rfl rfl rfl (fun c e f h => by rw [hbD] at h; cases h) (fun _ => .dead)
      have hn2 : Now fn.ntmps μ' I' (w'.putObj D (.deferred none)) (H'.set d .dead) env' { a' with defers := [] } := ⟨hn'.size, rfl, hs4, fun t x ht => let ⟨v, hv, hr⟩ := hn'.env t x ht; ⟨v, hv, hr.ext hE4⟩⟩
      have hEw := hE.trans (hE4.weak hE.len')
      obtain ⟨μ'', hn'', hE'⟩ := hn2.weak hw hE.len'
      obtain ⟨v, hrun, hv⟩ := hres.run hn''
      have hE2 := hEw.trans hE'
      rw [← hs.len] at hE2
      have fin : LeavesInM Fence.wide 0 P fn a'.tmps (fun e w'' => ∃ x v H' μ' I', e = .returned v ∧ R x H' ∧ St μ' I' w'' H' ∧ LRep μ' I' w'' x v ∧ Ext μ.length μ I w μ' I' w'') a'.defers .returning w' := by
        rw [hdf]
        exact ⟨by simp, .inl ⟨D, _, rfl, run_takeDeferred hbD, v, hrun, x, v, H'', μ'', I', rfl, hR, hn''.st, hv, hE2⟩⟩
      rcases hee with rfl | rfl <;> exact fin
end
/-- What a range over a function does in each round: the assignment, and the body. -/
def rfParts : Code → Option (Code × Code)
  | .seq a b => match rfParts a with | some x => some x | none => rfParts b
  | .block _ c => rfParts c
  | .rangeFunc _ _ a c => some (a, c)
  | _ => none
def rfA (c : Option Code) : Code := match c with | some c => (match rfParts c with | some x => x.1 | none => .skip) | none => .skip
def rfB (c : Option Code) : Code := match c with | some c => (match rfParts c with | some x => x.2 | none => .skip) | none => .skip
theorem LRep.imono {μ : List Blk} {I I' : Nat → Prop} {w : World} {x : LV} {v : Value} (h : LRep μ I w x v) (hI : ∀ b, I b → I' b) : LRep μ I' w x v := by
  have hi : ∀ b, I b → I' b ∧ w.heap[b]? = w.heap[b]? := fun b h => ⟨hI b h, rfl⟩
  induction h with
  | p h => exact .p (h.mono hi)
  | agg hl ho h ih => exact .agg hl ho fun i c v hc hv => ih i c v hc hv
  | tup hl h ih => exact .tup hl fun i c v hc hv => ih i c v hc hv
  | ptr h => exact .ptr h
  | cptr f h1 h2 => exact .cptr f (hI _ h1) fun i c hc => ⟨(h2 i c hc).1, (h2 i c hc).2.1, (h2 i c hc).2.2.mono hi⟩
  | vec h h1 hn hf => exact .vec h h1 hn hf
  | vptr h h1 hn hf => exact .vptr h h1 hn hf
  | zs => exact .zs
  | map h => exact .map h
  | nilmap => exact .nilmap
  | fn h1 h2 h3 h4 ih1 ih2 => exact .fn h1 h2 (fun i c v hc hv => ih1 i c v hc hv) (fun i c v hc hv => ih2 i c v hc hv)
  | any => exact .any
  | yld h => exact .yld h
  | fptr h1 hc ho h ih => exact .fptr (hI _ h1) hc ho ih
theorem ORep.imono {μ : List Blk} {I I' : Nat → Prop} {w : World} {o : LObj} {B : Blk} (h : ORep μ I w o B) (hI : ∀ b, I b → I' b) : ORep μ I' w o B := by
  have hi : ∀ b, I b → I' b ∧ w.heap[b]? = w.heap[b]? := fun b h => ⟨hI b h, rfl⟩
  cases h with
  | box h1 h2 h3 h4 => exact .box h1 h2 h3 fun i c v hc hv => (h4 i c v hc hv).imono hI
  | vecE => exact .vecE
  | vec h1 h2 h3 h4 h5 => exact .vec h1 h2 h3 h4 fun i c v hc hv => (h5 i c v hc hv).mono hi
  | map h1 h2 h3 h4 h5 => exact .map h1 h2 (fun i c e hc he => ⟨(h3 i c e hc he).1.mono hi, (h3 i c e hc he).2.imono hI⟩) h4 h5
  | dead => exact .dead
  | slot => exact .slot
  | loop h1 hs hp hps hA hB hn he => exact .loop h1 hs hp hps hA hB hn fun t x ht => let ⟨v, h2, h3⟩ := he t x ht; ⟨v, h2, h3.imono hI⟩
  | defd h1 => exact .defd h1
theorem ORep.lows {μ : List Blk} {I : Nat → Prop} {w : World} {o : LObj} {B : Blk} (h : ORep μ I w o B) : o.Low μ.length := by
  cases h with
  | box h1 h2 h3 h4 =>
    intro c hc
    obtain ⟨i, hi, rfl⟩ := List.mem_iff_getElem.1 hc
    exact (h4 i _ _ (List.getElem?_eq_getElem hi) (Array.getElem?_eq_getElem (by omega))).lows
  | vecE => trivial
  | vec => trivial
  | map h1 h2 h3 h4 h5 =>
    intro e he
    obtain ⟨i, hi, rfl⟩ := List.mem_iff_getElem.1 he
    exact (h3 i _ _ (List.getElem?_eq_getElem hi) (Array.getElem?_eq_getElem (by omega))).2.lows
  | dead => trivial
  | slot => trivial
  | loop h1 hs hp hps hA hB hn he => exact fun t x ht => let ⟨_, _, h3⟩ := he t x ht; h3.lows
  | defd => trivial
theorem St.low {μ : List Blk} {I : Nat → Prop} {w : World} {H : List LObj} (h : St μ I w H) : ∀ o ∈ H, o.Low H.length := by
  intro o ho
  obtain ⟨i, hi, rfl⟩ := List.mem_iff_getElem.1 ho
  rw [← h.len]
  exact (h.objs i _ _ (List.getElem?_eq_getElem hi) (List.getElem?_eq_getElem (by rw [h.len]; exact hi))).lows
section
variable {P : Program} {n k : Nat} {env : Env} {H : List LObj}
theorem LWm.weak {Q : Option Nat → Exit → Env → List LObj → Prop} {c : Code} {env' : Env} {H' : List LObj} (hw : Weak k env' H' env H) (h : LWm P n k none c env' H' Q) : LWm P n k none c env H Q := by
  intro a w μ I hn hk Q' hq
  obtain ⟨μ', hn', hE⟩ := Now.weak (n := n) ⟨hn.size, hn.defers, hn.st, hn.env⟩ hw hk
  exact h a w μ' I ⟨hn'.size, hn'.defers, hn'.st, hn'.env⟩ hE.len' Q' fun m' e env'' H'' a' w' μ'' I'' q hn'' hE' => hq m' e env'' H'' a' w' μ'' I'' q hn'' (hE.trans hE')
theorem thnM_n {R : Option Nat → Env → List LObj → Prop} {Q : Option Nat → Exit → Env → List LObj → Prop} {m : Option Nat} (h : R m env H) : thnM R Q m .normal env H := h
theorem LWm.ent {Q : Option Nat → Exit → Env → List LObj → Prop} {c : Code} {env' : Env} {H' : List LObj} (h : Ent k env H env' H') (hw : LWm P n k none c env' H' Q) : LWm P n k none c env H Q := by
  intro a w μ I hn hk Q' hq
  obtain ⟨μ', I', hn', hE⟩ := h n μ I w a ⟨hn.size, hn.defers, hn.st, hn.env⟩ hk
  exact hw a w μ' I' ⟨hn'.size, hn'.defers, hn'.st, hn'.env⟩ hE.len' Q' fun m' e env'' H'' a' w' μ'' I'' q hn'' hE' => hq m' e env'' H'' a' w' μ'' I'' q hn'' (hE.trans hE')
theorem LWm.ret {Q : Option Nat → Exit → Env → List LObj → Prop} {m : Option Nat} (h : Q m .ret env H) : LWm P n k m .ret env H Q :=
  fun a w μ I hn hk _ hq => wp_ret (hq m .ret env H a w μ I h hn (Ext.refl _ _ _ _ hk))
/-- What an unchanged cell holds. -/
theorem LOp.loadF {o : Oper} {t : TypeId} {p : Operand} {x : LV} (ho : o.op = .load t p) (hp : lev env p = some (.fptr x)) (hT : varTy P t = some (1, false)) : LOp P o env H (Is x H) :=
  LOp.val fun a w μ I hst he => by
    have hr := he.ev (x := p) (by simp [ho, Op.operands]) hp
    generalize hv : a.eval p = v at hr
    cases hr with
    | @fptr _ b off u hI hc h1 h =>
      have hload := run_loadVar (P := P) (w := w) hT b off (fun _ => u) (fun i hi => by
        obtain rfl : i = 0 := by omega
        exact hc)
      refine ⟨_, by simp only [execOp, ho, Instr.loadAt, hv, Instr.sureAddr]; simp [hload]; rfl, ?_⟩
      simpa using h
/-- A function that lays its two arguments down for good, and hands back a closure over them. -/
theorem LC.those {f g : FuncId} {fn : Func} {c : Code} {cs : List PV} {x z : LV} {e : Env} (hf : P.funcs[f]? = some fn) (hb : fn.body = some c) (hn : Nat.ble 2 fn.ntmps = true) (he : penvC 0 [z, x] = some e)
    (h : LW P fn.ntmps H.length c e H (fun ex env' H' => (ex = .normal ∨ ex = .ret) ∧ H' = H ++ [.box (cs.map .p), .box [x]] ∧ ResAll P env' H' fn.results (.fn g [] [.ptr H.length 0, .ptr (H.length + 1) 0]))) :
    LC P f [z, x] H (Is (.fn g [] [.cptr cs, .fptr x]) H) := by
  have e1 := penvC_eq he
  subst e1
  intro args w μ I hs ha
  have hnow := start_now (fn := fn) hs ha (by simpa using hn)
  refine calls_of_wp hf hb (h _ w μ I hnow (by rw [hs.len]; exact Nat.le_refl _) _ ?_)
  rintro ex env' H' a' w' μ' I' ⟨hee, rfl, hres⟩ hn' hE
  obtain ⟨v, hrun, hv⟩ := hres.run hn'
  rw [← hs.len] at hE hv
  have hlen' := hn'.st.len
  have hlen := hs.len
  simp only [List.length_append, List.length_cons, List.length_nil] at hlen'
  have hxlow : LV.Low μ.length x := by
    match args.toList, ha with
    | [_, _], ha => exact ha.2.1.lows
  -- the two blocks
  have key : ∀ (i : Nat) (o : LObj), [LObj.box (cs.map .p), .box [x]][i]? = some o → ∃ B, μ'[μ.length + i]? = some B ∧ ORep μ' I' w' o B := by
    intro i o ho
    have hi := (List.getElem?_eq_some_iff.1 ho).1
    simp at hi
    have hB : μ'[μ.length + i]? = some μ'[μ.length + i] := List.getElem?_eq_getElem (by omega)
    exact ⟨_, hB, hn'.st.objs _ _ _ (by rw [List.getElem?_append_right (by omega)]; rw [show μ.length + i - H.length = i by omega]; exact ho) hB⟩
  obtain ⟨B1, hm1, ho1⟩ := key 0 _ rfl
  obtain ⟨B2, hm2, ho2⟩ := key 1 _ rfl
  rw [Nat.add_zero] at hm1
  cases ho1 with
  | @box _ b1 vs1 t1 hb1 hl1 hq1 hr1 =>
    cases ho2 with
    | @box _ b2 vs2 t2 hb2 hl2 hq2 hr2 =>
      have hmlen : μ.length + 2 = μ'.length := by omega
      have hown1 : Own μ' b1 := .mk hm1
      have hown2 : Own μ' b2 := .mk hm2
      obtain ⟨I2, hI2⟩ : ∃ I2 : Nat → Prop, I2 = fun b => I' b ∨ b = b1 ∨ b = b2 := ⟨_, rfl⟩
      have hsub : ∀ b, I' b → I2 b := fun b h => by rw [hI2]; exact .inl h
      have hcut := hn'.st.cut (j := μ.length) (by simp; omega) (by
        rw [List.take_left' hlen.symm, hlen]; exact hs.low)
      rw [List.take_left' hlen.symm] at hcut
      have hnot : ∀ (b : Blk) (i : Nat), (μ'.take μ.length)[i]? = some b → b.b ≠ some b1 ∧ b.b ≠ some b2 := by
        rintro ⟨b, q⟩ i hi
        have hil := (List.getElem?_eq_some_iff.1 hi).1
        rw [List.length_take] at hil
        rw [List.getElem?_take_of_lt (by omega)] at hi
        refine ⟨?_, ?_⟩
        · rintro rfl; have := hn'.st.inj _ _ _ _ _ hi hm1; omega
        · rintro rfl; have := hn'.st.inj _ _ _ _ _ hi hm2; omega
      have hst : St (μ'.take μ.length) I2 w' H :=
        { len := hcut.len
          inj := hcut.inj
          lt := hcut.lt
          off := fun b hb hi => by
            rw [hI2] at hi
            rcases hi with hi | rfl | rfl
            · exact hcut.off b hb hi
            · obtain ⟨q, hq⟩ := hb
              obtain ⟨i, hi⟩ := mem_get hq
              exact (hnot _ i hi).1 rfl
            · obtain ⟨q, hq⟩ := hb
              obtain ⟨i, hi⟩ := mem_get hq
              exact (hnot _ i hi).2 rfl
          ilt := fun b hi => by
            rw [hI2] at hi
            rcases hi with hi | rfl | rfl
            · exact hcut.ilt b hi
            · exact hn'.st.lt _ hown1
            · exact hn'.st.lt _ hown2
          objs := fun i o B ho hB => (hcut.objs i o B ho hB).imono hsub }
      have hExt : Ext μ.length μ I w (μ'.take μ.length) I2 w' :=
        { get := fun i B hi hb => by
            obtain ⟨B', h1, h2⟩ := hE.get i B hi hb
            exact ⟨B', by rw [List.getElem?_take_of_lt hi]; exact h1, h2⟩
          len := Nat.le_refl _
          len' := by rw [List.length_take]; omega
          os := hE.os
          tape := hE.tape
          output := hE.output
          size := hE.size
          imm := fun b hb => ⟨hsub b (hE.imm b hb).1, (hE.imm b hb).2⟩
          shape := hE.shape
          inew := fun b hi => by
            rw [hI2] at hi
            rcases hi with hi | rfl | rfl
            · exact hE.inew b hi
            · exact .inr (hE.mnew _ hown1)
            · exact .inr (hE.mnew _ hown2)
          mnew := fun b ⟨q, hq⟩ => hE.mnew b ⟨q, List.mem_of_mem_take hq⟩
          keep := hE.keep }
      have hcell : ∀ {b : Nat} {vs : Array Value} {t : TypeId}, w'.heap[b]? = some (.cells vs t (0, 0)) → ∀ i u, vs[i]? = some u → w'.cell? ⟨b, 0 + i, none⟩ = some u := fun hb i u hu => by
        simp [World.cell?, hb, hu]
      have hv2 : LRep (μ'.take μ.length) I2 w' (.fn g [] [.cptr cs, .fptr x]) v := by
        cases hv with
        | @fn _ _ _ fs ws h1 h2 h3 h4 =>
          refine .fn h1 (by simpa using h2) (fun i c v hc => by simp at hc) fun i c v hc hw => ?_
          match i, hc with
          | 0, hc =>
            cases hc
            have := h4 0 _ v rfl hw
            cases this with
            | ptr hp =>
              rw [hm1] at hp
              cases hp
              refine .cptr (fun i => (vs1[i]?).getD undef) (by rw [hI2]; exact .inr (.inl rfl)) fun i c hc => ?_
              have hi := (List.getElem?_eq_some_iff.1 hc).1
              obtain ⟨u, hu⟩ : ∃ u, vs1[i]? = some u := ⟨_, Array.getElem?_eq_getElem (by simp at hl1; omega)⟩
              have hrr := hr1 i (.p c) _ (by rw [List.getElem?_map, hc]; rfl) hu
              have hone := hq1 _ (Array.mem_of_getElem? hu)
              rw [hu]
              refine ⟨?_, hcell hb1 i _ hu, ?_⟩
              · cases hrr with | p hr => cases hr <;> first | trivial | cases hone
              · cases hrr with | p hr => exact hr.mono fun b h => ⟨hsub b h, rfl⟩
          | 1, hc =>
            cases hc
            have := h4 1 _ v rfl hw
            cases this with
            | ptr hp =>
              rw [hm2] at hp
              cases hp
              obtain ⟨u, hu⟩ : ∃ u, vs2[0]? = some u := ⟨_, Array.getElem?_eq_getElem (by simp at hl2; omega)⟩
              refine .fptr (by rw [hI2]; exact .inr (.inr rfl)) (hcell hb2 0 _ hu) (hq2 _ (Array.mem_of_getElem? hu)) ?_
              exact ((hr2 0 x _ rfl hu).cut (j := μ.length) (by omega) hxlow).imono hsub
          | i + 2, hc => simp at hc
      rcases hee with rfl | rfl <;> exact ⟨hn'.defers, v, hrun, _, v, H, _, I2, rfl, ⟨rfl, rfl⟩, hst, hv2, hExt⟩
end
section
variable {P : Program} {o : Oper} {env : Env} {H : List LObj}
/-- 'a[:]' of an array in a box of one's own. -/
theorem LOp.sliceBox {t : TypeId} {x : Operand} {n id : Nat} {ag : Bool} {cs : List LV} (ho : o.op = .slice t x none none none) (hx : lev env x = some (.ptr id 0)) (hT : arrTy P t = some (n, 1, ag))
    (hH : nth H id = some (.box cs)) (hl : lenC cs = some n) (hn : Nat.ble n 1000 = true) : LOp P o env H (Is (.vec 1 id 0 0 n) H) :=
  LOp.val fun a w μ I hst he => by
    have hr := he.ev (x := x) (by simp [ho, Op.operands]) hx
    generalize hv : a.eval x = v at hr
    obtain ⟨e, hu, hvar⟩ := arrTy_spec hT
    have hsz := (run_isAgg_var (P := P) (w := w) hvar).2.1
    have hn' := Nat.le_of_ble_eq_true hn
    have hlen := lenC_eq hl
    cases hr with
    | @ptr _ _ b hid =>
      rw [nth_eq] at hH
      have hb := hst.objs id _ _ hH hid
      cases hb with
      | @box _ _ vs e' hb hvl ho1 hcs =>
        refine ⟨.slice (some ⟨b, 0, none⟩) n n, ?_, ?_⟩
        · simp only [execOp, ho, hv, Option.map_none, Instr.sliceAt]
          simp [run_underlying hu, Instr.sureAddr, Instr.sliceBounds, hsz, Addr.add]
        · refine .vec hid rfl (Nat.zero_le _) fun _ => .inr ⟨b, n, rfl, rfl, Nat.le_refl _, by unfold maxLen; omega, vs, e', hb, by rw [hvl, hlen]; omega⟩
theorem Conv.boxSlice {id n : Nat} {cs : List LV} {xs : List PV} (hH : nth H id = some (.box cs)) (hx : mapP xs = some cs) (hn : n = xs.length) (he : onesB xs = true) : Conv true H (.vec 1 id 0 0 n) (.slice 1 xs) := by
  intro μ I w v hs h
  obtain rfl := mapP_eq hx
  have h1s := onesB_spec he
  have hc1 : ∀ x ∈ xs, x.cells = [x] := fun x hx => by
    have := h1s x hx
    cases x with
    | agg cs => exact this.elim
    | int k n => rfl
    | bool b => rfl
    | slice m zs => rfl
  have hm : Elems 1 xs := fun x hx => by
    rw [hc1 x hx]
    exact ⟨rfl, fun c hc => by rw [List.mem_singleton] at hc; subst hc; exact h1s _ hx⟩
  cases h with
  | @vec _ _ _ _ _ B _ hid h1 hnB hf =>
    rw [nth_eq] at hH
    have hb := hs.objs id _ _ hH hid
    cases hb with
    | @box _ b vs e' hb hvl ho1 hcs =>
      rcases hf rfl with ⟨rfl, a, rfl⟩ | ⟨b', cap, hB, rfl, hlc, hmax, c', e'', hb', hsz⟩
      · have : xs = [] := List.length_eq_zero_iff.1 hn.symm
        subst this
        exact .slice (fun _ => undef) rfl (Nat.le_refl _) (Nat.zero_le _) .nil (fun i c h => by simp [flat] at h) (fun i c h => by simp [flat] at h)
      · cases hB
        subst hn
        have hfl : ∀ (i : Nat) c, (flat xs)[i]? = some c → xs[i]? = some c := by
          intro i c hi
          have hone : ∀ (l : List PV), (∀ x ∈ l, x.cells = [x]) → flat l = l := by
            intro l
            induction l with
            | nil => intro _; rfl
            | cons y r ih =>
              intro hl
              rw [flat_cons, ih fun x hx => hl x (.tail _ hx), hl y (.head _)]; rfl
          rw [hone xs hc1] at hi; exact hi
        have hcell : ∀ (i : Nat) c, xs[i]? = some c → ∃ u, vs[i]? = some u := by
          intro i c hi
          have h1 := (List.getElem?_eq_some_iff.1 hi).1
          rw [List.length_map] at hvl
          exact ⟨_, Array.getElem?_eq_getElem (by omega)⟩
        refine .slice (fun i => vs.getD i undef) rfl hlc hmax hm (fun i c hi => ?_) (fun i c hi => ?_)
        · obtain ⟨u, hu⟩ := hcell _ c (hfl i c hi)
          refine ⟨b, 1 * 0, rfl, .inr ⟨rfl, ⟨_, List.mem_of_getElem? hid⟩⟩, ?_⟩
          simp [World.cell?, hb, hu]
        · obtain ⟨u, hu⟩ := hcell _ c (hfl i c hi)
          have := hcs i (.p c) u (by simp [hfl i c hi]) hu
          simp only [Array.getD_eq_getD_getElem?, hu, Option.getD_some]
          cases this with
          | p h => exact h.mono fun c hc => ⟨.inl hc, rfl⟩
end
theorem ORep.cut {μ : List Blk} {I : Nat → Prop} {w : World} {j : Nat} {o : LObj} {B : Blk} (h : ORep μ I w o B) (hj : j ≤ μ.length) (hlo : o.Low j) : ORep (μ.take j) I w o B := by
  cases h with
  | box h1 h2 h3 h4 => exact .box h1 h2 h3 fun i c v hc hv => (h4 i c v hc hv).cut hj (hlo c (List.mem_of_getElem? hc))
  | vecE => exact .vecE
  | vec h1 h2 h3 h4 h5 => exact .vec h1 h2 h3 h4 h5
  | map h1 h2 h3 h4 h5 => exact .map h1 h2 (fun i c e hc he => ⟨(h3 i c e hc he).1, (h3 i c e hc he).2.cut hj (hlo c (List.mem_of_getElem? hc))⟩) h4 h5
  | dead => exact .dead
  | slot => exact .slot
  | loop h1 hs hp hps hA hB hn he => exact .loop h1 hs hp hps hA hB hn fun t x ht => let ⟨v, h2, h3⟩ := he t x ht; ⟨v, h2, h3.cut hj (hlo t x ht)⟩
  | defd h1 => exact .defd h1
/-- What a slice of one's own is as data, once its block is nobody's any more. -/
theorem vec_rep {H : List LObj} {μ : List Blk} {I : Nat → Prop} {w : World} (hs : St μ I w H) {m id n : Nat} {xs : List PV} {v : Value} (hH : H[id]? = some (.vec m xs)) (hn : n = xs.length) (h : LRep μ I w (.vec m id n 0 n) v) :
    Rep (fun c => I c ∨ ∃ q, μ[id]? = some ⟨some c, q⟩) w (.slice m xs) v := by
  cases h with
  | @vec _ _ _ _ _ B _ hid h1 hnB hf =>
    have ho := hs.objs id _ _ hH hid
    have hBn : n = B.n := by cases ho <;> simp_all
    rcases hf hBn with ⟨h0, a, rfl⟩ | ⟨b, cap, hB, rfl, hlc, hmax, c', e', hsz⟩
    · obtain rfl : xs = [] := List.length_eq_zero_iff.1 (by omega)
      subst h0
      exact .slice (fun _ => undef) rfl (Nat.le_refl _) (Nat.zero_le _) .nil (fun i c h => by simp [flat] at h) (fun i c h => by simp [flat] at h)
    · cases ho with
      | vecE => cases hB
      | @vec _ _ b' vs e hb hl' hne hm hr =>
        cases hB
        have hcell : ∀ (i : Nat) c, (flat xs)[i]? = some c → ∃ u, vs[i]? = some u := by
          intro i c hi
          have h1 := (List.getElem?_eq_some_iff.1 hi).1
          rw [flat_length hm] at h1
          exact ⟨_, Array.getElem?_eq_getElem (by omega)⟩
        refine .slice (fun i => vs.getD i undef) hn hlc hmax hm (fun i c hi => ?_) (fun i c hi => ?_)
        · obtain ⟨u, hu⟩ := hcell _ c hi
          refine ⟨b, m * 0, rfl, .inr ⟨_, hid⟩, ?_⟩
          simp [World.cell?, hb, hu]
        · obtain ⟨u, hu⟩ := hcell _ c hi
          have := hr _ c u hi hu
          simp only [Array.getD_eq_getD_getElem?, hu, Option.getD_some]
          exact this.mono fun c hc => ⟨.inl hc, rfl⟩
/-- The last object, a slice, becomes data. -/
theorem Ent.frz {k : Nat} {env : Env} {H H0 : List LObj} {t m id n : Nat} {xs : List PV} {env' : Env} (ht : env.get t = some (.vec m id n 0 n)) (hid : lenC H0 = some id) (hH : appC H0 (.vec m xs) = some H) (hn : n = xs.length) (hk : Nat.ble k id = true)
    (hs : SubL env' env) (hl : lowEnv id env' = true) (ho : lowObjs id H0 = true) : Ent k env H ((t, .p (.slice m xs)) :: env') H0 := by
  intro n' μ I w a h hkm
  obtain rfl := lenC_eq hid
  obtain rfl := appC_eq hH
  have hlen := h.st.len
  rw [List.length_append, List.length_singleton] at hlen
  have hkid := Nat.le_of_ble_eq_true hk
  have hj : H0.length ≤ μ.length := by omega
  have hlast : (H0 ++ [LObj.vec m xs])[H0.length]? = some (.vec m xs) := by simp
  let I' : Nat → Prop := fun c => I c ∨ ∃ q, μ[H0.length]? = some ⟨some c, q⟩
  have hE : Ext μ.length μ I w μ I' w :=
    ⟨fun i B _ hb => ⟨B, hb, Nat.le_refl _, fun _ => .inl rfl, fun _ _ => rfl⟩, Nat.le_refl _, Nat.le_refl _, rfl, rfl, rfl, Nat.le_refl _, fun _ h => ⟨.inl h, rfl⟩, fun _ c _ _ h => ⟨c, h, rfl⟩,
      fun b hb => hb.imp id fun ⟨q, hq⟩ => .inl (Own.mk hq), fun _ h => .inl h, fun _ _ _ => rfl⟩
  have hlow := lowObjs_spec ho
  have htk : (H0 ++ [LObj.vec m xs]).take H0.length = H0 := List.take_left' rfl
  have hst0 := h.st.cut (j := H0.length) (by simp) (by rw [htk]; exact hlow)
  rw [htk] at hst0
  have hst : St (μ.take H0.length) I' w H0 :=
    { len := hst0.len
      inj := hst0.inj
      lt := hst0.lt
      off := fun b hb hc => by
        rcases hc with hc | ⟨q, hq⟩
        · exact hst0.off b hb hc
        · obtain ⟨i, q', hi⟩ := Own.get hb
          have hil := (List.getElem?_eq_some_iff.1 hi).1
          rw [List.length_take] at hil
          rw [List.getElem?_take_of_lt (by omega)] at hi
          have := h.st.inj i _ b q' q hi hq
          omega
      ilt := fun b hc => by
        rcases hc with hc | ⟨q, hq⟩
        · exact hst0.ilt b hc
        · exact h.st.lt b (Own.mk hq)
      objs := fun i o B hio hiB => by
        have hi := (List.getElem?_eq_some_iff.1 hio).1
        rw [List.getElem?_take_of_lt hi] at hiB
        have := h.st.objs i o B (by rw [List.getElem?_append_left hi]; exact hio) hiB
        exact (this.ext hE fun _ _ => rfl).cut hj (hlow o (List.mem_of_getElem? hio)) }
  refine ⟨μ.take H0.length, I', ⟨h.size, h.defers, hst, fun t' x hx => ?_⟩, ?_⟩
  · rw [Env.get_cons] at hx
    split at hx
    · cases hx
      rename_i e; subst e
      obtain ⟨v, hv, hr⟩ := h.env t _ ht
      exact ⟨v, hv, .p (vec_rep h.st hlast hn hr)⟩
    · obtain ⟨v, hv, hr⟩ := h.env t' x (hs.get t' x hx)
      exact ⟨v, hv, (hr.ext hE).cut hj (lowEnv_spec hl t' x hx)⟩
  · refine ⟨fun i B hi hb => ⟨B, by rw [List.getElem?_take_of_lt (by omega)]; exact hb, Nat.le_refl _, fun _ => .inl rfl, fun _ _ => rfl⟩, hkm, by rw [List.length_take]; omega, rfl, rfl, rfl, Nat.le_refl _, hE.imm, hE.shape, hE.inew, fun _ ⟨n, h⟩ => .inl ⟨n, List.mem_of_mem_take h⟩, fun _ _ _ => rfl⟩
section
variable {P : Program} {o : Oper} {env : Env} {H : List LObj}
theorem Agree.all {H H' : List LObj} {F : List Nat} (h : Agree F H H') (hF : ∀ i, i < H.length → i ∈ F) : H' = H := by
  apply List.ext_getElem?
  intro i
  by_cases hi : i < H.length
  · exact h.at_ i (hF i hi)
  · rw [List.getElem?_eq_none (by rw [h.len]; omega), List.getElem?_eq_none (by omega)]
def upTo : Nat → List Nat
  | 0 => []
  | n + 1 => n :: upTo n
theorem upTo_mem {i : Nat} : ∀ {n : Nat}, i < n → i ∈ upTo n
  | n + 1, h => by
    unfold upTo
    by_cases e : i = n
    · subst e; exact .head _
    · exact .tail _ (upTo_mem (by omega))
/-- An operation that looks at all objects, and writes one. -/
theorem LAt.all {s : Option (Nat × LObj)} {x : LV} {H1 : List LObj} {m : Nat} {F : List Nat} (h : LOp P o env H (Is x H1)) (hm : lenC H = some m) (hF : F = upTo m) (hH : wsetC H s = some H1) : LAt P o env H F s x := by
  intro H' ha
  obtain rfl := lenC_eq hm
  obtain rfl := ha.all (by subst hF; exact fun i hi => upTo_mem hi)
  rw [wsetC_eq hH]
  exact h
end
open Go.Proofs
open Go.Proofs
open Go.Proofs
structure Dk where
  f : Nat → Bool
  k : Int
open Go.Proofs
structure F102_L1 where
  i : Int
  t6 : Int
  d : Dk
structure F58_L1 where
  i : Int
  t17 : Int
  d : Dk
structure F60_L1 where
  t19 : Int
  d : Dk
  l : List Int
open Go.Proofs
structure F57_L1 where
  i : Int
  r : Int
structure F59_L1 where
  i : Int
  r : Int
structure F61_L1 where
  i : Int
  out : List Int
end Go.Mg
