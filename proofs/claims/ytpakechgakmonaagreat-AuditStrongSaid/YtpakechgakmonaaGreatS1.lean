/- Atomic words, marks for a race finder, functions with deferred calls, pointers of the untyped kind. Functions with deferred calls: their walks, and their ends. Slices made of zeros, and elements of one's own slices written: elements of one cell. A contract upon the first objects, used where there are more. Ranges over functions: the records of such loops, calls of yield, rounds, the statement. Calls of yield, as a walk meets them. Ranges over functions: the statement, and functions that hold it. Closures over data that is not changed any more; less told ahead of a range over a function. An array of one's own, looked at as a slice. Atomic words, locks. sync.Once as the deck uses it. The rounds of the deck. shuffle.At, Back, Perm. marigoldref04. Conditions: none. -/
import Derived.Test.YtpakechgakmonaaGreatL2
import Derived.RangeFuncLeaves
import Derived.RangeFuncRecord
import Derived.OrdersIn
import Derived.Test.YtpakechgakmonaaGreatL3
import Derived.Test.YtpakechgakmonaaGreatR1
namespace Go.Mg
section
variable {P : Program} {μ : List Blk} {I : Nat → Prop} {w : World} {H : List LObj}
theorem box_of (hs : St μ I w H) {id b : Nat} {cs : List LV} (hid : μ[id]? = some ⟨some b, 0⟩) (hH : H[id]? = some (.box cs)) :
    ∃ vs e, w.heap[b]? = some (.cells vs e (0, 0)) ∧ vs.size = cs.length ∧ (∀ v ∈ vs, one1 v = true) ∧ ∀ (i : Nat) c v, cs[i]? = some c → vs[i]? = some v → LRep μ I w c v := by
  have hob := hs.objs id _ _ hH hid
  cases hob with
  | box hb hlen hone hrep => exact ⟨_, _, hb, hlen, hone, hrep⟩
theorem run_load_cell {m : Mode} {b off : Nat} {vs : Array Value} {e : TypeId} {v : Value} (hb : w.heap[b]? = some (.cells vs e (0, 0))) (hv : vs[off]? = some v) : (load ⟨b, off, none⟩ m).run P w = .ok v w := by
  simp [load, Sem.run, World.cell?, hb, hv]
theorem run_store_cell {m : Mode} {b off : Nat} {vs : Array Value} {e : TypeId} {v : Value} (hb : w.heap[b]? = some (.cells vs e (0, 0))) (ho : off < vs.size) (h1 : one1 v = true) :
    (store ⟨b, off, none⟩ v m).run P w = .ok () (w.setCell ⟨b, off, none⟩ v) := by
  have hc : w.cell? ⟨b, off, none⟩ = some vs[off] := by simp [World.cell?, hb, ho]
  have hf : w.frozen? ⟨b, off, none⟩ = false := by simp [World.frozen?, hb]
  unfold store
  cases v <;> simp [one1] at h1 <;> simp [Sem.run, hc, hf]
/-- One cell of a variable written. -/
theorem St.cell (hs : St μ I w H) {id b off : Nat} {cs : List LV} {x : LV} {v : Value} (hid : μ[id]? = some ⟨some b, 0⟩) (hH : H[id]? = some (.box cs)) (hoff : off < cs.length) (h1 : one1 v = true) (hv : LRep μ I w x v) :
    St μ I (w.setCell ⟨b, off, none⟩ v) (H.set id (.box (cs.set off x))) ∧ Ext μ.length μ I w μ I (w.setCell ⟨b, off, none⟩ v) := by
  obtain ⟨vs, e, hb, hlen, hone, hrep⟩ := box_of hs hid hH
  have hw : (w.setCell ⟨b, off, none⟩ v).heap[b]? = some (.cells (vs.setIfInBounds off v) e (0, 0)) := by
    simp [World.setCell, Array.getElem?_modify, hb]
  refine hs.write (o := .box (cs.set off x)) hid (w' := w.setCell ⟨b, off, none⟩ v) (fun c hc => ?_) (by simp [World.setCell]) rfl rfl rfl (fun c e' f hc => ?_) (fun hE => ?_)
  · simp [World.setCell, Array.getElem?_modify, Ne.symm hc]
  · rw [hb] at hc; cases hc
    exact ⟨_, hw, by simp⟩
  · refine .box hw (by simp [hlen]) (fun u hu => ?_) (fun i c u hc hu => ?_)
    · have hu' : u ∈ vs.toList.set off v := by rw [← Array.toList_setIfInBounds]; exact Array.mem_toList_iff.2 hu
      rcases List.mem_or_eq_of_mem_set hu' with h | h
      · exact hone u (by simpa using h)
      · subst h; exact h1
    · rw [List.getElem?_set] at hc
      by_cases e' : off = i
      · subst e'
        rw [if_pos rfl, if_pos hoff] at hc
        cases hc
        rw [Array.getElem?_setIfInBounds_self_of_lt (by omega)] at hu
        cases hu
        exact hv.ext hE
      · rw [if_neg e'] at hc
        rw [Array.getElem?_setIfInBounds_ne e'] at hu
        exact (hrep i c u hc hu).ext hE
end
section
variable {P : Program} {o : Oper} {env : Env} {H : List LObj}
/-- A call of what has no body of its own. -/
theorem LOp.ext {f : FuncId} {fn : Func} {e : Array Value → Sem Value} {fo : Operand} {args : Array Operand} {ats : Array TypeId} {ls : List LV} {x : LV} {H' : List LObj}
    (ho : o.op = .call { callee := .value fo, args := args, argTypes := ats }) (hf : lev env fo = some (.fn f [] [])) (hl : levs env args.toList = some ls)
    (hfn : P.funcs[f]? = some fn) (hb : fn.body.isNone = true) (hn : (fn.name == "runtime.NumGoroutine") = false) (hx : Extern.findNext fn = none) (he : Extern.find fn = some e)
    (h : ∀ μ I w vs, St μ I w H → LRepL μ I w ls vs → ∃ v w', (e vs.toArray).run P w = .ok v w' ∧ St μ I w' H' ∧ LRep μ I w' x v ∧ Ext μ.length μ I w μ I w') : LOp P o env H (Is x H') := by
  intro a w μ I hs hE K Q hK
  have hfo : LRep μ I w (.fn f [] []) (a.eval fo) := hE.ev (by rw [ho]; simp [Op.operands, Call.operands]) hf
  have hargs := levs_rep hE (xs := args.toList) (by intro x hx; rw [ho]; simp [Op.operands, Call.operands]; exact .inr (by simpa using hx)) hl
  obtain ⟨v, w', h1, h2, h3, h4⟩ := h μ I w _ hs hargs
  generalize hv : a.eval fo = u at hfo
  cases hfo with
  | @fn _ _ _ fs cs g1 g2 g3 g4 =>
    have e1 : fs = #[] := Array.eq_empty_of_size_eq_zero g1
    have e2 : cs = #[] := Array.eq_empty_of_size_eq_zero g2
    subst e1; subst e2
    have ha : (args.toList.map a.eval).toArray = args.map a.eval := by rw [← Array.toList_map, Array.toArray_toList]
    rw [ha] at h1
    have hb' : fn.body = none := Option.isNone_iff_eq_none.1 hb
    have hrun : (execOp a.eval o).run P w = .ok (.value v) w' := by
      have hn' : ¬ fn.name = "runtime.NumGoroutine" := by simpa using hn
      simp [execOp, ho, resolve, Deferred.ofValue, hv, invoke, callFunc, hfn, hn', hb', mark, Sem.run, hx, he, h1]
    unfold Oper.wp
    rw [hrun]
    exact hK x H' v w' μ I ⟨rfl, rfl⟩ h2 h3 h4
theorem lrep1 {μ : List Blk} {I : Nat → Prop} {w : World} {x : LV} {vs : List Value} (h : LRepL μ I w [x] vs) : ∃ v, vs = [v] ∧ LRep μ I w x v := by
  match vs, h with
  | [v], h => exact ⟨v, rfl, h.1⟩
theorem lrep2 {μ : List Blk} {I : Nat → Prop} {w : World} {x y : LV} {vs : List Value} (h : LRepL μ I w [x, y] vs) : ∃ v u, vs = [v, u] ∧ LRep μ I w x v ∧ LRep μ I w y u := by
  match vs, h with
  | [v, u], h => exact ⟨v, u, rfl, h.1, h.2.1⟩
theorem lrep3 {μ : List Blk} {I : Nat → Prop} {w : World} {x y z : LV} {vs : List Value} (h : LRepL μ I w [x, y, z] vs) : ∃ v u t, vs = [v, u, t] ∧ LRep μ I w x v ∧ LRep μ I w y u ∧ LRep μ I w z t := by
  match vs, h with
  | [v, u, t], h => exact ⟨v, u, t, rfl, h.1, h.2.1, h.2.2.1⟩
section
variable {fo : Operand} {args : Array Operand} {ats : Array TypeId} {f : FuncId} {fn : Func}
/-- An atomic word read. -/
theorem LOp.atomLoad {id off : Nat} {k : IntKind} {n : Int} {cs : List LV} (ho : o.op = .call { callee := .value fo, args := args, argTypes := ats }) (hf : lev env fo = some (.fn f [] []))
    (hl : levs env args.toList = some [.ptr id off]) (hfn : P.funcs[f]? = some fn) (hb : fn.body.isNone = true) (hn : (fn.name == "runtime.NumGoroutine") = false) (hx : Extern.findNext fn = none)
    (he : Extern.find fn = some (Extern.Atomic.loadT (.int k))) (hH : nth H id = some (.box cs)) (hc : nth cs off = some (.p (.int k n))) : LOp P o env H (Is (.p (.int k n)) H) :=
  LOp.ext ho hf hl hfn hb hn hx he fun μ I w vs hs hr => by
    obtain ⟨v, rfl, hv⟩ := lrep1 hr
    rw [nth_eq] at hH hc
    cases hv with
    | @ptr _ _ b hid =>
      obtain ⟨ws, e, h1, h2, h3, h4⟩ := box_of hs hid hH
      have hi := (List.getElem?_eq_some_iff.1 hc).1
      have hw : ws[off]? = some ws[off] := Array.getElem?_eq_getElem (by omega)
      have hr := h4 off _ _ hc hw
      obtain ⟨hu, hk⟩ := lrep_int hr
      refine ⟨ws[off], w, ?_, hs, hr, Ext.refl _ _ _ _ (Nat.le_refl _)⟩
      have := run_load_cell (P := P) (m := .atomic) h1 hw
      rw [hu] at this ⊢
      have e0 : ∀ u, Extern.Atomic.loadT (.int k) [u].toArray = (do Extern.Atomic.read (.int k) (← asAddr u)) := fun u => rfl
      rw [e0]
      simp [Extern.Atomic.read, asAddr, this]
/-- An atomic word written. -/
theorem LOp.atomStore {id off : Nat} {x : PV} {cs cs' : List LV} {H' : List LObj} (ho : o.op = .call { callee := .value fo, args := args, argTypes := ats }) (hf : lev env fo = some (.fn f [] []))
    (hl : levs env args.toList = some [.ptr id off, .p x]) (hfn : P.funcs[f]? = some fn) (hb : fn.body.isNone = true) (hn : (fn.name == "runtime.NumGoroutine") = false) (hx : Extern.findNext fn = none)
    (he : Extern.find fn = some Extern.Atomic.storeT) (hx1 : PV.oneB x = true) (hH : nth H id = some (.box cs)) (hc : setC cs off (.p x) = some cs') (hH' : setC H id (.box cs') = some H') : LOp P o env H (Is (.tup []) H') :=
  LOp.ext ho hf hl hfn hb hn hx he fun μ I w vs hs hr => by
    obtain ⟨v, u, rfl, hv, hu⟩ := lrep2 hr
    rw [nth_eq] at hH
    obtain ⟨e1, e2⟩ := setC_eq hc
    obtain ⟨e3, e4⟩ := setC_eq hH'
    subst e3; subst e1
    have h1 : one1 u = true := by
      cases hu with
      | p hu => cases x <;> simp [PV.oneB] at hx1 <;> exact hu.one (by trivial)
    cases hv with
    | @ptr _ _ b hid =>
      obtain ⟨ws, e, g1, g2, g3, g4⟩ := box_of hs hid hH
      obtain ⟨h5, h6⟩ := hs.cell hid hH e2 h1 hu
      refine ⟨.tuple #[], _, ?_, h5, .tup rfl (fun i c v hc => by simp at hc), h6⟩
      have := run_store_cell (P := P) (m := .atomic) g1 (off := off) (by omega) h1
      have e0 : ∀ u v, Extern.Atomic.storeT [u, v].toArray = (do _root_.Go.store (← asAddr u) v .atomic; pure Extern.Atomic.none_) := fun u v => rfl
      rw [e0]
      simp [asAddr, this, Extern.Atomic.none_]
theorem LAt.atomStore {id off : Nat} {x : PV} {cs cs' : List LV} (ho : o.op = .call { callee := .value fo, args := args, argTypes := ats }) (hf : lev env fo = some (.fn f [] []))
    (hl : levs env args.toList = some [.ptr id off, .p x]) (hfn : P.funcs[f]? = some fn) (hb : fn.body.isNone = true) (hn : (fn.name == "runtime.NumGoroutine") = false) (hx : Extern.findNext fn = none)
    (he : Extern.find fn = some Extern.Atomic.storeT) (hx1 : PV.oneB x = true) (hH : nth H id = some (.box cs)) (hc : setC cs off (.p x) = some cs') : LAt P o env H [id] (some (id, .box cs')) (.tup []) :=
  fun _ hA => LOp.atomStore ho hf hl hfn hb hn hx he hx1 (hA.get (by simp) hH) hc (hA.set (by simp) hH)
/-- Compare and swap, of a word that holds what is thought. -/
theorem LOp.atomCas {id off : Nat} {k : IntKind} {n m : Int} {cs cs' : List LV} {H' : List LObj} (ho : o.op = .call { callee := .value fo, args := args, argTypes := ats }) (hf : lev env fo = some (.fn f [] []))
    (hl : levs env args.toList = some [.ptr id off, .p (.int k n), .p (.int k m)]) (hfn : P.funcs[f]? = some fn) (hb : fn.body.isNone = true) (hn : (fn.name == "runtime.NumGoroutine") = false) (hx : Extern.findNext fn = none)
    (he : Extern.find fn = some (Extern.Atomic.casT (.int k))) (hH : nth H id = some (.box cs)) (hold : nth cs off = some (.p (.int k n))) (hc : setC cs off (.p (.int k m)) = some cs') (hH' : setC H id (.box cs') = some H') :
    LOp P o env H (Is (.p (.bool true)) H') :=
  LOp.ext ho hf hl hfn hb hn hx he fun μ I w vs hs hr => by
    obtain ⟨v, u, t, rfl, hv, hu, ht⟩ := lrep3 hr
    rw [nth_eq] at hH hold
    obtain ⟨e1, e2⟩ := setC_eq hc
    obtain ⟨e3, e4⟩ := setC_eq hH'
    subst e3; subst e1
    obtain ⟨rfl, -⟩ := lrep_int hu
    obtain ⟨rfl, -⟩ := lrep_int ht
    cases hv with
    | @ptr _ _ b hid =>
      obtain ⟨ws, e, g1, g2, g3, g4⟩ := box_of hs hid hH
      have hw : ws[off]? = some ws[off] := Array.getElem?_eq_getElem (by omega)
      obtain ⟨hu', -⟩ := lrep_int (g4 off _ _ hold hw)
      obtain ⟨h5, h6⟩ := hs.cell hid hH e2 rfl ht
      refine ⟨.bool true, _, ?_, h5, .p .bool, h6⟩
      have hload := run_load_cell (P := P) (m := .atomic) g1 hw
      rw [hu'] at hload
      have hstore := run_store_cell (P := P) (m := .atomic) g1 (off := off) (v := .int k m) (by omega) rfl
      obtain ⟨s, hsh⟩ : ∃ s, w.shape? b = some s := by simp [World.shape?, g1]
      have hfr : w.frozen? ⟨b, off, none⟩ = false := by simp [World.frozen?, g1]
      have e0 : ∀ u v z, Extern.Atomic.casT (.int k) [u, v, z].toArray = (do
          let a ← asAddr u
          if ← Extern.Atomic.touchesFrozen a then unsupported (.unsafePointer "a write to bytes that a string shares")
          let eq ← match Extern.Atomic.T.int k, ← Extern.Atomic.read (.int k) a, v with
            | _, .int _ x, .int _ y => pure (x == y)
            | .ptr, .pointer x, .pointer y => samePointer x y
            | .int _, .pointer (some _), .int _ 0 | .int _, .int _ 0, .pointer (some _) => pure false
            | .int _, .pointer (some _), _ | .int _, _, .pointer (some _) => unsupported .addressObserved
            | _, _, _ => stuck "atomic.CompareAndSwap: old is no T"
          if eq then _root_.Go.store a z .atomic
          pure (.bool eq)) := fun u v z => rfl
      rw [e0]
      have r2 : (Extern.Atomic.touchesFrozen ⟨b, off, none⟩).run P w = .ok false w := by simp [Extern.Atomic.touchesFrozen, viewAt, shape, frozen, Sem.run, hsh, hfr]
      have r3 : (Extern.Atomic.read (.int k) ⟨b, off, none⟩).run P w = .ok (.int k n) w := by simp [Extern.Atomic.read, hload]
      simp only [asAddr, Sem.run_bind, Sem.run_pure, Result.andThen_ok, r2, Bool.false_eq_true, if_false, r3]
      simp [hstore]
/-- An atomic word with more on it. -/
theorem LOp.atomAdd {id off : Nat} {k : IntKind} {n m : Int} {cs cs' : List LV} {H' : List LObj} (ho : o.op = .call { callee := .value fo, args := args, argTypes := ats }) (hf : lev env fo = some (.fn f [] []))
    (hl : levs env args.toList = some [.ptr id off, .p (.int k m)]) (hfn : P.funcs[f]? = some fn) (hb : fn.body.isNone = true) (hn : (fn.name == "runtime.NumGoroutine") = false) (hx : Extern.findNext fn = none)
    (he : Extern.find fn = some (Extern.Atomic.update (Op.intArith .add) k true)) (hH : nth H id = some (.box cs)) (hold : nth cs off = some (.p (.int k n))) (hc : setC cs off (.p (.int k (k.wrap (n + m)))) = some cs') (hH' : setC H id (.box cs') = some H') :
    LOp P o env H (Is (.p (.int k (k.wrap (n + m)))) H') :=
  LOp.ext ho hf hl hfn hb hn hx he fun μ I w vs hs hr => by
    obtain ⟨v, u, rfl, hv, hu⟩ := lrep2 hr
    rw [nth_eq] at hH hold
    obtain ⟨e1, e2⟩ := setC_eq hc
    obtain ⟨e3, e4⟩ := setC_eq hH'
    subst e3; subst e1
    obtain ⟨rfl, -⟩ := lrep_int hu
    cases hv with
    | @ptr _ _ b hid =>
      obtain ⟨ws, e, g1, g2, g3, g4⟩ := box_of hs hid hH
      have hw : ws[off]? = some ws[off] := Array.getElem?_eq_getElem (by omega)
      obtain ⟨hu', -⟩ := lrep_int (g4 off _ _ hold hw)
      have hnew : LRep μ I w (.p (.int k (k.wrap (n + m)))) (.int k (k.wrap (n + m))) := .p (.int (inKind_wrap k _))
      obtain ⟨h5, h6⟩ := hs.cell hid hH e2 rfl hnew
      refine ⟨.int k (k.wrap (n + m)), _, ?_, h5, hnew.ext h6, h6⟩
      have hload := run_load_cell (P := P) (m := .atomic) g1 hw
      rw [hu'] at hload
      have hstore := run_store_cell (P := P) (m := .atomic) g1 (off := off) (v := .int k (k.wrap (n + m))) (by omega) rfl
      have e0 : ∀ u v, Extern.Atomic.update (Op.intArith .add) k true [u, v].toArray = (do
          let a ← asAddr u
          let old ← Extern.Atomic.read (.int k) a
          let new ← Op.intArith .add k (← asInt old) (← asInt v)
          _root_.Go.store a new .atomic
          pure (if true then new else old)) := fun u v => rfl
      rw [e0]
      simp [asAddr, asInt, asIntOf, Extern.Atomic.read, hload, Op.intArith, hstore]
/-- Marks for a race finder. -/
theorem LOp.markP {id off : Nat} {m : Addr → Mark} (ho : o.op = .call { callee := .value fo, args := args, argTypes := ats }) (hf : lev env fo = some (.fn f [] []))
    (hl : levs env args.toList = some [.ptr id off]) (hfn : P.funcs[f]? = some fn) (hb : fn.body.isNone = true) (hn : (fn.name == "runtime.NumGoroutine") = false) (hx : Extern.findNext fn = none)
    (he : Extern.find fn = some (Extern.Race.marked m)) : LOp P o env H (Is (.tup []) H) :=
  LOp.ext ho hf hl hfn hb hn hx he fun μ I w vs hs hr => by
    obtain ⟨v, rfl, hv⟩ := lrep1 hr
    cases hv with
    | @ptr _ _ b hid =>
      refine ⟨.tuple #[], w, ?_, hs, .tup rfl (fun i c v hc => by simp at hc), Ext.refl _ _ _ _ (Nat.le_refl _)⟩
      simp [Extern.Race.marked, Extern.Race.at_, mark, Extern.Race.none_, Sem.run, Result.andThen]
theorem LOp.mark0 {m : Mark} (ho : o.op = .call { callee := .value fo, args := args, argTypes := ats }) (hf : lev env fo = some (.fn f [] []))
    (hl : levs env args.toList = some []) (hfn : P.funcs[f]? = some fn) (hb : fn.body.isNone = true) (hn : (fn.name == "runtime.NumGoroutine") = false) (hx : Extern.findNext fn = none)
    (he : Extern.find fn = some (fun _ => do mark m; pure Extern.Race.none_)) : LOp P o env H (Is (.tup []) H) :=
  LOp.ext ho hf hl hfn hb hn hx he fun μ I w vs hs hr => by
    refine ⟨.tuple #[], w, ?_, hs, .tup rfl (fun i c v hc => by simp at hc), Ext.refl _ _ _ _ (Nat.le_refl _)⟩
    simp [mark, Extern.Race.none_, Sem.run, Result.andThen]
end
end
/-- What is deferred, told by functions and logical arguments. -/
def DRep (μ : List Blk) (I : Nat → Prop) (w : World) : List (FuncId × List LV) → List Deferred → Prop
  | [], [] => True
  | (f, ls) :: r, d :: ds => (d.target = .fn (.func f) #[] ∧ LRepL μ I w ls d.args.toList) ∧ DRep μ I w r ds
  | _, _ => False
theorem LRepL.ext {μ μ' : List Blk} {I I' : Nat → Prop} {w w' : World} (hE : Ext μ.length μ I w μ' I' w') : ∀ {ls : List LV} {vs : List Value}, LRepL μ I w ls vs → LRepL μ' I' w' ls vs
  | [], [], _ => trivial
  | _ :: _, _ :: _, h => ⟨h.1.ext hE, LRepL.ext hE h.2⟩
  | [], _ :: _, h => h.elim
  | _ :: _, [], h => h.elim
theorem DRep.ext {μ μ' : List Blk} {I I' : Nat → Prop} {w w' : World} (hE : Ext μ.length μ I w μ' I' w') : ∀ {dl : List (FuncId × List LV)} {ds : List Deferred}, DRep μ I w dl ds → DRep μ' I' w' dl ds
  | [], [], _ => trivial
  | _ :: _, _ :: _, h => ⟨⟨h.1.1, h.1.2.ext hE⟩, DRep.ext hE h.2⟩
  | [], _ :: _, h => h.elim
  | _ :: _, [], h => h.elim
/-- A moment of a walk, with what is deferred. -/
structure NowD (dl : List (FuncId × List LV)) (n : Nat) (μ : List Blk) (I : Nat → Prop) (w : World) (H : List LObj) (env : Env) (a : Act) : Prop where
  size : a.tmps.size = n
  defers : DRep μ I w dl a.defers
  st : St μ I w H
  env : ERep μ I w env a.tmps
def LOpsD (P : Program) (ops : Array Oper) (n : Nat) (l : List Nat) (dl : List (FuncId × List LV)) (env : Env) (H : List LObj) (Q : List (FuncId × List LV) → Env → List LObj → Prop) : Prop :=
  ∀ a w μ I, NowD dl n μ I w H env a → ∀ Q' : Exit → Act → World → Prop,
    (∀ dl' env' H' a' w' μ' I', Q dl' env' H' → NowD dl' n μ' I' w' H' env' a' → Ext μ.length μ I w μ' I' w' → Q' .normal a' w') → wpOps P ops Q' l a w
def LWD (P : Program) (n : Nat) (c : Code) (dl : List (FuncId × List LV)) (env : Env) (H : List LObj) (Q : Exit → List (FuncId × List LV) → Env → List LObj → Prop) : Prop :=
  ∀ a w μ I, NowD dl n μ I w H env a → ∀ Q' : Exit → Act → World → Prop,
    (∀ e dl' env' H' a' w' μ' I', Q e dl' env' H' → NowD dl' n μ' I' w' H' env' a' → Ext μ.length μ I w μ' I' w' → Q' e a' w') → c.wp P Q' a w
theorem Ext.app {μ μ' μ'' : List Blk} {I I' I'' : Nat → Prop} {w w' w'' : World} (h : Ext μ.length μ I w μ' I' w') (h' : Ext μ'.length μ' I' w' μ'' I'' w'') : Ext μ.length μ I w μ'' I'' w'' :=
  h.trans (h'.weak h.len')
section
variable {P : Program} {n : Nat} {dl : List (FuncId × List LV)} {env : Env} {H : List LObj} {ops : Array Oper}
theorem LOpsD.nil {Q : List (FuncId × List LV) → Env → List LObj → Prop} (h : Q dl env H) : LOpsD P ops n [] dl env H Q :=
  fun a w μ I hn _ hq => hq dl env H a w μ I h hn (Ext.refl _ _ _ _ (Nat.le_refl _))
theorem NowD.put {μ : List Blk} {I : Nat → Prop} {w : World} {a : Act} {μ' : List Blk} {I' : Nat → Prop} {w' : World} {H' : List LObj} {x : LV} {v : Value} {dst : Option Tmp}
    (h : NowD dl n μ I w H env a) (hd : ∀ d, dst = some d → d < n) (hs : St μ' I' w' H') (hv : LRep μ' I' w' x v) (hE : Ext μ.length μ I w μ' I' w') :
    NowD dl n μ' I' w' H' (eput env dst x) (a.put dst v) where
  size := by cases dst <;> simp [Act.put, h.size]
  defers := by cases dst <;> exact h.defers.ext hE
  st := hs
  env := (h.env.ext hE).put (fun d hd' => by rw [h.size]; exact hd d hd') hv
theorem LOpsD.st {i : Nat} {l : List Nat} {o : Oper} {x : LV} {H' : List LObj} {env' : Env} {Q : List (FuncId × List LV) → Env → List LObj → Prop} (ho : nth ops.toList i = some o) (hg : o.guard = none) (hd : putC n o x env = some env')
    (h : LOp P o env H (Is x H')) (hr : LOpsD P ops n l dl env' H' Q) : LOpsD P ops n (i :: l) dl env H Q := by
  obtain ⟨e1, e2⟩ := putC_eq hd
  subst e1
  intro a w μ I hn Q' hq
  simp only [wpOps, ops_get ho, Region.wanted, hg, if_true]
  refine .inl (h a w μ I hn.st (hn.env.on o) _ _ ?_)
  rintro y H'' v w' μ' I' ⟨rfl, rfl⟩ hs hv hE
  refine hr (a.put o.dst v) w' μ' I' (hn.put (dstOk_spec e2) hs hv hE) Q' ?_
  exact fun dl' env' H'' a' w'' μ'' I'' q hn' hE' => hq dl' env' H'' a' w'' μ'' I'' q hn' (hE.app hE')
/-- A call deferred. -/
theorem LOpsD.defer {i : Nat} {l : List Nat} {o : Oper} {f : FuncId} {args : Array Operand} {ats : Array TypeId} {ls : List LV} {Q : List (FuncId × List LV) → Env → List LObj → Prop} (ho : nth ops.toList i = some o) (hg : o.guard = none) (hd : o.dst = none)
    (hop : o.op = .defer { callee := .value (.func f), args := args, argTypes := ats }) (hl : levs env args.toList = some ls) (hr : LOpsD P ops n l ((f, ls) :: dl) env H Q) : LOpsD P ops n (i :: l) dl env H Q := by
  intro a w μ I hn Q' hq
  simp only [wpOps, ops_get ho, Region.wanted, hg, if_true]
  have hrep := levs_rep (hn.env.on o) (xs := args.toList) (by intro x hx; rw [hop]; simp [Op.operands, Call.operands]; exact .inr (by simpa using hx)) hl
  have hrun : (execOp a.eval o).run P w = .ok (.defer { target := .fn (.func f) #[], args := args.map a.eval }) w := by
    simp [execOp, hop, resolve, Act.eval, Deferred.ofValue]
  refine .inl ?_
  unfold Oper.wp
  rw [hrun]
  show wpOps P ops Q' l (Act.put { a with defers := _ :: a.defers } o.dst undef) w
  rw [hd]
  have hd2 : DRep μ I w ((f, ls) :: dl) ({ target := .fn (.func f) #[], args := args.map a.eval } :: a.defers) := by
    unfold DRep
    exact ⟨⟨rfl, by rw [Array.toList_map]; exact hrep⟩, hn.defers⟩
  exact hr { a with defers := { target := .fn (.func f) #[], args := args.map a.eval } :: a.defers } w μ I ⟨hn.size, hd2, hn.st, hn.env⟩ Q' hq
theorem LWD.region {id : Nat} {Q : Exit → List (FuncId × List LV) → Env → List LObj → Prop} (h : LOpsD P ops n (List.range ops.size) dl env H (fun dl env H => Q .normal dl env H)) : LWD P n (.region id ops false) dl env H Q :=
  fun a w μ I hn Q' hq => wp_region (h a w μ I hn Q' fun dl' env' H' a' w' μ' I' q => hq .normal dl' env' H' a' w' μ' I' q)
def thnD (R : List (FuncId × List LV) → Env → List LObj → Prop) (Q : Exit → List (FuncId × List LV) → Env → List LObj → Prop) : Exit → List (FuncId × List LV) → Env → List LObj → Prop
  | .normal, dl, env, H => R dl env H
  | e, dl, env, H => Q e dl env H
theorem LWD.seq {x y : Code} {Q : Exit → List (FuncId × List LV) → Env → List LObj → Prop} (h : LWD P n x dl env H (thnD (fun dl env H => LWD P n y dl env H Q) Q)) : LWD P n (.seq x y) dl env H Q := by
  intro a w μ I hn Q' hq
  refine wp_seq (h a w μ I hn _ fun e dl' env' H' a' w' μ' I' q hn' hE => ?_)
  cases e with
  | normal => exact q a' w' μ' I' hn' Q' fun e dl'' env'' H'' a'' w'' μ'' I'' q' hn'' hE' => hq e dl'' env'' H'' a'' w'' μ'' I'' q' hn'' (hE.app hE')
  | _ => exact hq _ _ _ _ _ _ _ _ q hn' hE
theorem LWD.skip {Q : Exit → List (FuncId × List LV) → Env → List LObj → Prop} (h : Q .normal dl env H) : LWD P n .skip dl env H Q :=
  fun _ _ _ _ hn _ hq => wp_skip (hq _ _ _ _ _ _ _ _ h hn (Ext.refl _ _ _ _ (Nat.le_refl _)))
theorem LWD.condT {c : Operand} {x y : Code} {Q : Exit → List (FuncId × List LV) → Env → List LObj → Prop} (hc : lev env c = some (.p (.bool true))) (h : LWD P n x dl env H Q) : LWD P n (.cond c x y) dl env H Q :=
  fun a w μ I hn Q' hq => wp_cond (eval_bool hn.env hc) (h a w μ I hn Q' hq)
theorem LWD.condF {c : Operand} {x y : Code} {Q : Exit → List (FuncId × List LV) → Env → List LObj → Prop} (hc : lev env c = some (.p (.bool false))) (h : LWD P n y dl env H Q) : LWD P n (.cond c x y) dl env H Q :=
  fun a w μ I hn Q' hq => wp_cond (eval_bool hn.env hc) (h a w μ I hn Q' hq)
/-- A function that is called when another one leaves. -/
def LCd (P : Program) (f : FuncId) (ls : List LV) (H H' : List LObj) : Prop :=
  callable P f = true ∧ ∀ (args : Array Value) (w : World) (μ : List Blk) (I : Nat → Prop), St μ I w H → LRepL μ I w ls args.toList → ∀ u,
    CallsD P f args u w fun e u' w' => u' = u ∧ ∃ v μ' I', e = .returned v ∧ St μ' I' w' H' ∧ Ext μ.length μ I w μ' I' w'
theorem LCd.start {f : FuncId} {fn : Func} {c : Code} {als : List LV} {e : Env} {R : LV → List LObj → Prop} {H' : List LObj} (hcall : callable P f = true) (hf : P.funcs[f]? = some fn) (hb : fn.body = some c)
    (hn : Nat.ble als.length fn.ntmps = true) (he : penvC 0 als = some e) (hR : ∀ x H2, R x H2 → H2 = H') (h : LW P fn.ntmps H.length c e H (Fin P fn H.length R)) : LCd P f als H H' := by
  refine ⟨hcall, fun args w μ I hs ha u => ?_⟩
  have e1 := penvC_eq he
  subst e1
  have hnow := start_now (fn := fn) hs ha (by simpa using hn)
  refine callsD_of_wp (u := u) hf hb (R := fun e w' => ∃ v μ' I', e = .returned v ∧ St μ' I' w' H' ∧ Ext μ.length μ I w μ' I' w') (h _ w μ I hnow (by rw [hs.len]; exact Nat.le_refl _) _ ?_)
  rintro e env' H2 a' w' μ' I' ⟨he, ⟨x, hres, hR'⟩ | ⟨env'', H'', x, hw, hres, hR'⟩⟩ hn' hE
  · obtain ⟨v, hrun, hv⟩ := hres.run hn'
    have := hR _ _ hR'
    subst this
    have hE2 := hE
    rw [← hs.len] at hE2
    rcases he with rfl | rfl <;> exact ⟨hn'.defers, v, hrun, v, μ', I', rfl, hn'.st, hE2⟩
  obtain ⟨μ'', hn'', hE'⟩ := hn'.weak hw hE.len'
  obtain ⟨v, hrun, hv⟩ := hres.run hn''
  have := hR _ _ hR'
  subst this
  have hE2 := hE.trans hE'
  rw [← hs.len] at hE2
  rcases he with rfl | rfl <;> exact ⟨hn'.defers, v, hrun, v, μ'', I', rfl, hn''.st, hE2⟩
/-- What is deferred, run at the end. -/
inductive Ends (P : Program) : List (FuncId × List LV) → List LObj → List LObj → Prop
  | nil {H : List LObj} : Ends P [] H H
  | cons {f : FuncId} {ls : List LV} {r : List (FuncId × List LV)} {H H1 H2 : List LObj} (h : LCd P f ls H H1) (hr : Ends P r H1 H2) : Ends P ((f, ls) :: r) H H2
theorem invoke_run {f : FuncId} {args : Array Value} {w : World} (hc : callable P f = true) : (invoke (.fn (.func f) #[]) args).run P w = .ok (.enter f args) w := by
  unfold callable at hc
  cases hfn : P.funcs[f]? with
  | none => rw [hfn] at hc; simp at hc
  | some fn =>
    rw [hfn] at hc
    simp only [Option.any_some, Bool.and_eq_true, bne_iff_ne, ne_eq] at hc
    have hn : ¬ fn.body = none := by intro hb; rw [hb] at hc; simp at hc
    simp [invoke, callFunc, hfn]
    rw [if_neg hc.1, if_neg hn]
theorem Ends.leaves {fn : Func} {tmps : Array Value} {R : Ending → World → Prop} {H2 : List LObj} (hres : fn.results = #[]) : ∀ {dl : List (FuncId × List LV)} {ds : List Deferred} {H : List LObj}, Ends P dl H H2 →
    ∀ {μ : List Blk} {I : Nat → Prop} {w : World}, DRep μ I w dl ds → St μ I w H → (∀ μ' I' w', St μ' I' w' H2 → Ext μ.length μ I w μ' I' w' → R (.returned (.tuple #[])) w') → Leaves P fn tmps R ds .returning w
  | [], [], H, h, μ, I, w, hd, hs, hR => by
    cases h
    exact ⟨.tuple #[], results_none hres, hR μ I w hs (Ext.refl _ _ _ _ (Nat.le_refl _))⟩
  | (f, ls) :: r, d :: ds, H, h, μ, I, w, hd, hs, hR => by
    cases h with
    | cons h hr =>
      obtain ⟨⟨h1, h2⟩, h3⟩ := hd
      obtain ⟨t, args⟩ := d
      simp only at h1 h2
      subst h1
      refine leaves_cons (by simp) (invoke_run h.1) ((h.2 args w μ I hs h2 .returning).mono ?_)
      rintro e u' w' ⟨rfl, v, μ', I', rfl, hs', hE⟩
      exact Ends.leaves hres hr (h3.ext hE) hs' fun μ'' I'' w'' hs'' hE' => hR μ'' I'' w'' hs'' (hE.app hE')
  | [], _ :: _, _, _, _, _, _, hd, _, _ => hd.elim
  | _ :: _, [], _, _, _, _, _, hd, _, _ => hd.elim
/-- A function that defers, and hands back nothing. -/
theorem LC.ofD {f : FuncId} {fn : Func} {c : Code} {als : List LV} {e : Env} {H2 : List LObj} (hf : P.funcs[f]? = some fn) (hb : fn.body = some c) (hres : fn.results = #[])
    (hn : Nat.ble als.length fn.ntmps = true) (he : penvC 0 als = some e) (h : LWD P fn.ntmps c [] e H (fun x dl _ H' => (x = .normal ∨ x = .ret) ∧ Ends P dl H' H2)) : LC P f als H (Is (.tup []) H2) := by
  intro args w μ I hs ha
  have e1 := penvC_eq he
  subst e1
  have hnow := start_now (fn := fn) hs ha (by simpa using hn)
  refine calls_of_wp_defers hf hb (h _ w μ I ⟨hnow.size, by rw [hnow.defers]; trivial, hnow.st, hnow.env⟩ _ ?_)
  rintro x dl' env' H' a' w' μ' I' ⟨hx, hends⟩ hn' hE
  have key : Leaves P fn a'.tmps (fun e w' => ∃ x v H' μ' I', e = .returned v ∧ Is (.tup []) H2 x H' ∧ St μ' I' w' H' ∧ LRep μ' I' w' x v ∧ Ext μ.length μ I w μ' I' w') a'.defers .returning w' :=
    hends.leaves hres hn'.defers hn'.st fun μ'' I'' w'' hs'' hE' => ⟨_, _, _, μ'', I'', rfl, ⟨rfl, rfl⟩, hs'', .tup rfl (fun i c v hc => by simp at hc), hE.app hE'⟩
  rcases hx with rfl | rfl <;> exact key
end
def ptrConv (P : Program) (s d : TypeId) : Bool := match P.underlying s, P.underlying d with
  | some (.pointer t), some .unsafePointer => (P.info? t).any fun i => i.size != 0
  | _, _ => false
theorem LOp.convPtr {P : Program} {o : Oper} {env : Env} {H : List LObj} {s d : TypeId} {x : Operand} {id off : Nat} {cs : List LV} (ho : o.op = .convert s d x) (hx : lev env x = some (.ptr id off)) (hH : nth H id = some (.box cs)) (hoff : Nat.blt off cs.length = true) (hT : ptrConv P s d = true) :
    LOp P o env H (Is (.ptr id off) H) :=
  LOp.val fun a w μ I hst he => by
    have hr := he.ev (x := x) (by simp [ho, Op.operands]) hx
    rw [nth_eq] at hH
    unfold ptrConv at hT
    split at hT
    · rename_i t h1 h2
      generalize hv : a.eval x = v at hr
      cases hr with
      | @ptr _ _ b hid =>
        obtain ⟨vs, e, hb, hlen, hone, hrep⟩ := box_of hst hid hH
        refine ⟨.pointer (some ⟨b, off, none⟩), ?_, .ptr hid⟩
        have hsh : w.shape? b = some (e, vs.size) := by simp [World.shape?, hb]
        have h3 : off < vs.size := by rw [hlen]; simpa using hoff
        have hs1 : (Conv.seenAt ⟨b, off, none⟩).run P w = .ok ⟨b, off, none⟩ w := by simp [Conv.seenAt, viewAt, shape, Sem.run, hsh]
        have hs2 : (cellsIn b).run P w = .ok (some vs.size) w := by simp [cellsIn, shape, Sem.run, hsh]
        have hs3 : ∃ n, n ≠ 0 ∧ (sizeOf t).run P w = .ok n w := by
          cases hi : P.info? t with
          | none => rw [hi] at hT; cases hT
          | some i => rw [hi] at hT; exact ⟨i.size, by simpa using hT, by simp [sizeOf, typeInfo, hi]⟩
        obtain ⟨n, hn0, hs3⟩ := hs3
        have hu : (Conv.unsafePointer s d (.pointer (some ⟨b, off, none⟩))).run P w = .ok (.pointer (some ⟨b, off, none⟩)) w := by
          unfold Conv.unsafePointer
          simp only [Sem.run_bind, run_underlying h1, run_underlying h2, Result.andThen_ok, hs1, hs2, hs3]
          simp [hn0, show ¬ vs.size ≤ off by omega]
        simp only [execOp, ho, hv, Go.convert, Sem.run_bind, run_underlying h1, run_underlying h2, Result.andThen_ok, hu]
        simp
    · cases hT
theorem subC_one {α : Type} : ∀ {l : List α} {o : Nat} {x : α}, nth l o = some x → subC l o 1 = some [x]
  | x :: r, 0, _, h => by cases h; cases r <;> rfl
  | _ :: r, o + 1, y, h => by
    have := subC_one (l := r) (o := o) (x := y) h
    exact this
  | [], 0, _, h => by cases h
  | [], _ + 1, _, h => by cases h
theorem splC_one {α : Type} : ∀ {l : List α} {o : Nat} {y : α} {s : List α}, setC l o y = some s → splC l o [y] = some s
  | x :: r, 0, y, s, h => by
    cases h
    cases r <;> rfl
  | x :: r, o + 1, y, s, h => by
    simp only [setC] at h
    split at h
    · rename_i q hq
      cases h
      simp only [splC, splC_one hq]
    · cases h
  | [], 0, y, s, h => by cases h
  | [], _ + 1, y, s, h => by cases h
section
variable {P : Program} {o : Oper} {env : Env} {H : List LObj}
theorem LOp.load1 {t : TypeId} {x : Operand} {id off : Nat} {cs : List LV} {l : LV} (ho : o.op = .load t x) (hx : lev env x = some (.ptr id off)) (hH : nth H id = some (.box cs))
    (hT : varTy P t = some (1, false)) (hc : nth cs off = some l) : LOp P o env H (Is l H) :=
  LOp.load ho hx hH hT (subC_one hc) rfl
theorem LOp.store1 {t : TypeId} {x y : Operand} {id off : Nat} {cs s : List LV} {l : LV} {H' : List LObj} (ho : o.op = .store t x y) (hx : lev env x = some (.ptr id off)) (hy : lev env y = some l)
    (hH : nth H id = some (.box cs)) (hT : varTy P t = some (1, false)) (hys : cells1 l = some [l]) (hc : setC cs off l = some s) (hH' : setC H id (.box s) = some H') :
    LOp P o env H (Is .any H') :=
  LOp.store ho hx hy hH hT hys rfl (splC_one hc) hH'
theorem LAt.load1 {t : TypeId} {x : Operand} {id off : Nat} {cs : List LV} {l : LV} (ho : o.op = .load t x) (hx : lev env x = some (.ptr id off)) (hH : nth H id = some (.box cs))
    (hT : varTy P t = some (1, false)) (hc : nth cs off = some l) : LAt P o env H [id] none l :=
  LAt.read fun _ hA => LOp.load1 ho hx (hA.get (by simp) hH) hT hc
theorem LAt.store1 {t : TypeId} {x y : Operand} {id off : Nat} {cs s : List LV} {l : LV} (ho : o.op = .store t x y) (hx : lev env x = some (.ptr id off)) (hy : lev env y = some l)
    (hH : nth H id = some (.box cs)) (hT : varTy P t = some (1, false)) (hys : cells1 l = some [l]) (hc : setC cs off l = some s) : LAt P o env H [id] (some (id, .box s)) .any :=
  fun _ hA => LOp.store1 ho hx hy (hA.get (by simp) hH) hT hys hc (hA.set (by simp) hH)
end
theorem flat_ones1 {xs : List PV} (h : ∀ x ∈ xs, PV.oneB x = true) : flat xs = xs ∧ Elems 1 xs := by
  have one : ∀ x : PV, PV.oneB x = true → x.cells = [x] ∧ x.one := by
    intro x hx; cases x <;> first | exact ⟨rfl, trivial⟩ | cases hx
  refine ⟨?_, fun x hx => ?_⟩
  · induction xs with
    | nil => rfl
    | cons x r ih => rw [flat_cons, (one x (h x (.head _))).1, ih fun y hy => h y (.tail _ hy)]; rfl
  · have := one x (h x hx)
    rw [this.1]
    exact ⟨rfl, fun c hc => by simp at hc; subst hc; exact this.2⟩
/-- The zero of a slice's element, of one cell. -/
def zero1 (P : Program) (t : TypeId) : Option PV := match P.underlying t with
  | some (.slice e) => match P.info? e with
    | some i => match i.zero with
      | some z => match cellsOfConst z.cells.toList with
        | some [.p x] => match PV.oneB x with | true => some x | false => none
        | _ => none
      | none => none
    | none => none
  | _ => none
def mkOk (n : Int) (bytes : Nat) : Bool := decide (0 < n ∧ n ≤ 1000000 ∧ bytes ≤ 1000)
section
variable {P : Program} {o : Oper} {env : Env} {H : List LObj} {α : Type} {f : α → PV}
theorem LOp.makeSliceX {t : TypeId} {x y : Operand} {bytes id : Nat} {n : Int} {z : PV} {H' : List LObj} (f : α → PV) (z0 : α) (ho : o.op = .makeSlice t x y) (hx : lev env x = some (.p (.int .i64 n))) (hy : lev env y = some (.p (.int .i64 n)))
    (hT : slTy P t = some (1, bytes)) (hz : zero1 P t = some z) (hf : z = f z0) (hk : mkOk n bytes = true) (hid : lenC H = some id) (hH' : appC H (.vec 1 ((List.replicate n.toNat z0).map f)) = some H') :
    LOp P o env H (Is (.vec 1 id ((List.replicate n.toNat z0).map f).length 0 ((List.replicate n.toNat z0).map f).length) H') := by
  have hk := of_decide_eq_true hk
  subst hf
  rw [List.map_replicate] at hH' ⊢
  intro a w μ I hs hE K Q hK
  obtain ⟨hxv, hxk⟩ := lrep_int (hE.ev (x := x) (by simp [ho, Op.operands]) hx)
  obtain ⟨hyv, -⟩ := lrep_int (hE.ev (x := y) (by simp [ho, Op.operands]) hy)
  obtain ⟨el, i, zv, hu, hi, hzv, hzs, hsz, hby, hpos⟩ := slTy_spec hT
  have e1 := appC_eq hH'
  subst e1
  have hid' := lenC_eq hid
  -- the zero's cell
  have hz1 : ∃ u, zv.cells = #[u] ∧ one1 u = true ∧ PV.oneB (f z0) = true ∧ ∀ I w, Rep I w (f z0) u := by
    unfold zero1 at hz
    rw [hu] at hz
    simp only [hi, hzv] at hz
    split at hz
    · rename_i x hx
      split at hz
      · rename_i hone
        cases hz
        have h3 : ∀ I w, zv.cells.toList.length = 1 ∧ (∀ v ∈ zv.cells.toList, one1 v = true) ∧ ∀ (j : Nat) (c : LV) (v : Value), [LV.p (f z0)][j]? = some c → zv.cells.toList[j]? = some v → LRep [] I w c v := fun I w => cellsOfConst_spec (μ := []) (I := I) (w := w) hx
        have hl := (h3 (fun _ => False) w).1
        obtain ⟨u, hu2⟩ : ∃ u, zv.cells.toList = [u] := List.length_eq_one_iff.1 hl
        refine ⟨u, by rw [← Array.toArray_toList (xs := zv.cells), hu2], (h3 (fun _ => False) w).2.1 u (by rw [hu2]; exact .head _), hone, fun I w => ?_⟩
        have := (h3 I w).2.2 0 _ u rfl (by rw [hu2]; rfl)
        cases this with | p h => exact h
      · cases hz
    · cases hz
  obtain ⟨u, hzc, hu1, hone, hrep⟩ := hz1
  have hrowsz : ∀ k : Nat, (Array.range k).map (fun j => zv.cells[j % zv.cells.size]!) = Array.replicate k u := by
    intro k
    apply Array.ext
    · simp
    · intro j h1 h2
      simp [hzc, Nat.mod_one]
  have hw : IntKind.i64.wrap n = n := wrapI (by omega) (by omega)
  have hrun : (execOp a.eval o).run P w = .ok (.value (.slice (some ⟨w.heap.size, 0, none⟩) n.toNat n.toNat)) (w.alloc (.cells (Array.replicate n.toNat u) el)) := by
    have hts : (sizeOf el).run P w = .ok 1 w := by simp [sizeOf, typeInfo, hi, hsz]
    have hti : (typeInfo el).run P w = .ok i w := by simp [typeInfo, hi]
    have hzv' : (zeroValue el).run P w = .ok zv w := by simp [zeroValue, typeInfo, hi, hzv]
    have hbig : ¬ ((i.bytes : Int) * n > 2 ^ 48) := by
      have h1 : (i.bytes : Int) * n ≤ 1000 * 1000000 := by
        have : (i.bytes : Int) ≤ 1000 := by rw [hby]; omega
        exact Int.mul_le_mul this hk.2.1 (by omega) (by omega)
      omega
    have hroom : (askRoom (n.toNat * i.bytes)).run P w = .ok () w := by
      unfold askRoom; split <;> simp [mark, Sem.run]
    simp only [execOp, ho, Instr.makeSlice, hxv, hyv]
    simp only [Sem.run_bind, run_underlying hu, Result.andThen_ok, Sem.run_pure, asInt, asIntOf, hti, hw]
    rw [if_neg (by simp only [Bool.or_eq_true, decide_eq_true_eq]; omega)]
    simp only [Sem.run_bind, hroom, Result.andThen_ok, hts, Nat.mul_one]
    rw [if_neg (by omega)]
    simp only [Sem.run_bind, hzv', Result.andThen_ok, Sem.run_pure, hrowsz]
    simp [newRow]
  unfold Oper.wp
  rw [hrun]
  have hall : ∀ x ∈ List.replicate n.toNat (f z0), PV.oneB x = true := fun x hx => by rw [List.eq_of_mem_replicate hx]; exact hone
  obtain ⟨hfl, hel⟩ := flat_ones1 hall
  obtain ⟨hs', hE'⟩ := hs.push (.cells (Array.replicate n.toNat u) el) (.vec 1 (List.replicate n.toNat (f z0))) n.toNat fun μ' w' hE' hb => by
    have := ORep.vec (μ := μ') (I := I) (w := w') (m := 1) (xs := List.replicate n.toNat (f z0)) hb (by simp) (fun e => by
      have := congrArg List.length e; simp at this; omega) hel (fun j c v hc hv => by
      rw [hfl] at hc
      have h1 := List.eq_of_mem_replicate (List.mem_of_getElem? hc)
      have h2 : v = u := by
        rw [Array.getElem?_replicate] at hv
        split at hv
        · cases hv; rfl
        · cases hv
      rw [h1, h2]; exact hrep I w')
    simpa using this
  refine hK _ _ _ _ _ _ ⟨rfl, rfl⟩ hs' ?_ hE'
  simp only [List.length_replicate]
  refine .vec (B := ⟨some w.heap.size, n.toNat⟩) (by rw [hid', ← hs.len]; simp) rfl (Nat.le_refl _) fun _ => .inr ⟨w.heap.size, n.toNat, rfl, rfl, Nat.le_refl _, by unfold maxLen; omega, Array.replicate n.toNat u, el, ?_, by simp⟩
  show (w.heap.push _)[w.heap.size]? = _
  simp
theorem vec_len {μ : List Blk} {I : Nat → Prop} {w : World} {m : Nat} {xs : List PV} {B : Blk} (h : ORep μ I w (.vec m xs) B) : B.n = xs.length := by
  cases h <;> rfl
theorem vec_some {μ : List Blk} {I : Nat → Prop} {w : World} {m b n : Nat} {xs : List PV} (h : ORep μ I w (.vec m xs) ⟨some b, n⟩) :
    ∃ vs e, w.heap[b]? = some (.cells vs e (0, 0)) ∧ m * xs.length ≤ vs.size ∧ xs ≠ [] ∧ ∀ (i : Nat) (c : PV) (v : Value), (flat xs)[i]? = some c → vs[i]? = some v → Rep I w c v := by
  cases h with
  | vec hb hl hne hm h => exact ⟨_, _, hb, hl, hne, h⟩
theorem LOp.storeVX {t : TypeId} {x y : Operand} {id : Nat} {j : Int} {l : List α} {z : α} {H' : List LObj} (v : α) (ho : o.op = .store t x y) (hx : lev env x = some (.vptr 1 id (l.map f).length (0 + j.toNat) 0)) (hy : lev env y = some (.p (f v)))
    (hH : nth H id = some (.vec 1 (l.map f))) (hT : varTy P t = some (1, false)) (h1 : ∀ a, PV.oneB (f a) = true) (hz : ix l j = some z) (hH' : setC H id (.vec 1 ((l.set j.toNat v).map f)) = some H') : LOp P o env H (Is .any H') :=
  LOp.unit fun a w μ I hst he => by
    have hr := he.ev (x := x) (by simp [ho, Op.operands]) hx
    have hry := he.ev (x := y) (by simp [ho, Op.operands]) hy
    rw [nth_eq] at hH
    obtain ⟨e3, e4⟩ := setC_eq hH'
    subst e3
    have hj := (List.getElem?_eq_some_iff.1 (ix_get hz).2).1
    have hu1 : one1 (a.eval y) = true := by
      cases hry with
      | p hry => exact hry.one (by have := h1 v; cases hv : f v <;> rw [hv] at this <;> first | trivial | cases this)
    generalize hv : a.eval x = vx at hr
    cases hr with
    | @vptr _ _ _ _ _ B _ hid g1 hnB hf =>
      have hob := hst.objs id _ _ hH hid
      have hBn : (l.map f).length = B.n := (vec_len hob).symm
      obtain ⟨b, hB, rfl⟩ := hf hBn
      obtain ⟨Bb, Bn⟩ := B
      simp only at hB hBn
      subst hB; subst hBn
      obtain ⟨vs, e, hb, hlen, hne, hrep⟩ := vec_some hob
      · have hsz : j.toNat < vs.size := by simp at hlen; omega
        have hcell : 1 * (0 + j.toNat) + 0 = j.toNat := by omega
        have hall : ∀ x ∈ l.map f, PV.oneB x = true := fun x hx => by obtain ⟨q, -, rfl⟩ := List.mem_map.1 hx; exact h1 q
        have hall' : ∀ x ∈ (l.set j.toNat v).map f, PV.oneB x = true := fun x hx => by obtain ⟨q, -, rfl⟩ := List.mem_map.1 hx; exact h1 q
        have hcs : (a.eval y).cells = #[a.eval y] := by
          cases hq : a.eval y <;> rw [hq] at hu1 <;> first | rfl | cases hu1
        have hst' := run_storeVar (P := P) hT (off := j.toNat) hb (a.eval y) (by rw [hcs]; rfl) (by rw [hcs]; intro u hu; simp at hu; subst hu; exact hu1) (by omega)
        rw [hcs] at hst'
        obtain ⟨nv, hnv⟩ : ∃ nv, nv = (vs.toList.take j.toNat ++ #[a.eval y].toList ++ vs.toList.drop (j.toNat + 1)).toArray := ⟨_, rfl⟩
        rw [← hnv] at hst'
        have hnv2 : nv = vs.setIfInBounds j.toNat (a.eval y) := by
          rw [hnv]
          apply Array.toList_inj.1
          rw [Array.toList_setIfInBounds, List.set_eq_take_append_cons_drop]
          rw [if_pos (by simpa using hsz)]
          simp
        obtain ⟨hs', hE⟩ := hst.write (o := .vec 1 ((l.set j.toNat v).map f)) hid (w' := w.setRow b nv) (fun c hc => setRow_other w b c _ hc) (by simp [World.setRow]) rfl rfl rfl
          (fun c e' f' hc => by
            rw [hb] at hc; cases hc
            exact ⟨_, setRow_heap w b vs nv e (0, 0) hb, by rw [hnv2]; simp⟩)
          (fun hE => by
            have hlen2 : (l.map f).length = ((l.set j.toNat v).map f).length := by simp
            rw [hlen2]
            refine .vec (setRow_heap w b vs nv e (0, 0) hb) (by rw [hnv2]; simpa using hlen) (fun e0 => hne (by
              have := congrArg List.length e0
              simp at this
              simp [this])) (flat_ones1 hall').2 (fun i c u hc hu => ?_)
            rw [(flat_ones1 hall').1, List.map_set, List.getElem?_set] at hc
            rw [hnv2] at hu
            by_cases e' : j.toNat = i
            · subst e'
              rw [if_pos rfl] at hc
              rw [Array.getElem?_setIfInBounds_self_of_lt hsz] at hu
              cases hu
              split at hc
              · cases hc
                cases hry with | p hry => exact hry.mono hE.imm
              · cases hc
            · rw [if_neg e'] at hc
              rw [Array.getElem?_setIfInBounds_ne e'] at hu
              exact (hrep i c u (by rw [(flat_ones1 hall).1]; exact hc) hu).mono hE.imm)
        refine ⟨_, μ, ?_, hs', hE⟩
        simp only [execOp, ho, Instr.storeAt, hv, Instr.sureAddr, hcell]
        simp [hst']
end
theorem vset {env : Env} {t m id i : Nat} {α : Type} {f : α → PV} {l : List α} {v : α} (h : env.get t = some (.vec m id (l.map f).length 0 (l.map f).length)) :
    env.get t = some (.vec m id ((l.set i v).map f).length 0 ((l.set i v).map f).length) := by simpa using h
theorem LRepL.cut {μ : List Blk} {I : Nat → Prop} {w : World} {j : Nat} (hj : j ≤ μ.length) : ∀ {ls : List LV} {vs : List Value}, LRepL μ I w ls vs → (∀ x ∈ ls, LV.Low j x) → LRepL (μ.take j) I w ls vs
  | [], [], _, _ => trivial
  | x :: _, _ :: _, h, hl => ⟨h.1.cut hj (hl x (.head _)), LRepL.cut hj h.2 fun y hy => hl y (.tail _ hy)⟩
  | [], _ :: _, h, _ => h.elim
  | _ :: _, [], h, _ => h.elim
theorem LRep.more {μ ν : List Blk} {I : Nat → Prop} {w : World} {x : LV} {v : Value} (h : LRep μ I w x v) : LRep (μ ++ ν) I w x v := by
  have hg : ∀ {i : Nat} {B : Blk}, μ[i]? = some B → (μ ++ ν)[i]? = some B := fun h => by rw [List.getElem?_append_left (List.getElem?_eq_some_iff.1 h).1]; exact h
  induction h with
  | p h => exact .p h
  | agg hl ho h ih => exact .agg hl ho fun i c v hc hv => ih i c v hc hv
  | tup hl h ih => exact .tup hl fun i c v hc hv => ih i c v hc hv
  | ptr h => exact .ptr (hg h)
  | cptr f h1 h2 => exact .cptr f h1 h2
  | vec h h1 hn hf => exact .vec (hg h) h1 hn hf
  | vptr h h1 hn hf => exact .vptr (hg h) h1 hn hf
  | zs => exact .zs
  | map h => exact .map (hg h)
  | nilmap => exact .nilmap
  | fn h1 h2 h3 h4 ih1 ih2 => exact .fn h1 h2 (fun i c v hc hv => ih1 i c v hc hv) (fun i c v hc hv => ih2 i c v hc hv)
  | any => exact .any
  | yld h => exact .yld (hg h)
  | fptr hI hc ho h ih => exact .fptr hI hc ho ih
theorem ORep.more {μ ν : List Blk} {I : Nat → Prop} {w : World} {o : LObj} {B : Blk} (h : ORep μ I w o B) : ORep (μ ++ ν) I w o B := by
  cases h with
  | box h1 h2 h3 h4 => exact .box h1 h2 h3 fun i c v hc hv => (h4 i c v hc hv).more
  | vecE => exact .vecE
  | vec h1 h2 h3 h4 h5 => exact .vec h1 h2 h3 h4 h5
  | map h1 h2 h3 h4 h5 => exact .map h1 h2 (fun i c e hc he => ⟨(h3 i c e hc he).1, (h3 i c e hc he).2.more⟩) h4 h5
  | dead => exact .dead
  | slot => exact .slot
  | loop h1 hs hp hps hA hB hn he => exact .loop h1 hs hp hps hA hB hn fun t x ht => let ⟨v, h2, h3⟩ := he t x ht; ⟨v, h2, h3.more⟩
  | defd h1 => exact .defd h1
theorem LC.pre {P : Program} {f : FuncId} {als : List LV} {H H' Hr : List LObj} {x : LV} (h : LC P f als H (Is x H')) (hl : H'.length = H.length) (hlow : lowObjs H.length H = true) (hal : LV.lowsB H.length als = true) :
    LC P f als (H ++ Hr) (Is x (H' ++ Hr)) := by
  intro args w μ I hs ha
  have hlen := hs.len
  rw [List.length_append] at hlen
  have hj : H.length ≤ μ.length := by omega
  have hcut := hs.cut (j := H.length) (by simp) (by rw [List.take_left']; exact lowObjs_spec hlow; rfl)
  rw [List.take_left' rfl] at hcut
  refine (h args w (μ.take H.length) I hcut (ha.cut hj (LV.lows_of hal))).mono ?_
  rintro e w' ⟨_, v, _, μ', I', rfl, ⟨e1, e2⟩, hs', hv, hE⟩
  rw [e2] at hs'
  rw [e1] at hv
  have hml : μ'.length = H.length := by rw [hs'.len, hl]
  have htl : (μ.take H.length).length = H.length := by rw [List.length_take]; omega
  have hdrop : ∀ i, H.length ≤ i → (μ' ++ μ.drop H.length)[i]? = μ[i]? := by
    intro i hi
    rw [List.getElem?_append_right (by omega), List.getElem?_drop, hml]
    congr 1; omega
  have hfirst : ∀ i, i < H.length → (μ' ++ μ.drop H.length)[i]? = μ'[i]? := fun i hi => List.getElem?_append_left (by omega)
  -- who is not of the first ones
  have hnot : ∀ (i : Nat) (b n : Nat), H.length ≤ i → μ[i]? = some ⟨some b, n⟩ → ¬ Own (μ.take H.length) b := by
    rintro i b n hi hb ⟨n', hm⟩
    obtain ⟨q, hq⟩ := mem_get hm
    have hql := (List.getElem?_eq_some_iff.1 hq).1
    rw [htl] at hql
    rw [List.getElem?_take_of_lt hql] at hq
    have := hs.inj i q b n n' hb hq
    omega
  have hsub : ∀ b, Own (μ.take H.length) b → Own μ b := fun b ⟨n, hb⟩ => ⟨n, List.mem_of_mem_take hb⟩
  have hEx : Ext μ.length μ I w (μ' ++ μ.drop H.length) I' w' :=
    { get := fun i B hi hb => by
        by_cases h1 : i < H.length
        · have := hE.get i B (by omega) (by rw [List.getElem?_take_of_lt h1]; exact hb)
          rw [hfirst i h1]; exact this
        · exact ⟨B, by rw [hdrop i (by omega)]; exact hb, Nat.le_refl _, fun _ => .inl rfl, fun _ _ => rfl⟩
      len := Nat.le_refl _
      len' := by rw [List.length_append, List.length_drop]; omega
      os := hE.os
      tape := hE.tape
      output := hE.output
      size := hE.size
      imm := hE.imm
      shape := hE.shape
      inew := fun b hb => (hE.inew b hb).imp id (Or.imp (hsub b) id)
      mnew := fun b ⟨n, hb⟩ => by
        rcases List.mem_append.1 hb with hb | hb
        · exact (hE.mnew b ⟨n, hb⟩).imp (hsub b) id
        · exact .inl ⟨n, List.mem_of_mem_drop hb⟩
      keep := fun b hb hn => hE.keep b hb fun hm => hn (hsub b hm) }
  have hblk : ∀ (i b n : Nat), H.length ≤ i → μ[i]? = some ⟨some b, n⟩ → w'.heap[b]? = w.heap[b]? := fun i b n hi hb => hE.keep b (hs.lt b (Own.mk hb)) (hnot i b n hi hb)
  have hst : St (μ' ++ μ.drop H.length) I' w' (H' ++ Hr) :=
    { len := by rw [List.length_append, List.length_append, List.length_drop]; omega
      inj := fun i j b n n' hi hj' => by
        by_cases h1 : i < H.length
        · rw [hfirst i h1] at hi
          by_cases h2 : j < H.length
          · rw [hfirst j h2] at hj'
            exact hs'.inj i j b n n' hi hj'
          · rw [hdrop j (by omega)] at hj'
            rcases hE.mnew b (Own.mk hi) with h3 | h3
            · exact absurd h3 (hnot j b n' (by omega) hj')
            · have := hs.lt b (Own.mk hj'); omega
        · rw [hdrop i (by omega)] at hi
          by_cases h2 : j < H.length
          · rw [hfirst j h2] at hj'
            rcases hE.mnew b (Own.mk hj') with h3 | h3
            · exact absurd h3 (hnot i b n (by omega) hi)
            · have := hs.lt b (Own.mk hi); omega
          · rw [hdrop j (by omega)] at hj'
            exact hs.inj i j b n n' hi hj'
      lt := fun b ⟨n, hb⟩ => by
        rcases List.mem_append.1 hb with hb | hb
        · exact hs'.lt b ⟨n, hb⟩
        · exact Nat.lt_of_lt_of_le (hs.lt b ⟨n, List.mem_of_mem_drop hb⟩) hE.size
      off := fun b ⟨n, hb⟩ hI => by
        rcases List.mem_append.1 hb with hb | hb
        · exact hs'.off b ⟨n, hb⟩ hI
        · have hown : Own μ b := ⟨n, List.mem_of_mem_drop hb⟩
          rcases hE.inew b hI with h3 | h3 | h3
          · exact hs.off b hown h3
          · obtain ⟨q, hq⟩ := mem_get hb
            rw [List.getElem?_drop] at hq
            exact hnot _ b n (by omega) hq h3
          · have := hs.lt b hown; omega
      ilt := hs'.ilt
      objs := fun i o B ho hB => by
        by_cases h1 : i < H.length
        · rw [List.getElem?_append_left (by omega)] at ho
          rw [hfirst i h1] at hB
          have hob := hs'.objs i o B ho hB
          exact hob.more
        · rw [List.getElem?_append_right (by omega), hl] at ho
          rw [hdrop i (by omega)] at hB
          have hob := hs.objs i o B (by rw [List.getElem?_append_right (by omega)]; exact ho) hB
          exact hob.ext hEx fun c hc => by
            obtain ⟨Bb, Bn⟩ := B
            simp only at hc
            subst hc
            exact hblk i c Bn (by omega) hB }
  refine ⟨x, v, H' ++ Hr, _, I', rfl, ⟨rfl, rfl⟩, hst, hv.more, hEx⟩
/-- The fence that lets all in, within a round or not. -/
def WF (ro : Option Nat) : Fence := { fn := fun _ => True, depth := none, alive := false, round := ro }
theorem callsIn_WF {ro : Option Nat} {n : Nat} {P : Program} {f : FuncId} {args : Array Value} {w : World} {R : Ending → World → Prop} (h : Calls P f args w R) : CallsIn (WF ro) n P f args w R :=
  (callsIn_wide (n := n)).2 h
theorem rowsIn_WF {ro : Option Nat} {n : Nat} {P : Program} {row : String} {args : Array Value} {w : World} {R : Value → World → Prop} (h : Rows P row args w R) : RowsIn (WF ro) n P row args w R :=
  fun c cs _ => let ⟨v, w', r, s⟩ := h c cs; ⟨v, w', r, stepsIn_wide.2 s⟩
theorem uponIn_of {ro : Option Nat} {m : Nat} {P : Program} {o : Oper} {a : Act} {K K' : Act → World → Prop} {Q : Exit → Act → World → Prop} {r : Result Next} (h : o.upon P a K Q r) (hk : ∀ a w, K a w → K' a w) :
    o.uponIn (WF ro) m P a K' Q r := by
  cases r with
  | ok x w =>
    cases x with
    | value v => exact hk _ _ h
    | skip => exact hk _ _ h
    | defer d => exact hk _ _ h
    | enter f args =>
      refine ⟨(fun e => nomatch (show false = true from e)), (callsIn_WF h).mono ?_⟩
      intro e w' he
      cases e with
      | returned v => exact hk _ _ he
      | panicked c => exact he
      | outgrown => exact he
    | row row args => exact ⟨(fun e => nomatch (show false = true from e)), (rowsIn_WF h).mono fun _ _ => hk _ _⟩
    | _ => exact h.elim
  | halt s w =>
    cases s with
    | panic v => exact h
    | _ => exact h.elim
def noDefer (o : Oper) : Bool := match o.op with | .defer _ => false | _ => true
theorem wpIn_of {ro : Option Nat} {m : Nat} {P : Program} {o : Oper} {a : Act} {w : World} {K K' : Act → World → Prop} {Q : Exit → Act → World → Prop} (hd : noDefer o = true) (h : o.wp P a w K Q) (hk : ∀ a w, K a w → K' a w) :
    o.wpIn (WF ro) m P a w K' Q := by
  refine ⟨fun _ _ => trivial, ?_⟩
  have e : o.semAt (WF ro).round a.eval = execOp a.eval o := Oper.semAt_eq _ _ _ fun c hc => by rw [noDefer, hc] at hd; cases hd
  rw [e]
  exact uponIn_of h hk
theorem wpOpsIn_of {ro : Option Nat} {m : Nat} {P : Program} {ops : Array Oper} {Q : Exit → Act → World → Prop} (hd : ops.toList.all noDefer = true) (hQ : ¬ LetsOut Q) :
    ∀ (l : List Nat) (a : Act) (w : World), wpOps P ops Q l a w → wpOpsIn (WF ro) m P ops Q l a w
  | [], _, _, h => h
  | i :: l, a, w, h => by
    simp only [wpOps] at h
    simp only [wpOpsIn]
    cases ho : ops[i]? with
    | none => rw [ho] at h; exact wpOpsIn_of hd hQ l a w h
    | some o =>
      rw [ho] at h
      simp only at h ⊢
      have hdo : noDefer o = true := List.all_eq_true.1 hd o (Array.mem_toList_iff.2 (Array.mem_of_getElem? ho))
      split at h
      · next hw =>
        rw [if_pos hw]
        rcases h with h | ⟨_, h⟩
        · exact wpIn_of hdo h fun a w => wpOpsIn_of hd hQ l a w
        · exact absurd h hQ
      · next hw =>
        rw [if_neg hw]
        exact ⟨fun _ _ => trivial, wpOpsIn_of hd hQ l _ w h⟩
theorem wpAnyIn_of {ro : Option Nat} {m : Nat} {P : Program} {md : Region.Mode} {ops : Array Oper} {Q : Exit → Act → World → Prop} (hd : ops.toList.all noDefer = true) (hQ : ¬ LetsOut Q) :
    ∀ (f : Nat) (l : Array Bool) (a : Act) (w : World), wpAny P md ops Q f l a w → wpAnyIn (WF ro) m P md ops Q f l a w
  | 0, _, _, _, h => h
  | f + 1, l, a, w, h => by
    refine ⟨h.1, fun i hi => ?_⟩
    have h := h.2 i hi
    unfold wpOp at h
    unfold wpOpIn
    cases ho : ops[i]? with
    | none => rw [ho] at h; exact wpAnyIn_of hd hQ f _ a w h
    | some o =>
      rw [ho] at h
      simp only at h ⊢
      have hdo : noDefer o = true := List.all_eq_true.1 hd o (Array.mem_toList_iff.2 (Array.mem_of_getElem? ho))
      split at h
      · next hw =>
        rw [if_pos hw]
        rcases h with h | ⟨_, h⟩
        · exact wpIn_of hdo h fun a w => wpAnyIn_of hd hQ f _ a w
        · exact absurd h hQ
      · next hw =>
        rw [if_neg hw]
        exact ⟨fun _ _ => trivial, wpAnyIn_of hd hQ f _ _ w h⟩
theorem RgOk.wpIn {P : Program} {ro : Option Nat} {m id : Nat} {ops : Array Oper} {draws : Bool} {Q : Exit → Act → World → Prop} {a : Act} {w : World} (hd : ops.toList.all noDefer = true) (hQ : ¬ LetsOut Q) (h : RgOk P ops draws Q a w) :
    (Code.region id ops draws).wpIn (WF ro) m P Q a w := by
  cases draws with
  | true => exact wpIn_region_any h.1 (wpAnyIn_of hd hQ _ _ _ _ h.2)
  | false => exact wpIn_region (wpOpsIn_of hd hQ _ _ _ h)
theorem LRg.plain {P : Program} {n k : Nat} {ops : Array Oper} {env : Env} {H : List LObj} {Q : Exit → Env → List LObj → Prop} (h : LOps P ops n k (List.range ops.size) env H (fun env H => Q .normal env H)) : LRg P n k ops false env H Q :=
  fun a w μ I hn hk Q' hq => h a w μ I hn hk Q' fun env' H' a' w' μ' I' q => hq .normal env' H' a' w' μ' I' q
theorem Ext.same {k : Nat} {μ μ' : List Blk} {I I' : Nat → Prop} {w w' : World} {id b : Nat} (hE : Ext k μ I w μ' I' w') (hk : id < k) (h : μ[id]? = some ⟨some b, 0⟩) : μ'[id]? = some ⟨some b, 0⟩ := by
  obtain ⟨B', h1, -, -, h4⟩ := hE.get _ _ hk h
  have e := h4 rfl (by simp)
  rw [h1, e]
def LOpI (P : Program) (o : Oper) (env : Env) (H : List LObj) (R : LV → List LObj → Prop) : Prop :=
  ∀ (a : Act) (w : World) (μ : List Blk) (I : Nat → Prop), St μ I w H → EOn μ I w o env a → ∀ (K : Act → World → Prop) (Q : Exit → Act → World → Prop),
    (∀ x H' v w' μ' I', R x H' → St μ' I' w' H' → LRep μ' I' w' x v → Ext μ.length μ I w μ' I' w' → K (a.put o.dst v) w') → o.wpIn (WF none) 0 P a w K Q
theorem LOpI.of {P : Program} {o : Oper} {env : Env} {H : List LObj} {R : LV → List LObj → Prop} (h : LOp P o env H R) (hd : noDefer o = true) : LOpI P o env H R :=
  fun a w μ I hs he K Q hK => wpIn_of hd (h a w μ I hs he K Q hK) fun _ _ h => h
def LOpsI (P : Program) (ops : Array Oper) (n k : Nat) (l : List Nat) (env : Env) (H : List LObj) (Q : Env → List LObj → Prop) : Prop :=
  ∀ a w μ I, Now n μ I w H env a → k ≤ μ.length → ∀ Q' : Exit → Act → World → Prop,
    (∀ env' H' a' w' μ' I', Q env' H' → Now n μ' I' w' H' env' a' → Ext k μ I w μ' I' w' → Q' .normal a' w') → wpOpsIn (WF none) 0 P ops Q' l a w
section
variable {P : Program} {n k : Nat} {env : Env} {H : List LObj} {ops : Array Oper} {i : Nat} {l : List Nat} {o : Oper} {x : LV} {H' : List LObj} {env' : Env} {Q : Env → List LObj → Prop}
theorem LW.regionI {id : Nat} {Q : Exit → Env → List LObj → Prop} (h : LOpsI P ops n k (List.range ops.size) env H (fun env H => Q .normal env H)) : LW P n k (.region id ops false) env H Q :=
  fun a w μ I hn hk Q' hq => (wpIn_wide (n := 0)).1 (wpIn_region (h a w μ I hn hk Q' fun env' H' a' w' μ' I' q => hq .normal env' H' a' w' μ' I' q))
theorem LOpsI.nil (h : Q env H) : LOpsI P ops n k [] env H Q := fun a w μ I hn hk _ hq => hq env H a w μ I h hn (Ext.refl _ _ _ _ hk)
theorem LOpsI.st (ho : nth ops.toList i = some o) (hg : o.guard = none) (hd : putC n o x env = some env') (h : LOpI P o env H (Is x H')) (hr : LOpsI P ops n k l env' H' Q) : LOpsI P ops n k (i :: l) env H Q := by
  obtain ⟨rfl, h2⟩ := putC_eq hd
  intro a w μ I hn hk Q' hq
  simp only [wpOpsIn, ops_get ho, Region.wanted, hg, if_true]
  refine h a w μ I hn.st (hn.env.on o) _ _ fun y H2 v w' μ' I' hR hs hv hE => ?_
  obtain ⟨rfl, rfl⟩ := hR
  refine hr (a.put o.dst v) w' μ' I' (hn.put (dstOk_spec h2) hs hv hE) (Nat.le_trans hk hE.len') Q' ?_
  exact fun env' H'' a' w'' μ'' I'' q hn' hE' => hq env' H'' a' w'' μ'' I'' q hn' ((hE.weak hk).trans hE')
theorem LOpsI.gd {j t : Nat} {b : Bool} (ho : nth ops.toList i = some o) (hg : o.guard = some (j, b)) (ht : slotOf ops.toList j = some t) (hb : env.get t = some (.p (.bool b)))
    (hd : putC n o x env = some env') (h : LOpI P o env H (Is x H')) (hr : LOpsI P ops n k l env' H' Q) : LOpsI P ops n k (i :: l) env H Q := by
  obtain ⟨rfl, h2⟩ := putC_eq hd
  intro a w μ I hn hk Q' hq
  simp only [wpOpsIn, ops_get ho, Region.wanted, hg, yielded_of hn.env (slotOf_eq ht) hb, beq_self_eq_true, if_true]
  refine h a w μ I hn.st (hn.env.on o) _ _ fun y H2 v w' μ' I' hR hs hv hE => ?_
  obtain ⟨rfl, rfl⟩ := hR
  refine hr (a.put o.dst v) w' μ' I' (hn.put (dstOk_spec h2) hs hv hE) (Nat.le_trans hk hE.len') Q' ?_
  exact fun env' H'' a' w'' μ'' I'' q hn' hE' => hq env' H'' a' w'' μ'' I'' q hn' ((hE.weak hk).trans hE')
theorem LOpsI.sk {j t : Nat} {b c : Bool} (ho : nth ops.toList i = some o) (hg : o.guard = some (j, b)) (ht : slotOf ops.toList j = some t) (hb : env.get t = some (.p (.bool c))) (hbc : c = !b)
    (hd : putC n o (.tup []) env = some env') (hr : LOpsI P ops n k l env' H Q) : LOpsI P ops n k (i :: l) env H Q := by
  obtain ⟨rfl, h2⟩ := putC_eq hd
  intro a w μ I hn hk Q' hq
  have hne : (some c == some b) = false := by subst hbc; cases b <;> rfl
  simp only [wpOpsIn, ops_get ho, Region.wanted, hg, yielded_of hn.env (slotOf_eq ht) hb, hne, Bool.false_eq_true, if_false]
  exact ⟨fun _ _ => trivial, hr (a.put o.dst undef) w μ I (hn.put (dstOk_spec h2) hn.st (.tup rfl fun i c v hc => by simp at hc) (Ext.refl _ _ _ _ (Nat.le_refl _))) hk Q' hq⟩
theorem LOpsI.cases (t : Nat) {b : Bool} (_ : env.get t = some (.p (.bool b))) (ht : b = true → LOpsI P ops n k l env H Q) (hf : b = false → LOpsI P ops n k l env H Q) : LOpsI P ops n k l env H Q :=
  match b, ht, hf with
  | true, ht, _ => ht rfl
  | false, _, hf => hf rfl
/-- The record of a loop is written anew. -/
theorem St.loopTo {μ : List Blk} {I : Nat → Prop} {w : World} {id b n : Nat} {b0 : Bool} {env1 : Env} {ps : Array Tmp} {A B : Code} {r : Loop} (b1 : Bool) (st : LoopState) (hst : st = cond b1 .busy .ready)
    (hs : St μ I w H) (hH : H[id]? = some (.loop b0 n env1 ps A B)) (hid : μ[id]? = some ⟨some b, 0⟩) (hb : w.heap[b]? = some (.loop r)) :
    St μ I (w.putObj b (.loop { r with state := st, pending := none })) (H.set id (.loop b1 n env1 ps A B)) ∧ Ext μ.length μ I w μ I (w.putObj b (.loop { r with state := st, pending := none })) := by
  have hlt : b < w.heap.size := (Array.getElem?_eq_some_iff.1 hb).1
  have hob := hs.objs id _ _ hH hid
  refine hs.write (o := .loop b1 n env1 ps A B) hid (fun c hc => World.putObj_heap_other hc) (by simp [World.putObj]) rfl rfl rfl (fun c e f h => by rw [hb] at h; cases h) (fun hE => ?_)
  cases hob with
  | loop hb1 h1 h2 h3 h4 h5 h6 h7 =>
    rw [hb] at hb1
    cases hb1
    exact .loop (World.putObj_heap_same hlt) hst rfl h3 h4 h5 h6 fun t x ht => let ⟨v, hv, hr⟩ := h7 t x ht; ⟨v, hv, hr.ext hE⟩
theorem LOpI.yield {fo xo : Operand} {ats : Array TypeId} {id p ra rb bid : Nat} {draws : Bool} {lx : LV} {env1 env2 : Env} {opsA opsB : Array Oper} {Hb H2 H3 : List LObj}
    (ho : o.op = .call { callee := .value fo, args := #[xo], argTypes := ats }) (hf : lev env fo = some (.yld id)) (hx : lev env xo = some lx)
    (hH : nth H id = some (.loop false n env1 #[p] (.region ra opsA false) (.block bid (.region rb opsB draws)))) (hp : Nat.blt p n = true)
    (hdA : opsA.toList.all noDefer = true) (hdB : opsB.toList.all noDefer = true) (hHb : setC H id (.loop true n env1 #[p] (.region ra opsA false) (.block bid (.region rb opsB draws))) = some Hb)
    (hA : LRg P n H.length opsA false (eput env1 (some p) lx) H (fun e e2 H2 => e = .normal ∧ e2 = env2 ∧ H2 = H)) (hB : LRg P n H.length opsB draws env2 Hb (fun e _ H3 => e = .normal ∧ H3 = H2))
    (h2 : nth H2 id = some (.loop true n env1 #[p] (.region ra opsA false) (.block bid (.region rb opsB draws))))
    (hH3 : setC H2 id (.loop false n env1 #[p] (.region ra opsA false) (.block bid (.region rb opsB draws))) = some H3) : LOpI P o env H (Is (.p (.bool true)) H3) := by
  intro a w μ I hs he K Q hK
  rw [nth_eq] at hH h2
  have hfo : LRep μ I w (.yld id) (a.eval fo) := he.ev (by rw [ho]; simp [Op.operands, Call.operands]) hf
  have hxo : LRep μ I w lx (a.eval xo) := he.ev (by rw [ho]; simp [Op.operands, Call.operands]) hx
  generalize hv : a.eval fo = v at hfo
  cases hfo with
  | @yld _ b hid =>
    have hlen := hs.len
    have hidl : id < H.length := (List.getElem?_eq_some_iff.1 hH).1
    have hob := hs.objs id _ _ hH hid
    cases hob with
    | @loop _ _ _ _ _ _ _ r hb hst hpe hps hAs hBs hn hen =>
      have hrun : (execOp a.eval o).run P w = .ok (.round b r.fn (r.tmps.setIfInBounds p (a.eval xo)) (.region ra opsA false) (.block bid (.region rb opsB draws))) w := by
        have := run_yield (P := P) (args := #[a.eval xo]) hb (by rw [hps]; rfl)
        rw [hps, hAs, hBs] at this
        simp [execOp, ho, resolve, Deferred.ofValue, hv, invoke] at this ⊢
        rw [this]
      refine ⟨fun _ _ => trivial, ?_⟩
      show o.uponIn (WF none) 0 P a K Q ((execOp a.eval o).run P w)
      rw [hrun]
      refine ⟨(fun e => nomatch (show false = true from e)), roundIn_of_wpIn trivial ?_⟩
      have hnow : Now n μ I w H (eput env1 (some p) lx) { tmps := r.tmps.setIfInBounds p (a.eval xo), defers := [] } := by
        have hp' : p < n := by simpa using hp
        have := ERep.put (a := { tmps := r.tmps, defers := [] }) (dst := some p) (env := env1) hen (fun d hd => by cases hd; show p < r.tmps.size; omega) hxo
        exact ⟨by simp [hn], rfl, hs, this⟩
      refine RgOk.wpIn (ro := some b) hdA (fun ⟨_, _, h⟩ => h) (hA _ w μ I hnow (by omega) _ ?_)
      rintro e e2 H2x a1 w1 μ1 I1 ⟨rfl, rfl, rfl⟩ hn1 hE1
      have hid1 := hE1.same hidl hid
      have hlen1 := hn1.st.len
      have hob1 := hn1.st.objs id _ _ hH hid1
      cases hob1 with
      | @loop _ _ _ _ _ _ _ r1 hb1 hst1 hpe1 hps1 hAs1 hBs1 hnn1 hen1 =>
        refine ⟨_, run_beginRound hb1 hst1, ?_⟩
        have e1 : ({ r1 with state := .busy } : Loop) = { r1 with state := .busy, pending := none } := by rw [← hpe1]
        rw [e1]
        obtain ⟨hs2, hE2⟩ := hn1.st.loopTo true .busy rfl hH hid1 hb1
        have e2 := (setC_eq hHb).1
        subst e2
        refine wpIn_block (RgOk.wpIn (ro := some b) hdB (fun ⟨_, _, h⟩ => h) (hB a1 _ μ1 I1 ⟨hn1.size, hn1.defers, hs2, hn1.env.ext hE2⟩ (by omega) _ ?_))
        rintro e e3 H3x a3 w3 μ3 I3 ⟨rfl, rfl⟩ hn3 hE3
        have hid3 := hE3.same hidl hid1
        have hob3 := hn3.st.objs id _ _ h2 hid3
        cases hob3 with
        | @loop _ _ _ _ _ _ _ r3 hb3 hst3 hpe3 hps3 hAs3 hBs3 hnn3 hen3 =>
          refine ⟨_, _, run_endRound none hb3, ?_⟩
          obtain ⟨hs4, hE4⟩ := hn3.st.loopTo false .ready rfl h2 hid3 hb3
          have e4 := (setC_eq hH3).1
          subst e4
          refine hK (.p (.bool true)) _ _ _ μ3 I3 ⟨rfl, rfl⟩ hs4 (.p .bool) ?_
          rw [hlen]
          exact (hE1.trans (hE2.weak (by omega))).trans (hE3.trans (hE4.weak hE3.len'))
end
/-- A state in which a range over a function may have left its mark. -/
structure NowM (m : Option Nat) (n : Nat) (μ : List Blk) (I : Nat → Prop) (w : World) (H : List LObj) (env : Env) (a : Act) : Prop where
  size : a.tmps.size = n
  defers : match m with
    | none => a.defers = []
    | some d => ∃ D, μ[d]? = some ⟨some D, 0⟩ ∧ H[d]? = some .defd ∧ a.defers = [{ target := .collected D, args := #[] }]
  st : St μ I w H
  env : ERep μ I w env a.tmps
def LWm (P : Program) (n k : Nat) (m : Option Nat) (c : Code) (env : Env) (H : List LObj) (Q : Option Nat → Exit → Env → List LObj → Prop) : Prop :=
  ∀ a w μ I, NowM m n μ I w H env a → k ≤ μ.length → ∀ Q' : Exit → Act → World → Prop,
    (∀ m' e env' H' a' w' μ' I', Q m' e env' H' → NowM m' n μ' I' w' H' env' a' → Ext k μ I w μ' I' w' → Q' e a' w') → c.wp P Q' a w
section
variable {P : Program} {n k : Nat} {env : Env} {H : List LObj} {Q : Option Nat → Exit → Env → List LObj → Prop} {m : Option Nat}
theorem LWm.of {c : Code} (h : LW P n k c env H (Q none)) : LWm P n k none c env H Q :=
  fun a w μ I hn hk Q' hq => h a w μ I ⟨hn.size, hn.defers, hn.st, hn.env⟩ hk Q' fun e env' H' a' w' μ' I' q hn' => hq none e env' H' a' w' μ' I' q ⟨hn'.size, hn'.defers, hn'.st, hn'.env⟩
/-- First what leaves no mark. -/
theorem LWm.seqW {x y : Code} (h : LW P n k x env H (thn (fun env H => LWm P n k none y env H Q) (Q none))) : LWm P n k none (.seq x y) env H Q := by
  intro a w μ I hn hk Q' hq
  refine wp_seq (h a w μ I ⟨hn.size, hn.defers, hn.st, hn.env⟩ hk _ fun e env' H' a' w' μ' I' q hn' hE => ?_)
  cases e with
  | normal => exact q a' w' μ' I' ⟨hn'.size, hn'.defers, hn'.st, hn'.env⟩ hE.len' Q' fun m' e env'' H'' a'' w'' μ'' I'' q' hn'' hE' => hq m' e env'' H'' a'' w'' μ'' I'' q' hn'' (hE.trans hE')
  | _ => exact hq none _ _ _ _ _ _ _ q ⟨hn'.size, hn'.defers, hn'.st, hn'.env⟩ hE
def thnM (R : Option Nat → Env → List LObj → Prop) (Q : Option Nat → Exit → Env → List LObj → Prop) : Option Nat → Exit → Env → List LObj → Prop
  | m, .normal, env, H => R m env H
  | m, e, env, H => Q m e env H
theorem LWm.seq {x y : Code} (h : LWm P n k m x env H (thnM (fun m env H => LWm P n k m y env H Q) Q)) : LWm P n k m (.seq x y) env H Q := by
  intro a w μ I hn hk Q' hq
  refine wp_seq (h a w μ I hn hk _ fun m' e env' H' a' w' μ' I' q hn' hE => ?_)
  cases e with
  | normal => exact q a' w' μ' I' hn' hE.len' Q' fun m' e env'' H'' a'' w'' μ'' I'' q' hn'' hE' => hq m' e env'' H'' a'' w'' μ'' I'' q' hn'' (hE.trans hE')
  | _ => exact hq m' _ _ _ _ _ _ _ q hn' hE
/-- A block that is left at its end. -/
theorem LWm.block {id : Nat} {c : Code} (h : LWm P n k m c env H (fun m e env H => e = .normal ∧ Q m .normal env H)) : LWm P n k m (.block id c) env H Q := by
  intro a w μ I hn hk Q' hq
  refine wp_block (h a w μ I hn hk _ ?_)
  rintro m' e env' H' a' w' μ' I' ⟨rfl, q⟩ hn' hE
  exact hq m' .normal env' H' a' w' μ' I' q hn' hE
def LOpsM (P : Program) (ops : Array Oper) (n k d : Nat) (l : List Nat) (env : Env) (H : List LObj) (Q : Env → List LObj → Prop) : Prop :=
  ∀ a w μ I, NowM (some d) n μ I w H env a → k ≤ μ.length → ∀ Q' : Exit → Act → World → Prop,
    (∀ env' H' a' w' μ' I', Q env' H' → NowM (some d) n μ' I' w' H' env' a' → Ext k μ I w μ' I' w' → Q' .normal a' w') → wpOps P ops Q' l a w
theorem LWm.region {id d : Nat} {ops : Array Oper} (h : LOpsM P ops n k d (List.range ops.size) env H (fun env H => Q (some d) .normal env H)) : LWm P n k (some d) (.region id ops false) env H Q :=
  fun a w μ I hn hk Q' hq => wp_region (h a w μ I hn hk Q' fun env' H' a' w' μ' I' q => hq (some d) .normal env' H' a' w' μ' I' q)
theorem LOpsM.nil {d : Nat} {ops : Array Oper} {Q : Env → List LObj → Prop} (h : Q env H) : LOpsM P ops n k d [] env H Q := fun a w μ I hn hk _ hq => hq env H a w μ I h hn (Ext.refl _ _ _ _ hk)
theorem LOpsM.st {d i : Nat} {l : List Nat} {o : Oper} {x : LV} {H' : List LObj} {env' : Env} {ops : Array Oper} {Q : Env → List LObj → Prop} (ho : nth ops.toList i = some o) (hg : o.guard = none) (hd : putC n o x env = some env') (h : LOp P o env H (Is x H')) (hD : nth H' d = some .defd)
    (hr : LOpsM P ops n k d l env' H' Q) : LOpsM P ops n k d (i :: l) env H Q := by
  obtain ⟨rfl, h2⟩ := putC_eq hd
  intro a w μ I hn hk Q' hq
  simp only [wpOps, ops_get ho, Region.wanted, hg, if_true]
  refine .inl (h a w μ I hn.st (hn.env.on o) _ _ fun y H2 v w' μ' I' hR hs hv hE => ?_)
  obtain ⟨rfl, rfl⟩ := hR
  have hnow : NowM (some d) n μ' I' w' H2 (eput env o.dst y) (a.put o.dst v) := by
    obtain ⟨D, hm, hH, hdf⟩ := hn.defers
    have hml := (List.getElem?_eq_some_iff.1 hm).1
    have e := (hn.env.ext hE).put (a := a) (dst := o.dst) (fun d hd => by rw [hn.size]; exact dstOk_spec h2 d hd) hv
    refine ⟨?_, ⟨D, hE.same hml hm, by rw [← nth_eq]; exact hD, ?_⟩, hs, e⟩
    · have := hn.size
      cases o.dst <;> simp [Act.put, this]
    · cases o.dst <;> simp [Act.put, hdf]
  refine hr (a.put o.dst v) w' μ' I' hnow (Nat.le_trans hk hE.len') Q' ?_
  exact fun env' H'' a' w'' μ'' I'' q hn' hE' => hq env' H'' a' w'' μ'' I'' q hn' ((hE.weak hk).trans hE')
/-- The statement: the function that is ranged over is called upon the record of the loop. -/
theorem LWm.rangeFunc {t gf d : Nat} {ps : Array Tmp} {A B : Code} {caps : List LV} {xr : LV} {H2 H3 : List LObj} (hg : env.get t = some (.fn gf [] caps)) (hcall : callable P gf = true) (hd : lenC H = some d)
    (hc : LC P gf (.yld (d + 1) :: caps) (H ++ [.defd, .loop false n env ps A B]) (Is xr H2)) (hL : nth H2 (d + 1) = some (.loop false n env ps A B)) (hD : nth H2 d = some .defd)
    (hH3 : setC H2 (d + 1) .dead = some H3) (hq : Q (some d) .normal env H3) : LWm P n k none (.rangeFunc (.tmp t) ps A B) env H Q := by
  intro a w μ I hn hk Q' hQ
  have hd := lenC_eq hd
  have hdef : a.defers = [] := hn.defers
  have hlen := hn.st.len
  rw [nth_eq] at hL hD
  obtain ⟨v, hv, hr⟩ := hn.env t _ hg
  have hev : a.eval (.tmp t) = v := by simp [Act.eval, hv]
  cases hr with
  | @fn _ _ _ fs cs h1 h2 h3 h4 =>
    have hfs : fs = #[] := by
      apply Array.eq_empty_of_size_eq_zero
      simpa using h1
    subst hfs
    refine (wpIn_wide (n := 0)).1 (wpIn_rangeFunc fun fn hfn => ?_)
    obtain ⟨hs1, hE1⟩ := hn.st.push (.deferred (some [])) .defd 0 fun μ' w' hE hb => .defd hb
    obtain ⟨rec, hrec⟩ : ∃ rec : Loop, rec = { state := .ready, pending := none, fn, tmps := a.tmps, params := ps, assign := A, body := B, defers := w.heap.size } := ⟨_, rfl⟩
    obtain ⟨hs2, hE2⟩ := hs1.push (.loop rec) (.loop false n env ps A B) 0 fun μ' w' hE hb => by
      refine .loop hb (by rw [hrec]; rfl) (by rw [hrec]) (by rw [hrec]) (by rw [hrec]) (by rw [hrec]) (by rw [hrec]; exact hn.size) fun t x ht => ?_
      obtain ⟨v, hv, hr⟩ := hn.env t x ht
      exact ⟨v, by rw [hrec]; exact hv, (hr.ext hE1).ext hE⟩
    have hsz : (w.alloc (.deferred (some []))).heap.size = w.heap.size + 1 := by simp
    have hmid : ((μ ++ [⟨some w.heap.size, 0⟩]) ++ [⟨some (w.alloc (.deferred (some []))).heap.size, 0⟩])[d + 1]? = some ⟨some (w.heap.size + 1), 0⟩ := by
      rw [List.getElem?_append_right (by simp; omega), hsz]; simp [hlen, hd]
    have hmid0 : ((μ ++ [⟨some w.heap.size, 0⟩]) ++ [⟨some (w.alloc (.deferred (some []))).heap.size, 0⟩])[d]? = some ⟨some w.heap.size, 0⟩ := by
      rw [List.append_assoc, List.getElem?_append_right (by omega)]; simp [hlen, hd]
    have eH : (H ++ [LObj.defd]) ++ [LObj.loop false n env ps A B] = H ++ [.defd, .loop false n env ps A B] := by simp
    rw [eH] at hs2
    have hE12 : Ext μ.length μ I w _ I _ := hE1.trans (hE2.weak (by simp))
    refine ⟨w.heap.size + 1, [{ target := .collected w.heap.size, args := #[] }], (w.alloc (.deferred (some []))).alloc (.loop rec), { target := .fn (.func gf) cs, args := #[.func (.yield (w.heap.size + 1)) #[] #[]] },
      (w.alloc (.deferred (some []))).alloc (.loop rec), gf, #[.func (.yield (w.heap.size + 1)) #[] #[]] ++ cs, (w.alloc (.deferred (some []))).alloc (.loop rec), ?_, ?_, fun _ _ => trivial, ?_, (fun e => nomatch (show false = true from e)), ?_⟩
    · rw [hrec]; exact run_enterLoop_outer _ _ _ _ _
    · simp only [resolve, hev]
      simp [go_sem]
    · unfold callable at hcall
      cases hfn : P.funcs[gf]? with
      | none => rw [hfn] at hcall; simp at hcall
      | some fn' =>
        rw [hfn] at hcall
        simp only [Option.any_some, Bool.and_eq_true, bne_iff_ne, ne_eq] at hcall
        have hnb : ¬ fn'.body = none := by intro hb; rw [hb] at hcall; simp at hcall
        simp [invoke, callFunc, hfn]
        rw [if_neg hcall.1, if_neg hnb]
    · refine (callsIn_wide (n := 0 - 1)).2 ((hc _ _ _ I hs2 ?_).mono ?_)
      · have e : (#[Value.func (.yield (w.heap.size + 1)) #[] #[]] ++ cs).toList = .func (.yield (w.heap.size + 1)) #[] #[] :: cs.toList := by simp
        rw [e]
        refine ⟨.yld hmid, LRepL.mk (by simpa using h2) fun i x v hx hv => ?_⟩
        exact (h4 i x v hx (by simpa using hv)).ext hE12
      · rintro e w3 ⟨x, v3, H2', μ3, I3, rfl, ⟨e1, e2⟩, hs3, -, hE3⟩
        rw [e2] at hs3
        have hm3 := hE3.same (by simp; omega) hmid
        have hm30 := hE3.same (by simp; omega) hmid0
        have hob := hs3.objs _ _ _ hL hm3
        cases hob with
        | @loop _ _ _ _ _ _ _ r3 hb3 hst3 hpe3 hps3 hAs3 hBs3 hnn3 hen3 =>
          have hlt3 := (Array.getElem?_eq_some_iff.1 hb3).1
          have hend := run_endLoop (P := P) hb3 (by rw [hst3]; simp)
          rw [hpe3] at hend
          refine ⟨none, _, hend, ?_⟩
          obtain ⟨hs4, hE4⟩ := hs3.write (o := .dead) hm3 (w' := w3.putObj (w.heap.size + 1) (.loop { r3 with state := .exhausted, pending := none })) (fun c hc => World.putObj_heap_other hc) (by simp [World.putObj]) rfl rfl rfl (fun c e f h => by rw [hb3] at h; cases h) (fun _ => .dead)
          have e3 := (setC_eq hH3).1
          subst e3
          have hEall : Ext μ.length μ I w μ3 I3 (w3.putObj (w.heap.size + 1) (.loop { r3 with state := .exhausted, pending := none })) :=
            hE12.trans ((hE3.weak (by simp)).trans (hE4.weak (by have := hE3.len'; simp at this; omega)))
          refine hQ (some d) .normal env _ _ _ μ3 I3 hq ⟨hn.size, ⟨w.heap.size, hm30, ?_, ?_⟩, hs4, fun t x ht => ?_⟩ (hEall.weak hk)
          · rw [List.getElem?_set_ne (by omega)]; exact hD
          · show [_] ++ a.defers = _
            rw [hdef]; rfl
          · obtain ⟨v, hv, hr⟩ := hn.env t x ht
            exact ⟨v, hv, hr.ext hEall⟩
/-- The end of a function in which a range over a function was. -/
def FinM (P : Program) (fn : Func) (k : Nat) (R : LV → List LObj → Prop) : Option Nat → Exit → Env → List LObj → Prop
  | none, e, env, H => Fin P fn k R e env H
  | some d, e, env, H => (e = .normal ∨ e = .ret) ∧ ∃ H0 env' H' x, setC H d .dead = some H0 ∧ Weak k env' H' env H0 ∧ ResAll P env' H' fn.results x ∧ R x H'
theorem LC.ofM {f : FuncId} {fn : Func} {c : Code} {als : List LV} {R : LV → List LObj → Prop} {e : Env} (hf : P.funcs[f]? = some fn) (hb : fn.body = some c)
    (hn : Nat.ble als.length fn.ntmps = true) (he : penvC 0 als = some e) (h : LWm P fn.ntmps H.length none c e H (FinM P fn H.length R)) : LC P f als H R := by
  have e1 := penvC_eq he
  subst e1
  intro args w μ I hs ha
  have hnow := start_now (fn := fn) hs ha (by simpa using hn)
  refine (callsIn_wide (n := 0)).1 (callsIn_of_wp_marks (F := Fence.wide) (n := 0) hf hb trivial ((wpIn_wide (n := 0)).2 (h _ w μ I ⟨hnow.size, hnow.defers, hnow.st, hnow.env⟩ (by rw [hs.len]; exact Nat.le_refl _) _ ?_)))
  rintro m e env' H' a' w' μ' I' hfin hn' hE
  cases m with
  | none =>
    have hdef : a'.defers = [] := hn'.defers
    have hn2 : Now fn.ntmps μ' I' w' H' env' a' := ⟨hn'.size, hdef, hn'.st, hn'.env⟩
    obtain ⟨hee, ⟨x, hres, hR⟩ | ⟨env'', H'', x, hw, hres, hR⟩⟩ := hfin
    · obtain ⟨v, hrun, hv⟩ := hres.run hn2
      have hE2 := hE
      rw [← hs.len] at hE2
      rcases hee with rfl | rfl <;> (show LeavesInM _ _ _ _ _ _ a'.defers _ _; rw [hdef]; exact ⟨v, hrun, x, v, H', μ', I', rfl, hR, hn'.st, hv, hE2⟩)
    · obtain ⟨μ'', hn'', hE'⟩ := hn2.weak hw hE.len'
      obtain ⟨v, hrun, hv⟩ := hres.run hn''
      have hE2 := hE.trans hE'
      rw [← hs.len] at hE2
      rcases hee with rfl | rfl <;> (show LeavesInM _ _ _ _ _ _ a'.defers _ _; rw [hdef]; exact ⟨v, hrun, x, v, H'', μ'', I', rfl, hR, hn''.st, hv, hE2⟩)
  | some d =>
    obtain ⟨hee, H0, env'', H'', x, hH0, hw, hres, hR⟩ := hfin
    obtain ⟨D, hm, hHd, hdf⟩ := hn'.defers
    have e0 := (setC_eq hH0).1
    subst e0
    have hob := hn'.st.objs _ _ _ hHd hm
    cases hob with
    | defd hbD =>
      have hlt := (Array.getElem?_eq_some_iff.1 hbD).1
      obtain ⟨hs4, hE4⟩ := hn'.st.write (o := .dead) hm (w' := w'.putObj D (.deferred none)) (fun c hc => World.putObj_heap_other hc) (by simp [World.putObj]) rfl rfl rfl (fun c e f h => by rw [hbD] at h; cases h) (fun _ => .dead)
      have hn2 : Now fn.ntmps μ' I' (w'.putObj D (.deferred none)) (H'.set d .dead) env' { a' with defers := [] } := ⟨hn'.size, rfl, hs4, fun t x ht => let ⟨v, hv, hr⟩ := hn'.env t x ht; ⟨v, hv, hr.ext hE4⟩⟩
      have hEw := hE.trans (hE4.weak hE.len')
      obtain ⟨μ'', hn'', hE'⟩ := hn2.weak hw hE.len'
      obtain ⟨v, hrun, hv⟩ := hres.run hn''
      have hE2 := hEw.trans hE'
      rw [← hs.len] at hE2
      have fin : LeavesInM Fence.wide 0 P fn a'.tmps (fun e w'' => ∃ x v H' μ' I', e = .returned v ∧ R x H' ∧ St μ' I' w'' H' ∧ LRep μ' I' w'' x v ∧ Ext μ.length μ I w μ' I' w'') a'.defers .returning w' := by
        rw [hdf]
        exact ⟨by simp, .inl ⟨D, _, rfl, run_takeDeferred hbD, v, hrun, x, v, H'', μ'', I', rfl, hR, hn''.st, hv, hE2⟩⟩
      rcases hee with rfl | rfl <;> exact fin
end
/-- What a range over a function does in each round: the assignment, and the body. -/
def rfParts : Code → Option (Code × Code)
  | .seq a b => match rfParts a with | some x => some x | none => rfParts b
  | .block _ c => rfParts c
  | .rangeFunc _ _ a c => some (a, c)
  | _ => none
def rfA (c : Option Code) : Code := match c with | some c => (match rfParts c with | some x => x.1 | none => .skip) | none => .skip
def rfB (c : Option Code) : Code := match c with | some c => (match rfParts c with | some x => x.2 | none => .skip) | none => .skip
theorem LRep.imono {μ : List Blk} {I I' : Nat → Prop} {w : World} {x : LV} {v : Value} (h : LRep μ I w x v) (hI : ∀ b, I b → I' b) : LRep μ I' w x v := by
  have hi : ∀ b, I b → I' b ∧ w.heap[b]? = w.heap[b]? := fun b h => ⟨hI b h, rfl⟩
  induction h with
  | p h => exact .p (h.mono hi)
  | agg hl ho h ih => exact .agg hl ho fun i c v hc hv => ih i c v hc hv
  | tup hl h ih => exact .tup hl fun i c v hc hv => ih i c v hc hv
  | ptr h => exact .ptr h
  | cptr f h1 h2 => exact .cptr f (hI _ h1) fun i c hc => ⟨(h2 i c hc).1, (h2 i c hc).2.1, (h2 i c hc).2.2.mono hi⟩
  | vec h h1 hn hf => exact .vec h h1 hn hf
  | vptr h h1 hn hf => exact .vptr h h1 hn hf
  | zs => exact .zs
  | map h => exact .map h
  | nilmap => exact .nilmap
  | fn h1 h2 h3 h4 ih1 ih2 => exact .fn h1 h2 (fun i c v hc hv => ih1 i c v hc hv) (fun i c v hc hv => ih2 i c v hc hv)
  | any => exact .any
  | yld h => exact .yld h
  | fptr h1 hc ho h ih => exact .fptr (hI _ h1) hc ho ih
theorem ORep.imono {μ : List Blk} {I I' : Nat → Prop} {w : World} {o : LObj} {B : Blk} (h : ORep μ I w o B) (hI : ∀ b, I b → I' b) : ORep μ I' w o B := by
  have hi : ∀ b, I b → I' b ∧ w.heap[b]? = w.heap[b]? := fun b h => ⟨hI b h, rfl⟩
  cases h with
  | box h1 h2 h3 h4 => exact .box h1 h2 h3 fun i c v hc hv => (h4 i c v hc hv).imono hI
  | vecE => exact .vecE
  | vec h1 h2 h3 h4 h5 => exact .vec h1 h2 h3 h4 fun i c v hc hv => (h5 i c v hc hv).mono hi
  | map h1 h2 h3 h4 h5 => exact .map h1 h2 (fun i c e hc he => ⟨(h3 i c e hc he).1.mono hi, (h3 i c e hc he).2.imono hI⟩) h4 h5
  | dead => exact .dead
  | slot => exact .slot
  | loop h1 hs hp hps hA hB hn he => exact .loop h1 hs hp hps hA hB hn fun t x ht => let ⟨v, h2, h3⟩ := he t x ht; ⟨v, h2, h3.imono hI⟩
  | defd h1 => exact .defd h1
theorem ORep.lows {μ : List Blk} {I : Nat → Prop} {w : World} {o : LObj} {B : Blk} (h : ORep μ I w o B) : o.Low μ.length := by
  cases h with
  | box h1 h2 h3 h4 =>
    intro c hc
    obtain ⟨i, hi, rfl⟩ := List.mem_iff_getElem.1 hc
    exact (h4 i _ _ (List.getElem?_eq_getElem hi) (Array.getElem?_eq_getElem (by omega))).lows
  | vecE => trivial
  | vec => trivial
  | map h1 h2 h3 h4 h5 =>
    intro e he
    obtain ⟨i, hi, rfl⟩ := List.mem_iff_getElem.1 he
    exact (h3 i _ _ (List.getElem?_eq_getElem hi) (Array.getElem?_eq_getElem (by omega))).2.lows
  | dead => trivial
  | slot => trivial
  | loop h1 hs hp hps hA hB hn he => exact fun t x ht => let ⟨_, _, h3⟩ := he t x ht; h3.lows
  | defd => trivial
theorem St.low {μ : List Blk} {I : Nat → Prop} {w : World} {H : List LObj} (h : St μ I w H) : ∀ o ∈ H, o.Low H.length := by
  intro o ho
  obtain ⟨i, hi, rfl⟩ := List.mem_iff_getElem.1 ho
  rw [← h.len]
  exact (h.objs i _ _ (List.getElem?_eq_getElem hi) (List.getElem?_eq_getElem (by rw [h.len]; exact hi))).lows
section
variable {P : Program} {n k : Nat} {env : Env} {H : List LObj}
theorem LWm.weak {Q : Option Nat → Exit → Env → List LObj → Prop} {c : Code} {env' : Env} {H' : List LObj} (hw : Weak k env' H' env H) (h : LWm P n k none c env' H' Q) : LWm P n k none c env H Q := by
  intro a w μ I hn hk Q' hq
  obtain ⟨μ', hn', hE⟩ := Now.weak (n := n) ⟨hn.size, hn.defers, hn.st, hn.env⟩ hw hk
  exact h a w μ' I ⟨hn'.size, hn'.defers, hn'.st, hn'.env⟩ hE.len' Q' fun m' e env'' H'' a' w' μ'' I'' q hn'' hE' => hq m' e env'' H'' a' w' μ'' I'' q hn'' (hE.trans hE')
theorem thnM_n {R : Option Nat → Env → List LObj → Prop} {Q : Option Nat → Exit → Env → List LObj → Prop} {m : Option Nat} (h : R m env H) : thnM R Q m .normal env H := h
theorem LWm.ent {Q : Option Nat → Exit → Env → List LObj → Prop} {c : Code} {env' : Env} {H' : List LObj} (h : Ent k env H env' H') (hw : LWm P n k none c env' H' Q) : LWm P n k none c env H Q := by
  intro a w μ I hn hk Q' hq
  obtain ⟨μ', I', hn', hE⟩ := h n μ I w a ⟨hn.size, hn.defers, hn.st, hn.env⟩ hk
  exact hw a w μ' I' ⟨hn'.size, hn'.defers, hn'.st, hn'.env⟩ hE.len' Q' fun m' e env'' H'' a' w' μ'' I'' q hn'' hE' => hq m' e env'' H'' a' w' μ'' I'' q hn'' (hE.trans hE')
theorem LWm.ret {Q : Option Nat → Exit → Env → List LObj → Prop} {m : Option Nat} (h : Q m .ret env H) : LWm P n k m .ret env H Q :=
  fun a w μ I hn hk _ hq => wp_ret (hq m .ret env H a w μ I h hn (Ext.refl _ _ _ _ hk))
/-- What an unchanged cell holds. -/
theorem LOp.loadF {o : Oper} {t : TypeId} {p : Operand} {x : LV} (ho : o.op = .load t p) (hp : lev env p = some (.fptr x)) (hT : varTy P t = some (1, false)) : LOp P o env H (Is x H) :=
  LOp.val fun a w μ I hst he => by
    have hr := he.ev (x := p) (by simp [ho, Op.operands]) hp
    generalize hv : a.eval p = v at hr
    cases hr with
    | @fptr _ b off u hI hc h1 h =>
      have hload := run_loadVar (P := P) (w := w) hT b off (fun _ => u) (fun i hi => by
        obtain rfl : i = 0 := by omega
        exact hc)
      refine ⟨_, by simp only [execOp, ho, Instr.loadAt, hv, Instr.sureAddr]; simp [hload]; rfl, ?_⟩
      simpa using h
/-- A function that lays its two arguments down for good, and hands back a closure over them. -/
theorem LC.those {f g : FuncId} {fn : Func} {c : Code} {cs : List PV} {x z : LV} {e : Env} (hf : P.funcs[f]? = some fn) (hb : fn.body = some c) (hn : Nat.ble 2 fn.ntmps = true) (he : penvC 0 [z, x] = some e)
    (h : LW P fn.ntmps H.length c e H (fun ex env' H' => (ex = .normal ∨ ex = .ret) ∧ H' = H ++ [.box (cs.map .p), .box [x]] ∧ ResAll P env' H' fn.results (.fn g [] [.ptr H.length 0, .ptr (H.length + 1) 0]))) :
    LC P f [z, x] H (Is (.fn g [] [.cptr cs, .fptr x]) H) := by
  have e1 := penvC_eq he
  subst e1
  intro args w μ I hs ha
  have hnow := start_now (fn := fn) hs ha (by simpa using hn)
  refine calls_of_wp hf hb (h _ w μ I hnow (by rw [hs.len]; exact Nat.le_refl _) _ ?_)
  rintro ex env' H' a' w' μ' I' ⟨hee, rfl, hres⟩ hn' hE
  obtain ⟨v, hrun, hv⟩ := hres.run hn'
  rw [← hs.len] at hE hv
  have hlen' := hn'.st.len
  have hlen := hs.len
  simp only [List.length_append, List.length_cons, List.length_nil] at hlen'
  have hxlow : LV.Low μ.length x := by
    match args.toList, ha with
    | [_, _], ha => exact ha.2.1.lows
  -- the two blocks
  have key : ∀ (i : Nat) (o : LObj), [LObj.box (cs.map .p), .box [x]][i]? = some o → ∃ B, μ'[μ.length + i]? = some B ∧ ORep μ' I' w' o B := by
    intro i o ho
    have hi := (List.getElem?_eq_some_iff.1 ho).1
    simp at hi
    have hB : μ'[μ.length + i]? = some μ'[μ.length + i] := List.getElem?_eq_getElem (by omega)
    exact ⟨_, hB, hn'.st.objs _ _ _ (by rw [List.getElem?_append_right (by omega)]; rw [show μ.length + i - H.length = i by omega]; exact ho) hB⟩
  obtain ⟨B1, hm1, ho1⟩ := key 0 _ rfl
  obtain ⟨B2, hm2, ho2⟩ := key 1 _ rfl
  rw [Nat.add_zero] at hm1
  cases ho1 with
  | @box _ b1 vs1 t1 hb1 hl1 hq1 hr1 =>
    cases ho2 with
    | @box _ b2 vs2 t2 hb2 hl2 hq2 hr2 =>
      have hmlen : μ.length + 2 = μ'.length := by omega
      have hown1 : Own μ' b1 := .mk hm1
      have hown2 : Own μ' b2 := .mk hm2
      obtain ⟨I2, hI2⟩ : ∃ I2 : Nat → Prop, I2 = fun b => I' b ∨ b = b1 ∨ b = b2 := ⟨_, rfl⟩
      have hsub : ∀ b, I' b → I2 b := fun b h => by rw [hI2]; exact .inl h
      have hcut := hn'.st.cut (j := μ.length) (by simp; omega) (by
        rw [List.take_left' hlen.symm, hlen]; exact hs.low)
      rw [List.take_left' hlen.symm] at hcut
      have hnot : ∀ (b : Blk) (i : Nat), (μ'.take μ.length)[i]? = some b → b.b ≠ some b1 ∧ b.b ≠ some b2 := by
        rintro ⟨b, q⟩ i hi
        have hil := (List.getElem?_eq_some_iff.1 hi).1
        rw [List.length_take] at hil
        rw [List.getElem?_take_of_lt (by omega)] at hi
        refine ⟨?_, ?_⟩
        · rintro rfl; have := hn'.st.inj _ _ _ _ _ hi hm1; omega
        · rintro rfl; have := hn'.st.inj _ _ _ _ _ hi hm2; omega
      have hst : St (μ'.take μ.length) I2 w' H :=
        { len := hcut.len
          inj := hcut.inj
          lt := hcut.lt
          off := fun b hb hi => by
            rw [hI2] at hi
            rcases hi with hi | rfl | rfl
            · exact hcut.off b hb hi
            · obtain ⟨q, hq⟩ := hb
              obtain ⟨i, hi⟩ := mem_get hq
              exact (hnot _ i hi).1 rfl
            · obtain ⟨q, hq⟩ := hb
              obtain ⟨i, hi⟩ := mem_get hq
              exact (hnot _ i hi).2 rfl
          ilt := fun b hi => by
            rw [hI2] at hi
            rcases hi with hi | rfl | rfl
            · exact hcut.ilt b hi
            · exact hn'.st.lt _ hown1
            · exact hn'.st.lt _ hown2
          objs := fun i o B ho hB => (hcut.objs i o B ho hB).imono hsub }
      have hExt : Ext μ.length μ I w (μ'.take μ.length) I2 w' :=
        { get := fun i B hi hb => by
            obtain ⟨B', h1, h2⟩ := hE.get i B hi hb
            exact ⟨B', by rw [List.getElem?_take_of_lt hi]; exact h1, h2⟩
          len := Nat.le_refl _
          len' := by rw [List.length_take]; omega
          os := hE.os
          tape := hE.tape
          output := hE.output
          size := hE.size
          imm := fun b hb => ⟨hsub b (hE.imm b hb).1, (hE.imm b hb).2⟩
          shape := hE.shape
          inew := fun b hi => by
            rw [hI2] at hi
            rcases hi with hi | rfl | rfl
            · exact hE.inew b hi
            · exact .inr (hE.mnew _ hown1)
            · exact .inr (hE.mnew _ hown2)
          mnew := fun b ⟨q, hq⟩ => hE.mnew b ⟨q, List.mem_of_mem_take hq⟩
          keep := hE.keep }
      have hcell : ∀ {b : Nat} {vs : Array Value} {t : TypeId}, w'.heap[b]? = some (.cells vs t (0, 0)) → ∀ i u, vs[i]? = some u → w'.cell? ⟨b, 0 + i, none⟩ = some u := fun hb i u hu => by
        simp [World.cell?, hb, hu]
      have hv2 : LRep (μ'.take μ.length) I2 w' (.fn g [] [.cptr cs, .fptr x]) v := by
        cases hv with
        | @fn _ _ _ fs ws h1 h2 h3 h4 =>
          refine .fn h1 (by simpa using h2) (fun i c v hc => by simp at hc) fun i c v hc hw => ?_
          match i, hc with
          | 0, hc =>
            cases hc
            have := h4 0 _ v rfl hw
            cases this with
            | ptr hp =>
              rw [hm1] at hp
              cases hp
              refine .cptr (fun i => (vs1[i]?).getD undef) (by rw [hI2]; exact .inr (.inl rfl)) fun i c hc => ?_
              have hi := (List.getElem?_eq_some_iff.1 hc).1
              obtain ⟨u, hu⟩ : ∃ u, vs1[i]? = some u := ⟨_, Array.getElem?_eq_getElem (by simp at hl1; omega)⟩
              have hrr := hr1 i (.p c) _ (by rw [List.getElem?_map, hc]; rfl) hu
              have hone := hq1 _ (Array.mem_of_getElem? hu)
              rw [hu]
              refine ⟨?_, hcell hb1 i _ hu, ?_⟩
              · cases hrr with | p hr => cases hr <;> first | trivial | cases hone
              · cases hrr with | p hr => exact hr.mono fun b h => ⟨hsub b h, rfl⟩
          | 1, hc =>
            cases hc
            have := h4 1 _ v rfl hw
            cases this with
            | ptr hp =>
              rw [hm2] at hp
              cases hp
              obtain ⟨u, hu⟩ : ∃ u, vs2[0]? = some u := ⟨_, Array.getElem?_eq_getElem (by simp at hl2; omega)⟩
              refine .fptr (by rw [hI2]; exact .inr (.inr rfl)) (hcell hb2 0 _ hu) (hq2 _ (Array.mem_of_getElem? hu)) ?_
              exact ((hr2 0 x _ rfl hu).cut (j := μ.length) (by omega) hxlow).imono hsub
          | i + 2, hc => simp at hc
      rcases hee with rfl | rfl <;> exact ⟨hn'.defers, v, hrun, _, v, H, _, I2, rfl, ⟨rfl, rfl⟩, hst, hv2, hExt⟩
end
section
variable {P : Program} {o : Oper} {env : Env} {H : List LObj}
/-- 'a[:]' of an array in a box of one's own. -/
theorem LOp.sliceBox {t : TypeId} {x : Operand} {n id : Nat} {ag : Bool} {cs : List LV} (ho : o.op = .slice t x none none none) (hx : lev env x = some (.ptr id 0)) (hT : arrTy P t = some (n, 1, ag))
    (hH : nth H id = some (.box cs)) (hl : lenC cs = some n) (hn : Nat.ble n 1000 = true) : LOp P o env H (Is (.vec 1 id 0 0 n) H) :=
  LOp.val fun a w μ I hst he => by
    have hr := he.ev (x := x) (by simp [ho, Op.operands]) hx
    generalize hv : a.eval x = v at hr
    obtain ⟨e, hu, hvar⟩ := arrTy_spec hT
    have hsz := (run_isAgg_var (P := P) (w := w) hvar).2.1
    have hn' := Nat.le_of_ble_eq_true hn
    have hlen := lenC_eq hl
    cases hr with
    | @ptr _ _ b hid =>
      rw [nth_eq] at hH
      have hb := hst.objs id _ _ hH hid
      cases hb with
      | @box _ _ vs e' hb hvl ho1 hcs =>
        refine ⟨.slice (some ⟨b, 0, none⟩) n n, ?_, ?_⟩
        · simp only [execOp, ho, hv, Option.map_none, Instr.sliceAt]
          simp [run_underlying hu, Instr.sureAddr, Instr.sliceBounds, hsz, Addr.add]
        · refine .vec hid rfl (Nat.zero_le _) fun _ => .inr ⟨b, n, rfl, rfl, Nat.le_refl _, by unfold maxLen; omega, vs, e', hb, by rw [hvl, hlen]; omega⟩
theorem Conv.boxSlice {id n : Nat} {cs : List LV} {xs : List PV} (hH : nth H id = some (.box cs)) (hx : mapP xs = some cs) (hn : n = xs.length) (he : onesB xs = true) : Conv true H (.vec 1 id 0 0 n) (.slice 1 xs) := by
  intro μ I w v hs h
  obtain rfl := mapP_eq hx
  have h1s := onesB_spec he
  have hc1 : ∀ x ∈ xs, x.cells = [x] := fun x hx => by
    have := h1s x hx
    cases x with
    | agg cs => exact this.elim
    | int k n => rfl
    | bool b => rfl
    | slice m zs => rfl
  have hm : Elems 1 xs := fun x hx => by
    rw [hc1 x hx]
    exact ⟨rfl, fun c hc => by rw [List.mem_singleton] at hc; subst hc; exact h1s _ hx⟩
  cases h with
  | @vec _ _ _ _ _ B _ hid h1 hnB hf =>
    rw [nth_eq] at hH
    have hb := hs.objs id _ _ hH hid
    cases hb with
    | @box _ b vs e' hb hvl ho1 hcs =>
      rcases hf rfl with ⟨rfl, a, rfl⟩ | ⟨b', cap, hB, rfl, hlc, hmax, c', e'', hb', hsz⟩
      · have : xs = [] := List.length_eq_zero_iff.1 hn.symm
        subst this
        exact .slice (fun _ => undef) rfl (Nat.le_refl _) (Nat.zero_le _) .nil (fun i c h => by simp [flat] at h) (fun i c h => by simp [flat] at h)
      · cases hB
        subst hn
        have hfl : ∀ (i : Nat) c, (flat xs)[i]? = some c → xs[i]? = some c := by
          intro i c hi
          have hone : ∀ (l : List PV), (∀ x ∈ l, x.cells = [x]) → flat l = l := by
            intro l
            induction l with
            | nil => intro _; rfl
            | cons y r ih =>
              intro hl
              rw [flat_cons, ih fun x hx => hl x (.tail _ hx), hl y (.head _)]; rfl
          rw [hone xs hc1] at hi; exact hi
        have hcell : ∀ (i : Nat) c, xs[i]? = some c → ∃ u, vs[i]? = some u := by
          intro i c hi
          have h1 := (List.getElem?_eq_some_iff.1 hi).1
          rw [List.length_map] at hvl
          exact ⟨_, Array.getElem?_eq_getElem (by omega)⟩
        refine .slice (fun i => vs.getD i undef) rfl hlc hmax hm (fun i c hi => ?_) (fun i c hi => ?_)
        · obtain ⟨u, hu⟩ := hcell _ c (hfl i c hi)
          refine ⟨b, 1 * 0, rfl, .inr ⟨rfl, ⟨_, List.mem_of_getElem? hid⟩⟩, ?_⟩
          simp [World.cell?, hb, hu]
        · obtain ⟨u, hu⟩ := hcell _ c (hfl i c hi)
          have := hcs i (.p c) u (by simp [hfl i c hi]) hu
          simp only [Array.getD_eq_getD_getElem?, hu, Option.getD_some]
          cases this with
          | p h => exact h.mono fun c hc => ⟨.inl hc, rfl⟩
end
theorem ORep.cut {μ : List Blk} {I : Nat → Prop} {w : World} {j : Nat} {o : LObj} {B : Blk} (h : ORep μ I w o B) (hj : j ≤ μ.length) (hlo : o.Low j) : ORep (μ.take j) I w o B := by
  cases h with
  | box h1 h2 h3 h4 => exact .box h1 h2 h3 fun i c v hc hv => (h4 i c v hc hv).cut hj (hlo c (List.mem_of_getElem? hc))
  | vecE => exact .vecE
  | vec h1 h2 h3 h4 h5 => exact .vec h1 h2 h3 h4 h5
  | map h1 h2 h3 h4 h5 => exact .map h1 h2 (fun i c e hc he => ⟨(h3 i c e hc he).1, (h3 i c e hc he).2.cut hj (hlo c (List.mem_of_getElem? hc))⟩) h4 h5
  | dead => exact .dead
  | slot => exact .slot
  | loop h1 hs hp hps hA hB hn he => exact .loop h1 hs hp hps hA hB hn fun t x ht => let ⟨v, h2, h3⟩ := he t x ht; ⟨v, h2, h3.cut hj (hlo t x ht)⟩
  | defd h1 => exact .defd h1
section
variable {P : Program} {o : Oper} {env : Env} {H : List LObj}
theorem Agree.all {H H' : List LObj} {F : List Nat} (h : Agree F H H') (hF : ∀ i, i < H.length → i ∈ F) : H' = H := by
  apply List.ext_getElem?
  intro i
  by_cases hi : i < H.length
  · exact h.at_ i (hF i hi)
  · rw [List.getElem?_eq_none (by rw [h.len]; omega), List.getElem?_eq_none (by omega)]
def upTo : Nat → List Nat
  | 0 => []
  | n + 1 => n :: upTo n
theorem upTo_mem {i : Nat} : ∀ {n : Nat}, i < n → i ∈ upTo n
  | n + 1, h => by
    unfold upTo
    by_cases e : i = n
    · subst e; exact .head _
    · exact .tail _ (upTo_mem (by omega))
/-- An operation that looks at all objects, and writes one. -/
theorem LAt.all {s : Option (Nat × LObj)} {x : LV} {H1 : List LObj} {m : Nat} {F : List Nat} (h : LOp P o env H (Is x H1)) (hm : lenC H = some m) (hF : F = upTo m) (hH : wsetC H s = some H1) : LAt P o env H F s x := by
  intro H' ha
  obtain rfl := lenC_eq hm
  obtain rfl := ha.all (by subst hF; exact fun i hi => upTo_mem hi)
  rw [wsetC_eq hH]
  exact h
end
open Go.Proofs
theorem nth_setC {α : Type} : ∀ {l s : List α} {i : Nat} {y : α}, setC l i y = some s → nth s i = some y
  | x :: r, s, 0, y, h => by cases h; rfl
  | x :: r, s, i + 1, y, h => by
    simp only [setC] at h
    split at h
    · rename_i q hq
      cases h
      show nth q i = some y
      exact nth_setC hq
    · cases h
  | [], s, 0, y, h => by cases h
  | [], s, i + 1, y, h => by cases h
theorem xm145 : (Tryz.f55.name == "runtime.NumGoroutine") = false := by kernel_rfl
theorem xn145 : Extern.findNext Tryz.f55 = none := by kernel_rfl
theorem xe145 : Extern.find Tryz.f55 = some (Extern.Atomic.loadT (.int .i64)) := by kernel_rfl
theorem xm174 : (Tryz.f93.name == "runtime.NumGoroutine") = false := by kernel_rfl
theorem xn174 : Extern.findNext Tryz.f93 = none := by kernel_rfl
theorem xe174 : Extern.find Tryz.f93 = some (Extern.Atomic.update (Op.intArith .add) .i64 true) := by kernel_rfl
theorem xm176 : (Tryz.f104.name == "runtime.NumGoroutine") = false := by kernel_rfl
theorem xn176 : Extern.findNext Tryz.f104 = none := by kernel_rfl
theorem xe176 : Extern.find Tryz.f104 = some (Extern.Atomic.loadT (.int .u32)) := by kernel_rfl
theorem xm182 : (Tryz.f113.name == "runtime.NumGoroutine") = false := by kernel_rfl
theorem xn182 : Extern.findNext Tryz.f113 = none := by kernel_rfl
theorem xe182 : Extern.find Tryz.f113 = some (Extern.Atomic.storeT) := by kernel_rfl
theorem xm184 : (Tryz.f125.name == "runtime.NumGoroutine") = false := by kernel_rfl
theorem xn184 : Extern.findNext Tryz.f125 = none := by kernel_rfl
theorem xe184 : Extern.find Tryz.f125 = some (fun _ => do mark .disable; pure Extern.Race.none_) := by kernel_rfl
theorem xm185 : (Tryz.f126.name == "runtime.NumGoroutine") = false := by kernel_rfl
theorem xn185 : Extern.findNext Tryz.f126 = none := by kernel_rfl
theorem xe185 : Extern.find Tryz.f126 = some (Extern.Atomic.casT (.int .i32)) := by kernel_rfl
theorem xm186 : (Tryz.f127.name == "runtime.NumGoroutine") = false := by kernel_rfl
theorem xn186 : Extern.findNext Tryz.f127 = none := by kernel_rfl
theorem xe186 : Extern.find Tryz.f127 = some (fun _ => do mark .enable; pure Extern.Race.none_) := by kernel_rfl
theorem xm187 : (Tryz.f128.name == "runtime.NumGoroutine") = false := by kernel_rfl
theorem xn187 : Extern.findNext Tryz.f128 = none := by kernel_rfl
theorem xe187 : Extern.find Tryz.f128 = some (Extern.Race.marked .acquire) := by kernel_rfl
theorem xm189 : (Tryz.f130.name == "runtime.NumGoroutine") = false := by kernel_rfl
theorem xn189 : Extern.findNext Tryz.f130 = none := by kernel_rfl
theorem xe189 : Extern.find Tryz.f130 = some (Extern.Race.marked .releaseMerge) := by kernel_rfl
theorem xm190 : (Tryz.f131.name == "runtime.NumGoroutine") = false := by kernel_rfl
theorem xn190 : Extern.findNext Tryz.f131 = none := by kernel_rfl
theorem xe190 : Extern.find Tryz.f131 = some (Extern.Atomic.update (Op.intArith .add) .i32 true) := by kernel_rfl
theorem pconv : ptrConv Tryz.prog 203 207 = true := by kernel_rfl
set_option maxRecDepth 100000 in
theorem c172 {off : Nat} {n : Int} {cs : List LV} {H : List LObj} (hH : nth H 0 = some (.box cs)) (h0 : nth cs (off + 0) = some (.p (.int .u32 n))) : LC Tryz.prog 91 [.ptr 0 off] H (Is (.p (.bool (n != 0))) H) := by
  refine LC.start Tryz.func91 rfl rfl rfl ?_
  refine LW.seq ?_
  refine LW.region ?_
  refine LOps.st rfl rfl rfl (LOp.assign rfl rfl) ?_
  refine LOps.nil ?_
  refine thn_n ?_
  refine LW.seq ?_
  refine LW.region ?_
  refine LOps.st rfl rfl rfl (LOp.move rfl rfl) ?_
  refine LOps.st rfl rfl rfl (LOp.nilCheck rfl rfl) ?_
  refine LOps.st rfl rfl rfl (LOp.fieldAddr rfl rfl ft106_1) ?_
  refine LOps.st rfl rfl rfl (LOp.atomLoad (P := Tryz.prog) (f := 104) (fn := Tryz.f104) rfl rfl rfl Tryz.func104 rfl xm176 xn176 xe176 hH h0) ?_
  refine LOps.st rfl rfl rfl (LOp.bin rfl rfl rfl rfl) ?_
  refine LOps.st rfl rfl rfl (LOp.assign rfl rfl) ?_
  refine LOps.nil ?_
  refine thn_n ?_
  refine LW.ret ?_
  refine fin_ret (.one (.tmp rfl)) ?_
  exact ⟨rfl, rfl⟩
set_option maxRecDepth 100000 in
theorem c183 : LPure Tryz.prog 114 [.bool true] [.int .u32 1] := by
  refine LPure.start Tryz.func114 rfl rfl rfl rfl ?_
  refine LW.seq ?_
  refine LW.region ?_
  refine LOps.st rfl rfl rfl (LOp.assign rfl rfl) ?_
  refine LOps.nil ?_
  refine thn_n ?_
  refine LW.seq ?_
  refine LW.seq ?_
  refine LW.region ?_
  refine LOps.st rfl rfl rfl (LOp.move rfl rfl) ?_
  refine LOps.nil ?_
  refine thn_n ?_
  refine LW.condT rfl ?_
  refine LW.seq ?_
  refine LW.region ?_
  refine LOps.st rfl rfl rfl (LOp.assign rfl rfl) ?_
  refine LOps.nil ?_
  refine thn_n ?_
  refine LW.ret ?_
  refine thn_r ?_
  refine finP_ret (.one (.tmp rfl)) ?_
  exact Conv.p
set_option maxRecDepth 100000 in
theorem c179d {off : Nat} {cs cs' : List LV} {H H' : List LObj} (hH : nth H 0 = some (.box cs)) (hc : setC cs (off + 0) (.p (.int .u32 1)) = some cs') (hH' : setC H 0 (.box cs') = some H') : LCd Tryz.prog 107 [.ptr 0 off, .p (.bool true)] H H' := by
  refine LCd.start (by kernel_rfl) Tryz.func107 rfl rfl rfl (R := Is (.tup []) H') (fun _ _ h => h.2) ?_
  refine LW.drawW (by kernel_rfl) (by kernel_rfl) ?_
  refine LF.st (F := []) (s := none) rfl rfl rfl (fun H _ => LOp.move rfl rfl) rfl ?_
  refine LF.st (F := []) (s := none) rfl rfl rfl (fun H _ => LOp.nilCheck rfl rfl) rfl ?_
  refine LF.st (F := []) (s := none) rfl rfl rfl (fun H _ => LOp.fieldAddr rfl rfl ft106_1) rfl ?_
  refine LF.st (F := []) (s := none) rfl rfl rfl (fun H _ => LOp.move rfl rfl) rfl ?_
  refine LF.st (F := []) (s := none) rfl rfl rfl (fun H _ => LOp.call rfl rfl rfl (by kernel_rfl) (LC.pure c183 (.cons Conv.p .nil))) rfl ?_
  refine LF.st rfl rfl rfl (LAt.atomStore (P := Tryz.prog) (f := 113) (fn := Tryz.f113) rfl rfl rfl Tryz.func113 rfl xm182 xn182 xe182 rfl hH hc) hH' ?_
  refine LF.nil ⟨by kernel_rfl, ?_⟩
  refine fin_end .none ?_
  exact ⟨rfl, rfl⟩
set_option maxRecDepth 100000 in
theorem c180 {off : Nat} {cs cs' : List LV} {H H' : List LObj} (hH : nth H 0 = some (.box cs)) (h0 : nth cs (off + 0) = some (.p (.int .i32 0))) (hc : setC cs (off + 0) (.p (.int .i32 1)) = some cs') (hH' : setC H 0 (.box cs') = some H') (hb : Nat.blt off cs'.length = true) : LC Tryz.prog 111 [.ptr 0 off] H (Is (.tup []) H') := by
  refine LC.start Tryz.func111 rfl rfl rfl ?_
  refine LW.seq ?_
  refine LW.region ?_
  refine LOps.st rfl rfl rfl (LOp.mark0 (P := Tryz.prog) (f := 125) (fn := Tryz.f125) rfl rfl rfl Tryz.func125 rfl xm184 xn184 xe184 ) ?_
  refine LOps.nil ?_
  refine thn_n ?_
  refine LW.seq ?_
  refine LW.seq ?_
  refine LW.region ?_
  refine LOps.st rfl rfl rfl (LOp.move rfl rfl) ?_
  refine LOps.st rfl rfl rfl (LOp.nilCheck rfl rfl) ?_
  refine LOps.st rfl rfl rfl (LOp.fieldAddr rfl rfl ft108_0) ?_
  refine LOps.st rfl rfl rfl (LOp.atomCas (P := Tryz.prog) (f := 126) (fn := Tryz.f126) rfl rfl rfl Tryz.func126 rfl xm185 xn185 xe185 hH h0 hc hH') ?_
  refine LOps.nil ?_
  refine thn_n ?_
  refine LW.condT rfl ?_
  refine LW.seq ?_
  refine LW.condT rfl ?_
  refine LW.seq ?_
  refine LW.region ?_
  refine LOps.st rfl rfl rfl (LOp.mark0 (P := Tryz.prog) (f := 127) (fn := Tryz.f127) rfl rfl rfl Tryz.func127 rfl xm186 xn186 xe186 ) ?_
  refine LOps.nil ?_
  refine thn_n ?_
  refine LW.region ?_
  refine LOps.st rfl rfl rfl (LOp.move rfl rfl) ?_
  refine LOps.st rfl rfl rfl (LOp.convPtr rfl rfl (nth_setC hH' ) hb pconv) ?_
  refine LOps.st rfl rfl rfl (LOp.markP (P := Tryz.prog) (f := 128) (fn := Tryz.f128) rfl rfl rfl Tryz.func128 rfl xm187 xn187 xe187 ) ?_
  refine LOps.nil ?_
  refine thn_n ?_
  refine LW.ret ?_
  refine thn_r ?_
  refine fin_ret .none ?_
  exact ⟨rfl, rfl⟩
set_option maxRecDepth 100000 in
theorem c177 {off : Nat} {cs cs' : List LV} {H H' : List LObj} (hH : nth H 0 = some (.box cs)) (h0 : nth cs (off + 0 + 0) = some (.p (.int .i32 0))) (hc : setC cs (off + 0 + 0) (.p (.int .i32 1)) = some cs') (hH' : setC H 0 (.box cs') = some H') (hb : Nat.blt (off + 0) cs'.length = true) : LC Tryz.prog 105 [.ptr 0 off] H (Is (.tup []) H') := by
  refine LC.start Tryz.func105 rfl rfl rfl ?_
  refine LW.region ?_
  refine LOps.st rfl rfl rfl (LOp.move rfl rfl) ?_
  refine LOps.st rfl rfl rfl (LOp.nilCheck rfl rfl) ?_
  refine LOps.st rfl rfl rfl (LOp.fieldAddr rfl rfl ft110_1) ?_
  refine LOps.st rfl rfl rfl (LOp.call rfl rfl rfl (by kernel_rfl) (c180 hH h0 hc hH' hb)) ?_
  refine LOps.nil ?_
  refine fin_end .none ?_
  exact ⟨rfl, rfl⟩
set_option maxRecDepth 100000 in
theorem c181 {off : Nat} {cs cs' : List LV} {H H' : List LObj} (hH : nth H 0 = some (.box cs)) (h0 : nth cs (off + 0) = some (.p (.int .i32 1))) (hb : Nat.blt off cs.length = true) (hc : setC cs (off + 0) (.p (.int .i32 0)) = some cs') (hH' : setC H 0 (.box cs') = some H') : LC Tryz.prog 112 [.ptr 0 off] H (Is (.tup []) H') := by
  refine LC.start Tryz.func112 rfl rfl rfl ?_
  refine LW.seq ?_
  refine LW.condT rfl ?_
  refine LW.seq ?_
  refine LW.region ?_
  refine LOps.st rfl rfl rfl (LOp.move rfl rfl) ?_
  refine LOps.st rfl rfl rfl (LOp.nilCheck rfl rfl) ?_
  refine LOps.st rfl rfl rfl (LOp.fieldAddr rfl rfl ft108_0) ?_
  refine LOps.st rfl rfl rfl (LOp.load1 rfl rfl hH vt21 h0) ?_
  refine LOps.nil ?_
  refine thn_n ?_
  refine LW.seq ?_
  refine LW.region ?_
  refine LOps.st rfl rfl rfl (LOp.move rfl rfl) ?_
  refine LOps.st rfl rfl rfl (LOp.convPtr rfl rfl hH hb pconv) ?_
  refine LOps.st rfl rfl rfl (LOp.markP (P := Tryz.prog) (f := 130) (fn := Tryz.f130) rfl rfl rfl Tryz.func130 rfl xm189 xn189 xe189 ) ?_
  refine LOps.nil ?_
  refine thn_n ?_
  refine LW.region ?_
  refine LOps.st rfl rfl rfl (LOp.mark0 (P := Tryz.prog) (f := 125) (fn := Tryz.f125) rfl rfl rfl Tryz.func125 rfl xm184 xn184 xe184 ) ?_
  refine LOps.nil ?_
  refine thn_n ?_
  refine LW.seq ?_
  refine LW.region ?_
  refine LOps.st rfl rfl rfl (LOp.move rfl rfl) ?_
  refine LOps.st rfl rfl rfl (LOp.nilCheck rfl rfl) ?_
  refine LOps.st rfl rfl rfl (LOp.fieldAddr rfl rfl ft108_0) ?_
  refine LOps.st rfl rfl rfl (LOp.atomAdd (P := Tryz.prog) (f := 131) (fn := Tryz.f131) rfl rfl rfl Tryz.func131 rfl xm190 xn190 xe190 hH h0 hc hH') ?_
  refine LOps.st rfl rfl rfl (LOp.assign rfl rfl) ?_
  refine LOps.nil ?_
  refine thn_n ?_
  refine LW.seq ?_
  refine LW.seq ?_
  refine LW.region ?_
  refine LOps.st rfl rfl rfl (LOp.move rfl rfl) ?_
  refine LOps.st rfl rfl rfl (LOp.bin rfl rfl rfl rfl) ?_
  refine LOps.nil ?_
  refine thn_n ?_
  refine LW.condF rfl ?_
  refine LW.skip ?_
  refine thn_n ?_
  refine LW.region ?_
  refine LOps.st rfl rfl rfl (LOp.mark0 (P := Tryz.prog) (f := 127) (fn := Tryz.f127) rfl rfl rfl Tryz.func127 rfl xm186 xn186 xe186 ) ?_
  refine LOps.nil ?_
  refine fin_end .none ?_
  exact ⟨rfl, rfl⟩
set_option maxRecDepth 100000 in
theorem c178d {off : Nat} {cs cs' : List LV} {H H' : List LObj} (hH : nth H 0 = some (.box cs)) (h0 : nth cs (off + 0 + 0) = some (.p (.int .i32 1))) (hb : Nat.blt (off + 0) cs.length = true) (hc : setC cs (off + 0 + 0) (.p (.int .i32 0)) = some cs') (hH' : setC H 0 (.box cs') = some H') : LCd Tryz.prog 106 [.ptr 0 off] H H' := by
  refine LCd.start (by kernel_rfl) Tryz.func106 rfl rfl rfl (R := Is (.tup []) H') (fun _ _ h => h.2) ?_
  refine LW.region ?_
  refine LOps.st rfl rfl rfl (LOp.move rfl rfl) ?_
  refine LOps.st rfl rfl rfl (LOp.nilCheck rfl rfl) ?_
  refine LOps.st rfl rfl rfl (LOp.fieldAddr rfl rfl ft110_1) ?_
  refine LOps.st rfl rfl rfl (LOp.call rfl rfl rfl (by kernel_rfl) (c181 hH h0 hb hc hH')) ?_
  refine LOps.nil ?_
  refine fin_end .none ?_
  exact ⟨rfl, rfl⟩
set_option maxRecDepth 100000 in
theorem c166 {off : Nat} {n m : Int} {cs cs' : List LV} {H H' : List LObj} (hH : nth H 0 = some (.box cs)) (h0 : nth cs (off + 0) = some (.p (.int .i64 n))) (hc : setC cs (off + 0) (.p (.int .i64 (IntKind.i64.wrap (n + m)))) = some cs') (hH' : setC H 0 (.box cs') = some H') : LC Tryz.prog 82 [.ptr 0 off, .p (.int .i64 m)] H (Is (.p (.int .i64 (IntKind.i64.wrap (n + m)))) H') := by
  refine LC.start Tryz.func82 rfl rfl rfl ?_
  refine LW.seq ?_
  refine LW.region ?_
  refine LOps.st rfl rfl rfl (LOp.assign rfl rfl) ?_
  refine LOps.nil ?_
  refine thn_n ?_
  refine LW.seq ?_
  refine LW.region ?_
  refine LOps.st rfl rfl rfl (LOp.move rfl rfl) ?_
  refine LOps.st rfl rfl rfl (LOp.nilCheck rfl rfl) ?_
  refine LOps.st rfl rfl rfl (LOp.fieldAddr rfl rfl ft118_2) ?_
  refine LOps.st rfl rfl rfl (LOp.move rfl rfl) ?_
  refine LOps.st rfl rfl rfl (LOp.atomAdd (P := Tryz.prog) (f := 93) (fn := Tryz.f93) rfl rfl rfl Tryz.func93 rfl xm174 xn174 xe174 hH h0 hc hH') ?_
  refine LOps.st rfl rfl rfl (LOp.assign rfl rfl) ?_
  refine LOps.nil ?_
  refine thn_n ?_
  refine LW.ret ?_
  refine fin_ret (.one (.tmp rfl)) ?_
  exact ⟨rfl, rfl⟩
set_option maxRecDepth 100000 in
theorem c106 {off : Nat} {n : Int} {cs : List LV} {H : List LObj} (hH : nth H 0 = some (.box cs)) (h0 : nth cs (off + 0) = some (.p (.int .i64 n))) : LC Tryz.prog 37 [.ptr 0 off] H (Is (.p (.int .i64 n)) H) := by
  refine LC.start Tryz.func37 rfl rfl rfl ?_
  refine LW.seq ?_
  refine LW.region ?_
  refine LOps.st rfl rfl rfl (LOp.assign rfl rfl) ?_
  refine LOps.nil ?_
  refine thn_n ?_
  refine LW.seq ?_
  refine LW.region ?_
  refine LOps.st rfl rfl rfl (LOp.move rfl rfl) ?_
  refine LOps.st rfl rfl rfl (LOp.nilCheck rfl rfl) ?_
  refine LOps.st rfl rfl rfl (LOp.fieldAddr rfl rfl ft118_2) ?_
  refine LOps.st rfl rfl rfl (LOp.atomLoad (P := Tryz.prog) (f := 55) (fn := Tryz.f55) rfl rfl rfl Tryz.func55 rfl xm145 xn145 xe145 hH h0) ?_
  refine LOps.st rfl rfl rfl (LOp.assign rfl rfl) ?_
  refine LOps.nil ?_
  refine thn_n ?_
  refine LW.ret ?_
  refine fin_ret (.one (.tmp rfl)) ?_
  exact ⟨rfl, rfl⟩
open Go.Proofs
def pivotOf (seed n r : Int) : Int := IntKind.i64.wrap ((step seed (IntKind.u64.wrap r)).tmod (IntKind.u64.wrap n))
def signOf (seed r : Int) : Int := step seed (IntKind.u64.wrap (IntKind.i64.wrap (1000 + r)))
set_option maxRecDepth 100000 in
theorem c165 {cs cs1 cs2 : List LV} {seed n r : Int} {q : Nat} (hs : nth cs (0 + 0) = some (.p (.int .u64 seed))) (hn : nth cs (0 + 1) = some (.p (.int .i64 n))) (hz : IntKind.u64.wrap n ≠ 0)
    (hs1 : nth cs1 (0 + 0) = some (.p (.int .u64 seed))) (hc1 : setC cs (q + 3) (.p (.int .i64 (pivotOf seed n r))) = some cs1) (hc2 : setC cs1 (q + 4) (.p (.int .u64 (signOf seed r))) = some cs2) :
    LC Tryz.prog 81 [.ptr 1 0, .ptr 2 0, .ptr 3 0] [.box cs, .box [.ptr 0 0], .box [.p (.int .i64 r)], .box [.ptr 0 q]] (Is (.tup []) [.box cs2, .box [.ptr 0 0], .box [.p (.int .i64 r)], .box [.ptr 0 q]]) := by
  refine LC.start Tryz.func81 rfl rfl rfl ?_
  refine LW.seq ?_
  refine LW.drawW (by kernel_rfl) (by kernel_rfl) ?_
  refine LF.st rfl rfl rfl (LAt.load rfl rfl rfl vt160 rfl rfl) rfl ?_
  refine LF.st rfl rfl rfl (LAt.load rfl rfl rfl vt100 rfl rfl) rfl ?_
  refine LF.st (F := []) (s := none) rfl rfl rfl (fun H _ => LOp.nilCheck rfl rfl) rfl ?_
  refine LF.st (F := []) (s := none) rfl rfl rfl (fun H _ => LOp.fieldAddr rfl rfl ft120_0) rfl ?_
  refine LF.st rfl rfl rfl (LAt.load1 rfl rfl rfl vt22 hs) rfl ?_
  refine LF.st rfl rfl rfl (LAt.load rfl rfl rfl vt3 rfl rfl) rfl ?_
  refine LF.st (F := []) (s := none) rfl rfl rfl (fun H _ => LOp.convert (k' := .u64) rfl rfl (by kernel_rfl)) rfl ?_
  refine LF.st (F := []) (s := none) rfl rfl rfl (fun H _ => LOp.call rfl rfl rfl (by kernel_rfl) (LC.pure (c108 (h := seed) (x := (IntKind.u64.wrap (r)))) (.cons Conv.p (.cons Conv.p .nil)))) rfl ?_
  refine LF.st rfl rfl rfl (LAt.load rfl rfl rfl vt100 rfl rfl) rfl ?_
  refine LF.st (F := []) (s := none) rfl rfl rfl (fun H _ => LOp.nilCheck rfl rfl) rfl ?_
  refine LF.st (F := []) (s := none) rfl rfl rfl (fun H _ => LOp.fieldAddr rfl rfl ft120_1) rfl ?_
  refine LF.st rfl rfl rfl (LAt.load1 rfl rfl rfl vt3 hn) rfl ?_
  refine LF.st (F := []) (s := none) rfl rfl rfl (fun H _ => LOp.convert (k' := .u64) rfl rfl (by kernel_rfl)) rfl ?_
  refine LF.st (F := []) (s := none) rfl rfl rfl (fun H _ => LOp.rem rfl rfl rfl hz) rfl ?_
  refine LF.st (F := []) (s := none) rfl rfl rfl (fun H _ => LOp.convert (k' := .i64) rfl rfl (by kernel_rfl)) rfl ?_
  refine LF.st (F := []) (s := none) rfl rfl rfl (fun H _ => LOp.nilCheck rfl rfl) rfl ?_
  refine LF.st (F := []) (s := none) rfl rfl rfl (fun H _ => LOp.fieldAddr rfl rfl ft114_1) rfl ?_
  refine LF.st rfl rfl rfl (LAt.store1 rfl rfl rfl rfl vt3 rfl hc1) rfl ?_
  refine LF.nil ⟨by kernel_rfl, ?_⟩
  refine thn_n ?_
  refine LW.drawW (by kernel_rfl) (by kernel_rfl) ?_
  refine LF.st rfl rfl rfl (LAt.load rfl rfl rfl vt160 rfl rfl) rfl ?_
  refine LF.st rfl rfl rfl (LAt.load rfl rfl rfl vt100 rfl rfl) rfl ?_
  refine LF.st (F := []) (s := none) rfl rfl rfl (fun H _ => LOp.nilCheck rfl rfl) rfl ?_
  refine LF.st (F := []) (s := none) rfl rfl rfl (fun H _ => LOp.fieldAddr rfl rfl ft120_0) rfl ?_
  refine LF.st rfl rfl rfl (LAt.load1 rfl rfl rfl vt22 hs1) rfl ?_
  refine LF.st rfl rfl rfl (LAt.load rfl rfl rfl vt3 rfl rfl) rfl ?_
  refine LF.st (F := []) (s := none) rfl rfl rfl (fun H _ => LOp.bin rfl rfl rfl rfl) rfl ?_
  refine LF.st (F := []) (s := none) rfl rfl rfl (fun H _ => LOp.convert (k' := .u64) rfl rfl (by kernel_rfl)) rfl ?_
  refine LF.st (F := []) (s := none) rfl rfl rfl (fun H _ => LOp.call rfl rfl rfl (by kernel_rfl) (LC.pure (c108 (h := seed) (x := (IntKind.u64.wrap (IntKind.i64.wrap (1000 + r))))) (.cons Conv.p (.cons Conv.p .nil)))) rfl ?_
  refine LF.st (F := []) (s := none) rfl rfl rfl (fun H _ => LOp.nilCheck rfl rfl) rfl ?_
  refine LF.st (F := []) (s := none) rfl rfl rfl (fun H _ => LOp.fieldAddr rfl rfl ft114_2) rfl ?_
  refine LF.st rfl rfl rfl (LAt.store1 rfl rfl rfl rfl vt22 rfl hc2) rfl ?_
  refine LF.nil ⟨by kernel_rfl, ?_⟩
  refine fin_end .none ?_
  exact ⟨rfl, rfl⟩
/-- The closure, handed to sync.Once. -/
abbrev onceF : LV := .fn 81 [] [.ptr 1 0, .ptr 2 0, .ptr 3 0]
set_option maxRecDepth 100000 in
theorem c173 {cs csA cs1 cs2 csD csE : List LV} {seed n r : Int} {q : Nat} (hm : nth cs (q + 0 + 1 + 0 + 0) = some (.p (.int .i32 0))) (hA : setC cs (q + 0 + 1 + 0 + 0) (.p (.int .i32 1)) = some csA) (hAb : Nat.blt (q + 0 + 1 + 0) csA.length = true)
    (hd : nth csA (q + 0 + 0 + 0) = some (.p (.int .u32 0))) (hs : nth csA (0 + 0) = some (.p (.int .u64 seed))) (hn : nth csA (0 + 1) = some (.p (.int .i64 n))) (hz : IntKind.u64.wrap n ≠ 0)
    (hs1 : nth cs1 (0 + 0) = some (.p (.int .u64 seed))) (hc1 : setC csA (q + 3) (.p (.int .i64 (pivotOf seed n r))) = some cs1) (hc2 : setC cs1 (q + 4) (.p (.int .u64 (signOf seed r))) = some cs2)
    (hD : setC cs2 (q + 0 + 0 + 0) (.p (.int .u32 1)) = some csD) (hDm : nth csD (q + 0 + 1 + 0 + 0) = some (.p (.int .i32 1))) (hDb : Nat.blt (q + 0 + 1 + 0) csD.length = true) (hE : setC csD (q + 0 + 1 + 0 + 0) (.p (.int .i32 0)) = some csE) :
    LC Tryz.prog 92 [.ptr 0 (q + 0), onceF] [.box cs, .box [.ptr 0 0], .box [.p (.int .i64 r)], .box [.ptr 0 q]] (Is (.tup []) [.box csE, .box [.ptr 0 0], .box [.p (.int .i64 r)], .box [.ptr 0 q]]) := by
  refine LC.ofD Tryz.func92 rfl rfl rfl rfl ?_
  refine LWD.seq ?_
  refine LWD.region ?_
  refine LOpsD.st rfl rfl rfl (LOp.move rfl rfl) ?_
  refine LOpsD.st rfl rfl rfl (LOp.nilCheck rfl rfl) ?_
  refine LOpsD.st rfl rfl rfl (LOp.fieldAddr rfl rfl ft112_2) ?_
  refine LOpsD.st rfl rfl rfl (LOp.call rfl rfl rfl (by kernel_rfl) (c177 (off := q + 0 + 1) rfl hm hA rfl hAb)) ?_
  refine LOpsD.nil ?_
  refine LWD.seq ?_
  refine LWD.region ?_
  refine LOpsD.st rfl rfl rfl (LOp.move rfl rfl) ?_
  refine LOpsD.st rfl rfl rfl (LOp.nilCheck rfl rfl) ?_
  refine LOpsD.st rfl rfl rfl (LOp.fieldAddr rfl rfl ft112_2) ?_
  refine LOpsD.defer rfl rfl rfl rfl rfl ?_
  refine LOpsD.nil ?_
  refine LWD.seq ?_
  refine LWD.region ?_
  refine LOpsD.st rfl rfl rfl (LOp.move rfl rfl) ?_
  refine LOpsD.st rfl rfl rfl (LOp.nilCheck rfl rfl) ?_
  refine LOpsD.st rfl rfl rfl (LOp.fieldAddr rfl rfl ft112_1) ?_
  refine LOpsD.st rfl rfl rfl (LOp.call rfl rfl rfl (by kernel_rfl) (c172 (off := q + 0 + 0) (n := 0) rfl hd)) ?_
  refine LOpsD.st rfl rfl rfl (LOp.not rfl rfl) ?_
  refine LOpsD.nil ?_
  refine LWD.condT rfl ?_
  refine LWD.seq ?_
  refine LWD.region ?_
  refine LOpsD.st rfl rfl rfl (LOp.move rfl rfl) ?_
  refine LOpsD.st rfl rfl rfl (LOp.nilCheck rfl rfl) ?_
  refine LOpsD.st rfl rfl rfl (LOp.fieldAddr rfl rfl ft112_1) ?_
  refine LOpsD.defer rfl rfl rfl rfl rfl ?_
  refine LOpsD.nil ?_
  refine LWD.region ?_
  refine LOpsD.st rfl rfl rfl (LOp.move rfl rfl) ?_
  refine LOpsD.st rfl rfl rfl (LOp.call rfl rfl rfl (by kernel_rfl) (c165 hs hn hz hs1 hc1 hc2)) ?_
  refine LOpsD.nil ?_
  exact ⟨.inl rfl, .cons (c179d (off := q + 0 + 0) rfl hD rfl) (.cons (c178d (off := q + 0 + 1) rfl hDm hDb hE rfl) .nil)⟩
set_option maxRecDepth 100000 in
theorem c164s {cs csA cs1 cs2 csD csE : List LV} {seed n r : Int} {q : Nat} (hd0 : nth cs (q + 0 + 0 + 0) = some (.p (.int .u32 0))) (hm : nth cs (q + 0 + 1 + 0 + 0) = some (.p (.int .i32 0))) (hA : setC cs (q + 0 + 1 + 0 + 0) (.p (.int .i32 1)) = some csA) (hAb : Nat.blt (q + 0 + 1 + 0) csA.length = true)
    (hd : nth csA (q + 0 + 0 + 0) = some (.p (.int .u32 0))) (hs : nth csA (0 + 0) = some (.p (.int .u64 seed))) (hn : nth csA (0 + 1) = some (.p (.int .i64 n))) (hz : IntKind.u64.wrap n ≠ 0)
    (hs1 : nth cs1 (0 + 0) = some (.p (.int .u64 seed))) (hc1 : setC csA (q + 3) (.p (.int .i64 (pivotOf seed n r))) = some cs1) (hc2 : setC cs1 (q + 4) (.p (.int .u64 (signOf seed r))) = some cs2)
    (hD : setC cs2 (q + 0 + 0 + 0) (.p (.int .u32 1)) = some csD) (hDm : nth csD (q + 0 + 1 + 0 + 0) = some (.p (.int .i32 1))) (hDb : Nat.blt (q + 0 + 1 + 0) csD.length = true) (hE : setC csD (q + 0 + 1 + 0 + 0) (.p (.int .i32 0)) = some csE) : LC Tryz.prog 80 [.ptr 0 (q + 0), onceF] [.box cs, .box [.ptr 0 0], .box [.p (.int .i64 r)], .box [.ptr 0 q]] (Is (.tup []) [.box csE, .box [.ptr 0 0], .box [.p (.int .i64 r)], .box [.ptr 0 q]]) := by
  refine LC.start Tryz.func80 rfl rfl rfl ?_
  refine LW.seq ?_
  refine LW.region ?_
  refine LOps.st rfl rfl rfl (LOp.move rfl rfl) ?_
  refine LOps.st rfl rfl rfl (LOp.nilCheck rfl rfl) ?_
  refine LOps.st rfl rfl rfl (LOp.fieldAddr rfl rfl ft112_1) ?_
  refine LOps.st rfl rfl rfl (LOp.call rfl rfl rfl (by kernel_rfl) (c172 (off := q + 0 + 0) (n := 0) rfl hd0)) ?_
  refine LOps.st rfl rfl rfl (LOp.not rfl rfl) ?_
  refine LOps.nil ?_
  refine thn_n ?_
  refine LW.condT rfl ?_
  refine LW.region ?_
  refine LOps.st rfl rfl rfl (LOp.move rfl rfl) ?_
  refine LOps.st rfl rfl rfl (LOp.move rfl rfl) ?_
  refine LOps.st rfl rfl rfl (LOp.call rfl rfl rfl (by kernel_rfl) (c173 hm hA hAb hd hs hn hz hs1 hc1 hc2 hD hDm hDb hE)) ?_
  refine LOps.nil ?_
  refine fin_end .none ?_
  exact ⟨rfl, rfl⟩
set_option maxRecDepth 100000 in
theorem c164f {cs : List LV} {r : Int} {q : Nat} (hd : nth cs (q + 0 + 0 + 0) = some (.p (.int .u32 1))) : LC Tryz.prog 80 [.ptr 0 (q + 0), onceF] [.box cs, .box [.ptr 0 0], .box [.p (.int .i64 r)], .box [.ptr 0 q]] (Is (.tup []) [.box cs, .box [.ptr 0 0], .box [.p (.int .i64 r)], .box [.ptr 0 q]]) := by
  refine LC.start Tryz.func80 rfl rfl rfl ?_
  refine LW.seq ?_
  refine LW.region ?_
  refine LOps.st rfl rfl rfl (LOp.move rfl rfl) ?_
  refine LOps.st rfl rfl rfl (LOp.nilCheck rfl rfl) ?_
  refine LOps.st rfl rfl rfl (LOp.fieldAddr rfl rfl ft112_1) ?_
  refine LOps.st rfl rfl rfl (LOp.call rfl rfl rfl (by kernel_rfl) (c172 (off := q + 0 + 0) (n := 1) rfl hd)) ?_
  refine LOps.st rfl rfl rfl (LOp.not rfl rfl) ?_
  refine LOps.nil ?_
  refine thn_n ?_
  refine LW.condF rfl ?_
  refine LW.skip ?_
  refine fin_end .none ?_
  exact ⟨rfl, rfl⟩
open Go.Proofs
/-- A round's cells. -/
def roundL (seed n r : Int) (b : Bool) : List LV :=
  [.p (.int .u32 (cond b 1 0)), .p (.int .i32 0), .p (.int .u32 0), .p (.int .i64 (cond b (pivotOf seed n r) 0)), .p (.int .u64 (cond b (signOf seed r) 0))]
/-- The deck's cells: f tells which rounds are worked out, k how often they were asked for. -/
def deckL (seed n : Int) (f : Nat → Bool) (k : Int) : List LV :=
  .p (.int .u64 seed) :: .p (.int .i64 n) :: (roundL seed n 0 (f 0) ++ (roundL seed n 1 (f 1) ++ (roundL seed n 2 (f 2) ++ (roundL seed n 3 (f 3) ++ (roundL seed n 4 (f 4) ++ (roundL seed n 5 (f 5) ++ (roundL seed n 6 (f 6) ++ (roundL seed n 7 (f 7) ++ (roundL seed n 8 (f 8) ++ (roundL seed n 9 (f 9) ++ [.p (.int .i64 k)]))))))))))
def setF (f : Nat → Bool) (i : Nat) : Nat → Bool := fun j => cond (Nat.beq j i) true (f j)
def clrF (f : Nat → Bool) (i : Nat) : Nat → Bool := fun j => cond (Nat.beq j i) false (f j)
theorem setF_id {f : Nat → Bool} {i : Nat} (h : f i = true) : setF f i = f := by
  funext j
  unfold setF
  cases e : Nat.beq j i with
  | false => rfl
  | true => rw [Nat.eq_of_beq_eq_true e, h]; rfl
theorem clrF_id {f : Nat → Bool} {i : Nat} (h : f i = false) : clrF f i = f := by
  funext j
  unfold clrF
  cases e : Nat.beq j i with
  | false => rfl
  | true => rw [Nat.eq_of_beq_eq_true e, h]; rfl
structure Dk where
  f : Nat → Bool
  k : Int
def deckS (seed n : Int) (d : Dk) : List LV := deckL seed n d.f d.k
def Dk.turned (d : Dk) (r : Int) : Dk := ⟨setF d.f r.toNat, IntKind.i64.wrap (d.k + 1)⟩
def turnOk (n r : Int) : Bool := decide (n ≠ 0 ∧ IntKind.u64.wrap n ≠ 0 ∧ 0 ≤ r ∧ r < 10)
theorem turnOk_get {n r : Int} (h : turnOk n r = true) : n ≠ 0 ∧ IntKind.u64.wrap n ≠ 0 ∧ 0 ≤ r ∧ r < 10 := of_decide_eq_true h
set_option maxRecDepth 100000 in
theorem c144s {cs csA cs1 cs2 csD csE : List LV} {seed n r : Int} (hd0 : nth cs ((2 + r.toNat * 5) + 0 + 0 + 0) = some (.p (.int .u32 0))) (hm : nth cs ((2 + r.toNat * 5) + 0 + 1 + 0 + 0) = some (.p (.int .i32 0))) (hA : setC cs ((2 + r.toNat * 5) + 0 + 1 + 0 + 0) (.p (.int .i32 1)) = some csA) (hAb : Nat.blt ((2 + r.toNat * 5) + 0 + 1 + 0) csA.length = true)
    (hd : nth csA ((2 + r.toNat * 5) + 0 + 0 + 0) = some (.p (.int .u32 0))) (hs : nth csA (0 + 0) = some (.p (.int .u64 seed))) (hn : nth csA (0 + 1) = some (.p (.int .i64 n))) (hz : IntKind.u64.wrap n ≠ 0)
    (hs1 : nth cs1 (0 + 0) = some (.p (.int .u64 seed))) (hc1 : setC csA ((2 + r.toNat * 5) + 3) (.p (.int .i64 (pivotOf seed n r))) = some cs1) (hc2 : setC cs1 ((2 + r.toNat * 5) + 4) (.p (.int .u64 (signOf seed r))) = some cs2)
    (hD : setC cs2 ((2 + r.toNat * 5) + 0 + 0 + 0) (.p (.int .u32 1)) = some csD) (hDm : nth csD ((2 + r.toNat * 5) + 0 + 1 + 0 + 0) = some (.p (.int .i32 1))) (hDb : Nat.blt ((2 + r.toNat * 5) + 0 + 1 + 0) csD.length = true) (hE : setC csD ((2 + r.toNat * 5) + 0 + 1 + 0 + 0) (.p (.int .i32 0)) = some csE) {k : Int} {csF : List LV} (hr0 : 0 ≤ r) (hr1 : r < 10) (hk : nth csE (0 + 52 + 0) = some (.p (.int .i64 k))) (hF : setC csE (0 + 52 + 0) (.p (.int .i64 (IntKind.i64.wrap (k + 1)))) = some csF) (hl : LV.lowsB 1 csF = true) : LC Tryz.prog 69 [.ptr 0 0, .p (.int .i64 r)] [.box cs] (Is (.ptr 0 (2 + r.toNat * 5)) [.box csF]) := by
  refine LC.start Tryz.func69 rfl rfl rfl ?_
  refine LW.seq ?_
  refine LW.region ?_
  refine LOps.st rfl rfl rfl (LOp.box rfl rfl rfl rfl rfl) ?_
  refine LOps.st rfl rfl rfl (LOp.box rfl rfl rfl rfl rfl) ?_
  refine LOps.st rfl rfl rfl (LOp.assign rfl rfl) ?_
  refine LOps.nil ?_
  refine thn_n ?_
  refine LW.seq ?_
  refine LW.ent (Ent.slot rfl) ?_
  refine LW.drawW (by kernel_rfl) (by kernel_rfl) ?_
  refine LF.st rfl rfl rfl (LAt.load rfl rfl rfl vt100 rfl rfl) rfl ?_
  refine LF.st rfl rfl rfl (LAt.load rfl rfl rfl vt3 rfl rfl) rfl ?_
  refine LF.st (F := []) (s := none) rfl rfl rfl (fun H _ => LOp.nilCheck rfl rfl) rfl ?_
  refine LF.st (F := []) (s := none) rfl rfl rfl (fun H _ => LOp.fieldAddr rfl rfl ft120_2) rfl ?_
  refine LF.st (F := []) (s := none) rfl rfl rfl (fun H _ => LOp.indexAddrA rfl rfl rfl at115 hr0 hr1) rfl ?_
  refine LF.st rfl rfl rfl (LAt.alloc rfl zt160 (id := 3) rfl) rfl ?_
  refine LF.st rfl rfl rfl (LAt.store rfl rfl rfl rfl vt160 rfl rfl rfl) rfl ?_
  refine LF.nil ⟨by kernel_rfl, ?_⟩
  refine thn_n ?_
  refine LW.seq ?_
  refine LW.region ?_
  refine LOps.st rfl rfl rfl (LOp.load rfl rfl rfl vt160 rfl rfl) ?_
  refine LOps.st rfl rfl rfl (LOp.nilCheck rfl rfl) ?_
  refine LOps.st rfl rfl rfl (LOp.fieldAddr rfl rfl ft114_0) ?_
  refine LOps.st rfl rfl rfl (LOp.makeFunc rfl rfl rfl) ?_
  refine LOps.st rfl rfl rfl (LOp.call rfl rfl rfl (by kernel_rfl) (c164s (q := (2 + r.toNat * 5)) hd0 hm hA hAb hd hs hn hz hs1 hc1 hc2 hD hDm hDb hE)) ?_
  refine LOps.nil ?_
  refine thn_n ?_
  refine LW.seq ?_
  refine LW.region ?_
  refine LOps.st rfl rfl rfl (LOp.load rfl rfl rfl vt100 rfl rfl) ?_
  refine LOps.st rfl rfl rfl (LOp.nilCheck rfl rfl) ?_
  refine LOps.st rfl rfl rfl (LOp.fieldAddr rfl rfl ft120_3) ?_
  refine LOps.st rfl rfl rfl (LOp.call rfl rfl rfl (by kernel_rfl) (c166 (off := 0 + 52) rfl hk hF rfl)) ?_
  refine LOps.nil ?_
  refine thn_n ?_
  refine LW.seq ?_
  refine LW.region ?_
  refine LOps.st rfl rfl rfl (LOp.load rfl rfl rfl vt160 rfl rfl) ?_
  refine LOps.st rfl rfl rfl (LOp.assign rfl rfl) ?_
  refine LOps.nil ?_
  refine thn_n ?_
  refine LW.ret ?_
  refine fin_retW (env' := [(4, .ptr 0 (2 + r.toNat * 5))]) (H' := [.box csF]) (Weak.of 1 ⟨rfl, trivial⟩ rfl rfl rfl (lowObjs_cons hl rfl)) (.one (.tmp rfl)) ⟨rfl, rfl⟩
set_option maxRecDepth 100000 in
theorem c144f {cs : List LV} {r : Int} (hd : nth cs ((2 + r.toNat * 5) + 0 + 0 + 0) = some (.p (.int .u32 1))) {k : Int} {csF : List LV} (hr0 : 0 ≤ r) (hr1 : r < 10) (hk : nth cs (0 + 52 + 0) = some (.p (.int .i64 k))) (hF : setC cs (0 + 52 + 0) (.p (.int .i64 (IntKind.i64.wrap (k + 1)))) = some csF) (hl : LV.lowsB 1 csF = true) : LC Tryz.prog 69 [.ptr 0 0, .p (.int .i64 r)] [.box cs] (Is (.ptr 0 (2 + r.toNat * 5)) [.box csF]) := by
  refine LC.start Tryz.func69 rfl rfl rfl ?_
  refine LW.seq ?_
  refine LW.region ?_
  refine LOps.st rfl rfl rfl (LOp.box rfl rfl rfl rfl rfl) ?_
  refine LOps.st rfl rfl rfl (LOp.box rfl rfl rfl rfl rfl) ?_
  refine LOps.st rfl rfl rfl (LOp.assign rfl rfl) ?_
  refine LOps.nil ?_
  refine thn_n ?_
  refine LW.seq ?_
  refine LW.ent (Ent.slot rfl) ?_
  refine LW.drawW (by kernel_rfl) (by kernel_rfl) ?_
  refine LF.st rfl rfl rfl (LAt.load rfl rfl rfl vt100 rfl rfl) rfl ?_
  refine LF.st rfl rfl rfl (LAt.load rfl rfl rfl vt3 rfl rfl) rfl ?_
  refine LF.st (F := []) (s := none) rfl rfl rfl (fun H _ => LOp.nilCheck rfl rfl) rfl ?_
  refine LF.st (F := []) (s := none) rfl rfl rfl (fun H _ => LOp.fieldAddr rfl rfl ft120_2) rfl ?_
  refine LF.st (F := []) (s := none) rfl rfl rfl (fun H _ => LOp.indexAddrA rfl rfl rfl at115 hr0 hr1) rfl ?_
  refine LF.st rfl rfl rfl (LAt.alloc rfl zt160 (id := 3) rfl) rfl ?_
  refine LF.st rfl rfl rfl (LAt.store rfl rfl rfl rfl vt160 rfl rfl rfl) rfl ?_
  refine LF.nil ⟨by kernel_rfl, ?_⟩
  refine thn_n ?_
  refine LW.seq ?_
  refine LW.region ?_
  refine LOps.st rfl rfl rfl (LOp.load rfl rfl rfl vt160 rfl rfl) ?_
  refine LOps.st rfl rfl rfl (LOp.nilCheck rfl rfl) ?_
  refine LOps.st rfl rfl rfl (LOp.fieldAddr rfl rfl ft114_0) ?_
  refine LOps.st rfl rfl rfl (LOp.makeFunc rfl rfl rfl) ?_
  refine LOps.st rfl rfl rfl (LOp.call rfl rfl rfl (by kernel_rfl) (c164f (q := (2 + r.toNat * 5)) hd)) ?_
  refine LOps.nil ?_
  refine thn_n ?_
  refine LW.seq ?_
  refine LW.region ?_
  refine LOps.st rfl rfl rfl (LOp.load rfl rfl rfl vt100 rfl rfl) ?_
  refine LOps.st rfl rfl rfl (LOp.nilCheck rfl rfl) ?_
  refine LOps.st rfl rfl rfl (LOp.fieldAddr rfl rfl ft120_3) ?_
  refine LOps.st rfl rfl rfl (LOp.call rfl rfl rfl (by kernel_rfl) (c166 (off := 0 + 52) rfl hk hF rfl)) ?_
  refine LOps.nil ?_
  refine thn_n ?_
  refine LW.seq ?_
  refine LW.region ?_
  refine LOps.st rfl rfl rfl (LOp.load rfl rfl rfl vt160 rfl rfl) ?_
  refine LOps.st rfl rfl rfl (LOp.assign rfl rfl) ?_
  refine LOps.nil ?_
  refine thn_n ?_
  refine LW.ret ?_
  refine fin_retW (env' := [(4, .ptr 0 (2 + r.toNat * 5))]) (H' := [.box csF]) (Weak.of 1 ⟨rfl, trivial⟩ rfl rfl rfl (lowObjs_cons hl rfl)) (.one (.tmp rfl)) ⟨rfl, rfl⟩
theorem get_slow {seed n r k : Int} {f : Nat → Bool} (hz : IntKind.u64.wrap n ≠ 0) (hr0 : 0 ≤ r) (hr1 : r < 10) :
    LC Tryz.prog 69 [.ptr 0 0, .p (.int .i64 r)] [.box (deckL seed n (clrF f r.toNat) k)] (Is (.ptr 0 (2 + r.toNat * 5)) [.box (deckL seed n (setF f r.toNat) (IntKind.i64.wrap (k + 1)))]) := by
  have hc : r = 0 ∨ r = 1 ∨ r = 2 ∨ r = 3 ∨ r = 4 ∨ r = 5 ∨ r = 6 ∨ r = 7 ∨ r = 8 ∨ r = 9 := by omega
  rcases hc with rfl | rfl | rfl | rfl | rfl | rfl | rfl | rfl | rfl | rfl
  all_goals exact c144s (seed := seed) (n := n) rfl rfl rfl rfl rfl rfl rfl hz rfl rfl rfl rfl rfl rfl rfl hr0 hr1 rfl rfl rfl
theorem get_fast {seed n r k : Int} {f : Nat → Bool} (hr0 : 0 ≤ r) (hr1 : r < 10) :
    LC Tryz.prog 69 [.ptr 0 0, .p (.int .i64 r)] [.box (deckL seed n (setF f r.toNat) k)] (Is (.ptr 0 (2 + r.toNat * 5)) [.box (deckL seed n (setF f r.toNat) (IntKind.i64.wrap (k + 1)))]) := by
  have hc : r = 0 ∨ r = 1 ∨ r = 2 ∨ r = 3 ∨ r = 4 ∨ r = 5 ∨ r = 6 ∨ r = 7 ∨ r = 8 ∨ r = 9 := by omega
  rcases hc with rfl | rfl | rfl | rfl | rfl | rfl | rfl | rfl | rfl | rfl
  all_goals exact c144f rfl hr0 hr1 rfl rfl rfl
theorem c144 {seed n r : Int} {d : Dk} (h : turnOk n r = true) : LC Tryz.prog 69 [.ptr 0 0, .p (.int .i64 r)] [.box (deckS seed n d)] (Is (.ptr 0 (2 + r.toNat * 5)) [.box (deckS seed n (d.turned r))]) := by
  obtain ⟨-, h1, h2, h3⟩ := turnOk_get h
  cases hf : d.f r.toNat with
  | true =>
    have := get_fast (seed := seed) (n := n) (k := d.k) (f := d.f) h2 h3
    rw [setF_id hf] at this
    unfold deckS Dk.turned
    rw [setF_id hf]
    exact this
  | false =>
    have := get_slow (seed := seed) (n := n) (k := d.k) (f := d.f) h1 h2 h3
    rw [clrF_id hf] at this
    exact this
theorem deck_pivot {seed n r : Int} {d : Dk} (hr0 : 0 ≤ r) (hr1 : r < 10) : nth (deckS seed n (d.turned r)) (2 + r.toNat * 5 + 3) = some (.p (.int .i64 (pivotOf seed n r))) := by
  have hc : r = 0 ∨ r = 1 ∨ r = 2 ∨ r = 3 ∨ r = 4 ∨ r = 5 ∨ r = 6 ∨ r = 7 ∨ r = 8 ∨ r = 9 := by omega
  rcases hc with rfl | rfl | rfl | rfl | rfl | rfl | rfl | rfl | rfl | rfl
  all_goals rfl
theorem deck_sign {seed n r : Int} {d : Dk} (hr0 : 0 ≤ r) (hr1 : r < 10) : nth (deckS seed n (d.turned r)) (2 + r.toNat * 5 + 4) = some (.p (.int .u64 (signOf seed r))) := by
  have hc : r = 0 ∨ r = 1 ∨ r = 2 ∨ r = 3 ∨ r = 4 ∨ r = 5 ∨ r = 6 ∨ r = 7 ∨ r = 8 ∨ r = 9 := by omega
  rcases hc with rfl | rfl | rfl | rfl | rfl | rfl | rfl | rfl | rfl | rfl
  all_goals rfl
/-- Where a round takes a place to. -/
def mateOf (seed n r i : Int) : Int := (IntKind.i64.wrap (IntKind.i64.wrap (pivotOf seed n r + n) - i)).tmod n
def turnB (seed n r i : Int) : Bool := bits .and .u64 (step (signOf seed r) (IntKind.u64.wrap (if mateOf seed n r i > i then mateOf seed n r i else i))) 1 == 1
def turnOf (seed n r i : Int) : Int := bif turnB seed n r i then mateOf seed n r i else i
set_option maxRecDepth 100000 in
theorem c105 {seed n r i : Int} {d : Dk} (h : turnOk n r = true) : LC Tryz.prog 54 [.ptr 0 0, .p (.int .i64 r), .p (.int .i64 i)] [.box (deckS seed n d)] (Is (.p (.int .i64 (turnOf seed n r i))) [.box (deckS seed n (d.turned r))]) := by
  refine LC.start Tryz.func54 rfl rfl rfl ?_
  refine LW.seq ?_
  refine LW.region ?_
  refine LOps.st rfl rfl rfl (LOp.assign rfl rfl) ?_
  refine LOps.nil ?_
  refine thn_n ?_
  refine LW.seq ?_
  refine LW.region ?_
  refine LOps.st rfl rfl rfl (LOp.move rfl rfl) ?_
  refine LOps.st rfl rfl rfl (LOp.move rfl rfl) ?_
  refine LOps.st rfl rfl rfl (LOp.call rfl rfl rfl (by kernel_rfl) (c144 h)) ?_
  refine LOps.st rfl rfl rfl (LOp.assign rfl rfl) ?_
  refine LOps.nil ?_
  refine thn_n ?_
  refine LW.seq ?_
  refine LW.draw (by kernel_rfl) (by kernel_rfl) ?_
  refine LO.st rfl rfl rfl (LOp.move rfl rfl) ?_
  refine LO.st rfl rfl rfl (LOp.nilCheck rfl rfl) ?_
  refine LO.st rfl rfl rfl (LOp.fieldAddr rfl rfl ft114_1) ?_
  refine LO.st rfl rfl rfl (LOp.load1 rfl rfl rfl vt3 (deck_pivot (turnOk_get h).2.2.1 (turnOk_get h).2.2.2)) ?_
  refine LO.st rfl rfl rfl (LOp.move rfl rfl) ?_
  refine LO.st rfl rfl rfl (LOp.nilCheck rfl rfl) ?_
  refine LO.st rfl rfl rfl (LOp.fieldAddr rfl rfl ft120_1) ?_
  refine LO.st rfl rfl rfl (LOp.load1 rfl rfl rfl vt3 rfl) ?_
  refine LO.st rfl rfl rfl (LOp.bin rfl rfl rfl rfl) ?_
  refine LO.st rfl rfl rfl (LOp.move rfl rfl) ?_
  refine LO.st rfl rfl rfl (LOp.bin rfl rfl rfl rfl) ?_
  refine LO.st rfl rfl rfl (LOp.move rfl rfl) ?_
  refine LO.st rfl rfl rfl (LOp.nilCheck rfl rfl) ?_
  refine LO.st rfl rfl rfl (LOp.fieldAddr rfl rfl ft120_1) ?_
  refine LO.st rfl rfl rfl (LOp.load1 rfl rfl rfl vt3 rfl) ?_
  refine LO.st rfl rfl rfl (LOp.rem rfl rfl rfl (turnOk_get h).1) ?_
  refine LO.st rfl rfl rfl (LOp.assign rfl rfl) ?_
  refine LO.nil ?_
  refine thn_n ?_
  refine LW.seq ?_
  refine LW.seq ?_
  refine LW.region ?_
  refine LOps.st rfl rfl rfl (LOp.move rfl rfl) ?_
  refine LOps.st rfl rfl rfl (LOp.nilCheck rfl rfl) ?_
  refine LOps.st rfl rfl rfl (LOp.fieldAddr rfl rfl ft114_2) ?_
  refine LOps.st rfl rfl rfl (LOp.load1 rfl rfl rfl vt22 (deck_sign (turnOk_get h).2.2.1 (turnOk_get h).2.2.2)) ?_
  refine LOps.st rfl rfl rfl (LOp.move rfl rfl) ?_
  refine LOps.st rfl rfl rfl (LOp.move rfl rfl) ?_
  refine LOps.st rfl rfl rfl (LOp.max rfl rfl rfl) ?_
  refine LOps.st rfl rfl rfl (LOp.convert (k' := .u64) rfl rfl (by kernel_rfl)) ?_
  refine LOps.st rfl rfl rfl (LOp.call rfl rfl rfl (by kernel_rfl) (LC.pure (c108 (h := (signOf seed r)) (x := (IntKind.u64.wrap (if (mateOf seed n r i) > i then (mateOf seed n r i) else i)))) (.cons Conv.p (.cons Conv.p .nil)))) ?_
  refine LOps.st rfl rfl rfl (LOp.bin rfl rfl rfl rfl) ?_
  refine LOps.st rfl rfl rfl (LOp.bin rfl rfl rfl rfl) ?_
  refine LOps.nil ?_
  refine thn_n ?_
  refine LW.cond rfl (fun (g1 : ((bits .and .u64 (step (signOf seed r) (IntKind.u64.wrap (if (mateOf seed n r i) > i then (mateOf seed n r i) else i))) 1) == 1) = true) => ?_) (fun (g1 : ((bits .and .u64 (step (signOf seed r) (IntKind.u64.wrap (if (mateOf seed n r i) > i then (mateOf seed n r i) else i))) 1) == 1) = false) => ?_)
  · -- g1 is True
    refine LW.seq ?_
    refine LW.region ?_
    refine LOps.st rfl rfl rfl (LOp.move rfl rfl) ?_
    refine LOps.st rfl rfl rfl (LOp.assign rfl rfl) ?_
    refine LOps.nil ?_
    refine thn_n ?_
    refine LW.ret ?_
    refine thn_r ?_
    refine fin_ret (.one (.tmp rfl)) ?_
    exact ⟨by unfold turnOf turnB; rw [g1]; rfl, rfl⟩
  · -- g1 is False
    refine LW.skip ?_
    refine thn_n ?_
    refine LW.seq ?_
    refine LW.region ?_
    refine LOps.st rfl rfl rfl (LOp.move rfl rfl) ?_
    refine LOps.st rfl rfl rfl (LOp.assign rfl rfl) ?_
    refine LOps.nil ?_
    refine thn_n ?_
    refine LW.ret ?_
    refine fin_ret (.one (.tmp rfl)) ?_
    exact ⟨by unfold turnOf turnB; rw [g1]; rfl, rfl⟩
open Go.Proofs
def dk0 : Dk := ⟨fun _ => false, 0⟩
structure F102_L1 where
  i : Int
  t6 : Int
  d : Dk
def F102_s1 (seed : Int) (n : Int) (x1 : F102_L1) : Option (F102_L1 ⊕ F102_L1) :=
  bif decide (x1.t6 < 10) then
    bif turnOk n x1.t6 then
      some (.inl (F102_L1.mk (turnOf seed n x1.t6 x1.i) (IntKind.i64.wrap (x1.t6 + 1)) (x1.d.turned x1.t6)))
    else none
  else
    some (.inr (F102_L1.mk x1.i x1.t6 x1.d))
def F102 (seed : Int) (n : Int) (i : Int) (d : Dk) : Option (Int × Dk) :=
  (iter (F102_s1 seed n) big (F102_L1.mk i 0 d)).bind fun v1 =>
  some (v1.i, v1.d)
set_option maxRecDepth 100000 in
theorem cF102 {seed : Int} {n : Int} {i : Int} {d : Dk} {r_ : Int × Dk} (hr : F102 seed n i d = some r_) : LC Tryz.prog 36 [.ptr 0 0, .p (.int .i64 i)] [.box (deckS seed n d)] (Is (.p (.int .i64 r_.1)) [.box (deckS seed n r_.2)]) := by
  refine LC.start Tryz.func36 rfl rfl rfl ?_
  unfold F102 at hr
  refine LW.seq ?_
  refine LW.region ?_
  refine LOps.st rfl rfl rfl (LOp.assign rfl rfl) ?_
  refine LOps.nil ?_
  refine thn_n ?_
  refine LW.seq ?_
  refine LW.seq ?_
  refine LW.region ?_
  refine LOps.st rfl rfl rfl (LOp.move rfl rfl) ?_
  refine LOps.nil ?_
  refine thn_n ?_
  obtain ⟨v1, hb_v1, ho_v1⟩ := bind_get hr
  clear hr
  refine LW.tail (E := [(1, .p (.int .i64 v1.i)), (4, .p (.int .i64 0))]) (O := [.box (deckS seed n v1.d)]) ?_ (fun env_v1 H_v1 hw_v1 => ?_)
  · refine LW.block ?_
    refine LW.iterB (E := fun x1 : F102_L1 => [(0, .ptr 0 0), (1, .p (.int .i64 x1.i)), (4, .p (.int .i64 0)), (6, .p (.int .i64 x1.t6))]) (O := fun x1 => [.box (deckS seed n x1.d)]) hb_v1 (Weak.of 1 ⟨rfl, rfl, rfl, rfl, trivial⟩ rfl rfl rfl rfl) (fun x1 z_x1 hr hb_x1 => ?_)
    unfold F102_s1 at hr
    refine LW.seq ?_
    refine LW.region ?_
    refine LOps.st rfl rfl rfl (LOp.bin rfl rfl rfl rfl) ?_
    refine LOps.nil ?_
    refine thn_n ?_
    refine LW.seq ?_
    refine LW.cond rfl (fun (g1 : (decide (x1.t6 < 10)) = true) => ?_) (fun (g1 : (decide (x1.t6 < 10)) = false) => ?_)
    · -- g1 is True
      have hr := ite_t g1 hr
      refine LW.skip ?_
      refine thn_n ?_
      refine LW.seq ?_
      refine LW.block ?_
      refine LW.seq ?_
      refine LW.region ?_
      refine LOps.st rfl rfl rfl (LOp.move rfl rfl) ?_
      refine LOps.st rfl rfl rfl (LOp.assign rfl rfl) ?_
      refine LOps.nil ?_
      refine thn_n ?_
      refine LW.region ?_
      refine LOps.st rfl rfl rfl (LOp.move rfl rfl) ?_
      refine LOps.st rfl rfl rfl (LOp.move rfl rfl) ?_
      refine LOps.st rfl rfl rfl (LOp.move rfl rfl) ?_
      obtain ⟨q1, hr⟩ := grd_get hr
      refine LOps.st rfl rfl rfl (LOp.call rfl rfl rfl (by kernel_rfl) (c105 q1)) ?_
      refine LOps.st rfl rfl rfl (LOp.assign rfl rfl) ?_
      refine LOps.nil ?_
      refine inBlk_n ?_
      refine thn_n ?_
      refine LW.region ?_
      refine LOps.st rfl rfl rfl (LOp.bin rfl rfl rfl rfl) ?_
      refine LOps.st rfl rfl rfl (LOp.move rfl rfl) ?_
      refine LOps.nil ?_
      refine thn_n ?_
      obtain rfl := Option.some.inj hr
      exact ⟨_, rfl, Weak.of 1 ⟨rfl, rfl, rfl, rfl, trivial⟩ rfl rfl rfl rfl⟩
    · -- g1 is False
      have hr := ite_f g1 hr
      refine LW.exit ?_
      refine thn_e ?_
      refine thn_e ?_
      refine inBlk_self ?_
      refine thn_n ?_
      obtain rfl := Option.some.inj hr
      have hr := congrArg some (hb_x1 _ rfl)
      obtain rfl := Option.some.inj hr
      exact Weak.of 1 ⟨rfl, rfl, trivial⟩ rfl rfl rfl rfl
  · have hr := ho_v1
    clear hb_v1
    refine thn_n ?_
    refine LW.weak hw_v1 ?_
    refine LW.seq ?_
    refine LW.region ?_
    refine LOps.st rfl rfl rfl (LOp.move rfl rfl) ?_
    refine LOps.st rfl rfl rfl (LOp.assign rfl rfl) ?_
    refine LOps.nil ?_
    refine thn_n ?_
    refine LW.ret ?_
    obtain rfl := Option.some.inj hr
    refine fin_ret (.one (.tmp rfl)) ?_
    exact ⟨rfl, rfl⟩
def F101 (n : Int) (i : Int) : Option Bool :=
  bif decide (n > 0) then
    bif decide (n ≤ 1000) then
      bif decide (i ≥ 0) then
        some (decide (i < n))
      else
        some false
    else
      some false
  else
    some false
set_option maxRecDepth 100000 in
theorem c101 {n : Int} {i : Int} {r_ : Bool} (hr : F101 n i = some r_) : LPure Tryz.prog 35 [.int .i64 n, .int .i64 i] [.bool r_] := by
  refine LPure.start Tryz.func35 rfl rfl rfl rfl ?_
  unfold F101 at hr
  refine LW.seq ?_
  refine LW.region ?_
  refine LOps.st rfl rfl rfl (LOp.assign rfl rfl) ?_
  refine LOps.nil ?_
  refine thn_n ?_
  refine LW.seq ?_
  refine LW.region ?_
  refine LOps.st rfl rfl rfl (LOp.move rfl rfl) ?_
  refine LOps.st rfl rfl rfl (LOp.bin rfl rfl rfl rfl) ?_
  refine LOps.st rfl rfl rfl (LOp.move rfl rfl) ?_
  refine LOps.cases 7 rfl (fun (g1 : (decide (n > 0)) = true) => ?_) (fun (g1 : (decide (n > 0)) = false) => ?_)
  · -- g1 is True
    have hr := ite_t g1 hr
    refine LOps.gd rfl rfl rfl (gd g1 rfl) rfl (LOp.move rfl rfl) ?_
    refine LOps.gd rfl rfl rfl (gd g1 rfl) rfl (LOp.bin rfl rfl rfl rfl) ?_
    refine LOps.st rfl rfl rfl (LOp.pickT rfl (gdl g1 rfl) rfl) ?_
    refine LOps.st rfl rfl rfl (LOp.move rfl rfl) ?_
    refine LOps.cases 11 rfl (fun (g2 : (decide (n ≤ 1000)) = true) => ?_) (fun (g2 : (decide (n ≤ 1000)) = false) => ?_)
    · -- g2 is True
      have hr := ite_t g2 hr
      refine LOps.gd rfl rfl rfl (gd g2 rfl) rfl (LOp.move rfl rfl) ?_
      refine LOps.gd rfl rfl rfl (gd g2 rfl) rfl (LOp.bin rfl rfl rfl rfl) ?_
      refine LOps.st rfl rfl rfl (LOp.pickT rfl (gdl g2 rfl) rfl) ?_
      refine LOps.st rfl rfl rfl (LOp.move rfl rfl) ?_
      refine LOps.cases 15 rfl (fun (g3 : (decide (i ≥ 0)) = true) => ?_) (fun (g3 : (decide (i ≥ 0)) = false) => ?_)
      · -- g3 is True
        have hr := ite_t g3 hr
        refine LOps.gd rfl rfl rfl (gd g3 rfl) rfl (LOp.move rfl rfl) ?_
        refine LOps.gd rfl rfl rfl (gd g3 rfl) rfl (LOp.move rfl rfl) ?_
        refine LOps.gd rfl rfl rfl (gd g3 rfl) rfl (LOp.bin rfl rfl rfl rfl) ?_
        refine LOps.st rfl rfl rfl (LOp.pickT rfl (gdl g3 rfl) rfl) ?_
        refine LOps.st rfl rfl rfl (LOp.assign rfl rfl) ?_
        refine LOps.nil ?_
        refine thn_n ?_
        refine LW.ret ?_
        obtain rfl := Option.some.inj hr
        refine finP_ret (.one (.tmp rfl)) ?_
        exact Conv.p
      · -- g3 is False
        have hr := ite_f g3 hr
        refine LOps.sk rfl rfl rfl (gd g3 rfl) rfl rfl ?_
        refine LOps.sk rfl rfl rfl (gd g3 rfl) rfl rfl ?_
        refine LOps.sk rfl rfl rfl (gd g3 rfl) rfl rfl ?_
        refine LOps.st rfl rfl rfl (LOp.pickF rfl (gdl g3 rfl) rfl) ?_
        refine LOps.st rfl rfl rfl (LOp.assign rfl rfl) ?_
        refine LOps.nil ?_
        refine thn_n ?_
        refine LW.ret ?_
        obtain rfl := Option.some.inj hr
        refine finP_ret (.one (.tmp rfl)) ?_
        exact Conv.p
    · -- g2 is False
      have hr := ite_f g2 hr
      refine LOps.sk rfl rfl rfl (gd g2 rfl) rfl rfl ?_
      refine LOps.sk rfl rfl rfl (gd g2 rfl) rfl rfl ?_
      refine LOps.st rfl rfl rfl (LOp.pickF rfl (gdl g2 rfl) rfl) ?_
      refine LOps.st rfl rfl rfl (LOp.move rfl rfl) ?_
      refine LOps.sk rfl rfl rfl rfl rfl rfl ?_
      refine LOps.sk rfl rfl rfl rfl rfl rfl ?_
      refine LOps.sk rfl rfl rfl rfl rfl rfl ?_
      refine LOps.st rfl rfl rfl (LOp.pickF rfl rfl rfl) ?_
      refine LOps.st rfl rfl rfl (LOp.assign rfl rfl) ?_
      refine LOps.nil ?_
      refine thn_n ?_
      refine LW.ret ?_
      obtain rfl := Option.some.inj hr
      refine finP_ret (.one (.tmp rfl)) ?_
      exact Conv.p
  · -- g1 is False
    have hr := ite_f g1 hr
    refine LOps.sk rfl rfl rfl (gd g1 rfl) rfl rfl ?_
    refine LOps.sk rfl rfl rfl (gd g1 rfl) rfl rfl ?_
    refine LOps.st rfl rfl rfl (LOp.pickF rfl (gdl g1 rfl) rfl) ?_
    refine LOps.st rfl rfl rfl (LOp.move rfl rfl) ?_
    refine LOps.sk rfl rfl rfl rfl rfl rfl ?_
    refine LOps.sk rfl rfl rfl rfl rfl rfl ?_
    refine LOps.st rfl rfl rfl (LOp.pickF rfl rfl rfl) ?_
    refine LOps.st rfl rfl rfl (LOp.move rfl rfl) ?_
    refine LOps.sk rfl rfl rfl rfl rfl rfl ?_
    refine LOps.sk rfl rfl rfl rfl rfl rfl ?_
    refine LOps.sk rfl rfl rfl rfl rfl rfl ?_
    refine LOps.st rfl rfl rfl (LOp.pickF rfl rfl rfl) ?_
    refine LOps.st rfl rfl rfl (LOp.assign rfl rfl) ?_
    refine LOps.nil ?_
    refine thn_n ?_
    refine LW.ret ?_
    obtain rfl := Option.some.inj hr
    refine finP_ret (.one (.tmp rfl)) ?_
    exact Conv.p
structure F60_L1 where
  t19 : Int
  d : Dk
  l : List Int
def F60_s1 (seed : Int) (n : Int) (x1 : F60_L1) : Option (F60_L1 ⊕ F60_L1) :=
  bif decide (x1.t19 < ((List.replicate n.toNat (0 : Int)).length : Int)) then
    (F102 seed n x1.t19 x1.d).bind fun v3 =>
    (ix x1.l x1.t19).bind fun _ =>
    some (.inl (F60_L1.mk (IntKind.i64.wrap (x1.t19 + 1)) v3.2 (x1.l.set x1.t19.toNat v3.1)))
  else
    some (.inr (F60_L1.mk x1.t19 x1.d x1.l))
def F60 (seed : Int) (n : Int) : Option (List Int) :=
  (F101 n 0).bind fun v1 =>
  bif !v1 then
    some []
  else
    bif mkOk n 8 then
      (iter (F60_s1 seed n) big (F60_L1.mk 0 dk0 (List.replicate n.toNat (0 : Int)))).bind fun v2 =>
      bif decide (v2.d.k < n) then
        some []
      else
        some v2.l
    else none
set_option maxRecDepth 100000 in
theorem c60 {seed : Int} {n : Int} {r_ : (List Int)} (hr : F60 seed n = some r_) : LPure Tryz.prog 21 [.int .u64 seed, .int .i64 n] [.slice 1 (r_.map i64P)] := by
  refine LPure.start Tryz.func21 rfl rfl rfl rfl ?_
  unfold F60 at hr
  refine LW.seq ?_
  refine LW.region ?_
  refine LOps.st rfl rfl rfl (LOp.assign rfl rfl) ?_
  refine LOps.nil ?_
  refine thn_n ?_
  refine LW.seq ?_
  refine LW.seq ?_
  refine LW.region ?_
  refine LOps.st rfl rfl rfl (LOp.move rfl rfl) ?_
  obtain ⟨v1, h_v1, hr⟩ := bind_get hr
  refine LOps.st rfl rfl rfl (LOp.call rfl rfl rfl (by kernel_rfl) (LC.pure (c101 h_v1) (.cons Conv.p (.cons Conv.p .nil)))) ?_
  refine LOps.st rfl rfl rfl (LOp.not rfl rfl) ?_
  refine LOps.nil ?_
  refine thn_n ?_
  refine LW.cond rfl (fun (g1 : (!v1) = true) => ?_) (fun (g1 : (!v1) = false) => ?_)
  · -- g1 is True
    have hr := ite_t g1 hr
    refine LW.seq ?_
    refine LW.region ?_
    refine LOps.st rfl rfl rfl (LOp.assign rfl rfl) ?_
    refine LOps.nil ?_
    refine thn_n ?_
    refine LW.ret ?_
    refine thn_r ?_
    obtain rfl := Option.some.inj hr
    refine finP_ret (.one (.tmp rfl)) ?_
    exact Conv.zs
  · -- g1 is False
    have hr := ite_f g1 hr
    refine LW.skip ?_
    refine thn_n ?_
    refine LW.seq ?_
    refine LW.region ?_
    refine LOps.st rfl rfl rfl (LOp.move rfl rfl) ?_
    refine LOps.st rfl rfl rfl (LOp.move rfl rfl) ?_
    refine LOps.st rfl rfl rfl (LOp.build rfl bt120 rfl rfl rfl) ?_
    refine LOps.st rfl rfl rfl (LOp.box (H' := [.box (deckS seed n dk0)]) rfl rfl rfl rfl rfl) ?_
    refine LOps.st rfl rfl rfl (LOp.assign rfl rfl) ?_
    refine LOps.nil ?_
    refine thn_n ?_
    refine LW.seq ?_
    refine LW.region ?_
    refine LOps.st rfl rfl rfl (LOp.move rfl rfl) ?_
    obtain ⟨q1, hr⟩ := grd_get hr
    refine LOps.st rfl rfl rfl (LOp.makeSliceX i64P 0 rfl rfl rfl st49 (z := .int .i64 0) (by kernel_rfl) rfl q1 rfl rfl) ?_
    refine LOps.st rfl rfl rfl (LOp.assign rfl rfl) ?_
    refine LOps.nil ?_
    refine thn_n ?_
    refine LW.seq ?_
    refine LW.seq ?_
    refine LW.region ?_
    refine LOps.st rfl rfl rfl (LOp.move rfl rfl) ?_
    refine LOps.st rfl rfl rfl (LOp.lenVM rfl rfl rfl (by kernel_rfl)) ?_
    refine LOps.st rfl rfl rfl (LOp.move rfl rfl) ?_
    refine LOps.nil ?_
    refine thn_n ?_
    obtain ⟨v2, hb_v2, ho_v2⟩ := bind_get hr
    clear hr
    refine LW.tail (E := [(1, .p (.int .i64 n)), (4, .zs), (5, .ptr 0 0), (6, .vec 1 1 (v2.l.map i64P).length 0 (v2.l.map i64P).length)]) (O := [.box (deckS seed n v2.d), .vec 1 (v2.l.map i64P)]) ?_ (fun env_v2 H_v2 hw_v2 => ?_)
    · refine LW.block ?_
      refine LW.iterB (E := fun x1 : F60_L1 => [(1, .p (.int .i64 n)), (4, .zs), (5, .ptr 0 0), (6, .vec 1 1 (x1.l.map i64P).length 0 (x1.l.map i64P).length), (18, .p (.int .i64 ((List.replicate n.toNat (0 : Int)).length : Int))), (19, .p (.int .i64 x1.t19))]) (O := fun x1 => [.box (deckS seed n x1.d), .vec 1 (x1.l.map i64P)]) hb_v2 (Weak.of 2 ⟨rfl, rfl, rfl, rfl, rfl, rfl, trivial⟩ rfl rfl rfl rfl) (fun x1 z_x1 hr hb_x1 => ?_)
      unfold F60_s1 at hr
      refine LW.seq ?_
      refine LW.region ?_
      refine LOps.st rfl rfl rfl (LOp.bin rfl rfl rfl rfl) ?_
      refine LOps.nil ?_
      refine thn_n ?_
      refine LW.seq ?_
      refine LW.cond rfl (fun (g2 : (decide (x1.t19 < ((List.replicate n.toNat (0 : Int)).length : Int))) = true) => ?_) (fun (g2 : (decide (x1.t19 < ((List.replicate n.toNat (0 : Int)).length : Int))) = false) => ?_)
      · -- g2 is True
        have hr := ite_t g2 hr
        refine LW.skip ?_
        refine thn_n ?_
        refine LW.seq ?_
        refine LW.block ?_
        refine LW.seq ?_
        refine LW.region ?_
        refine LOps.st rfl rfl rfl (LOp.move rfl rfl) ?_
        refine LOps.st rfl rfl rfl (LOp.assign rfl rfl) ?_
        refine LOps.nil ?_
        refine thn_n ?_
        refine LW.region ?_
        refine LOps.st rfl rfl rfl (LOp.move rfl rfl) ?_
        refine LOps.st rfl rfl rfl (LOp.move rfl rfl) ?_
        refine LOps.st rfl rfl rfl (LOp.move rfl rfl) ?_
        refine LOps.st rfl rfl rfl (LOp.move rfl rfl) ?_
        obtain ⟨v3, h_v3, hr⟩ := bind_get hr
        refine LOps.st rfl rfl rfl (LOp.call rfl rfl rfl (by kernel_rfl) (LC.pre (cF102 h_v3) rfl rfl rfl)) ?_
        obtain ⟨y1, h_y1, hr⟩ := bind_get hr
        refine LOps.st rfl rfl rfl (LOp.indexAddrVX rfl rfl rfl rfl st49 h_y1) ?_
        refine LOps.st rfl rfl rfl (LOp.storeVX (f := i64P) (l := x1.l) v3.1 rfl rfl rfl rfl vt3 (fun _ => rfl) h_y1 rfl) ?_
        refine LOps.nil ?_
        refine inBlk_n ?_
        refine thn_n ?_
        refine LW.region ?_
        refine LOps.st rfl rfl rfl (LOp.bin rfl rfl rfl rfl) ?_
        refine LOps.st rfl rfl rfl (LOp.move rfl rfl) ?_
        refine LOps.nil ?_
        refine thn_n ?_
        obtain rfl := Option.some.inj hr
        exact ⟨_, rfl, Weak.of 2 ⟨rfl, rfl, rfl, (vset (rfl)), rfl, rfl, trivial⟩ rfl rfl rfl rfl⟩
      · -- g2 is False
        have hr := ite_f g2 hr
        refine LW.exit ?_
        refine thn_e ?_
        refine thn_e ?_
        refine inBlk_self ?_
        refine thn_n ?_
        obtain rfl := Option.some.inj hr
        have hr := congrArg some (hb_x1 _ rfl)
        obtain rfl := Option.some.inj hr
        exact Weak.of 2 ⟨rfl, rfl, rfl, rfl, trivial⟩ rfl rfl rfl rfl
    · have hr := ho_v2
      clear hb_v2
      refine thn_n ?_
      refine LW.weak hw_v2 ?_
      refine LW.seq ?_
      refine LW.seq ?_
      refine LW.region ?_
      refine LOps.st rfl rfl rfl (LOp.move rfl rfl) ?_
      refine LOps.st rfl rfl rfl (LOp.nilCheck rfl rfl) ?_
      refine LOps.st rfl rfl rfl (LOp.fieldAddr rfl rfl ft120_3) ?_
      refine LOps.st rfl rfl rfl (LOp.call rfl rfl rfl (by kernel_rfl) (c106 (off := 52) rfl rfl)) ?_
      refine LOps.st rfl rfl rfl (LOp.move rfl rfl) ?_
      refine LOps.st rfl rfl rfl (LOp.bin rfl rfl rfl rfl) ?_
      refine LOps.nil ?_
      refine thn_n ?_
      refine LW.cond rfl (fun (g3 : (decide (v2.d.k < n)) = true) => ?_) (fun (g3 : (decide (v2.d.k < n)) = false) => ?_)
      · -- g3 is True
        have hr := ite_t g3 hr
        refine LW.seq ?_
        refine LW.region ?_
        refine LOps.st rfl rfl rfl (LOp.assign rfl rfl) ?_
        refine LOps.nil ?_
        refine thn_n ?_
        refine LW.ret ?_
        refine thn_r ?_
        obtain rfl := Option.some.inj hr
        refine finP_ret (.one (.tmp rfl)) ?_
        exact Conv.zs
      · -- g3 is False
        have hr := ite_f g3 hr
        refine LW.skip ?_
        refine thn_n ?_
        refine LW.seq ?_
        refine LW.region ?_
        refine LOps.st rfl rfl rfl (LOp.move rfl rfl) ?_
        refine LOps.st rfl rfl rfl (LOp.assign rfl rfl) ?_
        refine LOps.nil ?_
        refine thn_n ?_
        refine LW.ret ?_
        obtain rfl := Option.some.inj hr
        refine finP_ret (.one (.tmp rfl)) ?_
        exact (Conv.vecAll rfl rfl rfl)
open Go.Proofs
end Go.Mg
