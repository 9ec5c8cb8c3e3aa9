/- Functions: contracts of pure functions (LPure) and of functions that work on objects of their caller's (LC); calls; results. Conditions: none. -/
import Derived.Test.YtlhocfhoocmfiaaMg3
namespace Go.Mg
open Go.RowKit (Below)

/-! Lists of elements. -/

theorem flat_nil : flat [] = [] := rfl
theorem flat_cons (x : PV) (xs : List PV) : flat (x :: xs) = x.cells ++ flat xs := by simp [flat]
theorem flat_append (xs ys : List PV) : flat (xs ++ ys) = flat xs ++ flat ys := by simp [flat]

theorem Elems.nil {m : Nat} : Elems m [] := fun x hx => by simp at hx
theorem Elems.cons {m : Nat} {x : PV} {xs : List PV} (h : x.cells.length = m ∧ ∀ c ∈ x.cells, c.one) (hs : Elems m xs) : Elems m (x :: xs) := by
  intro y hy
  cases hy with
  | head => exact h
  | tail _ hy => exact hs y hy
theorem Elems.tail {m : Nat} {x : PV} {xs : List PV} (h : Elems m (x :: xs)) : Elems m xs := fun y hy => h y (.tail _ hy)
theorem Elems.append {m : Nat} {xs ys : List PV} (h : Elems m xs) (h' : Elems m ys) : Elems m (xs ++ ys) := by
  intro y hy
  rcases List.mem_append.1 hy with hy | hy
  · exact h y hy
  · exact h' y hy
theorem Elems.take {m : Nat} {xs : List PV} (h : Elems m xs) (n : Nat) : Elems m (xs.take n) := fun y hy => h y (List.mem_of_mem_take hy)
theorem Elems.drop {m : Nat} {xs : List PV} (h : Elems m xs) (n : Nat) : Elems m (xs.drop n) := fun y hy => h y (List.mem_of_mem_drop hy)

theorem flat_length {m : Nat} : ∀ {xs : List PV}, Elems m xs → (flat xs).length = m * xs.length
  | [], _ => by simp [flat]
  | x :: xs, h => by
    rw [flat_cons, List.length_append, flat_length h.tail, (h x (.head _)).1, List.length_cons, Nat.mul_add, Nat.mul_one]; omega

theorem flat_drop {m : Nat} : ∀ {xs : List PV} (n : Nat), Elems m xs → flat (xs.drop n) = (flat xs).drop (m * n)
  | xs, 0, _ => by simp
  | [], n + 1, _ => by simp [flat]
  | x :: xs, n + 1, h => by
    have hx := (h x (.head _)).1
    have e : m * (n + 1) = m * n + m := by rw [Nat.mul_add, Nat.mul_one]
    rw [List.drop_succ_cons, flat_drop n h.tail, flat_cons, List.drop_append, hx, List.drop_eq_nil_of_le (as := x.cells) (by omega), List.nil_append]
    congr 1
    omega

theorem flat_take {m : Nat} : ∀ {xs : List PV} (n : Nat), Elems m xs → flat (xs.take n) = (flat xs).take (m * n)
  | xs, 0, _ => by simp [flat]
  | [], n + 1, _ => by simp [flat]
  | x :: xs, n + 1, h => by
    have hx := (h x (.head _)).1
    have e : m * (n + 1) = m * n + m := by rw [Nat.mul_add, Nat.mul_one]
    rw [List.take_succ_cons, flat_cons, flat_take n h.tail, flat_cons, List.take_append, hx, List.take_of_length_le (l := x.cells) (by omega)]
    congr 2
    omega

theorem flat_ones {m : Nat} {xs : List PV} (h : Elems m xs) : ∀ c ∈ flat xs, c.one := by
  intro c hc
  obtain ⟨x, hx, hc⟩ := List.mem_flatMap.1 hc
  exact (h x hx).2 c hc

/-! Logical values handed over as plain data. -/

/-- With b: one's own slices too, as they are now. -/
def Conv (b : Bool) (H : List LObj) (x : LV) (p : PV) : Prop :=
  ∀ μ I w v, St μ I w H → LRep μ I w x v → Rep (fun c => I c ∨ (b = true ∧ Own μ c)) w p v

theorem Conv.p {b : Bool} {H : List LObj} {x : PV} : Conv b H (.p x) x := fun μ I w v _ h => by
  cases h with
  | p h => exact h.mono fun c hc => ⟨.inl hc, rfl⟩

theorem Conv.zs {b : Bool} {H : List LObj} {m : Nat} : Conv b H .zs (.slice m []) := fun μ I w v _ h => by
  cases h
  exact .slice (fun _ => undef) rfl (Nat.le_refl _) (Nat.zero_le _) .nil (fun i c h => by simp [flat] at h) (fun i c h => by simp [flat] at h)

theorem Conv.vec {H : List LObj} {m id n off len : Nat} {xs : List PV} (hH : H[id]? = some (.vec m xs)) (hn : n = xs.length) (hl : off + len ≤ n) : Conv true H (.vec m id n off len) (.slice m ((xs.drop off).take len)) := by
  intro μ I w v hs h
  cases h with
  | @vec _ _ _ _ _ B _ hid h1 hnB hf =>
    have ho := hs.objs id _ _ hH hid
    have hBn : n = B.n := by cases ho <;> simp_all
    rcases hf hBn with ⟨rfl, a, rfl⟩ | ⟨b, cap, hB, rfl, hlc, hmax, c', e', hsz⟩
    · simp only [List.take_zero]
      exact .slice (fun _ => undef) rfl (Nat.le_refl _) (Nat.zero_le _) .nil (fun i c h => by simp [flat] at h) (fun i c h => by simp [flat] at h)
    · cases ho with
      | vecE => cases hB
      | @vec _ _ b' vs e hb hl' hne hm hr =>
        cases hB
        have hlen : ((xs.drop off).take len).length = len := by simp; omega
        have hidx : ∀ (i : Nat) c, (flat ((xs.drop off).take len))[i]? = some c → (flat xs)[m * off + i]? = some c := by
          intro i c hi
          rw [flat_take _ (hm.drop off), flat_drop _ hm] at hi
          rw [List.getElem?_take] at hi
          split at hi
          · rwa [List.getElem?_drop] at hi
          · cases hi
        have hcell : ∀ (i : Nat) c, (flat xs)[i]? = some c → ∃ u, vs[i]? = some u := by
          intro i c hi
          have h1 := (List.getElem?_eq_some_iff.1 hi).1
          rw [flat_length hm] at h1
          exact ⟨_, Array.getElem?_eq_getElem (by omega)⟩
        refine .slice (fun i => vs.getD (m * off + i) undef) hlen.symm hlc hmax ((hm.drop off).take len) (fun i c hi => ?_) (fun i c hi => ?_)
        · obtain ⟨u, hu⟩ := hcell _ c (hidx i c hi)
          refine ⟨b, m * off, rfl, .inr ⟨rfl, ⟨_, List.mem_of_getElem? hid⟩⟩, ?_⟩
          simp [World.cell?, hb, hu]
        · obtain ⟨u, hu⟩ := hcell _ c (hidx i c hi)
          have := hr _ c u (hidx i c hi) hu
          simp only [Array.getD_eq_getD_getElem?, hu, Option.getD_some]
          exact this.mono fun c hc => ⟨.inl hc, rfl⟩

theorem Conv.vecAll {H : List LObj} {m id n len : Nat} {xs : List PV} (hH : H[id]? = some (.vec m xs)) (hn : n = xs.length) (hl : len = xs.length) : Conv true H (.vec m id n 0 len) (.slice m xs) := by
  have := Conv.vec (off := 0) (len := len) hH hn (by omega)
  rwa [List.drop_zero, List.take_of_length_le (by omega)] at this

def Convs (b : Bool) (H : List LObj) : List LV → List PV → Prop
  | [], [] => True
  | x :: xs, p :: ps => Conv b H x p ∧ Convs b H xs ps
  | _, _ => False

theorem Convs.nil {b : Bool} {H : List LObj} : Convs b H [] [] := trivial
theorem Convs.cons {b : Bool} {H : List LObj} {x : LV} {xs : List LV} {p : PV} {ps : List PV} (h : Conv b H x p) (hs : Convs b H xs ps) : Convs b H (x :: xs) (p :: ps) := ⟨h, hs⟩

theorem Convs.get {b : Bool} {H : List LObj} : ∀ {xs : List LV} {ps : List PV}, Convs b H xs ps → xs.length = ps.length ∧ ∀ (i : Nat) x p, xs[i]? = some x → ps[i]? = some p → Conv b H x p
  | [], [], _ => ⟨rfl, fun i x p h => by simp at h⟩
  | x :: xs, p :: ps, h => by
    obtain ⟨h1, h2⟩ := Convs.get h.2
    refine ⟨by simp [h1], fun i y q hy hq => ?_⟩
    cases i with
    | zero => simp at hy hq; subst hy; subst hq; exact h.1
    | succ i => simp at hy hq; exact h2 i y q hy hq
  | [], _ :: _, h => h.elim
  | _ :: _, [], h => h.elim

theorem Conv.agg {b : Bool} {H : List LObj} {cs : List LV} {ps : List PV} (h : Convs b H cs ps) : Conv b H (.agg cs) (.agg ps) := by
  intro μ I w v hs hr
  obtain ⟨h1, h2⟩ := h.get
  cases hr with
  | @agg _ vs hl ho hr =>
    have key : ∀ (i : Nat) c u, ps[i]? = some c → vs[i]? = some u → Rep (fun c => I c ∨ (b = true ∧ Own μ c)) w c u := by
      intro i c u hc hu
      have hi := (List.getElem?_eq_some_iff.1 hc).1
      have hx : cs[i]? = some cs[i] := List.getElem?_eq_getElem (by omega)
      exact h2 i _ c hx hc μ I w u hs (hr i _ u hx hu)
    refine .agg (by omega) (fun c hc => ?_) key
    obtain ⟨i, hi, rfl⟩ := List.mem_iff_getElem.1 hc
    have hi' : i < vs.size := by omega
    exact PV.one_of_rep (key i _ vs[i] (List.getElem?_eq_getElem hi) (Array.getElem?_eq_getElem hi')) (ho _ (Array.getElem_mem hi'))

/-! Contracts. -/

def RepL (I : Nat → Prop) (w : World) : List PV → List Value → Prop
  | [], [] => True
  | a :: as, v :: vs => Rep I w a v ∧ RepL I w as vs
  | _, _ => False

def LRepL (μ : List Blk) (I : Nat → Prop) (w : World) : List LV → List Value → Prop
  | [], [] => True
  | a :: as, v :: vs => LRep μ I w a v ∧ LRepL μ I w as vs
  | _, _ => False

theorem LRepL.len {μ : List Blk} {I : Nat → Prop} {w : World} : ∀ {as : List LV} {vs : List Value}, LRepL μ I w as vs → vs.length = as.length
  | [], [], _ => rfl
  | _ :: _, _ :: _, h => by simp [LRepL.len h.2]
  | [], _ :: _, h => h.elim
  | _ :: _, [], h => h.elim

theorem LRepL.get {μ : List Blk} {I : Nat → Prop} {w : World} : ∀ {as : List LV} {vs : List Value}, LRepL μ I w as vs → ∀ (i : Nat) x v, as[i]? = some x → vs[i]? = some v → LRep μ I w x v
  | [], [], _, i, x, v, hx, _ => by simp at hx
  | a :: as, u :: vs, h, i, x, v, hx, hv => by
    cases i with
    | zero => simp at hx hv; subst hx; subst hv; exact h.1
    | succ i => simp at hx hv; exact LRepL.get h.2 i x v hx hv
  | [], _ :: _, h, _, _, _, _, _ => h.elim
  | _ :: _, [], h, _, _, _, _, _ => h.elim

theorem LRepL.mk {μ : List Blk} {I : Nat → Prop} {w : World} : ∀ {as : List LV} {vs : List Value}, vs.length = as.length → (∀ (i : Nat) x v, as[i]? = some x → vs[i]? = some v → LRep μ I w x v) → LRepL μ I w as vs
  | [], [], _, _ => trivial
  | a :: as, v :: vs, hl, h => ⟨h 0 a v rfl rfl, LRepL.mk (by simpa using hl) fun i x u hx hu => h (i + 1) x u (by simpa using hx) (by simpa using hu)⟩
  | [], _ :: _, hl, _ => by simp at hl
  | _ :: _, [], hl, _ => by simp at hl

theorem LRepL.append {μ : List Blk} {I : Nat → Prop} {w : World} : ∀ {as bs : List LV} {vs us : List Value}, LRepL μ I w as vs → LRepL μ I w bs us → LRepL μ I w (as ++ bs) (vs ++ us)
  | [], _, [], _, _, h => h
  | _ :: _, _, _ :: _, _, h, h' => ⟨h.1, LRepL.append h.2 h'⟩
  | [], _, _ :: _, _, h, _ => h.elim
  | _ :: _, _, [], _, h, _ => h.elim

/-- One result, or several. -/
def retv : List PV → LV
  | [x] => .p x
  | xs => .tup (xs.map .p)

/-- A PURE FUNCTION: it hands back what represents rs, and turns nothing that was there. -/
def LPure (P : Program) (f : FuncId) (as rs : List PV) : Prop :=
  ∀ (args : Array Value) (w : World) (I : Nat → Prop), (∀ b, I b → b < w.heap.size) → RepL I w as args.toList →
    Calls P f args w fun e w' => ∃ v, e = .returned v ∧ LRep [] (fun b => I b ∨ (w.heap.size ≤ b ∧ b < w'.heap.size)) w' (retv rs) v ∧ Below w.heap.size w w'

/-- A call upon objects of the caller's. -/
def LC (P : Program) (f : FuncId) (as : List LV) (H : List LObj) (R : LV → List LObj → Prop) : Prop :=
  ∀ (args : Array Value) (w : World) (μ : List Blk) (I : Nat → Prop), St μ I w H → LRepL μ I w as args.toList →
    Calls P f args w fun e w' => ∃ x v H' μ' I', e = .returned v ∧ R x H' ∧ St μ' I' w' H' ∧ LRep μ' I' w' x v ∧ Ext μ.length μ I w μ' I' w'

theorem LC.mono {P : Program} {f : FuncId} {as : List LV} {H : List LObj} {R R' : LV → List LObj → Prop} (h : LC P f as H R) (hr : ∀ x H', R x H' → R' x H') : LC P f as H R' :=
  fun args w μ I hs ha => (h args w μ I hs ha).mono fun _ _ ⟨x, v, H', μ', I', he, hR, rest⟩ => ⟨x, v, H', μ', I', he, hr _ _ hR, rest⟩

theorem convs_repL {b : Bool} {H : List LObj} {μ : List Blk} {I : Nat → Prop} {w : World} (hs : St μ I w H) :
    ∀ {xs : List LV} {ps : List PV} {vs : List Value}, Convs b H xs ps → LRepL μ I w xs vs → RepL (fun c => I c ∨ (b = true ∧ Own μ c)) w ps vs
  | [], [], [], _, _ => trivial
  | x :: xs, p :: ps, v :: vs, hc, hr => ⟨hc.1 μ I w v hs hr.1, convs_repL hs hc.2 hr.2⟩
  | [], _ :: _, _, hc, _ => hc.elim
  | _ :: _, [], _, hc, _ => hc.elim
  | [], [], _ :: _, _, hr => hr.elim
  | _ :: _, _ :: _, [], _, hr => hr.elim

theorem Ext.of_below {μ : List Blk} {I : Nat → Prop} {w w' : World} {H : List LObj} (hs : St μ I w H) (hb : Below w.heap.size w w') :
    Ext μ.length μ I w μ (fun b => I b ∨ (w.heap.size ≤ b ∧ b < w'.heap.size)) w' where
  get := fun _ B _ h => ⟨B, h, Nat.le_refl _, fun _ => .inl rfl, fun _ _ => rfl⟩
  len := Nat.le_refl _
  len' := Nat.le_refl _
  os := hb.os
  tape := hb.tape
  output := hb.output
  size := hb.size
  imm := fun b h => ⟨.inl h, hb.block b (hs.ilt b h)⟩
  shape := fun b c e f h => ⟨c, by rw [hb.block b (Array.getElem?_eq_some_iff.1 h).1]; exact h, rfl⟩
  inew := fun b h => h.elim .inl fun h => .inr (.inr h.1)
  mnew := fun b h => .inl h
  keep := fun b h _ => hb.block b h

theorem St.of_below {μ : List Blk} {I : Nat → Prop} {w w' : World} {H : List LObj} (hs : St μ I w H) (hb : Below w.heap.size w w') :
    St μ (fun b => I b ∨ (w.heap.size ≤ b ∧ b < w'.heap.size)) w' H where
  len := hs.len
  inj := hs.inj
  lt := fun b h => Nat.lt_of_lt_of_le (hs.lt b h) hb.size
  off := fun b h hi => hi.elim (hs.off b h) fun h' => by have := hs.lt b h; omega
  ilt := fun b h => h.elim (fun h => Nat.lt_of_lt_of_le (hs.ilt b h) hb.size) fun h => h.2
  objs := fun i o b ho hbm => (hs.objs i o b ho hbm).ext (Ext.of_below hs hb) fun c hc => hb.block c (hs.lt c ⟨b.n, by rw [show (⟨some c, b.n⟩ : Blk) = b from by rw [← hc]]; exact List.mem_of_getElem? hbm⟩)

theorem LRep.wide {I I' : Nat → Prop} {w : World} {rs : List PV} {v : Value} {μ : List Blk} (h : LRep [] I w (retv rs) v) (hI : ∀ b, I b → I' b) : LRep μ I' w (retv rs) v := by
  have one : ∀ {x : PV} {v : Value}, LRep [] I w (.p x) v → LRep μ I' w (.p x) v := fun h => by
    cases h with
    | p h => exact .p (h.mono fun b hb => ⟨hI b hb, rfl⟩)
  have many : ∀ {xs : List PV} {v : Value}, LRep [] I w (.tup (xs.map .p)) v → LRep μ I' w (.tup (xs.map .p)) v := fun h => by
    cases h with
    | tup hl h =>
      refine .tup hl fun i c v hc hv => ?_
      have := h i c v hc hv
      obtain ⟨x, -, rfl⟩ := List.mem_map.1 (List.mem_of_getElem? hc)
      exact one this
  unfold retv at h ⊢
  split at h
  · exact one h
  · exact many h

/-- A pure function called with plain data. -/
theorem LC.pure {P : Program} {f : FuncId} {as rs : List PV} {xs : List LV} {H : List LObj} (h : LPure P f as rs) (hc : Convs false H xs as) : LC P f xs H (Is (retv rs) H) := by
  intro args w μ I hs ha
  have ha' : RepL I w as args.toList := by
    have := convs_repL hs hc ha
    have e : (fun c => I c ∨ (false = true ∧ Own μ c)) = I := by funext c; simp
    rwa [e] at this
  refine (h args w I hs.ilt ha').mono ?_
  rintro e w' ⟨v, rfl, hv, hb⟩
  exact ⟨_, v, H, μ, _, rfl, ⟨rfl, rfl⟩, hs.of_below hb, hv.wide fun _ h => h, Ext.of_below hs hb⟩

mutual
def PV.scal : PV → Bool
  | .int _ _ => true
  | .bool _ => true
  | .agg cs => PV.scals cs
  | .slice _ _ => false
def PV.scals : List PV → Bool
  | [] => true
  | x :: r => match PV.scal x with | true => PV.scals r | false => false
end

theorem PV.scals_spec : ∀ {cs : List PV}, PV.scals cs = true → ∀ c ∈ cs, c.scal = true
  | [], _, c, hc => by simp at hc
  | x :: r, h, c, hc => by
    simp only [PV.scals] at h
    split at h
    · rename_i h1
      cases hc with
      | head => exact h1
      | tail _ hc => exact PV.scals_spec h c hc
    · cases h

theorem Rep.scal {I I' : Nat → Prop} {w w' : World} {x : PV} {v : Value} (h : Rep I w x v) (hs : x.scal = true) : Rep I' w' x v := by
  induction h with
  | int h => exact .int h
  | bool => exact .bool
  | agg hl ho h ih => exact .agg hl ho fun i c v hc hv => ih i c v hc hv (PV.scals_spec (by simpa [PV.scal] using hs) c (List.mem_of_getElem? hc))
  | slice => simp [PV.scal] at hs

theorem LRep.scals {I I' : Nat → Prop} {w w' : World} {rs : List PV} {v : Value} {μ : List Blk} (h : LRep [] I w (retv rs) v) (hs : PV.scals rs = true) : LRep μ I' w' (retv rs) v := by
  have hs' := PV.scals_spec hs
  unfold retv at h ⊢
  split at h
  · cases h with
    | p h => exact .p (h.scal (hs' _ (.head _)))
  · cases h with
    | tup hl h =>
      refine .tup hl fun i c v hc hv => ?_
      have := h i c v hc hv
      obtain ⟨x, hx, rfl⟩ := List.mem_map.1 (List.mem_of_getElem? hc)
      cases this with
      | p h => exact .p (h.scal (hs' _ hx))

/-- A pure function of which only numbers come back may be lent one's own slices. -/
theorem LC.lend {P : Program} {f : FuncId} {as rs : List PV} {xs : List LV} {H : List LObj} (h : LPure P f as rs) (hc : Convs true H xs as) (hr : PV.scals rs = true) :
    LC P f xs H (Is (retv rs) H) := by
  intro args w μ I hs ha
  refine (h args w _ (fun b hb => hb.elim (hs.ilt b) fun h => hs.lt b h.2) (convs_repL hs hc ha)).mono ?_
  rintro e w' ⟨v, rfl, hv, hb⟩
  exact ⟨_, v, H, μ, _, rfl, ⟨rfl, rfl⟩, hs.of_below hb, hv.scals hr, Ext.of_below hs hb⟩

/-! The call. -/

def callable (P : Program) (f : FuncId) : Bool := (P.funcs[f]?).any fun fn => fn.name != "runtime.NumGoroutine" && fn.body.isSome

def levs (env : Env) : List Operand → Option (List LV)
  | [] => some []
  | x :: r => match lev env x, levs env r with | some y, some ys => some (y :: ys) | _, _ => none

theorem levs_rep {μ : List Blk} {I : Nat → Prop} {w : World} {o : Oper} {env : Env} {a : Act} (h : EOn μ I w o env a) :
    ∀ {xs : List Operand} {ls : List LV}, (∀ x ∈ xs, x ∈ o.op.operands) → levs env xs = some ls → LRepL μ I w ls (xs.map a.eval)
  | [], ls, _, hl => by simp [levs] at hl; subst hl; trivial
  | x :: xs, ls, hx, hl => by
    simp only [levs] at hl
    split at hl
    · rename_i y ys hy hys
      cases hl
      exact ⟨h.ev (hx x (.head _)) hy, levs_rep h (fun z hz => hx z (.tail _ hz)) hys⟩
    · cases hl

theorem LOp.call {P : Program} {o : Oper} {env : Env} {H : List LObj} {R : LV → List LObj → Prop} {fo : Operand} {args : Array Operand} {ats : Array TypeId} {f : FuncId} {first caps ls : List LV}
    (ho : o.op = .call { callee := .value fo, args := args, argTypes := ats }) (hf : lev env fo = some (.fn f first caps)) (hl : levs env args.toList = some ls)
    (hc : callable P f = true) (h : LC P f (first ++ ls ++ caps) H R) : LOp P o env H R := by
  intro a w μ I hs he K Q hK
  have hfo : LRep μ I w (.fn f first caps) (a.eval fo) := he.ev (by rw [ho]; simp [Op.operands, Call.operands]) hf
  have hargs := levs_rep he (xs := args.toList) (by intro x hx; rw [ho]; simp [Op.operands, Call.operands]; exact .inr (by simpa using hx)) hl
  generalize hv : a.eval fo = v at hfo
  cases hfo with
  | @fn _ _ _ fs cs h1 h2 h3 h4 =>
    have hrun : (execOp a.eval o).run P w = .ok (.enter f (fs ++ args.map a.eval ++ cs)) w := by
      unfold callable at hc
      cases hfn : P.funcs[f]? with
      | none => rw [hfn] at hc; simp at hc
      | some fn =>
        rw [hfn] at hc
        simp only [Option.any_some, Bool.and_eq_true, bne_iff_ne, ne_eq] at hc
        have hn : ¬ fn.body = none := by intro hb; rw [hb] at hc; simp at hc
        simp [execOp, ho, resolve, Deferred.ofValue, hv, invoke, callFunc, hfn]
        rw [if_neg hc.1, if_neg hn]
    unfold Oper.wp
    rw [hrun]
    simp only [Oper.upon]
    refine (h _ w μ I hs ?_).mono ?_
    · have e : (fs ++ args.map a.eval ++ cs).toList = fs.toList ++ args.toList.map a.eval ++ cs.toList := by simp
      rw [e]
      exact ((LRepL.mk (by simpa using h1) (fun i x v hx hv => h3 i x v hx (by simpa using hv))).append hargs).append (LRepL.mk (by simpa using h2) (fun i x v hx hv => h4 i x v hx (by simpa using hv)))
    · rintro e w' ⟨x, u, H', μ', I', rfl, hR, hs', hr, hE⟩
      exact hK x H' u w' μ' I' hR hs' hr hE

/-! Functions by their text. -/

def penv : Nat → List LV → Env
  | _, [] => []
  | i, a :: r => (i, a) :: penv (i + 1) r

theorem penv_get : ∀ {as : List LV} {i t : Nat} {x : LV}, (penv i as).get t = some x → i ≤ t ∧ as[t - i]? = some x
  | [], i, t, x, h => by cases h
  | a :: r, i, t, x, h => by
    simp only [penv, Env.get_cons] at h
    split at h
    · rename_i e; subst e; cases h; simp
    · obtain ⟨h1, h2⟩ := penv_get h
      refine ⟨by omega, ?_⟩
      rw [show t - i = (t - (i + 1)) + 1 by omega]; simpa using h2

/-- The results' variables. -/
def tAgg (P : Program) (t : TypeId) (n : Nat) : Bool :=
  (match P.underlying t with | some (.struct _) => true | some (.array _ _) => true | _ => false) && ((P.info? t).map (·.size)) == some n
def tOne (P : Program) (t : TypeId) : Bool :=
  (match P.underlying t with | none => false | some (.struct _) => false | some (.array _ _) => false | _ => true) && ((P.info? t).map (·.size)) == some 1

theorem run_isAgg_true {P : Program} {t : TypeId} {n : Nat} (h : tAgg P t n = true) (w : World) : (isAgg t).run P w = .ok true w := by
  simp only [tAgg, Bool.and_eq_true] at h
  unfold isAgg
  cases hu : P.underlying t with
  | none => simp [hu] at h
  | some d => cases d <;> simp [hu] at h <;> simp [Sem.run_bind, run_underlying hu, Result.andThen]

theorem run_isAgg_false {P : Program} {t : TypeId} (h : tOne P t = true) (w : World) : (isAgg t).run P w = .ok false w := by
  simp only [tOne, Bool.and_eq_true] at h
  unfold isAgg
  cases hu : P.underlying t with
  | none => simp [hu] at h
  | some d => cases d <;> simp [hu] at h <;> simp [Sem.run_bind, run_underlying hu, Result.andThen]

theorem run_sizeOf_agg {P : Program} {t : TypeId} {n : Nat} (h : tAgg P t n = true) (w : World) : (sizeOf t).run P w = .ok n w := by
  simp only [tAgg, Bool.and_eq_true, beq_iff_eq] at h
  cases hi : P.info? t with
  | none => simp [hi] at h
  | some i => simp [hi] at h; simp [sizeOf, typeInfo, hi, h.2]

theorem run_sizeOf_one {P : Program} {t : TypeId} (h : tOne P t = true) (w : World) : (sizeOf t).run P w = .ok 1 w := by
  simp only [tOne, Bool.and_eq_true, beq_iff_eq] at h
  cases hi : P.info? t with
  | none => simp [hi] at h
  | some i => simp [hi] at h; simp [sizeOf, typeInfo, hi, h.2]

theorem addr_add (b o i : Nat) : (⟨b, o, none⟩ : Addr).add i = ⟨b, o + i, none⟩ := by unfold Addr.add; split <;> simp_all

theorem run_loadVar_agg {P : Program} {t : TypeId} {n : Nat} (h : tAgg P t n = true) (w : World) (b o : Nat) (f : Nat → Value) (hc : ∀ i, i < n → w.cell? ⟨b, o + i, none⟩ = some (f i)) :
    (loadVar t ⟨b, o, none⟩).run P w = .ok (.agg ((List.range n).map f).toArray) w := by
  unfold loadVar
  simp only [Sem.run_bind, run_isAgg_true h, Result.andThen, if_true, run_sizeOf_agg h]
  rw [run_loadCells w ⟨b, o, none⟩ n f (fun j hj => by rw [addr_add]; exact hc j hj)]
  rfl

theorem run_loadVar_one {P : Program} {t : TypeId} (h : tOne P t = true) (w : World) (b o : Nat) (v : Value) (hc : w.cell? ⟨b, o, none⟩ = some v) :
    (loadVar t ⟨b, o, none⟩).run P w = .ok v w := by
  unfold loadVar
  simp [Sem.run_bind, run_isAgg_false h, Result.andThen, load, Sem.run, hc]

/-- What a result's variable holds. -/
inductive Res (P : Program) (env : Env) (H : List LObj) : ResultVar → LV → Prop
  | tmp {t : Tmp} {x : LV} (h : env.get t = some x) : Res P env H (.tmp t) x
  | cellAgg {t : Tmp} {ty : TypeId} {id n : Nat} {cs : List LV} (h : env.get t = some (.ptr id 0)) (hH : H[id]? = some (.box cs)) (hn : tAgg P ty n = true) (hl : cs.length = n) :
      Res P env H (.cell t ty) (mkAgg cs)
  | cellOne {t : Tmp} {ty : TypeId} {id : Nat} {x : LV} (h : env.get t = some (.ptr id 0)) (hH : H[id]? = some (.box [x])) (hn : tOne P ty = true) :
      Res P env H (.cell t ty) x

def resVal (tmps : Array Value) : ResultVar → Sem Value
  | .tmp t => pure (tmps.getD t undef)
  | .cell a t => do loadVar t (← asAddr (tmps.getD a undef))

theorem Res.run {P : Program} {n : Nat} {μ : List Blk} {I : Nat → Prop} {w : World} {H : List LObj} {env : Env} {a : Act} (hn : Now n μ I w H env a) {r : ResultVar} {x : LV} (h : Res P env H r x) :
    ∃ v, (resVal a.tmps r).run P w = .ok v w ∧ LRep μ I w x v := by
  cases h with
  | tmp h =>
    obtain ⟨v, hv, hr⟩ := hn.env _ _ h
    exact ⟨v, by simp [resVal, hv], hr⟩
  | @cellAgg t ty id n cs h hH hT hl =>
    obtain ⟨v, hv, hr⟩ := hn.env _ _ h
    cases hr with
    | @ptr _ _ b hid =>
      have ho := hn.st.objs _ _ _ hH hid
      cases ho with
      | @box _ _ vs e hb hl' ho hr =>
        have hvs : vs.size = n := by omega
        have := run_loadVar_agg hT w b 0 (fun i => vs.getD i undef) (fun i hi => by simp [World.cell?, hb, Array.getElem?_eq_getElem (show i < vs.size by omega)])
        have e : ((List.range n).map fun i => vs.getD i undef).toArray = vs := by
          apply Array.ext
          · simp [hvs]
          · intro i h1 h2; simp [h2]
        rw [e] at this
        refine ⟨.agg vs, by simp [resVal, hv, asAddr, this], ?_⟩
        exact mkAgg_rep (by omega) ho hr
  | @cellOne t ty id x h hH hT =>
    obtain ⟨v, hv, hr⟩ := hn.env _ _ h
    cases hr with
    | @ptr _ _ b hid =>
      have ho := hn.st.objs _ _ _ hH hid
      cases ho with
      | @box _ _ vs e hb hl' ho hr =>
        have hvs : vs.size = 1 := by simpa using hl'
        have h0 : vs[0]? = some vs[0] := Array.getElem?_eq_getElem (by omega)
        have := run_loadVar_one hT w b 0 vs[0] (by simp [World.cell?, hb, h0])
        exact ⟨vs[0], by simp [resVal, hv, asAddr, this], hr 0 x vs[0] rfl h0⟩

theorem results_eq (fn : Func) (tmps : Array Value) : results fn tmps = (do
    let vs ← fn.results.mapM (resVal tmps)
    pure (if h : vs.size = 1 then vs[0] else .tuple vs)) := by
  unfold results
  congr 1

theorem results_one {P : Program} {fn : Func} {r : ResultVar} (h : fn.results = #[r]) {tmps : Array Value} {w : World} {v : Value} (hr : (resVal tmps r).run P w = .ok v w) :
    (results fn tmps).run P w = .ok v w := by
  rw [results_eq, h]
  simp [hr]

theorem results_two {P : Program} {fn : Func} {r s : ResultVar} (h : fn.results = #[r, s]) {tmps : Array Value} {w : World} {v u : Value} (hr : (resVal tmps r).run P w = .ok v w)
    (hs : (resVal tmps s).run P w = .ok u w) : (results fn tmps).run P w = .ok (.tuple #[v, u]) w := by
  rw [results_eq, h]
  simp [hr, hs]

theorem results_three {P : Program} {fn : Func} {r s q : ResultVar} (h : fn.results = #[r, s, q]) {tmps : Array Value} {w : World} {v u t : Value} (hr : (resVal tmps r).run P w = .ok v w)
    (hs : (resVal tmps s).run P w = .ok u w) (hq : (resVal tmps q).run P w = .ok t w) : (results fn tmps).run P w = .ok (.tuple #[v, u, t]) w := by
  rw [results_eq, h]
  simp [hr, hs, hq]

theorem results_none {P : Program} {fn : Func} (h : fn.results = #[]) {tmps : Array Value} {w : World} : (results fn tmps).run P w = .ok (.tuple #[]) w := by
  rw [results_eq, h]
  simp

/-- All results of a function, as one logical value. -/
inductive ResAll (P : Program) (env : Env) (H : List LObj) : Array ResultVar → LV → Prop
  | none : ResAll P env H #[] (.tup [])
  | one {r : ResultVar} {x : LV} (h : Res P env H r x) : ResAll P env H #[r] x
  | two {r s : ResultVar} {x y : LV} (h : Res P env H r x) (h' : Res P env H s y) : ResAll P env H #[r, s] (.tup [x, y])
  | three {r s q : ResultVar} {x y z : LV} (h : Res P env H r x) (h' : Res P env H s y) (h'' : Res P env H q z) : ResAll P env H #[r, s, q] (.tup [x, y, z])

theorem lrep_two {μ : List Blk} {I : Nat → Prop} {w : World} {x y : LV} {v u : Value} (h : LRep μ I w x v) (h' : LRep μ I w y u) : LRep μ I w (.tup [x, y]) (.tuple #[v, u]) := by
  refine .tup rfl fun i c z hc hz => ?_
  match i with
  | 0 => simp at hc hz; subst hc; subst hz; exact h
  | 1 => simp at hc hz; subst hc; subst hz; exact h'
  | i + 2 => simp at hc

theorem lrep_three {μ : List Blk} {I : Nat → Prop} {w : World} {x y z : LV} {v u t : Value} (h : LRep μ I w x v) (h' : LRep μ I w y u) (h'' : LRep μ I w z t) :
    LRep μ I w (.tup [x, y, z]) (.tuple #[v, u, t]) := by
  refine .tup rfl fun i c s hc hs => ?_
  match i with
  | 0 => simp at hc hs; subst hc; subst hs; exact h
  | 1 => simp at hc hs; subst hc; subst hs; exact h'
  | 2 => simp at hc hs; subst hc; subst hs; exact h''
  | i + 3 => simp at hc

theorem ResAll.run {P : Program} {n : Nat} {μ : List Blk} {I : Nat → Prop} {w : World} {H : List LObj} {env : Env} {a : Act} (hn : Now n μ I w H env a) {fn : Func} {x : LV}
    (h : ResAll P env H fn.results x) : ∃ v, (results fn a.tmps).run P w = .ok v w ∧ LRep μ I w x v := by
  generalize hr : fn.results = rs at h
  cases h with
  | none => exact ⟨_, results_none hr, .tup rfl (fun i c v hc => by simp at hc)⟩
  | one h =>
    obtain ⟨v, h1, h2⟩ := h.run hn
    exact ⟨v, results_one hr h1, h2⟩
  | two h h' =>
    obtain ⟨v, h1, h2⟩ := h.run hn
    obtain ⟨u, h3, h4⟩ := h'.run hn
    exact ⟨_, results_two hr h1 h3, lrep_two h2 h4⟩
  | three h h' h'' =>
    obtain ⟨v, h1, h2⟩ := h.run hn
    obtain ⟨u, h3, h4⟩ := h'.run hn
    obtain ⟨t, h5, h6⟩ := h''.run hn
    exact ⟨_, results_three hr h1 h3 h5, lrep_three h2 h4 h6⟩

/-- How a function's text may end. -/
def Fin (P : Program) (fn : Func) (k : Nat) (R : LV → List LObj → Prop) : Exit → Env → List LObj → Prop := fun e env H =>
  (e = .normal ∨ e = .ret) ∧ ((∃ x, ResAll P env H fn.results x ∧ R x H) ∨ ∃ env' H' x, Weak k env' H' env H ∧ ResAll P env' H' fn.results x ∧ R x H')

theorem start_now {P : Program} {fn : Func} {as : List LV} {args : Array Value} {w : World} {μ : List Blk} {I : Nat → Prop} {H : List LObj} (hs : St μ I w H)
    (ha : LRepL μ I w as args.toList) (hn : as.length ≤ fn.ntmps) :
    Now fn.ntmps μ I w H (penv 0 as) { tmps := args ++ Array.replicate (fn.ntmps - args.size) undef, defers := [] } where
  size := by have := ha.len; simp at this ⊢; omega
  defers := rfl
  st := hs
  env := fun t x ht => by
    obtain ⟨-, h2⟩ := penv_get ht
    simp only [Nat.sub_zero] at h2
    have hlen := ha.len
    have hlt := (List.getElem?_eq_some_iff.1 h2).1
    have hlt' : t < args.size := by simp at hlen; omega
    refine ⟨args[t], by simp [Array.getElem?_append, hlt'], ha.get t x _ h2 (by simp [hlt'])⟩

theorem LC.of {P : Program} {f : FuncId} {fn : Func} {c : Code} {as : List LV} {H : List LObj} {R : LV → List LObj → Prop} (hf : P.funcs[f]? = some fn) (hb : fn.body = some c)
    (hn : Nat.ble as.length fn.ntmps = true) (h : LW P fn.ntmps H.length c (penv 0 as) H (Fin P fn H.length R)) : LC P f as H R := by
  intro args w μ I hs ha
  have hnow := start_now (P := P) (fn := fn) hs ha (by simpa using hn)
  refine calls_of_wp hf hb (h _ w μ I hnow (by rw [hs.len]; exact Nat.le_refl _) _ ?_)
  rintro e env' H' a' w' μ' I' ⟨he, ⟨x, hres, hR⟩ | ⟨env'', H'', x, hw, hres, hR⟩⟩ hn' hE
  · obtain ⟨v, hrun, hv⟩ := hres.run hn'
    have hE2 := hE
    rw [← hs.len] at hE2
    rcases he with rfl | rfl <;> exact ⟨hn'.defers, v, hrun, x, v, H', μ', I', rfl, hR, hn'.st, hv, hE2⟩
  obtain ⟨μ'', hn'', hE'⟩ := hn'.weak hw hE.len'
  obtain ⟨v, hrun, hv⟩ := hres.run hn''
  have hE2 := hE.trans hE'
  rw [← hs.len] at hE2
  rcases he with rfl | rfl <;> exact ⟨hn'.defers, v, hrun, x, v, H'', μ'', I', rfl, hR, hn''.st, hv, hE2⟩

/-- The end of a pure function: what is handed back is plain. -/
def Conv1 (H : List LObj) (x : LV) (rs : List PV) : Prop :=
  match rs with
  | [p] => Conv true H x p
  | ps => ∃ xs, x = .tup xs ∧ Convs true H xs ps

theorem Conv1.rep {H : List LObj} {x : LV} {rs : List PV} (h : Conv1 H x rs) {μ : List Blk} {I : Nat → Prop} {w : World} {v : Value} (hs : St μ I w H) (hr : LRep μ I w x v) :
    LRep [] (fun c => I c ∨ Own μ c) w (retv rs) v := by
  have e : (fun c => I c ∨ (true = true ∧ Own μ c)) = fun c => I c ∨ Own μ c := by funext c; simp
  have many : ∀ ps, (∃ xs, x = .tup xs ∧ Convs true H xs ps) → LRep [] (fun c => I c ∨ Own μ c) w (.tup (ps.map .p)) v := by
    rintro ps ⟨xs, rfl, hc⟩
    cases hr with
    | tup hl hr =>
      obtain ⟨h1, h2⟩ := hc.get
      refine .tup (by simp; omega) fun i c u hc' hu => ?_
      rw [List.getElem?_map] at hc'
      cases hp : ps[i]? with
      | none => rw [hp] at hc'; cases hc'
      | some p =>
        rw [hp] at hc'; cases hc'
        have hi := (List.getElem?_eq_some_iff.1 hp).1
        have hx : xs[i]? = some xs[i] := List.getElem?_eq_getElem (by omega)
        have := h2 i _ p hx hp μ I w u hs (hr i _ u hx hu)
        rw [e] at this
        exact .p this
  unfold Conv1 at h
  unfold retv
  split at h
  · have := h μ I w v hs hr
    rw [e] at this
    exact .p this
  · exact many _ h

def FinP (P : Program) (fn : Func) (rs : List PV) : Exit → Env → List LObj → Prop := fun e env H =>
  (e = .normal ∨ e = .ret) ∧ ∃ x, ResAll P env H fn.results x ∧ Conv1 H x rs

theorem LRepL.of_repL {I : Nat → Prop} {w : World} {μ : List Blk} : ∀ {as : List PV} {vs : List Value}, RepL I w as vs → LRepL μ I w (as.map .p) vs
  | [], [], _ => trivial
  | _ :: _, _ :: _, h => ⟨.p h.1, LRepL.of_repL h.2⟩
  | [], _ :: _, h => h.elim
  | _ :: _, [], h => h.elim

theorem LPure.of {P : Program} {f : FuncId} {fn : Func} {c : Code} {as rs : List PV} (hf : P.funcs[f]? = some fn) (hb : fn.body = some c)
    (hn : Nat.ble as.length fn.ntmps = true) (h : LW P fn.ntmps 0 c (penv 0 (as.map .p)) [] (FinP P fn rs)) : LPure P f as rs := by
  intro args w I hI ha
  have hnil : ∀ b, ¬ Own [] b := fun b ⟨n, h⟩ => by cases h
  have hs : St [] I w [] := ⟨rfl, by simp, fun b h => absurd h (hnil b), fun b h => absurd h (hnil b), hI, by simp⟩
  have hnow := start_now (P := P) (fn := fn) (as := as.map .p) hs (LRepL.of_repL ha) (by simpa using hn)
  refine calls_of_wp hf hb (h _ w [] I hnow (Nat.le_refl _) _ ?_)
  rintro e env' H' a' w' μ' I' ⟨he, x, hres, hR⟩ hn' hE
  obtain ⟨v, hrun, hv⟩ := hres.run hn'
  have hrep := hR.rep hn'.st hv
  have hsub : ∀ c, (I' c ∨ Own μ' c) → I c ∨ (w.heap.size ≤ c ∧ c < w'.heap.size) := by
    intro c hc
    rcases hc with hc | hc
    · rcases hE.inew c hc with h | h | h
      · exact .inl h
      · exact absurd h (hnil c)
      · exact .inr ⟨h, hn'.st.ilt c hc⟩
    · rcases hE.mnew c hc with h | h
      · exact absurd h (hnil c)
      · exact .inr ⟨h, hn'.st.lt c hc⟩
  have hgood : e = .normal ∨ e = .ret → bodyPost P fn (fun e w' => ∃ v, e = .returned v ∧ LRep [] (fun b => I b ∨ (w.heap.size ≤ b ∧ b < w'.heap.size)) w' (retv rs) v ∧ Below w.heap.size w w') e a' w' := by
    intro he
    have hp : ∃ v, (results fn a'.tmps).run P w' = .ok v w' ∧ ∃ u, Ending.returned v = .returned u ∧ LRep [] (fun b => I b ∨ (w.heap.size ≤ b ∧ b < w'.heap.size)) w' (retv rs) u ∧ Below w.heap.size w w' := by
      refine ⟨v, hrun, v, rfl, hrep.wide hsub, ⟨hE.os, hE.tape, hE.output, hE.size, fun b hb => hE.keep b hb (hnil b)⟩⟩
    rcases he with rfl | rfl <;> exact ⟨hn'.defers, hp⟩
  exact hgood he
end Go.Mg
