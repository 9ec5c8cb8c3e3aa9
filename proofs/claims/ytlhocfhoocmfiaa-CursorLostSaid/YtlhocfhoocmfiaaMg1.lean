/- Logical values, how a world bears them, and the judgements of a small program logic over them. Conditions: none; all is proved over any program. -/
import Derived.WalkKit
namespace Go.Mg
open Go.RowKit (Below)

/-- Is it the value of one cell? -/
def one1 : Value → Bool
  | .agg _ | .tuple _ => false
  | _ => true

/-- Plain data. -/
inductive PV where
  | int (k : IntKind) (n : Int)
  | bool (b : Bool)
  | agg (cs : List PV)
  | slice (m : Nat) (xs : List PV)

def PV.cells : PV → List PV
  | .agg cs => cs
  | .int k n => [.int k n]
  | .bool b => [.bool b]
  | .slice m xs => [.slice m xs]

def PV.one : PV → Prop
  | .agg _ => False
  | _ => True

/-- All cells of a list of elements. -/
def flat (xs : List PV) : List PV := xs.flatMap PV.cells

/-- Elements of m cells each. -/
def Elems (m : Nat) (xs : List PV) : Prop := ∀ x ∈ xs, x.cells.length = m ∧ ∀ c ∈ x.cells, c.one

def InKind (k : IntKind) (n : Int) : Prop := k.min ≤ n ∧ n ≤ k.max

inductive Rep (I : Nat → Prop) (w : World) : PV → Value → Prop
  | int {k : IntKind} {n : Int} (h : InKind k n) : Rep I w (.int k n) (.int k n)
  | bool {b : Bool} : Rep I w (.bool b) (.bool b)
  | agg {cs : List PV} {vs : Array Value} (hl : vs.size = cs.length) (ho : ∀ c ∈ cs, c.one)
      (h : ∀ (i : Nat) (c : PV) (v : Value), cs[i]? = some c → vs[i]? = some v → Rep I w c v) : Rep I w (.agg cs) (.agg vs)
  | slice {m : Nat} {xs : List PV} {a : Option Addr} {len cap : Nat} (f : Nat → Value) (hl : len = xs.length) (hcap : len ≤ cap) (hmax : cap ≤ maxLen) (hm : Elems m xs)
      (hc : ∀ (i : Nat) (c : PV), (flat xs)[i]? = some c → ∃ b o, a = some ⟨b, o, none⟩ ∧ I b ∧ w.cell? ⟨b, o + i, none⟩ = some (f i))
      (hr : ∀ (i : Nat) (c : PV), (flat xs)[i]? = some c → Rep I w c (f i)) : Rep I w (.slice m xs) (.slice a len cap)

theorem Rep.mono {I I' : Nat → Prop} {w w' : World} {p : PV} {v : Value} (h : Rep I w p v)
    (hI : ∀ b, I b → I' b ∧ w'.heap[b]? = w.heap[b]?) : Rep I' w' p v := by
  induction h with
  | int h => exact .int h
  | bool => exact .bool
  | agg hl ho h ih => exact .agg hl ho ih
  | slice f hl hcap hmax hm hc hr ih =>
    refine .slice f hl hcap hmax hm (fun i c hi => ?_) ih
    obtain ⟨b, o, ha, hb, hcell⟩ := hc i c hi
    exact ⟨b, o, ha, (hI b hb).1, by rw [World.cell?_of_block (w := _) (hI b hb).2]; exact hcell⟩

theorem Rep.one {I : Nat → Prop} {w : World} {p : PV} {v : Value} (h : Rep I w p v) (ho : p.one) : one1 v = true := by
  cases h <;> simp_all [PV.one, one1]

/-- Logical values of a walk. -/
inductive LV where
  | p (x : PV)
  | agg (cs : List LV)
  | tup (vs : List LV)
  | ptr (id off : Nat)
  | cptr (cs : List PV)
  | vec (m id n off len : Nat)
  | vptr (m id n j fo : Nat)
  | zs
  | map (id : Nat)
  | nilmap
  | fn (f : FuncId) (first caps : List LV)
  | any

/-- Where an object lies: its block, if it has one yet, and (of a slice that grows) how many elements it has had. -/
structure Blk where
  b : Option Nat
  n : Nat

/-- A slice value over one's own block. -/
def VFit (w : World) (bo : Option Nat) (m off len : Nat) (v : Value) : Prop :=
  (len = 0 ∧ ∃ a, v = .slice a 0 0) ∨
  ∃ b cap, bo = some b ∧ v = .slice (some ⟨b, m * off, none⟩) len cap ∧ len ≤ cap ∧ cap ≤ maxLen ∧ ∃ c e, w.heap[b]? = some (.cells c e (0, 0)) ∧ c.size = m * (off + cap)

inductive LRep (μ : List Blk) (I : Nat → Prop) (w : World) : LV → Value → Prop
  | p {x : PV} {v : Value} (h : Rep I w x v) : LRep μ I w (.p x) v
  | agg {cs : List LV} {vs : Array Value} (hl : vs.size = cs.length) (ho : ∀ v ∈ vs, one1 v = true)
      (h : ∀ (i : Nat) (c : LV) (v : Value), cs[i]? = some c → vs[i]? = some v → LRep μ I w c v) : LRep μ I w (.agg cs) (.agg vs)
  | tup {cs : List LV} {vs : Array Value} (hl : vs.size = cs.length)
      (h : ∀ (i : Nat) (c : LV) (v : Value), cs[i]? = some c → vs[i]? = some v → LRep μ I w c v) : LRep μ I w (.tup cs) (.tuple vs)
  | ptr {id off b : Nat} (h : μ[id]? = some ⟨some b, 0⟩) : LRep μ I w (.ptr id off) (.pointer (some ⟨b, off, none⟩))
  | cptr {cs : List PV} {b o : Nat} (f : Nat → Value) (hI : I b)
      (hc : ∀ (i : Nat) (c : PV), cs[i]? = some c → c.one ∧ w.cell? ⟨b, o + i, none⟩ = some (f i) ∧ Rep I w c (f i)) : LRep μ I w (.cptr cs) (.pointer (some ⟨b, o, none⟩))
  | vec {m id n off len : Nat} {B : Blk} {v : Value} (h : μ[id]? = some B) (h1 : one1 v = true) (hn : n ≤ B.n) (hf : n = B.n → VFit w B.b m off len v) : LRep μ I w (.vec m id n off len) v
  | vptr {m id n j fo : Nat} {B : Blk} {v : Value} (h : μ[id]? = some B) (h1 : one1 v = true) (hn : n ≤ B.n) (hf : n = B.n → ∃ b, B.b = some b ∧ v = .pointer (some ⟨b, m * j + fo, none⟩)) :
      LRep μ I w (.vptr m id n j fo) v
  | zs {a : Option Addr} : LRep μ I w .zs (.slice a 0 0)
  | map {id b : Nat} (h : μ[id]? = some ⟨some b, 0⟩) : LRep μ I w (.map id) (.map (some b))
  | nilmap : LRep μ I w .nilmap (.map none)
  | fn {f : FuncId} {first caps : List LV} {fs cs : Array Value} (hl : fs.size = first.length) (hl' : cs.size = caps.length)
      (h : ∀ (i : Nat) (c : LV) (v : Value), first[i]? = some c → fs[i]? = some v → LRep μ I w c v)
      (h' : ∀ (i : Nat) (c : LV) (v : Value), caps[i]? = some c → cs[i]? = some v → LRep μ I w c v) : LRep μ I w (.fn f first caps) (.func (.func f) fs cs)
  | any {v : Value} : LRep μ I w .any v

/-- One's own memory. -/
inductive LObj where
  | box (cs : List LV)
  | vec (m : Nat) (xs : List PV)
  | map (es : List (PV × LV))
  | dead
  | slot

inductive ORep (μ : List Blk) (I : Nat → Prop) (w : World) : LObj → Blk → Prop
  | box {cs : List LV} {b : Nat} {vs : Array Value} {e : TypeId} (hb : w.heap[b]? = some (.cells vs e (0, 0))) (hl : vs.size = cs.length)
      (ho : ∀ v ∈ vs, one1 v = true)
      (h : ∀ (i : Nat) (c : LV) (v : Value), cs[i]? = some c → vs[i]? = some v → LRep μ I w c v) : ORep μ I w (.box cs) ⟨some b, 0⟩
  | vecE {m : Nat} : ORep μ I w (.vec m []) ⟨none, 0⟩
  | vec {m : Nat} {xs : List PV} {b : Nat} {vs : Array Value} {e : TypeId} (hb : w.heap[b]? = some (.cells vs e (0, 0))) (hl : m * xs.length ≤ vs.size)
      (hne : xs ≠ []) (hm : Elems m xs)
      (h : ∀ (i : Nat) (c : PV) (v : Value), (flat xs)[i]? = some c → vs[i]? = some v → Rep I w c v) : ORep μ I w (.vec m xs) ⟨some b, xs.length⟩
  | map {es : List (PV × LV)} {b : Nat} {ms : Array MapEntry} {clock : Nat} (hb : w.heap[b]? = some (.map ms clock)) (hl : ms.size = es.length)
      (h : ∀ (i : Nat) (c : PV × LV) (e : MapEntry), es[i]? = some c → ms[i]? = some e → Rep I w c.1 e.key ∧ LRep μ I w c.2 e.val)
      (hclock : ∀ e ∈ ms, e.born < clock) (hborn : ms.toList.Pairwise fun x y => x.born < y.born) : ORep μ I w (.map es) ⟨some b, 0⟩
  | dead {B : Blk} : ORep μ I w .dead B
  | slot : ORep μ I w .slot ⟨none, 0⟩

/-- Is a block one of one's own? -/
def Own (μ : List Blk) (b : Nat) : Prop := ∃ n, (⟨some b, n⟩ : Blk) ∈ μ

/-- How a world came on: from block list μ to μ', of which the first k are the same. -/
structure Ext (k : Nat) (μ : List Blk) (I : Nat → Prop) (w : World) (μ' : List Blk) (I' : Nat → Prop) (w' : World) : Prop where
  get : ∀ (i : Nat) (B : Blk), i < k → μ[i]? = some B → ∃ B', μ'[i]? = some B' ∧ B.n ≤ B'.n ∧ (B'.n = B.n → B' = B ∨ B.b = none) ∧ (B.n = 0 → B.b ≠ none → B' = B)
  len : k ≤ μ.length
  len' : k ≤ μ'.length
  os : w'.os = w.os
  tape : w'.tape = w.tape
  output : w'.output = w.output
  size : w.heap.size ≤ w'.heap.size
  imm : ∀ b, I b → I' b ∧ w'.heap[b]? = w.heap[b]?
  shape : ∀ (b : Nat) c e f, w.heap[b]? = some (.cells c e f) → ∃ c', w'.heap[b]? = some (.cells c' e f) ∧ c'.size = c.size
  inew : ∀ b, I' b → I b ∨ Own μ b ∨ w.heap.size ≤ b
  mnew : ∀ b, Own μ' b → Own μ b ∨ w.heap.size ≤ b
  keep : ∀ b, b < w.heap.size → ¬ Own μ b → w'.heap[b]? = w.heap[b]?

theorem Ext.refl (k : Nat) (μ : List Blk) (I : Nat → Prop) (w : World) (h : k ≤ μ.length) : Ext k μ I w μ I w :=
  ⟨fun _ B _ h => ⟨B, h, Nat.le_refl _, fun _ => .inl rfl, fun _ _ => rfl⟩, h, h, rfl, rfl, rfl, Nat.le_refl _, fun _ hb => ⟨hb, rfl⟩, fun _ c _ _ h => ⟨c, h, rfl⟩, fun _ h => .inl h, fun _ h => .inl h, fun _ _ _ => rfl⟩

theorem Ext.weak {k j : Nat} {μ : List Blk} {I : Nat → Prop} {w : World} {μ' : List Blk} {I' : Nat → Prop} {w' : World} (h : Ext k μ I w μ' I' w') (hj : j ≤ k) :
    Ext j μ I w μ' I' w' := by
  exact ⟨fun i b hi => h.get i b (by omega), Nat.le_trans hj h.len, Nat.le_trans hj h.len', h.os, h.tape, h.output, h.size, h.imm, h.shape, h.inew, h.mnew, h.keep⟩

theorem Ext.trans {k : Nat} {μ μ' μ'' : List Blk} {I I' I'' : Nat → Prop} {w w' w'' : World} (h : Ext k μ I w μ' I' w') (h' : Ext k μ' I' w' μ'' I'' w'') :
    Ext k μ I w μ'' I'' w'' where
  get := fun i B hi hb => by
    obtain ⟨B1, h1, h2, h3, h4⟩ := h.get i B hi hb
    obtain ⟨B2, h5, h6, h7, h8⟩ := h'.get i B1 hi h1
    refine ⟨B2, h5, Nat.le_trans h2 h6, fun e => ?_, fun e e' => ?_⟩
    · rcases h3 (by omega) with e1 | e1
      · subst e1
        exact h7 e
      · exact .inr e1
    · have e1 := h4 e e'
      subst e1
      exact h8 e e'
  len := h.len
  len' := h'.len'
  os := h'.os.trans h.os
  tape := h'.tape.trans h.tape
  output := h'.output.trans h.output
  size := Nat.le_trans h.size h'.size
  imm := fun b hb => ⟨(h'.imm b (h.imm b hb).1).1, ((h'.imm b (h.imm b hb).1).2).trans (h.imm b hb).2⟩
  shape := fun b c e f hb => by
    obtain ⟨c', h1, h2⟩ := h.shape b c e f hb
    obtain ⟨c'', h3, h4⟩ := h'.shape b c' e f h1
    exact ⟨c'', h3, h4.trans h2⟩
  inew := fun b hb => by
    rcases h'.inew b hb with hb | hb | hb
    · exact h.inew b hb
    · rcases h.mnew b hb with hb | hb
      · exact .inr (.inl hb)
      · exact .inr (.inr hb)
    · exact .inr (.inr (Nat.le_trans h.size hb))
  mnew := fun b hb => by
    rcases h'.mnew b hb with hb | hb
    · exact h.mnew b hb
    · exact .inr (Nat.le_trans h.size hb)
  keep := fun b hb hm => (h'.keep b (Nat.lt_of_lt_of_le hb h.size) fun hm' => (h.mnew b hm').elim hm fun hs => by omega).trans (h.keep b hb hm)

/-- All numbers in a logical value are below k. -/
inductive LV.Low (k : Nat) : LV → Prop
  | p {x : PV} : LV.Low k (.p x)
  | agg {cs : List LV} (h : ∀ c ∈ cs, LV.Low k c) : LV.Low k (.agg cs)
  | tup {cs : List LV} (h : ∀ c ∈ cs, LV.Low k c) : LV.Low k (.tup cs)
  | ptr {id off : Nat} (h : id < k) : LV.Low k (.ptr id off)
  | cptr {cs : List PV} : LV.Low k (.cptr cs)
  | vec {m id n off len : Nat} (h : id < k) : LV.Low k (.vec m id n off len)
  | vptr {m id n j fo : Nat} (h : id < k) : LV.Low k (.vptr m id n j fo)
  | zs : LV.Low k .zs
  | map {id : Nat} (h : id < k) : LV.Low k (.map id)
  | nilmap : LV.Low k .nilmap
  | fn {f : FuncId} {first caps : List LV} (h : ∀ c ∈ first, LV.Low k c) (h' : ∀ c ∈ caps, LV.Low k c) : LV.Low k (.fn f first caps)
  | any : LV.Low k .any

theorem LRep.lows {μ : List Blk} {I : Nat → Prop} {w : World} {x : LV} {v : Value} (h : LRep μ I w x v) : LV.Low μ.length x := by
  induction h with
  | p h => exact .p
  | agg hl ho h ih =>
    refine .agg fun c hc => ?_
    obtain ⟨i, hi, rfl⟩ := List.mem_iff_getElem.1 hc
    exact ih i _ _ (List.getElem?_eq_getElem hi) (Array.getElem?_eq_getElem (by omega))
  | tup hl h ih =>
    refine .tup fun c hc => ?_
    obtain ⟨i, hi, rfl⟩ := List.mem_iff_getElem.1 hc
    exact ih i _ _ (List.getElem?_eq_getElem hi) (Array.getElem?_eq_getElem (by omega))
  | ptr h => exact .ptr (List.getElem?_eq_some_iff.1 h).1
  | cptr => exact .cptr
  | vec h => exact .vec (List.getElem?_eq_some_iff.1 h).1
  | vptr h => exact .vptr (List.getElem?_eq_some_iff.1 h).1
  | zs => exact .zs
  | map h => exact .map (List.getElem?_eq_some_iff.1 h).1
  | nilmap => exact .nilmap
  | fn hl hl' h h' ih ih' =>
    refine .fn (fun c hc => ?_) (fun c hc => ?_)
    · obtain ⟨i, hi, rfl⟩ := List.mem_iff_getElem.1 hc
      exact ih i _ _ (List.getElem?_eq_getElem hi) (Array.getElem?_eq_getElem (by omega))
    · obtain ⟨i, hi, rfl⟩ := List.mem_iff_getElem.1 hc
      exact ih' i _ _ (List.getElem?_eq_getElem hi) (Array.getElem?_eq_getElem (by omega))
  | any => exact .any

theorem LRep.mono {k : Nat} {μ μ' : List Blk} {I I' : Nat → Prop} {w w' : World} {x : LV} {v : Value} (h : LRep μ I w x v)
    (hE : Ext k μ I w μ' I' w') (hb : LV.Low k x) : LRep μ' I' w' x v := by
  induction h with
  | p h => exact .p (h.mono hE.imm)
  | agg hl ho h ih =>
    cases hb with
    | agg hb => exact .agg hl ho fun i c v hc hv => ih i c v hc hv (hb c (List.mem_of_getElem? hc))
  | tup hl h ih =>
    cases hb with
    | tup hb => exact .tup hl fun i c v hc hv => ih i c v hc hv (hb c (List.mem_of_getElem? hc))
  | ptr h =>
    cases hb with
    | ptr hb =>
      obtain ⟨B', h1, -, -, h4⟩ := hE.get _ _ hb h
      have e := h4 rfl (by simp)
      subst e
      exact .ptr h1
  | cptr f hI hc =>
    exact .cptr f (hE.imm _ hI).1 fun i c hi => ⟨(hc i c hi).1, by rw [World.cell?_of_block (w := w) (hE.imm _ hI).2]; exact (hc i c hi).2.1, (hc i c hi).2.2.mono hE.imm⟩
  | vec h h1 hn hf =>
    cases hb with
    | vec hb =>
      obtain ⟨B', h2, h3, h4, -⟩ := hE.get _ _ hb h
      refine .vec h2 h1 (by omega) fun e => ?_
      rcases hf (by omega) with hz | ⟨b, cap, hb, hv, hc1, hc2, c, e2, h5, h6⟩
      · exact .inl hz
      · rcases h4 (by omega) with e' | e'
        · subst e'
          obtain ⟨c', h7, h8⟩ := hE.shape _ _ _ _ h5
          exact .inr ⟨b, cap, hb, hv, hc1, hc2, c', e2, h7, h8.trans h6⟩
        · rw [e'] at hb; cases hb
  | vptr h h1 hn hf =>
    cases hb with
    | vptr hb =>
      obtain ⟨B', h2, h3, h4, -⟩ := hE.get _ _ hb h
      refine .vptr h2 h1 (by omega) fun e => ?_
      obtain ⟨b, hb, hv⟩ := hf (by omega)
      rcases h4 (by omega) with e' | e'
      · subst e'
        exact ⟨b, hb, hv⟩
      · rw [e'] at hb; cases hb
  | zs => exact .zs
  | map h =>
    cases hb with
    | map hb =>
      obtain ⟨B', h1, -, -, h4⟩ := hE.get _ _ hb h
      have e := h4 rfl (by simp)
      subst e
      exact .map h1
  | nilmap => exact .nilmap
  | fn hl hl' h h' ih ih' =>
    cases hb with
    | fn hb hb' => exact .fn hl hl' (fun i c v hc hv => ih i c v hc hv (hb c (List.mem_of_getElem? hc))) (fun i c v hc hv => ih' i c v hc hv (hb' c (List.mem_of_getElem? hc)))
  | any => exact .any

/-- With the whole of μ kept nothing need be asked. -/
theorem LRep.ext {μ μ' : List Blk} {I I' : Nat → Prop} {w w' : World} {x : LV} {v : Value} (h : LRep μ I w x v)
    (hE : Ext μ.length μ I w μ' I' w') : LRep μ' I' w' x v := h.mono hE h.lows

def LObj.Low (k : Nat) : LObj → Prop
  | .box cs => ∀ c ∈ cs, LV.Low k c
  | .vec _ _ => True
  | .map es => ∀ e ∈ es, LV.Low k e.2
  | .dead => True
  | .slot => True

structure St (μ : List Blk) (I : Nat → Prop) (w : World) (H : List LObj) : Prop where
  len : μ.length = H.length
  inj : ∀ (i j b n n' : Nat), μ[i]? = some ⟨some b, n⟩ → μ[j]? = some ⟨some b, n'⟩ → i = j
  lt : ∀ b, Own μ b → b < w.heap.size
  off : ∀ b, Own μ b → ¬ I b
  ilt : ∀ b, I b → b < w.heap.size
  objs : ∀ (i : Nat) (o : LObj) (B : Blk), H[i]? = some o → μ[i]? = some B → ORep μ I w o B

/-- What an object's block says stays where that block stays and the rest comes on. -/
theorem ORep.ext {μ μ' : List Blk} {I I' : Nat → Prop} {w w' : World} {o : LObj} {B : Blk} (h : ORep μ I w o B)
    (hE : Ext μ.length μ I w μ' I' w') (hb : ∀ c, B.b = some c → w'.heap[c]? = w.heap[c]?) : ORep μ' I' w' o B := by
  cases h with
  | box h1 hl ho h => exact .box ((hb _ rfl).trans h1) hl ho fun i c v hc hv => (h i c v hc hv).ext hE
  | vecE => exact .vecE
  | vec h1 hl hne hm h => exact .vec ((hb _ rfl).trans h1) hl hne hm fun i c v hc hv => (h i c v hc hv).mono hE.imm
  | map h1 hl h h2 h3 => exact .map ((hb _ rfl).trans h1) hl (fun i c e hc he => ⟨(h i c e hc he).1.mono hE.imm, (h i c e hc he).2.ext hE⟩) h2 h3
  | dead => exact .dead
  | slot => exact .slot

abbrev Env := List (Nat × LV)

def Env.get : Env → Nat → Option LV
  | [], _ => none
  | (j, v) :: r, t => match Nat.beq j t with | true => some v | false => Env.get r t

theorem Env.get_cons (j : Nat) (v : LV) (r : Env) (t : Nat) : Env.get ((j, v) :: r) t = if j = t then some v else Env.get r t := by
  show (match Nat.beq j t with | true => some v | false => Env.get r t) = _
  by_cases h : j = t
  · subst h; simp
  · have : Nat.beq j t = false := by
      cases hb : Nat.beq j t with
      | false => rfl
      | true => exact absurd (Nat.eq_of_beq_eq_true hb) h
    rw [this, if_neg h]

/-- What the frame's slots hold. -/
def ERep (μ : List Blk) (I : Nat → Prop) (w : World) (env : Env) (tmps : Array Value) : Prop :=
  ∀ t x, env.get t = some x → ∃ v, tmps[t]? = some v ∧ LRep μ I w x v

theorem ERep.ext {μ μ' : List Blk} {I I' : Nat → Prop} {w w' : World} {env : Env} {tmps : Array Value} (h : ERep μ I w env tmps)
    (hE : Ext μ.length μ I w μ' I' w') : ERep μ' I' w' env tmps := fun t x ht =>
  let ⟨v, hv, hr⟩ := h t x ht
  ⟨v, hv, hr.ext hE⟩

def eput (env : Env) (dst : Option Tmp) (x : LV) : Env :=
  match dst with
  | some d => (d, x) :: env
  | none => env

theorem ERep.put {μ : List Blk} {I : Nat → Prop} {w : World} {env : Env} {a : Act} {dst : Option Tmp} {x : LV} {v : Value} (h : ERep μ I w env a.tmps)
    (hd : ∀ d, dst = some d → d < a.tmps.size) (hv : LRep μ I w x v) : ERep μ I w (eput env dst x) (a.put dst v).tmps := by
  intro t y ht
  cases dst with
  | none => exact h t y ht
  | some d =>
    simp only [eput, Env.get_cons] at ht
    simp only [Act.put]
    split at ht
    · rename_i e
      subst e
      cases ht
      exact ⟨v, by simp [hd d rfl], hv⟩
    · rename_i e
      obtain ⟨u, hu, hr⟩ := h t y ht
      exact ⟨u, by rw [Array.getElem?_setIfInBounds_ne e]; exact hu, hr⟩

/-- The logical value of a constant. -/
def cellOfConst : Value → Option LV
  | .int k n => if k.min ≤ n ∧ n ≤ k.max then some (.p (.int k n)) else none
  | .bool b => some (.p (.bool b))
  | .slice none 0 0 => some .zs
  | .map none => some .nilmap
  | _ => none

def allPlain : List LV → Option (List PV)
  | [] => some []
  | .p x :: r => match allPlain r with | some xs => some (x :: xs) | none => none
  | _ :: _ => none

/-- A struct of cells: plain where all of them are. -/
def mkAgg (cs : List LV) : LV := match allPlain cs with | some xs => .p (.agg xs) | none => .agg cs

def cellsOfConst : List Value → Option (List LV)
  | [] => some []
  | v :: r => match cellOfConst v, cellsOfConst r with | some x, some xs => some (x :: xs) | _, _ => none

def ofConst : Value → Option LV
  | .agg cs => match cellsOfConst cs.toList with | some xs => some (mkAgg xs) | none => none
  | v => cellOfConst v

def lev (env : Env) : Operand → Option LV
  | .tmp t => env.get t
  | .const v => ofConst v
  | .func f => some (.fn f [] [])
  | .global _ => none

theorem cellOfConst_rep {μ : List Blk} {I : Nat → Prop} {w : World} {v : Value} {x : LV} (h : cellOfConst v = some x) : LRep μ I w x v ∧ one1 v = true := by
  unfold cellOfConst at h
  split at h
  · split at h
    · rename_i hk; cases h; exact ⟨.p (.int hk), rfl⟩
    · cases h
  · cases h; exact ⟨.p .bool, rfl⟩
  · cases h; exact ⟨.zs, rfl⟩
  · cases h; exact ⟨.nilmap, rfl⟩
  · cases h

theorem allPlain_spec : ∀ {cs : List LV} {xs : List PV}, allPlain cs = some xs → cs = xs.map .p := by
  intro cs
  induction cs with
  | nil => intro xs h; simp [allPlain] at h; subst h; rfl
  | cons c r ih =>
    intro xs h
    cases c <;> simp [allPlain] at h
    split at h
    · rename_i ys hy
      cases h
      simp [ih hy]
    · cases h

theorem PV.one_of_rep {I : Nat → Prop} {w : World} {x : PV} {v : Value} (h : Rep I w x v) (ho : one1 v = true) : x.one := by
  cases h <;> simp_all [PV.one, one1]

theorem mkAgg_rep {μ : List Blk} {I : Nat → Prop} {w : World} {cs : List LV} {vs : Array Value} (hl : vs.size = cs.length) (ho : ∀ v ∈ vs, one1 v = true)
    (h : ∀ (i : Nat) (c : LV) (v : Value), cs[i]? = some c → vs[i]? = some v → LRep μ I w c v) : LRep μ I w (mkAgg cs) (.agg vs) := by
  unfold mkAgg
  split
  · rename_i xs hx
    have e := allPlain_spec hx
    subst e
    have hp : ∀ (i : Nat) (c : PV) (v : Value), xs[i]? = some c → vs[i]? = some v → Rep I w c v := fun i c v hc hv => by
      have := h i (.p c) v (by simp [hc]) hv
      cases this; assumption
    refine .p (.agg (by simpa using hl) (fun c hc => ?_) hp)
    obtain ⟨i, hi, rfl⟩ := List.mem_iff_getElem.1 hc
    have hi' : i < vs.size := by simp at hl; omega
    exact PV.one_of_rep (hp i _ vs[i] (List.getElem?_eq_getElem hi) (Array.getElem?_eq_getElem hi')) (ho _ (Array.getElem_mem hi'))
  · exact .agg hl ho h

theorem cellsOfConst_spec {μ : List Blk} {I : Nat → Prop} {w : World} : ∀ {vs : List Value} {xs : List LV}, cellsOfConst vs = some xs →
    vs.length = xs.length ∧ (∀ v ∈ vs, one1 v = true) ∧ ∀ (i : Nat) (c : LV) (v : Value), xs[i]? = some c → vs[i]? = some v → LRep μ I w c v := by
  intro vs
  induction vs with
  | nil => intro xs h; simp [cellsOfConst] at h; subst h; simp
  | cons v r ih =>
    intro xs h
    simp only [cellsOfConst] at h
    split at h
    · rename_i x ys hx hy
      cases h
      obtain ⟨h1, h2, h3⟩ := ih hy
      obtain ⟨h4, h5⟩ := cellOfConst_rep (μ := μ) (I := I) (w := w) hx
      refine ⟨by simp [h1], by simpa [h5] using h2, fun i c u hc hu => ?_⟩
      cases i with
      | zero => simp at hc hu; subst hc; subst hu; exact h4
      | succ i => simp at hc hu; exact h3 i c u hc hu
    · cases h

theorem ofConst_rep {μ : List Blk} {I : Nat → Prop} {w : World} {v : Value} {x : LV} (h : ofConst v = some x) : LRep μ I w x v := by
  unfold ofConst at h
  split at h
  · rename_i cs
    split at h
    · rename_i xs hx
      cases h
      obtain ⟨h1, h2, h3⟩ := cellsOfConst_spec (μ := μ) (I := I) (w := w) hx
      exact mkAgg_rep (by simpa using h1) (fun v hv => h2 v (by simpa using hv)) (fun i c u hc hu => h3 i c u hc (by simpa using hu))
    · cases h
  · exact (cellOfConst_rep h).1

/-- The slots that an operation looks at hold what the environment says. -/
def EOn (μ : List Blk) (I : Nat → Prop) (w : World) (o : Oper) (env : Env) (a : Act) : Prop :=
  ∀ t, Operand.tmp t ∈ o.op.operands → ∀ x, env.get t = some x → ∃ v, a.tmps[t]? = some v ∧ LRep μ I w x v

theorem ERep.on {μ : List Blk} {I : Nat → Prop} {w : World} {env : Env} {a : Act} (h : ERep μ I w env a.tmps) (o : Oper) : EOn μ I w o env a :=
  fun t _ x hx => h t x hx

theorem EOn.ev {μ : List Blk} {I : Nat → Prop} {w : World} {o : Oper} {env : Env} {a : Act} (h : EOn μ I w o env a) {x : Operand} (hx : x ∈ o.op.operands) {l : LV}
    (hl : lev env x = some l) : LRep μ I w l (a.eval x) := by
  cases x with
  | tmp t =>
    obtain ⟨v, hv, hr⟩ := h t hx l hl
    simpa [Act.eval, hv] using hr
  | const v => exact ofConst_rep hl
  | func f => cases hl; exact .fn (by simp) (by simp) (by simp) (by simp)
  | global g => cases hl

end Go.Mg
