/- Operations on memory: variables, fields, elements, builds. Conditions: none. -/
import Derived.Test.YtlhocfhoocmfiaaMg5
namespace Go.Mg

/-! Computed parts of lists: they come out written out. -/

def nth {α : Type} : List α → Nat → Option α
  | [], _ => none
  | x :: _, 0 => some x
  | _ :: r, n + 1 => nth r n

theorem nth_eq {α : Type} : ∀ (l : List α) (n : Nat), nth l n = l[n]?
  | [], n => by simp [nth]
  | x :: r, 0 => by simp [nth]
  | x :: r, n + 1 => by simp [nth, nth_eq r n]

def takeC {α : Type} : List α → Nat → Option (List α)
  | _, 0 => some []
  | [], _ + 1 => none
  | x :: r, n + 1 => match takeC r n with | some s => some (x :: s) | none => none

theorem takeC_eq {α : Type} : ∀ {l : List α} {n : Nat} {s : List α}, takeC l n = some s → s = l.take n ∧ n ≤ l.length
  | l, 0, s, h => by simp [takeC] at h; subst h; simp
  | [], n + 1, s, h => by simp [takeC] at h
  | x :: r, n + 1, s, h => by
    simp only [takeC] at h
    split at h
    · rename_i q hq
      cases h
      obtain ⟨h1, h2⟩ := takeC_eq hq
      exact ⟨by simp [h1], by simp; omega⟩
    · cases h

def subC {α : Type} : List α → Nat → Nat → Option (List α)
  | l, 0, n => takeC l n
  | [], _ + 1, _ => none
  | _ :: r, o + 1, n => subC r o n

theorem subC_eq {α : Type} : ∀ {l : List α} {o n : Nat} {s : List α}, subC l o n = some s → s = (l.drop o).take n ∧ (0 < n → o + n ≤ l.length) ∧ s.length = n ∧ o ≤ l.length
  | l, 0, n, s, h => by
    cases l with
    | nil => cases n with
      | zero => simp [subC, takeC] at h; subst h; simp
      | succ n => simp [subC, takeC] at h
    | cons x r =>
      have h' : takeC (x :: r) n = some s := h
      obtain ⟨h1, h2⟩ := takeC_eq h'
      subst h1
      exact ⟨rfl, fun _ => by omega, by simp at h2 ⊢; omega, by simp⟩
  | [], o + 1, n, s, h => by simp [subC] at h
  | x :: r, o + 1, n, s, h => by
    obtain ⟨h1, h2, h3, h4⟩ := subC_eq (show subC r o n = some s from h)
    exact ⟨by simpa using h1, fun hn => by have := h2 hn; simp; omega, h3, by simp; omega⟩

theorem subC_get {α : Type} {l : List α} {o n : Nat} {s : List α} (h : subC l o n = some s) {i : Nat} {x : α} (hx : s[i]? = some x) : l[o + i]? = some x ∧ i < n := by
  obtain ⟨h1, -, -, -⟩ := subC_eq h
  subst h1
  rw [List.getElem?_take] at hx
  split at hx
  · rename_i hlt; rw [List.getElem?_drop] at hx; exact ⟨hx, hlt⟩
  · cases hx

def setC {α : Type} : List α → Nat → α → Option (List α)
  | [], _, _ => none
  | _ :: r, 0, y => some (y :: r)
  | x :: r, n + 1, y => match setC r n y with | some s => some (x :: s) | none => none

theorem setC_eq {α : Type} : ∀ {l : List α} {n : Nat} {y : α} {s : List α}, setC l n y = some s → s = l.set n y ∧ n < l.length
  | [], _, _, _, h => by simp [setC] at h
  | x :: r, 0, y, s, h => by simp [setC] at h; subst h; simp
  | x :: r, n + 1, y, s, h => by
    simp only [setC] at h
    split at h
    · rename_i q hq
      cases h
      obtain ⟨h1, h2⟩ := setC_eq hq
      exact ⟨by simp [h1], by simp; omega⟩
    · cases h

/-- Some places overwritten. -/
def overC {α : Type} : List α → List α → Option (List α)
  | l, [] => some l
  | [], _ :: _ => none
  | _ :: r, y :: ys => match overC r ys with | some s => some (y :: s) | none => none

def splC {α : Type} : List α → Nat → List α → Option (List α)
  | l, 0, ys => overC l ys
  | [], _ + 1, _ => none
  | x :: r, o + 1, ys => match splC r o ys with | some s => some (x :: s) | none => none

theorem overC_eq {α : Type} : ∀ {l ys s : List α}, overC l ys = some s → s = ys ++ l.drop ys.length ∧ ys.length ≤ l.length
  | l, [], s, h => by cases l <;> simp [overC] at h <;> subst h <;> simp
  | [], y :: ys, s, h => by simp [overC] at h
  | x :: r, y :: ys, s, h => by
    simp only [overC] at h
    split at h
    · rename_i q hq
      cases h
      obtain ⟨h1, h2⟩ := overC_eq hq
      exact ⟨by simp [h1], by simpa using h2⟩
    · cases h

theorem splC_eq {α : Type} : ∀ {l : List α} {o : Nat} {ys s : List α}, splC l o ys = some s → s = l.take o ++ ys ++ l.drop (o + ys.length) ∧ o + ys.length ≤ l.length
  | l, 0, ys, s, h => by
    have h' : overC l ys = some s := by cases l <;> exact h
    obtain ⟨h1, h2⟩ := overC_eq h'
    exact ⟨by simp [h1], by omega⟩
  | [], o + 1, ys, s, h => by simp [splC] at h
  | x :: r, o + 1, ys, s, h => by
    simp only [splC] at h
    split at h
    · rename_i q hq
      cases h
      obtain ⟨h1, h2⟩ := splC_eq hq
      refine ⟨?_, by simp; omega⟩
      rw [h1, show o + 1 + ys.length = (o + ys.length) + 1 by omega]
      simp
    · cases h

def appC {α : Type} : List α → α → Option (List α)
  | [], y => some [y]
  | x :: r, y => match appC r y with | some s => some (x :: s) | none => none

theorem appC_eq {α : Type} : ∀ {l : List α} {y : α} {s : List α}, appC l y = some s → s = l ++ [y]
  | [], y, s, h => by simp [appC] at h; subst h; rfl
  | x :: r, y, s, h => by
    simp only [appC] at h
    split at h
    · rename_i q hq; cases h; simp [appC_eq hq]
    · cases h

def lenC {α : Type} : List α → Option Nat
  | [] => some 0
  | _ :: r => match lenC r with | some n => some (n + 1) | none => none

theorem lenC_eq {α : Type} : ∀ {l : List α} {n : Nat}, lenC l = some n → n = l.length
  | [], n, h => by simp [lenC] at h; subst h; rfl
  | x :: r, n, h => by
    simp only [lenC] at h
    split at h
    · rename_i q hq; cases h; simp [lenC_eq hq]
    · cases h

def mapP : List PV → Option (List LV)
  | [] => some []
  | x :: r => match mapP r with | some s => some (.p x :: s) | none => none

theorem mapP_eq : ∀ {l : List PV} {s : List LV}, mapP l = some s → s = l.map .p
  | [], s, h => by simp [mapP] at h; subst h; rfl
  | x :: r, s, h => by
    simp only [mapP] at h
    split at h
    · rename_i q hq; cases h; simp [mapP_eq hq]
    · cases h

/-- The cells of a struct's value. -/
def cellsL : LV → Option (List LV)
  | .agg cs => some cs
  | .p (.agg ps) => mapP ps
  | _ => none

/-- The cells of any value that can lie in a variable. -/
def cells1 : LV → Option (List LV)
  | .agg cs => some cs
  | .p (.agg ps) => mapP ps
  | .p (.int k n) => some [.p (.int k n)]
  | .p (.bool b) => some [.p (.bool b)]
  | .p (.slice m xs) => some [.p (.slice m xs)]
  | .tup _ => none
  | .any => none
  | x => some [x]

def aggO (cs : List LV) : Option LV := match allPlain cs with | some xs => some (.p (.agg xs)) | none => some (.agg cs)

theorem aggO_eq {cs : List LV} {x : LV} (h : aggO cs = some x) : x = mkAgg cs := by
  unfold aggO at h
  unfold mkAgg
  split at h <;> simp_all

/-- The value of a variable of this many cells. -/
def valOf (agg : Bool) (cs : List LV) : Option LV :=
  match agg with
  | true => aggO cs
  | false => match cs with | [x] => some x | _ => none

section
variable {μ : List Blk} {I : Nat → Prop} {w : World}

theorem cellsL_rep {x : LV} {cs : List LV} (h : cellsL x = some cs) {v : Value} (hr : LRep μ I w x v) :
    ∃ vs : Array Value, v = .agg vs ∧ vs.size = cs.length ∧ (∀ u ∈ vs, one1 u = true) ∧ ∀ (i : Nat) c u, cs[i]? = some c → vs[i]? = some u → LRep μ I w c u := by
  unfold cellsL at h
  split at h
  · cases h
    cases hr with
    | agg hl ho hr => exact ⟨_, rfl, hl, ho, hr⟩
  · rename_i ps
    have e := mapP_eq h
    subst e
    obtain ⟨vs, rfl, hl, ho, hr⟩ := rep_agg hr
    have hp : ∀ (i : Nat) c u, (List.map LV.p ps)[i]? = some c → vs[i]? = some u → LRep μ I w c u := fun i c u hc hu => by
      rw [List.getElem?_map] at hc
      cases hx : ps[i]? with
      | none => rw [hx] at hc; cases hc
      | some y => rw [hx] at hc; cases hc; exact .p (hr i y u hx hu)
    refine ⟨vs, rfl, by simpa using hl, fun u hu => ?_, hp⟩
    obtain ⟨i, hi, rfl⟩ := Array.mem_iff_getElem.1 hu
    have hc : ps[i]? = some (ps[i]'(by omega)) := List.getElem?_eq_getElem (by omega)
    exact (hr i _ _ hc (Array.getElem?_eq_getElem hi)).one (ho _ (List.getElem_mem _))
  · cases h

theorem cells1_rep {x : LV} {cs : List LV} (h : cells1 x = some cs) {v : Value} (hr : LRep μ I w x v) :
    v.cells.size = cs.length ∧ (∀ u ∈ v.cells, one1 u = true) ∧ ∀ (i : Nat) c u, cs[i]? = some c → v.cells[i]? = some u → LRep μ I w c u := by
  have single : ∀ {y : LV} {v : Value}, LRep μ I w y v → one1 v = true → v.cells.size = [y].length ∧ (∀ u ∈ v.cells, one1 u = true) ∧ ∀ (i : Nat) c u, [y][i]? = some c → v.cells[i]? = some u → LRep μ I w c u := by
    intro y v hr ho
    have e : v.cells = #[v] := by cases v <;> simp_all [Value.cells, one1]
    rw [e]
    refine ⟨rfl, fun u hu => by simp at hu; subst hu; exact ho, fun i c u hc hu => ?_⟩
    cases i with
    | zero => simp at hc hu; subst hc; subst hu; exact hr
    | succ i => simp at hc
  unfold cells1 at h
  split at h
  · obtain ⟨vs, rfl, h1, h2, h3⟩ := cellsL_rep (show cellsL (.agg _) = some cs from h) hr
    exact ⟨h1, h2, h3⟩
  · obtain ⟨vs, rfl, h1, h2, h3⟩ := cellsL_rep (show cellsL (.p (.agg _)) = some cs from h) hr
    exact ⟨h1, h2, h3⟩
  · cases h; exact single hr (by cases hr with | p h => cases h; rfl)
  · cases h; exact single hr (by cases hr with | p h => cases h; rfl)
  · cases h; exact single hr (by cases hr with | p h => cases h; rfl)
  · cases h
  · cases h
  · rename_i h1 h2 h3 h4 h5 h6 h7
    cases h
    refine single hr ?_
    cases hr with
    | p h => cases h with
      | int => exact absurd rfl (h3 _ _)
      | bool => exact absurd rfl (h4 _)
      | agg => exact absurd rfl (h2 _)
      | slice => exact absurd rfl (h5 _ _)
    | agg => exact absurd rfl (h1 _)
    | tup => exact absurd rfl (h6 _)
    | any => exact absurd rfl h7
    | vec _ h1 => exact h1
    | vptr _ h1 => exact h1
    | _ => rfl

theorem valOf_rep {agg : Bool} {cs : List LV} {x : LV} (h : valOf agg cs = some x) {vs : Array Value} (hl : vs.size = cs.length) (ho : ∀ u ∈ vs, one1 u = true)
    (hr : ∀ (i : Nat) c u, cs[i]? = some c → vs[i]? = some u → LRep μ I w c u) : LRep μ I w x (if agg then .agg vs else vs.getD 0 undef) := by
  unfold valOf at h
  split at h
  · rw [aggO_eq h]
    exact mkAgg_rep hl ho hr
  · split at h
    · cases h
      have hl0 : 0 < vs.size := by simp at hl; omega
      have h0 : vs[0]? = some vs[0] := Array.getElem?_eq_getElem hl0
      have := hr 0 _ _ rfl h0
      simpa [h0] using this
    · cases h

end

/-! Types. -/

/-- How a variable of a type lies: its cells, and is it a struct or an array? -/
def varTy (P : Program) (t : TypeId) : Option (Nat × Bool) :=
  match P.underlying t, (P.info? t).map (·.size) with
  | some (.struct _), some n => some (n, true)
  | some (.array _ _), some n => some (n, true)
  | some _, some n => if n == 1 then some (1, false) else none
  | _, _ => none

def fieldTy (P : Program) (s : TypeId) (i : Nat) : Option (Nat × Nat × Bool) :=
  match P.underlying s with
  | some (.struct fs) => match fs[i]? with
    | some f => match varTy P f.type with | some (n, a) => if n == 0 then none else some (f.offset, n, a) | none => none
    | none => none
  | _ => none

section
variable {P : Program} {w : World}

theorem run_isAgg_var {t : TypeId} {n : Nat} {a : Bool} (h : varTy P t = some (n, a)) : (isAgg t).run P w = .ok a w ∧ (sizeOf t).run P w = .ok n w ∧ (a = false → n = 1) := by
  unfold varTy at h
  have hs : ∀ m, (P.info? t).map (·.size) = some m → (sizeOf t).run P w = .ok m w := fun m hm => by
    cases hi : P.info? t with
    | none => simp [hi] at hm
    | some i => simp [hi] at hm; simp [sizeOf, typeInfo, hi, hm]
  split at h
  · rename_i hu hm
    cases h
    exact ⟨by simp [isAgg, run_underlying hu], hs _ hm, by simp⟩
  · rename_i hu hm
    cases h
    exact ⟨by simp [isAgg, run_underlying hu], hs _ hm, by simp⟩
  · rename_i d m h1 h2 hu hm
    split at h
    · rename_i he
      cases h
      simp only [beq_iff_eq] at he
      subst he
      refine ⟨?_, hs _ hm, by simp⟩
      unfold isAgg
      simp only [Sem.run_bind, run_underlying hu, Result.andThen_ok]
      cases d <;> simp_all
    · cases h
  · cases h

theorem run_loadVar {t : TypeId} {n : Nat} {a : Bool} (h : varTy P t = some (n, a)) (b o : Nat) (f : Nat → Value) (hc : ∀ i, i < n → w.cell? ⟨b, o + i, none⟩ = some (f i)) :
    (loadVar t ⟨b, o, none⟩).run P w = .ok (if a then .agg ((List.range n).map f).toArray else f 0) w := by
  obtain ⟨h1, h2, h3⟩ := run_isAgg_var (w := w) h
  unfold loadVar
  simp only [Sem.run_bind, h1, Result.andThen]
  cases a with
  | true =>
    simp only [if_true, Sem.run_bind, h2, Result.andThen]
    rw [run_loadCells w ⟨b, o, none⟩ n f (fun j hj => by rw [addr_add]; exact hc j hj)]
    rfl
  | false =>
    have := h3 rfl
    subst this
    have h0 := hc 0 (by omega)
    simp only [Nat.add_zero] at h0
    simp [load, Sem.run, h0]

theorem run_partVar {t : TypeId} {n : Nat} {a : Bool} (h : varTy P t = some (n, a)) (vs : Array Value) (off : Nat) (hl : off + n ≤ vs.size) :
    (part t vs off).run P w = .ok (if a then .agg (vs.extract off (off + n)) else vs.getD off undef) w := by
  obtain ⟨h1, h2, h3⟩ := run_isAgg_var (w := w) h
  unfold part
  simp only [Sem.run_bind, h1, Result.andThen]
  cases a with
  | true => simp [h2]
  | false =>
    have := h3 rfl
    subst this
    have hg : vs[off]? = some vs[off] := Array.getElem?_eq_getElem (by omega)
    simp [hg]
end

theorem fieldTy_spec {P : Program} {w : World} {s : TypeId} {i off n : Nat} {ag : Bool} (h : fieldTy P s i = some (off, n, ag)) :
    ∃ fs f, P.underlying s = some (.struct fs) ∧ fs[i]? = some f ∧ off = f.offset ∧ (sizeOf f.type).run P w = .ok n w ∧ n ≠ 0 := by
  unfold fieldTy at h
  split at h
  · rename_i fs hu
    split at h
    · rename_i f hf
      split at h
      · rename_i n' a hv
        split at h
        · cases h
        · rename_i hn
          cases h
          exact ⟨fs, f, hu, hf, rfl, (run_isAgg_var hv).2.1, by simpa using hn⟩
      · cases h
    · cases h
  · cases h

theorem fieldTy_var {P : Program} {s : TypeId} {i off n : Nat} {ag : Bool} (h : fieldTy P s i = some (off, n, ag)) :
    ∃ fs f, P.underlying s = some (.struct fs) ∧ fs[i]? = some f ∧ off = f.offset ∧ varTy P f.type = some (n, ag) := by
  unfold fieldTy at h
  split at h
  · rename_i fs hu
    split at h
    · rename_i f hf
      split at h
      · rename_i n' a hv
        split at h
        · cases h
        · cases h; exact ⟨fs, f, hu, hf, rfl, hv⟩
      · cases h
    · cases h
  · cases h

/-! Change of state. -/

section
variable {μ : List Blk} {I : Nat → Prop} {w : World} {H : List LObj}

theorem mem_get {α : Type} {l : List α} {x : α} (h : x ∈ l) : ∃ i : Nat, l[i]? = some x := by
  obtain ⟨i, hi, e⟩ := List.mem_iff_getElem.1 h
  exact ⟨i, by rw [List.getElem?_eq_getElem hi, e]⟩

theorem Own.get {μ : List Blk} {b : Nat} (h : Own μ b) : ∃ (i n : Nat), μ[i]? = some ⟨some b, n⟩ := let ⟨n, hm⟩ := h; let ⟨i, hi⟩ := mem_get hm; ⟨i, n, hi⟩
theorem Own.mk {μ : List Blk} {b i n : Nat} (h : μ[i]? = some ⟨some b, n⟩) : Own μ b := ⟨n, List.mem_of_getElem? h⟩
theorem Own.of {μ : List Blk} {i b : Nat} {B : Blk} (h : μ[i]? = some B) (hb : B.b = some b) : Own μ b := ⟨B.n, by rw [← hb]; exact List.mem_of_getElem? h⟩

/-- A new block for a new object. -/
theorem St.push (hs : St μ I w H) (b : Obj) (o : LObj) (n : Nat) (ho : ∀ μ' w', Ext μ.length μ I w μ' I w' → w'.heap[w.heap.size]? = some b → ORep μ' I w' o ⟨some w.heap.size, n⟩) :
    St (μ ++ [⟨some w.heap.size, n⟩]) I (w.alloc b) (H ++ [o]) ∧ Ext μ.length μ I w (μ ++ [⟨some w.heap.size, n⟩]) I (w.alloc b) := by
  have hE : Ext μ.length μ I w (μ ++ [⟨some w.heap.size, n⟩]) I (w.alloc b) :=
    { get := fun i B hi hc => ⟨B, by rw [List.getElem?_append_left hi]; exact hc, Nat.le_refl _, fun _ => .inl rfl, fun _ _ => rfl⟩
      len := Nat.le_refl _
      len' := by simp
      os := rfl
      tape := rfl
      output := rfl
      size := by simp
      imm := fun c hc => ⟨hc, heap_alloc_old w b (hs.ilt c hc)⟩
      shape := fun c cs e f hc => ⟨cs, by rw [heap_alloc_old w b (Array.getElem?_eq_some_iff.1 hc).1]; exact hc, rfl⟩
      inew := fun _ h => .inl h
      mnew := fun c ⟨q, hc⟩ => by
        rcases List.mem_append.1 hc with h | h
        · exact .inl ⟨q, h⟩
        · simp at h; exact .inr (by omega)
      keep := fun c hc _ => heap_alloc_old w b hc }
  refine ⟨{ len := by simp [hs.len], inj := ?_, lt := ?_, off := ?_, ilt := ?_, objs := ?_ }, hE⟩
  · intro i j c q q' hi hj
    rw [List.getElem?_append] at hi hj
    split at hi <;> split at hj
    · exact hs.inj i j c q q' hi hj
    · have h1 := hs.lt c (.mk hi)
      have := List.mem_of_getElem? hj; simp at this; omega
    · have h1 := hs.lt c (.mk hj)
      have := List.mem_of_getElem? hi; simp at this; omega
    · have h1 := (List.getElem?_eq_some_iff.1 hi).1
      have h2 := (List.getElem?_eq_some_iff.1 hj).1
      simp at h1 h2; omega
  · rintro c ⟨q, hc⟩
    rcases List.mem_append.1 hc with h | h
    · have := hs.lt c ⟨q, h⟩; simp; omega
    · simp at h; simp; omega
  · rintro c ⟨q, hc⟩ hi
    rcases List.mem_append.1 hc with h | h
    · exact hs.off c ⟨q, h⟩ hi
    · simp at h; have := hs.ilt c hi; omega
  · intro c hc; have := hs.ilt c hc; simp; omega
  · intro i ob c hob hc
    rw [List.getElem?_append] at hob hc
    rw [hs.len] at hc
    split at hob
    · rename_i hlt
      rw [if_pos hlt] at hc
      exact (hs.objs i ob c hob hc).ext hE fun d hd => heap_alloc_old w b (hs.lt d (.of hc hd))
    · rename_i hge
      rw [if_neg hge] at hc
      have h1 := (List.getElem?_eq_some_iff.1 hob).1
      simp at h1
      rw [show i - H.length = 0 by omega] at hob hc
      simp at hob hc
      subst hob; subst hc
      exact ho _ _ hE (heap_alloc_new w b)

/-- One object written. -/
theorem St.write {w' : World} (hs : St μ I w H) {id b n : Nat} {o : LObj} (hid : μ[id]? = some ⟨some b, n⟩) (hk : ∀ c, c ≠ b → w'.heap[c]? = w.heap[c]?) (hsz : w'.heap.size = w.heap.size)
    (hos : w'.os = w.os) (htp : w'.tape = w.tape) (hout : w'.output = w.output)
    (hsh : ∀ c e f, w.heap[b]? = some (.cells c e f) → ∃ c', w'.heap[b]? = some (.cells c' e f) ∧ c'.size = c.size)
    (ho : Ext μ.length μ I w μ I w' → ORep μ I w' o ⟨some b, n⟩) : St μ I w' (H.set id o) ∧ Ext μ.length μ I w μ I w' := by
  have hbm : Own μ b := .mk hid
  have hE : Ext μ.length μ I w μ I w' :=
    { get := fun _ B _ h => ⟨B, h, Nat.le_refl _, fun _ => .inl rfl, fun _ _ => rfl⟩
      len := Nat.le_refl _
      len' := Nat.le_refl _
      os := hos
      tape := htp
      output := hout
      size := by omega
      imm := fun c hc => ⟨hc, hk c fun e => hs.off b hbm (e ▸ hc)⟩
      shape := fun c cs e f hc => by
        by_cases hcb : c = b
        · subst hcb; exact hsh cs e f hc
        · exact ⟨cs, by rw [hk c hcb]; exact hc, rfl⟩
      inew := fun _ h => .inl h
      mnew := fun _ h => .inl h
      keep := fun c _ hc => hk c fun e => hc (e ▸ hbm) }
  refine ⟨{ len := by simp [hs.len], inj := hs.inj, lt := fun c hc => by have := hs.lt c hc; omega, off := hs.off, ilt := fun c hc => by have := hs.ilt c hc; omega, objs := ?_ }, hE⟩
  intro i ob c hob hc
  rw [List.getElem?_set] at hob
  split at hob
  · rename_i e
    subst e
    split at hob
    · cases hob
      rw [hid] at hc; cases hc
      exact ho hE
    · cases hob
  · rename_i hne
    refine (hs.objs i ob c hob hc).ext hE fun d hd => hk d fun e => ?_
    subst e
    obtain ⟨cb, cn⟩ := c
    simp only at hd
    subst hd
    exact hne (hs.inj id i _ _ _ hid hc)
end

section
variable {P : Program} {o : Oper} {env : Env} {H : List LObj}

/-- An operation that yields a value and comes to other objects. -/
theorem LOp.step {x : LV} {H' : List LObj} (h : ∀ a w μ I, St μ I w H → EOn μ I w o env a → ∃ v w' μ', (execOp a.eval o).run P w = .ok (.value v) w' ∧ St μ' I w' H' ∧ LRep μ' I w' x v ∧ Ext μ.length μ I w μ' I w') :
    LOp P o env H (Is x H') := by
  intro a w μ I hs he K Q hK
  obtain ⟨v, w', μ', hrun, hs', hv, hE⟩ := h a w μ I hs he
  unfold Oper.wp
  rw [hrun]
  exact hK x H' v w' μ' I ⟨rfl, rfl⟩ hs' hv hE

theorem LOp.unit {H' : List LObj} (h : ∀ a w μ I, St μ I w H → EOn μ I w o env a → ∃ w' μ', (execOp a.eval o).run P w = .ok .skip w' ∧ St μ' I w' H' ∧ Ext μ.length μ I w μ' I w') :
    LOp P o env H (Is .any H') := by
  intro a w μ I hs he K Q hK
  obtain ⟨w', μ', hrun, hs', hE⟩ := h a w μ I hs he
  unfold Oper.wp
  rw [hrun]
  exact hK .any H' undef w' μ' I ⟨rfl, rfl⟩ hs' .any hE

theorem LOp.box {t : TypeId} {x : Operand} {l : LV} {cs : List LV} {id : Nat} {H' : List LObj} (ho : o.op = .box t x) (hx : lev env x = some l) (hc : cells1 l = some cs)
    (hid : lenC H = some id) (hH : appC H (.box cs) = some H') : LOp P o env H (Is (.ptr id 0) H') :=
  LOp.step fun a w μ I hs he => by
    have hr := he.ev (x := x) (by simp [ho, Op.operands]) hx
    obtain ⟨h1, h2, h3⟩ := cells1_rep hc hr
    have hid' := lenC_eq hid
    have hH' := appC_eq hH
    subst hH'
    obtain ⟨hs', hE⟩ := hs.push (.cells (a.eval x).cells t) (.box cs) 0 fun μ' w' hE hb => .box hb h1 h2 fun i c v hc hv => (h3 i c v hc hv).ext hE
    refine ⟨.pointer (some ⟨w.heap.size, 0, none⟩), _, _, by simp [execOp, ho, Instr.box, newVar, newRow], hs', .ptr ?_, hE⟩
    rw [List.getElem?_append_right (by rw [hs.len]; omega), hid', hs.len]; simp

def zeroTy (P : Program) (t : TypeId) : Option (List LV) :=
  match P.info? t with
  | some i => match i.zero with | some z => cellsOfConst z.cells.toList | none => none
  | none => none

theorem LOp.alloc {t : TypeId} {cs : List LV} {id : Nat} {H' : List LObj} (ho : o.op = .alloc t) (hz : zeroTy P t = some cs)
    (hid : lenC H = some id) (hH : appC H (.box cs) = some H') : LOp P o env H (Is (.ptr id 0) H') :=
  LOp.step fun a w μ I hs he => by
    have hid' := lenC_eq hid
    have hH' := appC_eq hH
    subst hH'
    unfold zeroTy at hz
    split at hz
    · rename_i i hi
      split at hz
      · rename_i z hz0
        obtain ⟨h1, h2, h3⟩ := cellsOfConst_spec (μ := μ) (I := I) (w := w) hz
        obtain ⟨hs', hE⟩ := hs.push (.cells z.cells t) (.box cs) 0 fun μ' w' hE hb => .box hb (by simpa using h1) (fun u hu => h2 u (by simpa using hu)) fun i c v hc hv => (h3 i c v hc (by simpa using hv)).ext hE
        refine ⟨.pointer (some ⟨w.heap.size, 0, none⟩), _, _, by simp [execOp, ho, Instr.alloc, zeroValue, typeInfo, hi, hz0, newVar, newRow], hs', .ptr ?_, hE⟩
        rw [List.getElem?_append_right (by rw [hs.len]; omega), hid', hs.len]; simp
      · cases hz
    · cases hz

/-! Loads and stores. -/

theorem extract_range (vs : Array Value) (o n : Nat) (h : o + n ≤ vs.size) : ((List.range n).map fun i => vs.getD (o + i) undef).toArray = vs.extract o (o + n) := by
  apply Array.ext
  · simp; omega
  · intro i h1 h2
    have : o + i < vs.size := by simp at h1; omega
    simp [this]

theorem LOp.load {t : TypeId} {x : Operand} {id off n : Nat} {ag : Bool} {cs s : List LV} {l : LV} (ho : o.op = .load t x) (hx : lev env x = some (.ptr id off)) (hH : nth H id = some (.box cs))
    (hT : varTy P t = some (n, ag)) (hs : subC cs off n = some s) (hl : valOf ag s = some l) : LOp P o env H (Is l H) :=
  LOp.val fun a w μ I hst he => by
    have hr := he.ev (x := x) (by simp [ho, Op.operands]) hx
    generalize hv : a.eval x = v at hr
    rw [nth_eq] at hH
    cases hr with
    | @ptr _ _ b hid =>
      have hob := hst.objs id _ _ hH hid
      cases hob with
      | @box _ _ vs e hb hlen hone hrep =>
        obtain ⟨hs1, hs2, hs3, hs4⟩ := subC_eq hs
        have hfit : off + n ≤ vs.size := by
          rcases Nat.eq_zero_or_pos n with rfl | hn
          · rw [hlen]; simpa using hs4
          · have := hs2 hn; omega
        have hload := run_loadVar (P := P) (w := w) hT b off (fun i => vs.getD (off + i) undef) (fun i hi => by simp [World.cell?, hb, Array.getElem?_eq_getElem (show off + i < vs.size by omega)])
        rw [extract_range vs off n hfit] at hload
        refine ⟨_, by simp only [execOp, ho, Instr.loadAt, hv, Instr.sureAddr]; simp [hload]; rfl, ?_⟩
        have := valOf_rep (μ := μ) (I := I) (w := w) hl (vs := vs.extract off (off + n)) (by simp; omega) (fun u hu => by
          obtain ⟨i, hi, rfl⟩ := Array.mem_iff_getElem.1 hu
          simp; exact hone _ (Array.getElem_mem _)) (fun i c u hc hu => by
          obtain ⟨h5, h6⟩ := subC_get hs hc
          refine hrep (off + i) c u h5 ?_
          rw [Array.getElem?_extract] at hu
          split at hu
          · exact hu
          · cases hu)
        cases ag with
        | true => simpa using this
        | false =>
          have hn1 := (run_isAgg_var (w := w) hT).2.2 rfl
          subst hn1
          simp at this ⊢
          have hg : vs[off]? = some vs[off] := Array.getElem?_eq_getElem (by omega)
          rw [Array.getElem?_extract] at this
          simp [hg] at this ⊢
          rw [if_pos (by omega)] at this
          simpa using this

theorem LOp.loadC {t : TypeId} {x : Operand} {n : Nat} {ag : Bool} {ps : List PV} {cs s : List LV} {l : LV} (ho : o.op = .load t x) (hx : lev env x = some (.cptr ps)) (hp : mapP ps = some cs)
    (hT : varTy P t = some (n, ag)) (hs : takeC cs n = some s) (hl : valOf ag s = some l) : LOp P o env H (Is l H) :=
  LOp.val fun a w μ I hst he => by
    have hr := he.ev (x := x) (by simp [ho, Op.operands]) hx
    generalize hv : a.eval x = v at hr
    have e := mapP_eq hp
    subst e
    obtain ⟨e1, e2⟩ := takeC_eq hs
    cases hr with
    | @cptr _ b off f hI hc =>
      have hget : ∀ i, i < n → ∃ c, ps[i]? = some c := fun i hi => ⟨_, List.getElem?_eq_getElem (by simp at e2; omega)⟩
      have hload := run_loadVar (P := P) (w := w) hT b off f (fun i hi => by
        obtain ⟨c, hci⟩ := hget i hi
        exact (hc i c hci).2.1)
      refine ⟨_, by simp only [execOp, ho, Instr.loadAt, hv, Instr.sureAddr]; simp [hload]; rfl, ?_⟩
      have hlen : s.length = n := by rw [e1]; simp at e2 ⊢; omega
      have := valOf_rep (μ := μ) (I := I) (w := w) hl (vs := ((List.range n).map f).toArray) (by simp [hlen]) (fun u hu => by
        simp at hu
        obtain ⟨i, hi, rfl⟩ := hu
        obtain ⟨c, hci⟩ := hget i hi
        exact (hc i c hci).2.2.one (hc i c hci).1) (fun i c u hcc hu => by
        rw [e1, List.getElem?_take] at hcc
        split at hcc
        · rename_i hi
          obtain ⟨c', hci⟩ := hget i hi
          rw [List.getElem?_map, hci] at hcc
          cases hcc
          have : u = f i := by simp [hi] at hu; exact hu.symm
          rw [this]
          exact .p (hc i c' hci).2.2
        · cases hcc)
      cases ag with
      | true => simpa using this
      | false =>
        have hn1 := (run_isAgg_var (w := w) hT).2.2 rfl
        subst hn1
        simpa using this

theorem run_storeVar {w : World} {t : TypeId} {n : Nat} {ag : Bool} (hT : varTy P t = some (n, ag)) {b off : Nat} {vs : Array Value} {e : TypeId} (hb : w.heap[b]? = some (.cells vs e (0, 0))) (v : Value)
    (hn : v.cells.size = n) (ho : ∀ u ∈ v.cells, one1 u = true) (hfit : off + n ≤ vs.size) :
    (storeVar t ⟨b, off, none⟩ v).run P w = .ok () (w.setRow b (vs.toList.take off ++ v.cells.toList ++ vs.toList.drop (off + n)).toArray) := by
  obtain ⟨h1, h2, h3⟩ := run_isAgg_var (w := w) hT
  have h4 := run_storeCells_at P b off e v.cells.toList 0 vs w hb (by simp; omega) (fun u hu => by
    have := ho u (by simpa using hu)
    cases u <;> simp_all [one1, Value.oneCell'])
  unfold storeVar
  simp only [Sem.run_bind, h2, Result.andThen_ok]
  rw [if_neg (by simp [hn])]
  simpa [hn] using h4

theorem LOp.store {t : TypeId} {x y : Operand} {id off n : Nat} {ag : Bool} {cs ys s : List LV} {l : LV} {H' : List LObj} (ho : o.op = .store t x y) (hx : lev env x = some (.ptr id off)) (hy : lev env y = some l)
    (hH : nth H id = some (.box cs)) (hT : varTy P t = some (n, ag)) (hys : cells1 l = some ys) (hn : lenC ys = some n) (hs : splC cs off ys = some s) (hH' : setC H id (.box s) = some H') :
    LOp P o env H (Is .any H') :=
  LOp.unit fun a w μ I hst he => by
    have hr := he.ev (x := x) (by simp [ho, Op.operands]) hx
    have hry := he.ev (x := y) (by simp [ho, Op.operands]) hy
    obtain ⟨hy1, hy2, hy3⟩ := cells1_rep hys hry
    generalize hv : a.eval x = v at hr
    rw [nth_eq] at hH
    obtain ⟨e1, e2⟩ := splC_eq hs
    obtain ⟨e3, e4⟩ := setC_eq hH'
    have hn' := lenC_eq hn
    subst e3
    cases hr with
    | @ptr _ _ b hid =>
      have hob := hst.objs id _ _ hH hid
      cases hob with
      | @box _ _ vs e hb hlen hone hrep =>
        have hst' := run_storeVar (P := P) hT (off := off) hb (a.eval y) (by omega) hy2 (by omega)
        obtain ⟨nv, hnv⟩ : ∃ nv, nv = (vs.toList.take off ++ (a.eval y).cells.toList ++ vs.toList.drop (off + n)).toArray := ⟨_, rfl⟩
        have hnl : nv.size = vs.size := by rw [hnv]; simp; omega
        rw [← hnv] at hst'
        obtain ⟨hs', hE⟩ := hst.write (o := .box s) hid (w' := w.setRow b nv) (fun c hc => setRow_other w b c _ hc) (by simp [World.setRow]) rfl rfl rfl
          (fun c e' f hc => by
            rw [hb] at hc; cases hc
            exact ⟨_, setRow_heap w b vs nv e (0, 0) hb, hnl⟩)
          (fun hE => by
            refine .box (setRow_heap w b vs nv e (0, 0) hb) ?_ ?_ ?_
            · rw [hnl, e1]; simp; omega
            · intro u hu
              rw [hnv] at hu
              simp at hu
              rcases hu with hu | hu | hu
              · exact hone u (by simpa using List.mem_of_mem_take hu)
              · exact hy2 u hu
              · exact hone u (by simpa using List.mem_of_mem_drop hu)
            · intro i c u hc hu
              rw [e1] at hc
              rw [hnv] at hu
              simp only [List.getElem?_toArray] at hu
              rw [List.append_assoc, List.getElem?_append] at hc hu
              have l1 : (List.take off vs.toList).length = off := by simp; omega
              have l2 : (List.take off cs).length = off := by simp; omega
              rw [l1] at hu
              rw [l2] at hc
              split at hc
              · rename_i hi
                rw [if_pos hi, List.getElem?_take_of_lt hi] at hu
                rw [List.getElem?_take_of_lt hi] at hc
                exact (hrep i c u hc (by simpa using hu)).ext hE
              · rename_i hi
                rw [if_neg hi] at hu
                rw [List.getElem?_append] at hc hu
                have l3 : (a.eval y).cells.toList.length = ys.length := by simpa using hy1
                rw [l3] at hu
                split at hc
                · rename_i hj
                  rw [if_pos hj] at hu
                  exact (hy3 _ c u hc (by simpa using hu)).ext hE
                · rename_i hj
                  rw [if_neg hj] at hu
                  rw [List.getElem?_drop] at hc hu
                  rw [← hn'] at hc hu
                  exact (hrep _ c u hc (by simpa using hu)).ext hE)
        exact ⟨_, μ, by simp only [execOp, ho, Instr.storeAt, hv, Instr.sureAddr]; simp [hst'], hs', hE⟩

theorem LOp.fieldAddr {s : TypeId} {x : Operand} {i id off fo n : Nat} {ag : Bool} (ho : o.op = .fieldAddr s x i) (hx : lev env x = some (.ptr id off)) (hT : fieldTy P s i = some (fo, n, ag)) :
    LOp P o env H (Is (.ptr id (off + fo)) H) :=
  LOp.val fun a w μ I hst he => by
    have hr := he.ev (x := x) (by simp [ho, Op.operands]) hx
    generalize hv : a.eval x = v at hr
    cases hr with
    | @ptr _ _ b hid =>
      obtain ⟨fs, f, hu, hf, rfl, hsz, hv0⟩ := fieldTy_spec hT (w := w)
      exact ⟨.pointer (some ⟨b, off + f.offset, none⟩), by simp [execOp, ho, hv, Instr.fieldAt, run_underlying hu, hf, Instr.sureAddr, fieldPlace, addr_add, hsz, hv0], .ptr hid⟩
end
end Go.Mg
