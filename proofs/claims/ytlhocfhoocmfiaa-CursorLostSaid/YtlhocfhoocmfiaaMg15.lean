/- Regions in every order, of operations that write: what each looks at, and writes, is told by numbers. Conditions: none. -/
import Derived.Test.YtlhocfhoocmfiaaMg14
namespace Go.Mg
open Go.RowKit (Below)

/-- The same objects, as far as the numbers of F say. -/
structure Agree (F : List Nat) (H H' : List LObj) : Prop where
  len : H'.length = H.length
  at_ : ∀ i ∈ F, H'[i]? = H[i]?

theorem Agree.get {F : List Nat} {H H' : List LObj} (h : Agree F H H') {i : Nat} {o : LObj} (hi : F.contains i = true) (ho : nth H i = some o) : nth H' i = some o := by
  rw [nth_eq] at ho ⊢
  rw [h.at_ i (by simpa using hi)]; exact ho

theorem setC_of {α : Type} : ∀ {l : List α} {n : Nat} {x y : α}, nth l n = some x → setC l n y = some (l.set n y) := by
  intro l
  induction l with
  | nil => intro n x y h; cases n <;> cases h
  | cons a r ih =>
    intro n x y h
    cases n with
    | zero => rfl
    | succ n => simp only [nth] at h; simp [setC, ih h]

theorem Agree.set {F : List Nat} {H H' : List LObj} (h : Agree F H H') {i : Nat} {o y : LObj} (hi : F.contains i = true) (ho : nth H i = some o) : setC H' i y = some (H'.set i y) :=
  setC_of (h.get hi ho)

def wset (H : List LObj) : Option (Nat × LObj) → List LObj
  | some (i, o) => H.set i o
  | none => H

/-- What an operation looks at, and the number of what it writes. -/
structure FP where
  rd : List Nat
  wr : Option Nat

def fpWr : Option (Nat × LObj) → Option Nat
  | some (i, _) => some i
  | none => none

/-- An operation that looks at the objects of F alone, and writes what s says. -/
def LAt (P : Program) (o : Oper) (env : Env) (H : List LObj) (F : List Nat) (s : Option (Nat × LObj)) (x : LV) : Prop :=
  ∀ H', Agree F H H' → LOp P o env H' (Is x (wset H' s))

section
variable {P : Program} {n k : Nat} {env : Env} {H : List LObj} {Q : Exit → Env → List LObj → Prop} {ops : Array Oper}

inductive FOrd (P : Program) (ops : Array Oper) (n : Nat) : List Nat → Env → List LObj → List FP → Env → List LObj → Prop
  | nil {env : Env} {H : List LObj} : FOrd P ops n [] env H [] env H
  | run {i : Nat} {l : List Nat} {env env' : Env} {H H' : List LObj} {o : Oper} {x : LV} {F : List Nat} {s : Option (Nat × LObj)} {fs : List FP} (ho : ops[i]? = some o) (hw : Wanted ops o env true) (hd : dstOk n o.dst = true)
      (h : LAt P o env H F s x) (r : FOrd P ops n l (eput env o.dst x) (wset H s) fs env' H') : FOrd P ops n (i :: l) env H (⟨F, fpWr s⟩ :: fs) env' H'
  | skip {i : Nat} {l : List Nat} {env env' : Env} {H H' : List LObj} {o : Oper} {fs : List FP} (ho : ops[i]? = some o) (hw : Wanted ops o env false) (hd : dstOk n o.dst = true)
      (r : FOrd P ops n l (eput env o.dst .any) H fs env' H') : FOrd P ops n (i :: l) env H (⟨[], none⟩ :: fs) env' H'

/-- The chain, with what is asked of its end; fs: the footprints behind one. -/
def LF (P : Program) (ops : Array Oper) (n : Nat) (l : List Nat) (env : Env) (H : List LObj) (Q : List FP → Env → List LObj → Prop) : Prop :=
  ∃ fs env' H', FOrd P ops n l env H fs env' H' ∧ Q fs env' H'

theorem LF.nil {Q : List FP → Env → List LObj → Prop} (h : Q [] env H) : LF P ops n [] env H Q := ⟨[], env, H, .nil, h⟩
theorem LF.is {i : Nat} {l : List Nat} {o : Oper} {x : LV} {F : List Nat} {s : Option (Nat × LObj)} {H1 : List LObj} {Q : List FP → Env → List LObj → Prop} (ho : ops[i]? = some o) (hg : o.guard = none) (hd : dstOk n o.dst = true)
    (h : LAt P o env H F s x) (hH : wset H s = H1) (hr : LF P ops n l (eput env o.dst x) H1 fun fs env H => Q (⟨F, fpWr s⟩ :: fs) env H) : LF P ops n (i :: l) env H Q := by
  subst hH
  obtain ⟨fs, env', H', r, q⟩ := hr
  exact ⟨_, env', H', .run ho (.inl ⟨hg, rfl⟩) hd h r, q⟩
/-- One that writes nothing, and looks at nothing. -/
theorem LF.nop {i : Nat} {l : List Nat} {o : Oper} {x : LV} {Q : List FP → Env → List LObj → Prop} (ho : ops[i]? = some o) (hg : o.guard = none) (hd : dstOk n o.dst = true)
    (h : ∀ H, LOp P o env H (Is x H)) (hr : LF P ops n l (eput env o.dst x) H fun fs env H => Q (⟨[], none⟩ :: fs) env H) : LF P ops n (i :: l) env H Q :=
  LF.is (F := []) (s := none) ho hg hd (fun H' _ => h H') rfl hr
theorem LF.guarded {i : Nat} {l : List Nat} {o : Oper} {j t : Nat} {b : Bool} {x : LV} {F : List Nat} {s : Option (Nat × LObj)} {H1 : List LObj} {Q : List FP → Env → List LObj → Prop} (ho : ops[i]? = some o) (hg : o.guard = some (j, b))
    (ht : (ops[j]?).bind (·.dst) = some t) (hb : env.get t = some (.p (.bool b))) (hd : dstOk n o.dst = true)
    (h : LAt P o env H F s x) (hH : wset H s = H1) (hr : LF P ops n l (eput env o.dst x) H1 fun fs env H => Q (⟨F, fpWr s⟩ :: fs) env H) : LF P ops n (i :: l) env H Q := by
  subst hH
  obtain ⟨fs, env', H', r, q⟩ := hr
  exact ⟨_, env', H', .run ho (.inr ⟨j, t, b, b, hg, ht, hb, by simp⟩) hd h r, q⟩
theorem LF.skipped {i : Nat} {l : List Nat} {o : Oper} {j t : Nat} {b c : Bool} {Q : List FP → Env → List LObj → Prop} (ho : ops[i]? = some o) (hg : o.guard = some (j, b))
    (ht : (ops[j]?).bind (·.dst) = some t) (hb : env.get t = some (.p (.bool c))) (hbc : c = !b) (hd : dstOk n o.dst = true)
    (hr : LF P ops n l (eput env o.dst .any) H fun fs env H => Q (⟨[], none⟩ :: fs) env H) : LF P ops n (i :: l) env H Q := by
  obtain ⟨fs, env', H', r, q⟩ := hr
  exact ⟨_, env', H', .skip ho (.inr ⟨j, t, c, b, hg, ht, hb, by subst hbc; cases b <;> rfl⟩) hd r, q⟩

/-- An operation hangs on another one, directly or by others. -/
def reach (ops : Array Oper) : Nat → Nat → Nat → Bool
  | 0, _, _ => false
  | f + 1, i, j => match ops[i]? with
    | some o => match depends o j with
      | true => true
      | false => o.after.toList.any fun e => Region.binds .any e && reach ops f e.on j
    | none => false

def confl (a b : FP) : Bool :=
  (match a.wr with | some i => b.rd.contains i || b.wr == some i | none => false) || (match b.wr with | some i => a.rd.contains i | none => false)

def fpRow (ops : Array Oper) (j : Nat) (b : FP) : List FP → Nat → Bool
  | [], _ => true
  | a :: r, i => (if Nat.blt i j then (if confl a b then reach ops 3 j i else true) else true) && fpRow ops j b r (i + 1)

def fpRows (ops : Array Oper) (fs : List FP) : List FP → Nat → Bool
  | [], _ => true
  | b :: r, j => (match b.wr with | some i => b.rd.contains i | none => true) && fpRow ops j b fs 0 && fpRows ops fs r (j + 1)

def fpOk (ops : Array Oper) (fs : List FP) : Bool := fpRows ops fs fs 0

theorem fpRow_spec {j : Nat} {b : FP} : ∀ {l : List FP} {s : Nat}, fpRow ops j b l s = true → ∀ (i : Nat) (a : FP), l[i]? = some a → s + i < j → confl a b = true → reach ops 3 j (s + i) = true := by
  intro l
  induction l with
  | nil => intro s _ i a h; simp at h
  | cons c r ih =>
    intro s h i a hi hlt hc
    simp only [fpRow, Bool.and_eq_true] at h
    cases i with
    | zero =>
      simp at hi; subst hi
      have h1 := h.1
      rw [if_pos (by simpa using hlt), if_pos hc] at h1
      simpa using h1
    | succ i =>
      have := ih h.2 i a (by simpa using hi) (by omega) hc
      rw [show s + (i + 1) = s + 1 + i by omega]; exact this

theorem fpRows_spec {fs : List FP} : ∀ {l : List FP} {s : Nat}, fpRows ops fs l s = true → ∀ (j : Nat) (b : FP), l[j]? = some b →
    (∀ i, b.wr = some i → i ∈ b.rd) ∧ ∀ (i : Nat) (a : FP), fs[i]? = some a → i < s + j → confl a b = true → reach ops 3 (s + j) i = true := by
  intro l
  induction l with
  | nil => intro s _ i a h; simp at h
  | cons c r ih =>
    intro s h j b hj
    simp only [fpRows, Bool.and_eq_true] at h
    cases j with
    | zero =>
      simp at hj; subst hj
      refine ⟨fun i hi => by have := h.1.1; rw [hi] at this; simpa using this, fun i a hi hlt hc => ?_⟩
      have := fpRow_spec h.1.2 i a hi (by omega) hc
      simpa using this
    | succ j =>
      have := ih h.2 j b (by simpa using hj)
      rw [show s + (j + 1) = s + 1 + j by omega]; exact this

theorem reach_spec {p : Nat → Prop} (hp : ∀ (i : Nat) (o : Oper), p i → ops[i]? = some o → ∀ e ∈ o.after, Region.binds .any e = true → p e.on) :
    ∀ (f i j : Nat), reach ops f i j = true → ∀ o, ops[i]? = some o → (∀ e ∈ o.after, Region.binds .any e = true → p e.on) → p j := by
  intro f
  induction f with
  | zero => intro i j h; cases h
  | succ f ih =>
    intro i j h o ho hpre
    simp only [reach, ho] at h
    split at h
    · rename_i hd
      obtain ⟨e, he, hb, rfl⟩ := depends_spec hd
      exact hpre e he hb
    · simp only [List.any_eq_true, Bool.and_eq_true] at h
      obtain ⟨e, he, hb, hr⟩ := h
      have hpe := hpre e (by simpa using he) hb
      cases hoe : ops[e.on]? with
      | none => cases f <;> simp [reach, hoe] at hr
      | some oe => exact ih e.on j hr oe hoe fun e' he' hb' => hp e.on oe hpe hoe e' he' hb'

/-- What a chain says of each operation. -/
theorem FOrd.steps {X0 : Nat → LV} {G0 : Nat → List LObj} {W0 : Nat → FP} {env0 : Env} : ∀ {l : List Nat} {s : Nat} {env env' : Env} {H H' : List LObj} {fs : List FP}, FOrd P ops n l env H fs env' H' → l = (List.range' s l.length) →
    Step P ops n [] env0 X0 s env → G0 s = H →
    ∃ (X : Nat → LV) (G : Nat → List LObj) (Wr : Nat → Option (Nat × LObj)), (∀ j, j < s → X j = X0 j) ∧ (∀ j, j ≤ s → G j = G0 j) ∧ fs.length = l.length ∧ G (s + l.length) = H' ∧ Step P ops n [] env0 X (s + l.length) env' ∧
      ∀ i, s ≤ i → i < s + l.length → ∃ o envi F, ops[i]? = some o ∧ dstOk n o.dst = true ∧ Step P ops n [] env0 X i envi ∧ fs[i - s]? = some ⟨F, fpWr (Wr i)⟩ ∧ G (i + 1) = wset (G i) (Wr i) ∧
        ((Wanted ops o envi true ∧ LAt P o envi (G i) F (Wr i) (X i)) ∨ (Wanted ops o envi false ∧ X i = .any ∧ Wr i = none ∧ F = [])) := by
  intro l
  induction l generalizing X0 G0 with
  | nil =>
    intro s env env' H H' fs h _ hs hG
    cases h
    exact ⟨X0, G0, fun _ => none, fun _ _ => rfl, fun _ _ => rfl, rfl, by simpa using hG, by simpa using hs, fun i h1 h2 => by simp at h2; omega⟩
  | cons i l ih =>
    intro s env env' H H' fs h hl hs hG
    rw [List.length_cons, List.range'_succ, List.cons.injEq] at hl
    obtain ⟨rfl, hl⟩ := hl
    have go : ∀ (o : Oper) (x : LV) (F : List Nat) (w : Option (Nat × LObj)) (fs' : List FP), ops[i]? = some o → dstOk n o.dst = true → fs = ⟨F, fpWr w⟩ :: fs' → FOrd P ops n l (eput env o.dst x) (wset H w) fs' env' H' →
        ((Wanted ops o env true ∧ LAt P o env H F w x) ∨ (Wanted ops o env false ∧ x = .any ∧ w = none ∧ F = [])) →
        ∃ (X : Nat → LV) (G : Nat → List LObj) (Wr : Nat → Option (Nat × LObj)), (∀ j, j < i → X j = X0 j) ∧ (∀ j, j ≤ i → G j = G0 j) ∧ fs.length = (i :: l).length ∧ G (i + (i :: l).length) = H' ∧ Step P ops n [] env0 X (i + (i :: l).length) env' ∧
          ∀ j, i ≤ j → j < i + (i :: l).length → ∃ o envi F, ops[j]? = some o ∧ dstOk n o.dst = true ∧ Step P ops n [] env0 X j envi ∧ fs[j - i]? = some ⟨F, fpWr (Wr j)⟩ ∧ G (j + 1) = wset (G j) (Wr j) ∧
            ((Wanted ops o envi true ∧ LAt P o envi (G j) F (Wr j) (X j)) ∨ (Wanted ops o envi false ∧ X j = .any ∧ Wr j = none ∧ F = [])) := by
      intro o x F w fs' ho hd hfs r hx
      let X1 : Nat → LV := fun j => if j = i then x else X0 j
      let G1 : Nat → List LObj := fun j => if j = i + 1 then wset H w else G0 j
      have h1 : ∀ j, j < i → X1 j = X0 j := fun j hj => by simp [X1]; omega
      have g1 : ∀ j, j ≤ i → G1 j = G0 j := fun j hj => by simp [G1]; omega
      have hs1 : Step P ops n [] env0 X1 (i + 1) (eput env o.dst x) := ⟨fun t y ht => by
        have old : env.get t = some y → o.dst ≠ some t → (∃ j o, j < i + 1 ∧ ops[j]? = some o ∧ o.dst = some t ∧ X1 j = y) ∨ (env0.get t = some y ∧ ∀ j o, j < i + 1 → ops[j]? = some o → o.dst ≠ some t) := by
          intro ht hne
          rcases hs.at_ t y ht with ⟨j, o', hj, ho', hd', hX⟩ | ⟨h0, hno⟩
          · exact .inl ⟨j, o', by omega, ho', hd', by rw [h1 j hj]; exact hX⟩
          · refine .inr ⟨h0, fun j o' hj ho' => ?_⟩
            by_cases e : j = i
            · subst e; rw [ho] at ho'; cases ho'; exact hne
            · exact hno j o' (by omega) ho'
        cases hdst : o.dst with
        | none => rw [hdst] at ht; exact old ht (by simp [hdst])
        | some d =>
          rw [hdst] at ht
          simp only [eput, Env.get_cons] at ht
          split at ht
          · rename_i e; subst e; cases ht
            exact .inl ⟨i, o, by omega, ho, hdst, by simp [X1]⟩
          · rename_i e; exact old ht (by rw [hdst]; simpa using e)⟩
      obtain ⟨X, G, Wr, hX, hGs, hlen, hfin, hst, hall⟩ := ih (X0 := X1) (G0 := G1) (s := i + 1) r hl hs1 (by simp [G1])
      let Wr1 : Nat → Option (Nat × LObj) := fun j => if j = i then w else Wr j
      refine ⟨X, G, Wr1, fun j hj => by rw [hX j (by omega), h1 j hj], fun j hj => by rw [hGs j (by omega), g1 j hj], by rw [hfs]; simp [hlen], ?_, ?_, fun j hij hj => ?_⟩
      · rw [List.length_cons, show i + (l.length + 1) = i + 1 + l.length by omega]; exact hfin
      · rw [List.length_cons, show i + (l.length + 1) = i + 1 + l.length by omega]; exact hst
      by_cases e : j = i
      · subst e
        have hXi : X j = x := by rw [hX j (by omega)]; simp [X1]
        have hGi : G j = H := by rw [hGs j (by omega), g1 j (Nat.le_refl _), hG]
        have hWi : Wr1 j = w := by simp [Wr1]
        refine ⟨o, env, F, ho, hd, ⟨fun t y ht => ?_⟩, by rw [hfs, hWi]; simp, by rw [hWi, hGi, hGs (j + 1) (Nat.le_refl _)]; simp [G1], by rw [hXi, hWi, hGi]; exact hx⟩
        rcases hs.at_ t y ht with ⟨j', o', hj', ho', hd', hX'⟩ | hh
        · exact .inl ⟨j', o', hj', ho', hd', by rw [hX j' (by omega), h1 j' hj']; exact hX'⟩
        · exact .inr hh
      · obtain ⟨o', envi, F', a1, a2, a3, a4, a5, a6⟩ := hall j (by omega) (by rw [List.length_cons] at hj; omega)
        have hWj : Wr1 j = Wr j := by simp [Wr1, e]
        refine ⟨o', envi, F', a1, a2, a3, ?_, by rw [hWj]; exact a5, by rw [hWj]; exact a6⟩
        rw [hfs, hWj, show j - i = (j - (i + 1)) + 1 by omega]
        simpa using a4
    cases h with
    | run ho hw hd h r => exact go _ _ _ _ _ ho hd rfl r (.inl ⟨hw, h⟩)
    | skip ho hw hd r => exact go _ _ [] none _ ho hd rfl r (.inr ⟨hw, rfl, rfl, rfl⟩)

theorem wset_len (H : List LObj) (s : Option (Nat × LObj)) : (wset H s).length = H.length := by
  rcases s with _ | ⟨i, o⟩ <;> simp [wset]

theorem wset_ne {H : List LObj} {s : Option (Nat × LObj)} {i : Nat} (h : fpWr s ≠ some i) : (wset H s)[i]? = H[i]? := by
  rcases s with _ | ⟨j, o⟩
  · rfl
  · simp only [fpWr, ne_eq, Option.some.injEq] at h
    simp [wset, List.getElem?_set_ne h]

theorem wset_eq {H H' : List LObj} {s : Option (Nat × LObj)} {i : Nat} (h : fpWr s = some i) (hl : H.length = H'.length) : (wset H s)[i]? = (wset H' s)[i]? := by
  rcases s with _ | ⟨j, o⟩
  · cases h
  · simp only [fpWr, Option.some.injEq] at h
    subst h
    simp [wset, List.getElem?_set, hl]

/-- THE REGION IN EVERY ORDER, of operations that write: two of which one writes what the other looks at are ordered by edges. -/
theorem LW.drawW {id : Nat} (hm : P.follows .mixedOrders = true) (hok : ordOk ops = true) (h : LF P ops n (List.range ops.size) env H (fun fs env H => fpOk ops fs = true ∧ Q .normal env H)) :
    LW P n k (.region id ops true) env H Q := by
  obtain ⟨fs, env', H9, hc, hfp, hq0⟩ := h
  intro a w μ I hn hk Q' hq
  have hrange : List.range ops.size = List.range' 0 (List.range ops.size).length := by rw [List.length_range, List.range_eq_range']
  obtain ⟨X, G, Wr, -, hG0, hfl, hG9, hfin, hall⟩ := hc.steps (X0 := fun _ => .any) (G0 := fun _ => H) (W0 := fun _ => ⟨[], none⟩) (env0 := env) hrange ⟨fun t y ht => .inr ⟨ht, fun j o hj => absurd hj (by omega)⟩⟩ rfl
  simp only [List.length_range, Nat.zero_add, Nat.sub_zero] at hfin hall hG9 hfl
  have hG0' : G 0 = H := hG0 0 (Nat.le_refl _)
  have hfps := fun j b (hj : fs[j]? = some b) => fpRows_spec (s := 0) hfp j b hj
  simp only [Nat.zero_add] at hfps
  have hGlen : ∀ i, i ≤ ops.size → (G i).length = H.length := by
    intro i
    induction i with
    | zero => intro _; rw [hG0']
    | succ i ih =>
      intro hi
      obtain ⟨_, _, _, _, _, _, _, hg, _⟩ := hall i (Nat.zero_le _) (by omega)
      rw [hg, wset_len]
      exact ih (by omega)
  -- no writer of a number between two moments: the same content
  have hGsame : ∀ (id a b : Nat), a ≤ b → b ≤ ops.size → (∀ j, a ≤ j → j < b → fpWr (Wr j) ≠ some id) → (G a)[id]? = (G b)[id]? := by
    intro id a b
    induction b with
    | zero => intro h _ _; rw [Nat.le_zero.1 h]
    | succ b ih =>
      intro h hb hno
      rcases Nat.lt_or_ge a (b + 1) with hlt | hge
      · rw [ih (by omega) (by omega) fun j h1 h2 => hno j h1 (by omega)]
        obtain ⟨_, _, _, _, _, _, _, hg, _⟩ := hall b (Nat.zero_le _) (by omega)
        rw [hg, wset_ne (hno b (by omega) (by omega))]
      · rw [show a = b + 1 by omega]
  have hsp := fun i oi (hi : ops[i]? = some oi) => ordOkFrom_spec (s := 0) hok i oi (by simpa using hi)
  simp only [Nat.zero_add] at hsp
  refine wp_region_any hm ?_
  have key : ∀ (f : Nat) (listed : Array Bool) (a' : Act) (w' : World) (μ' : List Blk) (I' : Nat → Prop) (Hc : List LObj), listed.size = ops.size → listed.toList.count false = f →
      a'.tmps.size = n → a'.defers = [] → St μ' I' w' Hc → Ext k μ I w μ' I' w' →
      (Hc.length = H.length ∧ ∀ id, ∃ m, m ≤ ops.size ∧ Hc[id]? = (G m)[id]? ∧ ∀ j, j < ops.size → fpWr (Wr j) = some id → (listed[j]? = some true ↔ j < m)) →
      (∀ (j : Nat) (o : Oper), ops[j]? = some o → listed[j]? = some true → ∀ t, o.dst = some t → ∃ v, a'.tmps[t]? = some v ∧ LRep μ' I' w' (X j) v) →
      (∀ t y, env.get t = some y → (∀ (j : Nat) (o : Oper), ops[j]? = some o → listed[j]? = some true → o.dst ≠ some t) → ∃ v, a'.tmps[t]? = some v ∧ LRep μ' I' w' y v) →
      (∀ (j : Nat) (o : Oper), ops[j]? = some o → listed[j]? = some true → ∀ e ∈ o.after, Region.binds .any e = true → listed[e.on]? = some true) →
      wpAny P .any ops Q' f listed a' w' := by
    intro f
    induction f with
    | zero =>
      intro listed a' w' μ' I' Hc hsz hcnt hsize hdef hst hE hD hA hB hC
      have hallL : ∀ j, j < ops.size → listed[j]? = some true := by
        intro j hj
        have hj' : j < listed.size := by omega
        rw [Array.getElem?_eq_getElem hj']
        cases hb : listed[j] with
        | true => rfl
        | false =>
          have hmem : false ∈ listed.toList := by rw [← hb]; simp
          have := List.count_pos_iff.2 hmem
          omega
      have hready : Region.ready .any ops listed = [] := by
        cases hr : Region.ready .any ops listed with
        | nil => rfl
        | cons i r =>
          exfalso
          have hi : i ∈ Region.ready .any ops listed := by rw [hr]; exact .head _
          obtain ⟨h1, o, h2, _⟩ := mem_ready.1 hi
          have hlt := (Array.getElem?_eq_some_iff.1 h2).1
          have := hallL i hlt
          rw [Array.getD_eq_getD_getElem?, this] at h1
          cases h1
      have hHc : Hc = H9 := by
        apply List.ext_getElem?
        intro id
        obtain ⟨m, hm, h1, h2⟩ := hD.2 id
        rw [h1, ← hG9]
        exact hGsame id m ops.size hm (Nat.le_refl _) fun j h3 h4 h5 => by
          have := (h2 j h4 h5).1 (hallL j h4)
          omega
      subst hHc
      refine ⟨hready, hq .normal env' Hc a' w' μ' I' hq0 ⟨hsize, hdef, hst, fun t y ht => ?_⟩ hE⟩
      rcases hfin.at_ t y ht with ⟨j, o, hj, ho, hd, rfl⟩ | ⟨h0, hno⟩
      · exact hA j o ho (hallL j hj) t hd
      · exact hB t y h0 fun j o ho _ => hno j o (Array.getElem?_eq_some_iff.1 ho).1 ho
    | succ f ih =>
      intro listed a' w' μ' I' Hc hsz hcnt hsize hdef hst hE hD hA hB hC
      refine ⟨fun hnil => ?_, fun i hi => ?_⟩
      · -- some operation is left, the first of them is ready
        exfalso
        have hmem : false ∈ listed.toList := List.count_pos_iff.1 (by omega)
        obtain ⟨j, hj, hjf⟩ := List.mem_iff_getElem.1 hmem
        obtain ⟨m, hm', hmin⟩ := least (p := fun j => listed[j]? = some false) ⟨j, by
          rw [Array.getElem?_eq_getElem (by simpa using hj)]; simpa using hjf⟩
        have hmlt : m < ops.size := by have := (Array.getElem?_eq_some_iff.1 hm').1; omega
        have hr : m ∈ Region.ready .any ops listed := mem_ready.2 ⟨by rw [Array.getD_eq_getD_getElem?, hm']; rfl, ops[m], Array.getElem?_eq_getElem hmlt, fun e he hb => by
          have hlt := (hsp m _ (Array.getElem?_eq_getElem hmlt)).1 e he hb
          have hes : e.on < listed.size := by omega
          rw [Array.getD_eq_getD_getElem?, Array.getElem?_eq_getElem hes]
          cases hb' : listed[e.on] with
          | true => rfl
          | false =>
            have := hmin e.on (by rw [Array.getElem?_eq_getElem hes, hb'])
            omega⟩
        rw [hnil] at hr
        cases hr
      · obtain ⟨hun, o, ho, hpre⟩ := mem_ready.1 hi
        have hilt : i < ops.size := (Array.getElem?_eq_some_iff.1 ho).1
        have hif : listed[i]? = some false := by
          have hi' : i < listed.size := by omega
          rw [Array.getElem?_eq_getElem hi']
          rw [Array.getD_eq_getD_getElem?, Array.getElem?_eq_getElem hi'] at hun
          simpa using hun
        obtain ⟨o', envi, F, ho', hd, hst', hfi, hGi, hcase⟩ := hall i (Nat.zero_le _) hilt
        rw [ho] at ho'; cases ho'
        have hpre' : ∀ j, depends o j = true → listed[j]? = some true := by
          intro j hj
          obtain ⟨e, he, hb, rfl⟩ := depends_spec hj
          have := hpre e he hb
          rw [Array.getD_eq_getD_getElem?] at this
          cases hx : listed[e.on]? with
          | none => rw [hx] at this; cases this
          | some b => rw [hx] at this; simpa using this
        -- what the slots that it looks at hold
        have look : ∀ t ∈ o.looksAt ops, ∀ y, envi.get t = some y → ∃ v, a'.tmps[t]? = some v ∧ LRep μ' I' w' y v := by
          intro t ht y hy
          rcases hst'.at_ t y hy with ⟨j, oj, hj, hoj, hdj, rfl⟩ | ⟨h0, hno⟩
          · have hp := (hsp i o ho).2 j oj hoj (by omega)
            simp only [pairOk, hdj, Bool.and_eq_true] at hp
            have hp2 := hp.2
            rw [if_pos (by simpa using ht), if_pos (by simpa using hj)] at hp2
            exact hA j oj hoj (hpre' j hp2) t hdj
          · refine hB t y h0 fun j oj hoj hl hdj => ?_
            by_cases hji : j < i
            · exact hno j oj hji hoj hdj
            · have hne : i ≠ j := fun e => by subst e; rw [hif] at hl; cases hl
              have hp := (hsp i o ho).2 j oj hoj hne
              simp only [pairOk, hdj, Bool.and_eq_true] at hp
              have hp2 := hp.2
              rw [if_pos (by simpa using ht), if_neg (by simpa using hji)] at hp2
              obtain ⟨e, he, hb, he'⟩ := depends_spec hp2
              have := hC j oj hoj hl e he hb
              rw [he', hif] at this; cases this
        have hwant : ∀ b, Wanted ops o envi b → Region.wanted o (yielded ops a'.tmps) = b := by
          intro b hb
          rcases hb with ⟨hg, rfl⟩ | ⟨j, t, c, want, hg, hjt, hc', rfl⟩
          · simp [Region.wanted, hg]
          · have htl : t ∈ o.looksAt ops := by simp [Oper.looksAt, hg, hjt]
            obtain ⟨v, hv, hr⟩ := look t htl _ hc'
            cases hr with
            | p hr => cases hr; simp [Region.wanted, hg, yielded, hjt, hv]
        have hpre3 : ∀ e ∈ o.after, Region.binds .any e = true → listed[e.on]? = some true := fun e he hb => hpre' e.on (by
          simp only [depends, List.any_eq_true, Bool.and_eq_true]
          exact ⟨e, by simpa using he, hb, by simp⟩)
        have hclosed : ∀ (i : Nat) (o : Oper), listed[i]? = some true → ops[i]? = some o → ∀ e ∈ o.after, Region.binds .any e = true → listed[e.on]? = some true := fun i o hl ho => hC i o ho hl
        -- writers of what it looks at: those ahead of it are listed, those behind it are not
        have hwr : ∀ id ∈ F, ∀ j, j < ops.size → fpWr (Wr j) = some id → (listed[j]? = some true ↔ j < i) := by
          intro id hid j hj hw
          obtain ⟨oj, _, Fj, hoj, _, _, hfj, _, _⟩ := hall j (Nat.zero_le _) hj
          have hcf : confl ⟨Fj, fpWr (Wr j)⟩ ⟨F, fpWr (Wr i)⟩ = true := by
            simp only [confl, hw, Bool.or_eq_true]
            exact .inl (.inl (by simpa using hid))
          have hcf' : confl ⟨F, fpWr (Wr i)⟩ ⟨Fj, fpWr (Wr j)⟩ = true := by
            simp only [confl, hw, Bool.or_eq_true]
            exact .inr (by simpa using hid)
          constructor
          · intro hl
            rcases Nat.lt_trichotomy j i with h | h | h
            · exact h
            · subst h; rw [hif] at hl; cases hl
            · exfalso
              have hr := (hfps j _ hfj).2 i _ hfi h hcf'
              have := reach_spec (p := fun j => listed[j]? = some true) hclosed 3 j i hr oj hoj (hC j oj hoj hl)
              rw [hif] at this; cases this
          · intro hlt
            have hr := (hfps i _ hfi).2 j _ hfj hlt hcf
            exact reach_spec (p := fun j => listed[j]? = some true) hclosed 3 i j hr o ho hpre3
        have hagree : Agree F (G i) Hc := ⟨by rw [hD.1, hGlen i (by omega)], fun id hid => by
          obtain ⟨m, hm, h1, h2⟩ := hD.2 id
          rw [h1]
          rcases Nat.le_total m i with hmi | hmi
          · exact hGsame id m i hmi (by omega) fun j h3 h4 h5 => by
              have h6 := (hwr id hid j (by omega) h5).2 h4
              have := (h2 j (by omega) h5).1 h6
              omega
          · exact (hGsame id i m hmi hm fun j h3 h4 h5 => by
              have h6 := (h2 j (by omega) h5).2 h4
              have := (hwr id hid j (by omega) h5).1 h6
              omega).symm⟩
        -- what follows
        have follow : ∀ v w'' μ'' I'', St μ'' I'' w'' (wset Hc (Wr i)) → LRep μ'' I'' w'' (X i) v → Ext μ'.length μ' I' w' μ'' I'' w'' →
            wpAny P .any ops Q' f (listed.setIfInBounds i true) (a'.put o.dst v) w'' := by
          intro v w'' μ'' I'' hst2 hv hE2
          have hkl : k ≤ μ'.length := hE.len'
          have hget : ∀ j, (listed.setIfInBounds i true)[j]? = some true ↔ j = i ∨ listed[j]? = some true := by
            intro j
            by_cases e : j = i
            · subst e; simp [show j < listed.size by omega]
            · rw [Array.getElem?_setIfInBounds_ne (fun h => e h.symm)]; simp [e]
          have hputs : ∀ t, o.dst ≠ some t → (a'.put o.dst v).tmps[t]? = a'.tmps[t]? := by
            intro t ht
            cases hdst : o.dst with
            | none => rfl
            | some d => simp only [Act.put]; rw [Array.getElem?_setIfInBounds_ne (by rw [hdst] at ht; simpa using ht)]
          refine ih _ _ _ μ'' I'' _ (by simp [hsz]) (count_set hcnt hif) ?_ ?_ hst2 (hE.trans (hE2.weak hkl)) ⟨by rw [wset_len, hD.1], fun id => ?_⟩ ?_ ?_ ?_
          · cases o.dst <;> simp [Act.put, hsize]
          · cases o.dst <;> simp [Act.put, hdef]
          · by_cases hw : fpWr (Wr i) = some id
            · have hidF : id ∈ F := (hfps i _ hfi).1 id hw
              refine ⟨i + 1, by omega, ?_, fun j hj hwj => ?_⟩
              · rw [hGi]; exact wset_eq hw (by rw [hD.1, hGlen i (by omega)])
              · rw [hget j, hwr id hidF j hj hwj]; omega
            · obtain ⟨m, hm, h1, h2⟩ := hD.2 id
              refine ⟨m, hm, by rw [wset_ne hw, h1], fun j hj hwj => ?_⟩
              have hji : j ≠ i := fun e => by subst e; exact hw hwj
              rw [hget j, ← h2 j hj hwj]
              simp [hji]
          · intro j oj hoj hl t hdj
            rcases (hget j).1 hl with e | hl
            · subst e
              rw [ho] at hoj; cases hoj
              refine ⟨v, ?_, hv⟩
              have := dstOk_spec hd t hdj
              simp [hdj, Act.put, hsize, this]
            · have hne : i ≠ j := fun e => by subst e; rw [hif] at hl; cases hl
              have hp := (hsp i o ho).2 j oj hoj hne
              simp only [pairOk, hdj, Bool.and_eq_true] at hp
              obtain ⟨u, hu, hr⟩ := hA j oj hoj hl t hdj
              exact ⟨u, by rw [hputs t (by simpa using hp.1)]; exact hu, hr.ext hE2⟩
          · intro t y hy hno
            have hnd : o.dst ≠ some t := hno i o ho ((hget i).2 (.inl rfl))
            obtain ⟨u, hu, hr⟩ := hB t y hy fun j oj hoj hl => hno j oj hoj ((hget j).2 (.inr hl))
            exact ⟨u, by rw [hputs t hnd]; exact hu, hr.ext hE2⟩
          · intro j oj hoj hl e he hb
            rcases (hget j).1 hl with e' | hl
            · subst e'
              rw [ho] at hoj; cases hoj
              exact (hget _).2 (.inr (hpre' e.on (by
                simp only [depends, List.any_eq_true, Bool.and_eq_true]
                exact ⟨e, by simpa using he, hb, by simp⟩)))
            · exact (hget _).2 (.inr (hC j oj hoj hl e he hb))
        unfold wpOp
        simp only [ho]
        rcases hcase with ⟨hw', hop⟩ | ⟨hw', hany, hwn, -⟩
        · rw [hwant true hw']
          simp only [if_true]
          refine .inl (hop Hc hagree a' w' μ' I' hst (fun t ht y hy => look t (List.mem_append_left _ (List.mem_filterMap.2 ⟨.tmp t, by simpa using ht, rfl⟩)) y hy) _ _ ?_)
          rintro x H' v w'' μ'' I'' ⟨rfl, rfl⟩ hs2 hv2 hE2
          exact follow v w'' μ'' I'' hs2 hv2 hE2
        · rw [hwant false hw']
          simp only [Bool.false_eq_true, if_false]
          exact follow undef w' μ' I' (by rw [hwn]; exact hst) (by rw [hany]; exact .any) (Ext.refl _ _ _ _ (Nat.le_refl _))
  have hE0 : Ext k μ I w μ I { w with drawn := w.drawn + 1 } :=
    ⟨fun _ B _ h => ⟨B, h, Nat.le_refl _, fun _ => .inl rfl, fun _ _ => rfl⟩, hk, hk, rfl, rfl, rfl, Nat.le_refl _, fun _ h => ⟨h, rfl⟩, fun _ c _ _ h => ⟨c, h, rfl⟩, fun _ h => .inl h, fun _ h => .inl h, fun _ _ _ => rfl⟩
  have hE1 : Ext μ.length μ I w μ I { w with drawn := w.drawn + 1 } :=
    ⟨fun _ B _ h => ⟨B, h, Nat.le_refl _, fun _ => .inl rfl, fun _ _ => rfl⟩, Nat.le_refl _, Nat.le_refl _, rfl, rfl, rfl, Nat.le_refl _, fun _ h => ⟨h, rfl⟩, fun _ c _ _ h => ⟨c, h, rfl⟩, fun _ h => .inl h, fun _ h => .inl h, fun _ _ _ => rfl⟩
  have hst0 : St μ I { w with drawn := w.drawn + 1 } H := ⟨hn.st.len, hn.st.inj, hn.st.lt, hn.st.off, hn.st.ilt, fun i o b ho hb => (hn.st.objs i o b ho hb).ext hE1 fun _ _ => rfl⟩
  refine key ops.size _ a _ μ I H (by simp) (by simp) hn.size hn.defers hst0 hE0 ⟨rfl, fun id => ⟨0, Nat.zero_le _, by rw [hG0'], fun j hj _ => by simp [Array.getElem?_replicate]⟩⟩ ?_ ?_ ?_
  · intro j o ho hl; simp [Array.getElem?_replicate] at hl
  · intro t y hy _
    obtain ⟨v, hv, hr⟩ := hn.env t y hy
    exact ⟨v, hv, hr.ext hE1⟩
  · intro j o ho hl; simp [Array.getElem?_replicate] at hl
end
end Go.Mg
