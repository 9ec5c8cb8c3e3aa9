/- Maps of one's own. Conditions: keys are numbers, or structs and arrays of numbers. -/
import Derived.Test.YtlhocfhoocmfiaaMg12
import Derived.WideKeyRuns
namespace Go.Mg

section
variable {P : Program}

def Instr.checkItems (em : Bool) (D : Nat) (e : TypeId) (c : Nat) (xs : Array Value) : List Nat → Sem Unit
  | [] => pure ()
  | i :: is => do Instr.checkKey em D e (← part e xs (i * c)); Instr.checkItems em D e c xs is

theorem run_checkKey_flat : ∀ {d : Nat} {t : TypeId} {n : Nat}, sTy P d t = some n → ∀ (em : Bool) (D : Nat), d ≤ D → ∀ (w : World) (xs : List Value), xs.length = n →
    (Instr.checkKey em D t (partV P t xs)).run P w = .ok () w := by
  intro d
  induction d with
  | zero => intro t n h; cases h
  | succ d ih =>
    intro t n h em D hD w xs hl
    obtain ⟨D, rfl⟩ : ∃ E, D = E + 1 := ⟨D - 1, by omega⟩
    unfold sTy at h
    unfold partV
    cases hu : P.underlying t with
    | none => simp [hu] at h
    | some q =>
      cases q with
      | int k =>
        rw [Instr.checkKey]
        simp only [Sem.run_bind, run_underlying hu, Result.andThen_ok]
        rfl
      | array len e =>
        simp only [hu] at h
        split at h
        · rename_i m hm
          split at h
          · rename_i hs
            cases h
            have hse := sTy_size hm
            obtain ⟨i, hi⟩ : ∃ i, P.info? e = some i := by
              cases hi : P.info? e with
              | none => simp [hi] at hse
              | some i => exact ⟨i, rfl⟩
            have hc : P.cellsOf e = m := by simp [Program.cellsOf, hse]
            dsimp only
            rw [Instr.checkKey]
            simp only [Sem.run_bind, run_underlying hu, Result.andThen_ok]
            simp only [Std.Legacy.Range.forIn_eq_forIn_range', Std.Legacy.Range.size, Nat.sub_zero, Nat.add_one_sub_one, Nat.div_one]
            have key : ∀ (k s : Nat), s * m + k * m = xs.length → ((forIn (List.range' s k) PUnit.unit fun i (_ : PUnit) => do
                Instr.checkKey em D e (← part e xs.toArray (i * (← sizeOf e)))
                pure (ForInStep.yield PUnit.unit)) : Sem PUnit).run P w = .ok PUnit.unit w := by
              intro k
              induction k with
              | zero => intro s _; simp
              | succ k ihk =>
                intro s hs'
                have hm1 : s * m + m ≤ xs.toArray.size := by simp; rw [← hs', Nat.add_mul]; omega
                have p1 := run_part hm w xs.toArray (s * m) hm1
                have p2 := ih hm em D (by omega) w ((xs.toArray.toList.drop (s * m)).take m) (by simp at hm1 ⊢; omega)
                have hrec := ihk (s + 1) (by rw [Nat.add_mul, Nat.one_mul, ← hs', Nat.add_mul]; omega)
                rw [List.range'_succ]
                simp only [List.forIn_cons, Sem.run_bind, run_sizeOf w hi, hc, Result.andThen_ok, p1, p2, Sem.run_pure]
                simpa [Sem.run_bind] using hrec
            have := key len 0 (by simp; omega)
            simp at this ⊢
            rw [this]
            rfl
          · cases h
        · cases h
      | struct fs =>
        simp only [hu] at h
        split at h
        · cases h
        · split at h
          · rename_i n' hf
            split at h
            · cases h
              dsimp only
              rw [Instr.checkKey]
              simp only [Sem.run_bind, run_underlying hu, Result.andThen_ok]
              rw [← Array.forIn_toList]
              have none_fold : ∀ (fs : List Field), fs.foldl (fun acc f => match acc with
                  | some off => if f.name != "_" && f.offset == off then (match sTy P d f.type with | some m => some (off + m) | none => none) else none
                  | none => none) none = none := by
                intro fs
                induction fs with
                | nil => rfl
                | cons f fs ih => simpa using ih
              have mono : ∀ (fs : List Field) (s n : Nat), fs.foldl (fun acc f => match acc with
                  | some off => if f.name != "_" && f.offset == off then (match sTy P d f.type with | some m => some (off + m) | none => none) else none
                  | none => none) (some s) = some n → s ≤ n := by
                intro fs
                induction fs with
                | nil => intro s n h; simp at h; omega
                | cons f fs ih =>
                  intro s n h
                  rw [List.foldl_cons] at h
                  dsimp only at h
                  split at h
                  · split at h
                    · have := ih _ _ h; omega
                    · rw [none_fold] at h; cases h
                  · rw [none_fold] at h; cases h
              clear hu
              generalize fs.toList = L at hf
              have key : ∀ (L : List Field) (s : Nat), L.foldl (fun acc f => match acc with
                  | some off => if f.name != "_" && f.offset == off then (match sTy P d f.type with | some m => some (off + m) | none => none) else none
                  | none => none) (some s) = some n → ((forIn L PUnit.unit fun f (_ : PUnit) =>
                if f.name ≠ "_" then do
                  Instr.checkKey em D f.type (← part f.type xs.toArray f.offset)
                  pure (ForInStep.yield PUnit.unit)
                else pure (ForInStep.yield PUnit.unit)) : Sem PUnit).run P w = .ok PUnit.unit w := by
                intro L
                induction L with
                | nil => intro s _; simp
                | cons f L ihL =>
                  intro s hf
                  rw [List.foldl_cons] at hf
                  dsimp only at hf
                  split at hf
                  · rename_i hnm
                    simp only [Bool.and_eq_true, bne_iff_ne, ne_eq, beq_iff_eq] at hnm
                    split at hf
                    · rename_i m hm
                      have hle := mono _ _ _ hf
                      have p1 := run_part hm w xs.toArray s (by simp; omega)
                      have p2 := ih hm em D (by omega) w ((xs.toArray.toList.drop s).take m) (by simp; omega)
                      have hrec := ihL _ hf
                      simp only [List.forIn_cons, Sem.run_bind, hnm.1, hnm.2, ne_eq, not_false_eq_true, if_true, Result.andThen_ok, p1, p2, Sem.run_pure]
                      simpa [Sem.run_bind] using hrec
                    · rw [none_fold] at hf; cases hf
                  · rw [none_fold] at hf; cases hf
              have := key L 0 hf
              simp at this ⊢
              rw [this]
              rfl
            · cases h
          · cases h
      | _ => simp [hu] at h

/-- Two keys, compared. -/
def keyEq : PV → PV → Option Bool
  | .int k a, .int k' b => if k = k' then some (a == b) else none
  | .agg ps, .agg qs => eqCells ps qs
  | _, _ => none

/-- A map's type: its key's (a number's, or a struct's or an array's of n numbers) and its element's. -/
def mapTy (P : Program) (t : TypeId) : Option (TypeId × TypeId × Nat × Bool) :=
  match P.underlying t with
  | some (.map k e) =>
    match P.underlying k with
    | some (.int _) => some (k, e, 1, false)
    | some (.array _ _) => match sTy P 9 k with | some n => if eqTy P k n then some (k, e, n, true) else none | none => none
    | some (.struct _) => match sTy P 9 k with | some n => if eqTy P k n then some (k, e, n, true) else none | none => none
    | _ => none
  | _ => none

/-- A key that fits. -/
def keyFits (n : Nat) (ag : Bool) : PV → Bool
  | .int _ _ => !ag
  | .agg ps => ag && (match lenC ps with | some q => Nat.beq q n | none => false)
  | _ => false

theorem mapTy_spec {t k e : TypeId} {n : Nat} {ag : Bool} (h : mapTy P t = some (k, e, n, ag)) :
    P.underlying t = some (.map k e) ∧ ((ag = false ∧ ∃ q, P.underlying k = some (.int q)) ∨
      (ag = true ∧ sTy P 9 k = some n ∧ eqTy P k n = true ∧ (match P.underlying k with | some (.array _ _) | some (.struct _) => true | _ => false) = true)) := by
  unfold mapTy at h
  split at h
  · rename_i k' e' hu
    split at h
    · rename_i q hq; cases h; exact ⟨hu, .inl ⟨rfl, q, hq⟩⟩
    · rename_i a b hq
      split at h
      · rename_i n' hn
        split at h
        · rename_i he; cases h; exact ⟨hu, .inr ⟨rfl, hn, he, by rw [hq]⟩⟩
        · cases h
      · cases h
    · rename_i a hq
      split at h
      · rename_i n' hn
        split at h
        · rename_i he; cases h; exact ⟨hu, .inr ⟨rfl, hn, he, by rw [hq]⟩⟩
        · cases h
      · cases h
    · cases h
  · cases h

theorem run_checkKey_of {t k e : TypeId} {n : Nat} {ag : Bool} (h : mapTy P t = some (k, e, n, ag)) {key : PV} (hk : keyFits n ag key = true) {I : Nat → Prop} {w : World} {v : Value} (hr : Rep I w key v) (em : Bool) (w' : World) :
    (Instr.checkKey em 10000 k v).run P w' = .ok () w' := by
  obtain ⟨-, ⟨rfl, q, hq⟩ | ⟨rfl, hs, he, -⟩⟩ := mapTy_spec h
  · cases hr <;> simp [keyFits] at hk
    rw [show (10000 : Nat) = 9999 + 1 from rfl, Instr.checkKey]
    simp only [Sem.run_bind, run_underlying hq, Result.andThen_ok]
    rfl
  · cases hr with
    | int => simp [keyFits] at hk
    | bool => simp [keyFits] at hk
    | slice => simp [keyFits] at hk
    | @agg cs vs hl ho hr =>
      simp only [keyFits, Bool.true_and] at hk
      split at hk
      · rename_i q hq
        have hq' := lenC_eq hq
        have hqn := Nat.eq_of_beq_eq_true hk
        have := run_checkKey_flat hs em 10000 (by decide) w' vs.toList (by simp; omega)
        have e : partV P k vs.toList = .agg vs := by
          simp only [eqTy, Bool.and_eq_true] at he
          have h2 := he.1.2
          unfold tAgg at h2
          unfold partV
          cases hu : P.underlying k with
          | none => simp [hu] at h2
          | some q => cases q <;> simp [hu] at h2 <;> simp
        rwa [e] at this
      · cases hk

theorem run_equalIn_int9 (d : Nat) {k : TypeId} {z : IntKind} (hz : P.underlying k = some (.int z)) (q : IntKind) (a b : Int) (w : World) : (Op.equalIn (d + 1) k (.int q a) (.int q b)).run P w = .ok (a == b) w := by
  simp [Op.equalIn, run_underlying hz]

theorem sameBits_int (d : Nat) (k : IntKind) (a : Int) : Instr.sameBits d (.int k a) (.int k a) = true := by cases d <;> simp [Instr.sameBits]

theorem keyEq_vals {t k e : TypeId} {n : Nat} {ag : Bool} (h : mapTy P t = some (k, e, n, ag)) {p q : PV} (hk : keyFits n ag p = true) {r : Bool} (hr : keyEq p q = some r) {I : Nat → Prop} {w : World} {u v : Value} (hp : Rep I w p u) (hq : Rep I w q v) (w' : World) :
    (Op.equal k u v).run P w' = .ok r w' ∧ (∀ z, P.underlying k = some (.int z) → Instr.sameNow (.int z) u v = some r) ∧ (r = true → u = v ∧ Instr.sameBits 10000 u u = true) := by
  obtain ⟨-, ⟨rfl, z, hz⟩ | ⟨rfl, hs, he, hw⟩⟩ := mapTy_spec h
  · cases hp <;> simp [keyFits] at hk
    cases hq <;> simp [keyEq] at hr
    obtain ⟨rfl, rfl⟩ := hr
    refine ⟨?_, fun z' hz' => by simp [Instr.sameNow], fun hr => ?_⟩
    · unfold Op.equal
      rw [show Op.maxDepth = 9999 + 1 from rfl]
      exact run_equalIn_int9 9999 hz _ _ _ w'
    · have := eq_of_beq hr
      subst this
      exact ⟨rfl, sameBits_int _ _ _⟩
  · cases hp with
    | int => simp [keyFits] at hk
    | bool => simp [keyFits] at hk
    | slice => simp [keyFits] at hk
    | @agg cs us hl ho hr1 =>
      simp only [keyFits, Bool.true_and] at hk
      split at hk
      · rename_i qn hqn
        have h1 := lenC_eq hqn
        have h2 := Nat.eq_of_beq_eq_true hk
        cases hq with
        | int => simp [keyEq] at hr
        | bool => simp [keyEq] at hr
        | slice => simp [keyEq] at hr
        | @agg ds vs hl' ho' hr2 =>
          simp only [keyEq] at hr
          have hv : eqVals us.toList vs.toList = some r := eqCells_vals hr (by simpa using hl) (by simpa using hl') (fun i c v hc hv => hr1 i c v hc (by simpa using hv)) (fun i c v hc hv => hr2 i c v hc (by simpa using hv))
          refine ⟨run_equal_agg he w' (by omega) hv, fun z hz => by rw [hz] at hw; simp at hw, fun hrt => ?_⟩
          subst hrt
          have same : ∀ (xs ys : List Value), eqVals xs ys = some true → xs = ys ∧ (xs.zip xs).all (fun p => Instr.sameBits 9999 p.1 p.2) = true := by
            intro xs
            induction xs with
            | nil =>
              intro ys h
              cases ys with
              | nil => exact ⟨rfl, by simp⟩
              | cons => simp [eqVals] at h
            | cons x xs ih =>
              intro ys h
              cases ys with
              | nil => simp [eqVals] at h
              | cons y ys =>
                simp only [eqVals] at h
                split at h
                · rename_i a b ha hb
                  simp only [Option.some.injEq, Bool.and_eq_true] at h
                  obtain ⟨rfl, rfl⟩ := h
                  obtain ⟨rfl, h2⟩ := ih ys hb
                  simp only [List.zip_cons_cons, List.all_cons, h2, Bool.and_true]
                  unfold eqv1 at ha
                  split at ha
                  · split at ha
                    · rename_i hk
                      simp only [Option.some.injEq, beq_iff_eq] at ha
                      subst hk; subst ha
                      exact ⟨rfl, sameBits_int _ _ _⟩
                    · cases ha
                  · cases ha
                · cases h
          obtain ⟨s1, s2⟩ := same _ _ hv
          have s1' : us = vs := by rw [← Array.toArray_toList (xs := us), s1]
          subst s1'
          refine ⟨rfl, ?_⟩
          rw [show (10000 : Nat) = 9999 + 1 from rfl]
          simp only [Instr.sameBits, Bool.and_eq_true, beq_iff_eq]
          exact ⟨trivial, s2⟩
      · cases hk

/-- Where a key is. -/
inductive MFind (key : PV) (es : List (PV × LV)) : Option Nat → Prop
  | hit {i : Nat} {e : PV × LV} (hi : es[i]? = some e) (he : keyEq key e.1 = some true) (hlt : ∀ (j : Nat) e, j < i → es[j]? = some e → keyEq key e.1 = some false) : MFind key es (some i)
  | miss (h : ∀ e ∈ es, keyEq key e.1 = some false) : MFind key es none

theorem run_findKey {t k e : TypeId} {n : Nat} {ag : Bool} (h : mapTy P t = some (k, e, n, ag)) {key : PV} (hk : keyFits n ag key = true) {I : Nat → Prop} {w : World} {u : Value} (hu : Rep I w key u) {es : List (PV × LV)} {r : Option Nat} (hf : MFind key es r)
    {ms : List MapEntry} (hl : ms.length = es.length) (hr : ∀ (i : Nat) c m, es[i]? = some c → ms[i]? = some m → Rep I w c.1 m.key) (w' : World) :
    (Instr.findKey k u ms).run P w' = .ok (r.bind fun i => (ms[i]?).map fun m => (i, m.val)) w' := by
  -- by asking, and by looking
  have ask : ∀ (es : List (PV × LV)) (ms : List MapEntry) (s : Nat) (r : Option Nat), MFind key es r → ms.length = es.length → (∀ (i : Nat) c m, es[i]? = some c → ms[i]? = some m → Rep I w c.1 m.key) →
      (Instr.findAsking k u ms s).run P w' = .ok (r.bind fun i => (ms[i]?).map fun m => (s + i, m.val)) w' ∧
      ∀ z, P.underlying k = some (.int z) → Instr.findNow (.int z) u ms s = some (r.bind fun i => (ms[i]?).map fun m => (s + i, m.val)) := by
    intro es
    induction es with
    | nil =>
      intro ms s r hf hl _
      obtain rfl := List.eq_nil_of_length_eq_zero (show ms.length = 0 by simpa using hl)
      cases hf with
      | hit hi => simp at hi
      | miss => simp [Instr.findAsking, Instr.findNow]
    | cons c es ih =>
      intro ms s r hf hl hr
      cases ms with
      | nil => simp at hl
      | cons m ms =>
        have hc := hr 0 c m rfl rfl
        have hr' : ∀ (i : Nat) c m, es[i]? = some c → ms[i]? = some m → Rep I w c.1 m.key := fun i c m h1 h2 => hr (i + 1) c m (by simpa using h1) (by simpa using h2)
        cases hf with
        | @hit i e hi he hlt =>
          cases i with
          | zero =>
            simp at hi; subst hi
            obtain ⟨q1, q2, -⟩ := keyEq_vals h hk he hu hc w'
            refine ⟨by simp [Instr.findAsking, q1], fun z hz => ?_⟩
            simp [Instr.findNow, q2 z hz]
          | succ i =>
            have h0 := hlt 0 c (by omega) rfl
            obtain ⟨q1, q2, -⟩ := keyEq_vals h hk h0 hu hc w'
            obtain ⟨r1, r2⟩ := ih ms (s + 1) (some i) (.hit (by simpa using hi) he fun j e hj hje => hlt (j + 1) e (by omega) (by simpa using hje)) (by simpa using hl) hr'
            refine ⟨?_, fun z hz => ?_⟩
            · simp only [Instr.findAsking, Sem.run_bind, q1, Result.andThen_ok, Bool.false_eq_true, if_false, r1]
              simp [show s + 1 + i = s + (i + 1) by omega]
            · simp only [Instr.findNow, q2 z hz, r2 z hz]
              simp [show s + 1 + i = s + (i + 1) by omega]
        | miss hm =>
          have h0 := hm c (.head _)
          obtain ⟨q1, q2, -⟩ := keyEq_vals h hk h0 hu hc w'
          obtain ⟨r1, r2⟩ := ih ms (s + 1) none (.miss fun e he => hm e (.tail _ he)) (by simpa using hl) hr'
          refine ⟨?_, fun z hz => ?_⟩
          · simp only [Instr.findAsking, Sem.run_bind, q1, Result.andThen_ok, Bool.false_eq_true, if_false, r1]
            simp
          · simp only [Instr.findNow, q2 z hz, r2 z hz]
            simp
  obtain ⟨a1, a2⟩ := ask es ms 0 r hf hl hr
  simp only [Nat.zero_add] at a1 a2
  obtain ⟨-, ⟨rfl, z, hz⟩ | ⟨rfl, hs, he, hw⟩⟩ := mapTy_spec h
  · unfold Instr.findKey
    simp only [Sem.run_bind, run_underlying hz, Result.andThen_ok, a2 z hz, Sem.run_pure]
  · rw [run_findKey_eq w' hw]
    exact a1
end
end Go.Mg
