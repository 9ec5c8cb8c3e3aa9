/- Regions in the order of the text, and in every order that their edges let; functions and calls. Conditions: none. -/
import Derived.Test.YtlhocfhoocmfiaaMg2
namespace Go.Mg
open Go.RowKit (Below)

section
variable {P : Program} {n k : Nat} {env : Env} {H : List LObj} {Q : Exit → Env → List LObj → Prop} {ops : Array Oper}

theorem LW.region {id : Nat} (h : LOps P ops n k (List.range ops.size) env H (fun env H => Q .normal env H)) : LW P n k (.region id ops false) env H Q :=
  fun a w μ I hn hk Q' hq => wp_region (h a w μ I hn hk Q' fun env' H' a' w' μ' I' q => hq .normal env' H' a' w' μ' I' q)

/-! Every order. -/

/-- Is a guarded operation wanted, by what the environment says? -/
def Wanted (ops : Array Oper) (o : Oper) (env : Env) (b : Bool) : Prop :=
  (o.guard = none ∧ b = true) ∨ ∃ j t c want, o.guard = some (j, want) ∧ (ops[j]?).bind (·.dst) = some t ∧ env.get t = some (.p (.bool c)) ∧ b = (c == want)

inductive LOrd (P : Program) (ops : Array Oper) (n : Nat) (H : List LObj) : List Nat → Env → Env → Prop
  | nil {env : Env} : LOrd P ops n H [] env env
  | run {i : Nat} {l : List Nat} {env env' : Env} {o : Oper} {x : LV} (ho : ops[i]? = some o) (hw : Wanted ops o env true) (hd : dstOk n o.dst = true)
      (h : LOp P o env H (Is x H)) (r : LOrd P ops n H l (eput env o.dst x) env') : LOrd P ops n H (i :: l) env env'
  | skip {i : Nat} {l : List Nat} {env env' : Env} {o : Oper} (ho : ops[i]? = some o) (hw : Wanted ops o env false) (hd : dstOk n o.dst = true)
      (r : LOrd P ops n H l (eput env o.dst .any) env') : LOrd P ops n H (i :: l) env env'

/-- The chain, with what is asked of its end. -/
def LO (P : Program) (ops : Array Oper) (n : Nat) (l : List Nat) (env : Env) (H : List LObj) (Q : Env → Prop) : Prop := ∃ env', LOrd P ops n H l env env' ∧ Q env'

theorem LO.nil {Q : Env → Prop} (h : Q env) : LO P ops n [] env H Q := ⟨env, .nil, h⟩
theorem LO.is {i : Nat} {l : List Nat} {o : Oper} {x : LV} {Q : Env → Prop} (ho : ops[i]? = some o) (hg : o.guard = none) (hd : dstOk n o.dst = true)
    (h : LOp P o env H (Is x H)) (hr : LO P ops n l (eput env o.dst x) H Q) : LO P ops n (i :: l) env H Q :=
  let ⟨env', r, q⟩ := hr
  ⟨env', .run ho (.inl ⟨hg, rfl⟩) hd h r, q⟩
theorem LO.guarded {i : Nat} {l : List Nat} {o : Oper} {j t : Nat} {b : Bool} {x : LV} {Q : Env → Prop} (ho : ops[i]? = some o) (hg : o.guard = some (j, b))
    (ht : (ops[j]?).bind (·.dst) = some t) (hb : env.get t = some (.p (.bool b))) (hd : dstOk n o.dst = true)
    (h : LOp P o env H (Is x H)) (hr : LO P ops n l (eput env o.dst x) H Q) : LO P ops n (i :: l) env H Q :=
  let ⟨env', r, q⟩ := hr
  ⟨env', .run ho (.inr ⟨j, t, b, b, hg, ht, hb, by simp⟩) hd h r, q⟩
theorem LO.skipped {i : Nat} {l : List Nat} {o : Oper} {j t : Nat} {b c : Bool} {Q : Env → Prop} (ho : ops[i]? = some o) (hg : o.guard = some (j, b))
    (ht : (ops[j]?).bind (·.dst) = some t) (hb : env.get t = some (.p (.bool c))) (hbc : c = !b) (hd : dstOk n o.dst = true)
    (hr : LO P ops n l (eput env o.dst .any) H Q) : LO P ops n (i :: l) env H Q :=
  let ⟨env', r, q⟩ := hr
  ⟨env', .skip ho (.inr ⟨j, t, c, b, hg, ht, hb, by subst hbc; cases b <;> rfl⟩) hd r, q⟩

def depends (x : Oper) (j : Nat) : Bool := x.after.toList.any fun e => Region.binds .any e && Nat.beq e.on j

/-- Two operations of a region: what one writes and the other looks at is ordered by an edge, as the text has it. -/
def pairOk (ops : Array Oper) (oi : Oper) (i : Nat) (oj : Oper) (j : Nat) : Bool :=
  match oj.dst with
  | some t => (oi.dst != some t) && (if (oi.looksAt ops).contains t then (if Nat.blt j i then depends oi j else depends oj i) else true)
  | none => true

def pairsOk (ops : Array Oper) (oi : Oper) (i : Nat) : List Oper → Nat → Bool
  | [], _ => true
  | oj :: r, j => (if Nat.beq i j then true else pairOk ops oi i oj j) && pairsOk ops oi i r (j + 1)

def ordOkFrom (ops : Array Oper) : List Oper → Nat → Bool
  | [], _ => true
  | oi :: r, i => (oi.after.toList.all fun e => !Region.binds .any e || Nat.blt e.on i) && pairsOk ops oi i ops.toList 0 && ordOkFrom ops r (i + 1)

def ordOk (ops : Array Oper) : Bool := ordOkFrom ops ops.toList 0

theorem pairsOk_spec {oi : Oper} {i : Nat} : ∀ {l : List Oper} {s : Nat}, pairsOk ops oi i l s = true → ∀ (j : Nat) (oj : Oper), l[j]? = some oj → i ≠ s + j → pairOk ops oi i oj (s + j) = true := by
  intro l
  induction l with
  | nil => intro s _ j oj hj; simp at hj
  | cons o r ih =>
    intro s h j oj hj hne
    simp only [pairsOk, Bool.and_eq_true] at h
    cases j with
    | zero =>
      simp at hj; subst hj
      have h1 := h.1
      split at h1
      · rename_i he; exact absurd (Nat.eq_of_beq_eq_true he) (by simpa using hne)
      · exact h1
    | succ j =>
      have := ih h.2 j oj (by simpa using hj) (by omega)
      rw [show s + (j + 1) = s + 1 + j by omega]; exact this

theorem ordOkFrom_spec : ∀ {l : List Oper} {s : Nat}, ordOkFrom ops l s = true → ∀ (i : Nat) (oi : Oper), l[i]? = some oi →
    (∀ e ∈ oi.after, Region.binds .any e = true → e.on < s + i) ∧ ∀ (j : Nat) (oj : Oper), ops[j]? = some oj → s + i ≠ j → pairOk ops oi (s + i) oj j = true := by
  intro l
  induction l with
  | nil => intro s _ i oi hi; simp at hi
  | cons o r ih =>
    intro s h i oi hi
    simp only [ordOkFrom, Bool.and_eq_true, List.all_eq_true] at h
    cases i with
    | zero =>
      simp at hi; subst hi
      refine ⟨fun e he hb => ?_, fun j oj hj hne => ?_⟩
      · have := h.1.1 e (by simpa using he)
        simpa [hb] using this
      · have := pairsOk_spec h.1.2 j oj (by simpa using hj) (by simpa using hne)
        simpa using this
    | succ i =>
      have := ih h.2 i oi (by simpa using hi)
      rw [show s + (i + 1) = s + 1 + i by omega]; exact this

theorem depends_spec {x : Oper} {j : Nat} (h : depends x j = true) : ∃ e ∈ x.after, Region.binds .any e = true ∧ e.on = j := by
  simp only [depends, List.any_eq_true, Bool.and_eq_true] at h
  obtain ⟨e, he, h1, h2⟩ := h
  exact ⟨e, by simpa using he, h1, Nat.eq_of_beq_eq_true h2⟩

/-- What a chain says of each operation. -/
structure Step (P : Program) (ops : Array Oper) (n : Nat) (H : List LObj) (env0 : Env) (X : Nat → LV) (i : Nat) (env : Env) : Prop where
  at_ : ∀ t y, env.get t = some y → (∃ j o, j < i ∧ ops[j]? = some o ∧ o.dst = some t ∧ X j = y) ∨ (env0.get t = some y ∧ ∀ j o, j < i → ops[j]? = some o → o.dst ≠ some t)

theorem LOrd.steps {X0 : Nat → LV} {env0 : Env} : ∀ {l : List Nat} {s : Nat} {env env' : Env}, LOrd P ops n H l env env' → l = (List.range' s l.length) →
    Step P ops n H env0 X0 s env →
    ∃ X : Nat → LV, (∀ j, j < s → X j = X0 j) ∧ Step P ops n H env0 X (s + l.length) env' ∧
      ∀ i, s ≤ i → i < s + l.length → ∃ o envi, ops[i]? = some o ∧ dstOk n o.dst = true ∧ Step P ops n H env0 X i envi ∧
        ((Wanted ops o envi true ∧ LOp P o envi H (Is (X i) H)) ∨ (Wanted ops o envi false ∧ X i = .any)) := by
  intro l
  induction l generalizing X0 with
  | nil =>
    intro s env env' h _ hs
    cases h
    exact ⟨X0, fun _ _ => rfl, by simpa using hs, fun i h1 h2 => by simp at h2; omega⟩
  | cons i l ih =>
    intro s env env' h hl hs
    rw [List.length_cons, List.range'_succ, List.cons.injEq] at hl
    obtain ⟨rfl, hl⟩ := hl
    have go : ∀ (o : Oper) (x : LV), ops[i]? = some o → dstOk n o.dst = true → LOrd P ops n H l (eput env o.dst x) env' →
        ((Wanted ops o env true ∧ LOp P o env H (Is x H)) ∨ (Wanted ops o env false ∧ x = .any)) →
        ∃ X : Nat → LV, (∀ j, j < i → X j = X0 j) ∧ Step P ops n H env0 X (i + (i :: l).length) env' ∧
          ∀ j, i ≤ j → j < i + (i :: l).length → ∃ o envi, ops[j]? = some o ∧ dstOk n o.dst = true ∧ Step P ops n H env0 X j envi ∧
            ((Wanted ops o envi true ∧ LOp P o envi H (Is (X j) H)) ∨ (Wanted ops o envi false ∧ X j = .any)) := by
      intro o x ho hd r hx
      let X1 : Nat → LV := fun j => if j = i then x else X0 j
      have h1 : ∀ j, j < i → X1 j = X0 j := fun j hj => by simp [X1]; omega
      have hs1 : Step P ops n H env0 X1 (i + 1) (eput env o.dst x) := ⟨fun t y ht => by
        have old : env.get t = some y → o.dst ≠ some t → (∃ j o, j < i + 1 ∧ ops[j]? = some o ∧ o.dst = some t ∧ X1 j = y) ∨ (env0.get t = some y ∧ ∀ j o, j < i + 1 → ops[j]? = some o → o.dst ≠ some t) := by
          intro ht hne
          rcases hs.at_ t y ht with ⟨j, o', hj, ho', hd', hX⟩ | ⟨h0, hno⟩
          · exact .inl ⟨j, o', by omega, ho', hd', by rw [h1 j hj]; exact hX⟩
          · refine .inr ⟨h0, fun j o' hj ho' => ?_⟩
            by_cases e : j = i
            · subst e; rw [ho] at ho'; cases ho'; exact hne
            · exact hno j o' (by omega) ho'
        cases hdst : o.dst with
        | none => rw [hdst] at ht; exact old ht (by simp [hdst])
        | some d =>
          rw [hdst] at ht
          simp only [eput, Env.get_cons] at ht
          split at ht
          · rename_i e; subst e; cases ht
            exact .inl ⟨i, o, by omega, ho, hdst, by simp [X1]⟩
          · rename_i e; exact old ht (by rw [hdst]; simpa using e)⟩
      obtain ⟨X, hX, hfin, hall⟩ := ih (X0 := X1) (s := i + 1) r hl hs1
      refine ⟨X, fun j hj => by rw [hX j (by omega), h1 j hj], by rw [List.length_cons, show i + (l.length + 1) = i + 1 + l.length by omega]; exact hfin, fun j hij hj => ?_⟩
      by_cases e : j = i
      · subst e
        have hXi : X j = x := by rw [hX j (by omega)]; simp [X1]
        refine ⟨o, env, ho, hd, ⟨fun t y ht => ?_⟩, by rw [hXi]; exact hx⟩
        rcases hs.at_ t y ht with ⟨j', o', hj', ho', hd', hX'⟩ | hh
        · exact .inl ⟨j', o', hj', ho', hd', by rw [hX j' (by omega), h1 j' hj']; exact hX'⟩
        · exact .inr hh
      · exact hall j (by omega) (by rw [List.length_cons] at hj; omega)
    cases h with
    | run ho hw hd h r => exact go _ _ ho hd r (.inl ⟨hw, h⟩)
    | skip ho hw hd r => exact go _ _ ho hd r (.inr ⟨hw, rfl⟩)

theorem count_set {l : Array Bool} {i : Nat} {f : Nat} (h : l.toList.count false = f + 1) (hi : l[i]? = some false) : (l.setIfInBounds i true).toList.count false = f := by
  rw [Array.toList_setIfInBounds]
  have hlt : i < l.toList.length := by
    have := (Array.getElem?_eq_some_iff.1 hi).1; simpa using this
  have hget : l.toList[i] = false := by
    have := (Array.getElem?_eq_some_iff.1 hi).2; simpa using this
  have := List.count_set (l := l.toList) (i := i) (a := true) (b := false) hlt
  rw [this]
  simp [hget, h]

/-- THE REGION IN EVERY ORDER: operations of which each, in the text's order, comes to one logical value and leaves all objects alone. -/
theorem LW.draw {id : Nat} (hm : P.follows .mixedOrders = true) (hok : ordOk ops = true) (h : LO P ops n (List.range ops.size) env H (fun env => Q .normal env H)) :
    LW P n k (.region id ops true) env H Q := by
  obtain ⟨env', hc, hq0⟩ := h
  intro a w μ I hn hk Q' hq
  have hrange : List.range ops.size = List.range' 0 (List.range ops.size).length := by rw [List.length_range, List.range_eq_range']
  obtain ⟨X, -, hfin, hall⟩ := hc.steps (X0 := fun _ => .any) (env0 := env) hrange ⟨fun t y ht => .inr ⟨ht, fun j o hj => absurd hj (by omega)⟩⟩
  simp only [List.length_range, Nat.zero_add] at hfin hall
  have hsp := fun i oi (hi : ops[i]? = some oi) => ordOkFrom_spec (s := 0) hok i oi (by simpa using hi)
  simp only [Nat.zero_add] at hsp
  refine wp_region_any hm ?_
  have key : ∀ (f : Nat) (listed : Array Bool) (a' : Act) (w' : World) (μ' : List Blk) (I' : Nat → Prop), listed.size = ops.size → listed.toList.count false = f →
      a'.tmps.size = n → a'.defers = [] → St μ' I' w' H → Ext k μ I w μ' I' w' →
      (∀ (j : Nat) (o : Oper), ops[j]? = some o → listed[j]? = some true → ∀ t, o.dst = some t → ∃ v, a'.tmps[t]? = some v ∧ LRep μ' I' w' (X j) v) →
      (∀ t y, env.get t = some y → (∀ (j : Nat) (o : Oper), ops[j]? = some o → listed[j]? = some true → o.dst ≠ some t) → ∃ v, a'.tmps[t]? = some v ∧ LRep μ' I' w' y v) →
      (∀ (j : Nat) (o : Oper), ops[j]? = some o → listed[j]? = some true → ∀ e ∈ o.after, Region.binds .any e = true → listed[e.on]? = some true) →
      wpAny P .any ops Q' f listed a' w' := by
    intro f
    induction f with
    | zero =>
      intro listed a' w' μ' I' hsz hcnt hsize hdef hst hE hA hB hC
      have hallL : ∀ j, j < ops.size → listed[j]? = some true := by
        intro j hj
        have hj' : j < listed.size := by omega
        rw [Array.getElem?_eq_getElem hj']
        cases hb : listed[j] with
        | true => rfl
        | false =>
          have hmem : false ∈ listed.toList := by rw [← hb]; simp
          have := List.count_pos_iff.2 hmem
          omega
      have hready : Region.ready .any ops listed = [] := by
        cases hr : Region.ready .any ops listed with
        | nil => rfl
        | cons i r =>
          exfalso
          have hi : i ∈ Region.ready .any ops listed := by rw [hr]; exact .head _
          obtain ⟨h1, o, h2, _⟩ := mem_ready.1 hi
          have hlt := (Array.getElem?_eq_some_iff.1 h2).1
          have := hallL i hlt
          rw [Array.getD_eq_getD_getElem?, this] at h1
          cases h1
      refine ⟨hready, hq .normal env' H a' w' μ' I' hq0 ⟨hsize, hdef, hst, fun t y ht => ?_⟩ hE⟩
      rcases hfin.at_ t y ht with ⟨j, o, hj, ho, hd, rfl⟩ | ⟨h0, hno⟩
      · exact hA j o ho (hallL j hj) t hd
      · exact hB t y h0 fun j o ho _ => hno j o (Array.getElem?_eq_some_iff.1 ho).1 ho
    | succ f ih =>
      intro listed a' w' μ' I' hsz hcnt hsize hdef hst hE hA hB hC
      refine ⟨fun hnil => ?_, fun i hi => ?_⟩
      · -- some operation is left, the first of them is ready
        exfalso
        have hmem : false ∈ listed.toList := List.count_pos_iff.1 (by omega)
        obtain ⟨j, hj, hjf⟩ := List.mem_iff_getElem.1 hmem
        obtain ⟨m, hm', hmin⟩ := least (p := fun j => listed[j]? = some false) ⟨j, by
          rw [Array.getElem?_eq_getElem (by simpa using hj)]; simpa using hjf⟩
        have hmlt : m < ops.size := by have := (Array.getElem?_eq_some_iff.1 hm').1; omega
        have hr : m ∈ Region.ready .any ops listed := mem_ready.2 ⟨by rw [Array.getD_eq_getD_getElem?, hm']; rfl, ops[m], Array.getElem?_eq_getElem hmlt, fun e he hb => by
          have hlt := (hsp m _ (Array.getElem?_eq_getElem hmlt)).1 e he hb
          have hes : e.on < listed.size := by omega
          rw [Array.getD_eq_getD_getElem?, Array.getElem?_eq_getElem hes]
          cases hb' : listed[e.on] with
          | true => rfl
          | false =>
            have := hmin e.on (by rw [Array.getElem?_eq_getElem hes, hb'])
            omega⟩
        rw [hnil] at hr
        cases hr
      · obtain ⟨hun, o, ho, hpre⟩ := mem_ready.1 hi
        have hilt : i < ops.size := (Array.getElem?_eq_some_iff.1 ho).1
        have hif : listed[i]? = some false := by
          have hi' : i < listed.size := by omega
          rw [Array.getElem?_eq_getElem hi']
          rw [Array.getD_eq_getD_getElem?, Array.getElem?_eq_getElem hi'] at hun
          simpa using hun
        obtain ⟨o', envi, ho', hd, hst', hcase⟩ := hall i (Nat.zero_le _) hilt
        rw [ho] at ho'; cases ho'
        have hpre' : ∀ j, depends o j = true → listed[j]? = some true := by
          intro j hj
          obtain ⟨e, he, hb, rfl⟩ := depends_spec hj
          have := hpre e he hb
          rw [Array.getD_eq_getD_getElem?] at this
          cases hx : listed[e.on]? with
          | none => rw [hx] at this; cases this
          | some b => rw [hx] at this; simpa using this
        -- what the slots that it looks at hold
        have look : ∀ t ∈ o.looksAt ops, ∀ y, envi.get t = some y → ∃ v, a'.tmps[t]? = some v ∧ LRep μ' I' w' y v := by
          intro t ht y hy
          rcases hst'.at_ t y hy with ⟨j, oj, hj, hoj, hdj, rfl⟩ | ⟨h0, hno⟩
          · have hp := (hsp i o ho).2 j oj hoj (by omega)
            simp only [pairOk, hdj, Bool.and_eq_true] at hp
            have hp2 := hp.2
            rw [if_pos (by simpa using ht), if_pos (by simpa using hj)] at hp2
            exact hA j oj hoj (hpre' j hp2) t hdj
          · refine hB t y h0 fun j oj hoj hl hdj => ?_
            by_cases hji : j < i
            · exact hno j oj hji hoj hdj
            · have hne : i ≠ j := fun e => by subst e; rw [hif] at hl; cases hl
              have hp := (hsp i o ho).2 j oj hoj hne
              simp only [pairOk, hdj, Bool.and_eq_true] at hp
              have hp2 := hp.2
              rw [if_pos (by simpa using ht), if_neg (by simpa using hji)] at hp2
              obtain ⟨e, he, hb, he'⟩ := depends_spec hp2
              have := hC j oj hoj hl e he hb
              rw [he', hif] at this; cases this
        have hwant : ∀ b, Wanted ops o envi b → Region.wanted o (yielded ops a'.tmps) = b := by
          intro b hb
          rcases hb with ⟨hg, rfl⟩ | ⟨j, t, c, want, hg, hjt, hc', rfl⟩
          · simp [Region.wanted, hg]
          · have htl : t ∈ o.looksAt ops := by simp [Oper.looksAt, hg, hjt]
            obtain ⟨v, hv, hr⟩ := look t htl _ hc'
            cases hr with
            | p hr => cases hr; simp [Region.wanted, hg, yielded, hjt, hv]
        -- what follows
        have follow : ∀ v w'' μ'' I'', St μ'' I'' w'' H → LRep μ'' I'' w'' (X i) v → Ext μ'.length μ' I' w' μ'' I'' w'' →
            wpAny P .any ops Q' f (listed.setIfInBounds i true) (a'.put o.dst v) w'' := by
          intro v w'' μ'' I'' hst2 hv hE2
          have hkl : k ≤ μ'.length := hE.len'
          have hget : ∀ j, (listed.setIfInBounds i true)[j]? = some true ↔ j = i ∨ listed[j]? = some true := by
            intro j
            by_cases e : j = i
            · subst e; simp [show j < listed.size by omega]
            · rw [Array.getElem?_setIfInBounds_ne (fun h => e h.symm)]; simp [e]
          have hputs : ∀ t, o.dst ≠ some t → (a'.put o.dst v).tmps[t]? = a'.tmps[t]? := by
            intro t ht
            cases hdst : o.dst with
            | none => rfl
            | some d => simp only [Act.put]; rw [Array.getElem?_setIfInBounds_ne (by rw [hdst] at ht; simpa using ht)]
          refine ih _ _ _ μ'' I'' (by simp [hsz]) (count_set hcnt hif) ?_ ?_ hst2 (hE.trans (hE2.weak hkl)) ?_ ?_ ?_
          · cases o.dst <;> simp [Act.put, hsize]
          · cases o.dst <;> simp [Act.put, hdef]
          · intro j oj hoj hl t hdj
            rcases (hget j).1 hl with e | hl
            · subst e
              rw [ho] at hoj; cases hoj
              refine ⟨v, ?_, hv⟩
              have := dstOk_spec hd t hdj
              simp [hdj, Act.put, hsize, this]
            · have hne : i ≠ j := fun e => by subst e; rw [hif] at hl; cases hl
              have hp := (hsp i o ho).2 j oj hoj hne
              simp only [pairOk, hdj, Bool.and_eq_true] at hp
              obtain ⟨u, hu, hr⟩ := hA j oj hoj hl t hdj
              exact ⟨u, by rw [hputs t (by simpa using hp.1)]; exact hu, hr.ext hE2⟩
          · intro t y hy hno
            have hnd : o.dst ≠ some t := hno i o ho ((hget i).2 (.inl rfl))
            obtain ⟨u, hu, hr⟩ := hB t y hy fun j oj hoj hl => hno j oj hoj ((hget j).2 (.inr hl))
            exact ⟨u, by rw [hputs t hnd]; exact hu, hr.ext hE2⟩
          · intro j oj hoj hl e he hb
            rcases (hget j).1 hl with e' | hl
            · subst e'
              rw [ho] at hoj; cases hoj
              exact (hget _).2 (.inr (hpre' e.on (by
                simp only [depends, List.any_eq_true, Bool.and_eq_true]
                exact ⟨e, by simpa using he, hb, by simp⟩)))
            · exact (hget _).2 (.inr (hC j oj hoj hl e he hb))
        unfold wpOp
        simp only [ho]
        rcases hcase with ⟨hw', hop⟩ | ⟨hw', hany⟩
        · rw [hwant true hw']
          simp only [if_true]
          refine .inl (hop a' w' μ' I' hst (fun t ht y hy => look t (List.mem_append_left _ (List.mem_filterMap.2 ⟨.tmp t, by simpa using ht, rfl⟩)) y hy) _ _ ?_)
          rintro x H' v w'' μ'' I'' ⟨rfl, rfl⟩ hs2 hv2 hE2
          exact follow v w'' μ'' I'' hs2 hv2 hE2
        · rw [hwant false hw']
          simp only [Bool.false_eq_true, if_false]
          exact follow undef w' μ' I' hst (by rw [hany]; exact .any) (Ext.refl _ _ _ _ (Nat.le_refl _))
  have hE0 : Ext k μ I w μ I { w with drawn := w.drawn + 1 } :=
    ⟨fun _ B _ h => ⟨B, h, Nat.le_refl _, fun _ => .inl rfl, fun _ _ => rfl⟩, hk, hk, rfl, rfl, rfl, Nat.le_refl _, fun _ h => ⟨h, rfl⟩, fun _ c _ _ h => ⟨c, h, rfl⟩, fun _ h => .inl h, fun _ h => .inl h, fun _ _ _ => rfl⟩
  have hE1 : Ext μ.length μ I w μ I { w with drawn := w.drawn + 1 } :=
    ⟨fun _ B _ h => ⟨B, h, Nat.le_refl _, fun _ => .inl rfl, fun _ _ => rfl⟩, Nat.le_refl _, Nat.le_refl _, rfl, rfl, rfl, Nat.le_refl _, fun _ h => ⟨h, rfl⟩, fun _ c _ _ h => ⟨c, h, rfl⟩, fun _ h => .inl h, fun _ h => .inl h, fun _ _ _ => rfl⟩
  have hst0 : St μ I { w with drawn := w.drawn + 1 } H := ⟨hn.st.len, hn.st.inj, hn.st.lt, hn.st.off, hn.st.ilt, fun i o b ho hb => (hn.st.objs i o b ho hb).ext hE1 fun _ _ => rfl⟩
  refine key ops.size _ a _ μ I (by simp) (by simp) hn.size hn.defers hst0 hE0 ?_ ?_ ?_
  · intro j o ho hl; simp [Array.getElem?_replicate] at hl
  · intro t y hy _
    obtain ⟨v, hv, hr⟩ := hn.env t y hy
    exact ⟨v, hv, hr.ext hE1⟩
  · intro j o ho hl; simp [Array.getElem?_replicate] at hl
/-- The last operation hangs on all others. -/
def lastOk (ops : Array Oper) (m : Nat) : Bool :=
  Nat.beq ops.size (m + 1) && (match ops[m]? with | some o => (List.range m).all fun j => depends o j | none => false)

/-- The same, with one operation behind all others, that may write. -/
theorem LW.drawLast {id m : Nat} (hm : P.follows .mixedOrders = true) (hok : ordOk ops = true) (hlast : lastOk ops m = true)
    (h : LO P ops n (List.range m) env H (fun env => LOps P ops n k [m] env H fun env H => Q .normal env H)) :
    LW P n k (.region id ops true) env H Q := by
  obtain ⟨env', hc, hq0⟩ := h
  intro a w μ I hn hk Q' hq
  simp only [lastOk, Bool.and_eq_true] at hlast
  have hsize : ops.size = m + 1 := Nat.eq_of_beq_eq_true hlast.1
  obtain ⟨om, hom⟩ : ∃ om, ops[m]? = some om := ⟨_, Array.getElem?_eq_getElem (by omega)⟩
  have hdep : ∀ j, j < m → depends om j = true := by
    have := hlast.2
    rw [hom] at this
    intro j hj
    exact List.all_eq_true.1 this j (by simpa using hj)
  have hrange : List.range m = List.range' 0 (List.range m).length := by rw [List.length_range, List.range_eq_range']
  obtain ⟨X, -, hfin, hall⟩ := hc.steps (X0 := fun _ => .any) (env0 := env) hrange ⟨fun t y ht => .inr ⟨ht, fun j o hj => absurd hj (by omega)⟩⟩
  simp only [List.length_range, Nat.zero_add] at hfin hall
  have hsp := fun i oi (hi : ops[i]? = some oi) => ordOkFrom_spec (s := 0) hok i oi (by simpa using hi)
  simp only [Nat.zero_add] at hsp
  refine wp_region_any hm ?_
  have key : ∀ (f : Nat) (listed : Array Bool) (a' : Act) (w' : World) (μ' : List Blk) (I' : Nat → Prop), listed.size = ops.size → listed.toList.count false = f →
      a'.tmps.size = n → a'.defers = [] → St μ' I' w' H → Ext k μ I w μ' I' w' →
      (∀ (j : Nat) (o : Oper), ops[j]? = some o → listed[j]? = some true → ∀ t, o.dst = some t → ∃ v, a'.tmps[t]? = some v ∧ LRep μ' I' w' (X j) v) →
      (∀ t y, env.get t = some y → (∀ (j : Nat) (o : Oper), ops[j]? = some o → listed[j]? = some true → o.dst ≠ some t) → ∃ v, a'.tmps[t]? = some v ∧ LRep μ' I' w' y v) →
      (∀ (j : Nat) (o : Oper), ops[j]? = some o → listed[j]? = some true → ∀ e ∈ o.after, Region.binds .any e = true → listed[e.on]? = some true) →
      listed[m]? = some false → wpAny P .any ops Q' f listed a' w' := by
    intro f
    induction f with
    | zero =>
      intro listed a' w' μ' I' hsz hcnt hsize' hdef hst hE hA hB hC hmf
      exfalso
      have hml : m < listed.size := (Array.getElem?_eq_some_iff.1 hmf).1
      have hmem : false ∈ listed.toList := by
        have := (Array.getElem?_eq_some_iff.1 hmf).2
        rw [← this]; simp
      have := List.count_pos_iff.2 hmem
      omega
    | succ f ih =>
      intro listed a' w' μ' I' hsz hcnt hsize' hdef hst hE hA hB hC hmf
      refine ⟨fun hnil => ?_, fun i hi => ?_⟩
      · -- some operation is left, the first of them is ready
        exfalso
        have hmem : false ∈ listed.toList := List.count_pos_iff.1 (by omega)
        obtain ⟨j, hj, hjf⟩ := List.mem_iff_getElem.1 hmem
        obtain ⟨m, hm', hmin⟩ := least (p := fun j => listed[j]? = some false) ⟨j, by
          rw [Array.getElem?_eq_getElem (by simpa using hj)]; simpa using hjf⟩
        have hmlt : m < ops.size := by have := (Array.getElem?_eq_some_iff.1 hm').1; omega
        have hr : m ∈ Region.ready .any ops listed := mem_ready.2 ⟨by rw [Array.getD_eq_getD_getElem?, hm']; rfl, ops[m], Array.getElem?_eq_getElem hmlt, fun e he hb => by
          have hlt := (hsp m _ (Array.getElem?_eq_getElem hmlt)).1 e he hb
          have hes : e.on < listed.size := by omega
          rw [Array.getD_eq_getD_getElem?, Array.getElem?_eq_getElem hes]
          cases hb' : listed[e.on] with
          | true => rfl
          | false =>
            have := hmin e.on (by rw [Array.getElem?_eq_getElem hes, hb'])
            omega⟩
        rw [hnil] at hr
        cases hr
      · obtain ⟨hun, o, ho, hpre⟩ := mem_ready.1 hi
        have hilt : i < ops.size := (Array.getElem?_eq_some_iff.1 ho).1
        have hif : listed[i]? = some false := by
          have hi' : i < listed.size := by omega
          rw [Array.getElem?_eq_getElem hi']
          rw [Array.getD_eq_getD_getElem?, Array.getElem?_eq_getElem hi'] at hun
          simpa using hun
        by_cases him : i = m
        · subst him
          rw [hom] at ho
          cases ho
          have hpre2 : ∀ j, j < i → listed[j]? = some true := by
            intro j hj
            obtain ⟨e, he, hb, rfl⟩ := depends_spec (hdep j hj)
            have := hpre e he hb
            rw [Array.getD_eq_getD_getElem?] at this
            cases hx : listed[e.on]? with
            | none => rw [hx] at this; cases this
            | some b => rw [hx] at this; simpa using this
          have hnow : Now n μ' I' w' H env' a' := ⟨hsize', hdef, hst, fun t y ht => by
            rcases hfin.at_ t y ht with ⟨j, oj, hj, hoj, hdj, rfl⟩ | ⟨h0, hno⟩
            · exact hA j oj hoj (hpre2 j hj) t hdj
            · refine hB t y h0 fun j oj hoj hl => hno j oj ?_ hoj
              have := (Array.getElem?_eq_some_iff.1 hoj).1
              by_cases e : j = i
              · subst e; rw [hmf] at hl; cases hl
              · omega⟩
          have hwp := hq0 a' w' μ' I' hnow hE.len' Q' fun env'' H'' a'' w'' μ'' I'' q hn'' hE' => hq .normal env'' H'' a'' w'' μ'' I'' q hn'' (hE.trans hE')
          rw [wpOps_cons] at hwp
          refine wpOp_mono (fun a'' w'' hh => ?_) hwp
          have hallL : ∀ j, j < ops.size → (listed.setIfInBounds i true)[j]? = some true := by
            intro j hj
            by_cases e : j = i
            · subst e; simp [show j < listed.size by omega]
            · rw [Array.getElem?_setIfInBounds_ne (fun h => e h.symm)]
              exact hpre2 j (by omega)
          have hready : Region.ready .any ops (listed.setIfInBounds i true) = [] := by
            cases hr : Region.ready .any ops (listed.setIfInBounds i true) with
            | nil => rfl
            | cons q r =>
              exfalso
              have hq' : q ∈ Region.ready .any ops (listed.setIfInBounds i true) := by rw [hr]; exact .head _
              obtain ⟨h1, o, h2, _⟩ := mem_ready.1 hq'
              have := hallL q (Array.getElem?_eq_some_iff.1 h2).1
              rw [Array.getD_eq_getD_getElem?, this] at h1
              cases h1
          have hf0 : f = 0 ∨ 0 < f := Nat.eq_zero_or_pos f
          rcases hf0 with rfl | hf
          · exact ⟨hready, hh⟩
          · obtain ⟨f, rfl⟩ : ∃ g, f = g + 1 := ⟨f - 1, by omega⟩
            exact ⟨fun _ => hh, fun q hq' => by rw [hready] at hq'; cases hq'⟩
        have hilm : i < m := by omega
        obtain ⟨o', envi, ho', hd, hst', hcase⟩ := hall i (Nat.zero_le _) hilm
        rw [ho] at ho'; cases ho'
        have hpre' : ∀ j, depends o j = true → listed[j]? = some true := by
          intro j hj
          obtain ⟨e, he, hb, rfl⟩ := depends_spec hj
          have := hpre e he hb
          rw [Array.getD_eq_getD_getElem?] at this
          cases hx : listed[e.on]? with
          | none => rw [hx] at this; cases this
          | some b => rw [hx] at this; simpa using this
        -- what the slots that it looks at hold
        have look : ∀ t ∈ o.looksAt ops, ∀ y, envi.get t = some y → ∃ v, a'.tmps[t]? = some v ∧ LRep μ' I' w' y v := by
          intro t ht y hy
          rcases hst'.at_ t y hy with ⟨j, oj, hj, hoj, hdj, rfl⟩ | ⟨h0, hno⟩
          · have hp := (hsp i o ho).2 j oj hoj (by omega)
            simp only [pairOk, hdj, Bool.and_eq_true] at hp
            have hp2 := hp.2
            rw [if_pos (by simpa using ht), if_pos (by simpa using hj)] at hp2
            exact hA j oj hoj (hpre' j hp2) t hdj
          · refine hB t y h0 fun j oj hoj hl hdj => ?_
            by_cases hji : j < i
            · exact hno j oj hji hoj hdj
            · have hne : i ≠ j := fun e => by subst e; rw [hif] at hl; cases hl
              have hp := (hsp i o ho).2 j oj hoj hne
              simp only [pairOk, hdj, Bool.and_eq_true] at hp
              have hp2 := hp.2
              rw [if_pos (by simpa using ht), if_neg (by simpa using hji)] at hp2
              obtain ⟨e, he, hb, he'⟩ := depends_spec hp2
              have := hC j oj hoj hl e he hb
              rw [he', hif] at this; cases this
        have hwant : ∀ b, Wanted ops o envi b → Region.wanted o (yielded ops a'.tmps) = b := by
          intro b hb
          rcases hb with ⟨hg, rfl⟩ | ⟨j, t, c, want, hg, hjt, hc', rfl⟩
          · simp [Region.wanted, hg]
          · have htl : t ∈ o.looksAt ops := by simp [Oper.looksAt, hg, hjt]
            obtain ⟨v, hv, hr⟩ := look t htl _ hc'
            cases hr with
            | p hr => cases hr; simp [Region.wanted, hg, yielded, hjt, hv]
        -- what follows
        have follow : ∀ v w'' μ'' I'', St μ'' I'' w'' H → LRep μ'' I'' w'' (X i) v → Ext μ'.length μ' I' w' μ'' I'' w'' →
            wpAny P .any ops Q' f (listed.setIfInBounds i true) (a'.put o.dst v) w'' := by
          intro v w'' μ'' I'' hst2 hv hE2
          have hkl : k ≤ μ'.length := hE.len'
          have hget : ∀ j, (listed.setIfInBounds i true)[j]? = some true ↔ j = i ∨ listed[j]? = some true := by
            intro j
            by_cases e : j = i
            · subst e; simp [show j < listed.size by omega]
            · rw [Array.getElem?_setIfInBounds_ne (fun h => e h.symm)]; simp [e]
          have hputs : ∀ t, o.dst ≠ some t → (a'.put o.dst v).tmps[t]? = a'.tmps[t]? := by
            intro t ht
            cases hdst : o.dst with
            | none => rfl
            | some d => simp only [Act.put]; rw [Array.getElem?_setIfInBounds_ne (by rw [hdst] at ht; simpa using ht)]
          refine ih _ _ _ μ'' I'' (by simp [hsz]) (count_set hcnt hif) ?_ ?_ hst2 (hE.trans (hE2.weak hkl)) ?_ ?_ ?_ ?_
          · cases o.dst <;> simp [Act.put, hsize']
          · cases o.dst <;> simp [Act.put, hdef]
          · intro j oj hoj hl t hdj
            rcases (hget j).1 hl with e | hl
            · subst e
              rw [ho] at hoj; cases hoj
              refine ⟨v, ?_, hv⟩
              have := dstOk_spec hd t hdj
              simp [hdj, Act.put, hsize', this]
            · have hne : i ≠ j := fun e => by subst e; rw [hif] at hl; cases hl
              have hp := (hsp i o ho).2 j oj hoj hne
              simp only [pairOk, hdj, Bool.and_eq_true] at hp
              obtain ⟨u, hu, hr⟩ := hA j oj hoj hl t hdj
              exact ⟨u, by rw [hputs t (by simpa using hp.1)]; exact hu, hr.ext hE2⟩
          · intro t y hy hno
            have hnd : o.dst ≠ some t := hno i o ho ((hget i).2 (.inl rfl))
            obtain ⟨u, hu, hr⟩ := hB t y hy fun j oj hoj hl => hno j oj hoj ((hget j).2 (.inr hl))
            exact ⟨u, by rw [hputs t hnd]; exact hu, hr.ext hE2⟩
          · intro j oj hoj hl e he hb
            rcases (hget j).1 hl with e' | hl
            · subst e'
              rw [ho] at hoj; cases hoj
              exact (hget _).2 (.inr (hpre' e.on (by
                simp only [depends, List.any_eq_true, Bool.and_eq_true]
                exact ⟨e, by simpa using he, hb, by simp⟩)))
            · exact (hget _).2 (.inr (hC j oj hoj hl e he hb))
          · rw [Array.getElem?_setIfInBounds_ne him]; exact hmf
        unfold wpOp
        simp only [ho]
        rcases hcase with ⟨hw', hop⟩ | ⟨hw', hany⟩
        · rw [hwant true hw']
          simp only [if_true]
          refine .inl (hop a' w' μ' I' hst (fun t ht y hy => look t (List.mem_append_left _ (List.mem_filterMap.2 ⟨.tmp t, by simpa using ht, rfl⟩)) y hy) _ _ ?_)
          rintro x H' v w'' μ'' I'' ⟨rfl, rfl⟩ hs2 hv2 hE2
          exact follow v w'' μ'' I'' hs2 hv2 hE2
        · rw [hwant false hw']
          simp only [Bool.false_eq_true, if_false]
          exact follow undef w' μ' I' hst (by rw [hany]; exact .any) (Ext.refl _ _ _ _ (Nat.le_refl _))
  have hE0 : Ext k μ I w μ I { w with drawn := w.drawn + 1 } :=
    ⟨fun _ B _ h => ⟨B, h, Nat.le_refl _, fun _ => .inl rfl, fun _ _ => rfl⟩, hk, hk, rfl, rfl, rfl, Nat.le_refl _, fun _ h => ⟨h, rfl⟩, fun _ c _ _ h => ⟨c, h, rfl⟩, fun _ h => .inl h, fun _ h => .inl h, fun _ _ _ => rfl⟩
  have hE1 : Ext μ.length μ I w μ I { w with drawn := w.drawn + 1 } :=
    ⟨fun _ B _ h => ⟨B, h, Nat.le_refl _, fun _ => .inl rfl, fun _ _ => rfl⟩, Nat.le_refl _, Nat.le_refl _, rfl, rfl, rfl, Nat.le_refl _, fun _ h => ⟨h, rfl⟩, fun _ c _ _ h => ⟨c, h, rfl⟩, fun _ h => .inl h, fun _ h => .inl h, fun _ _ _ => rfl⟩
  have hst0 : St μ I { w with drawn := w.drawn + 1 } H := ⟨hn.st.len, hn.st.inj, hn.st.lt, hn.st.off, hn.st.ilt, fun i o b ho hb => (hn.st.objs i o b ho hb).ext hE1 fun _ _ => rfl⟩
  refine key ops.size _ a _ μ I (by simp) (by simp) hn.size hn.defers hst0 hE0 ?_ ?_ ?_ (by simp [hsize])
  · intro j o ho hl; simp [Array.getElem?_replicate] at hl
  · intro t y hy _
    obtain ⟨v, hv, hr⟩ := hn.env t y hy
    exact ⟨v, hv, hr.ext hE1⟩
  · intro j o ho hl; simp [Array.getElem?_replicate] at hl
end
end Go.Mg
