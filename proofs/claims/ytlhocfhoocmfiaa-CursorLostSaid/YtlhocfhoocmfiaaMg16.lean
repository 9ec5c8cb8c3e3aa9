/- Objects that are yet to come (slots): operations that make them, in regions of every order. Conditions: none. -/
import Derived.Test.YtlhocfhoocmfiaaMg15
namespace Go.Mg

section
variable {μ : List Blk} {I : Nat → Prop} {w : World} {H : List LObj}

/-- One more number, for an object that is to come. -/
theorem St.slot (hs : St μ I w H) : St (μ ++ [⟨none, 0⟩]) I w (H ++ [.slot]) ∧ Ext μ.length μ I w (μ ++ [⟨none, 0⟩]) I w := by
  obtain ⟨h1, h2⟩ := hs.lazy 1
  refine ⟨{ len := by simpa using h1.len, inj := h1.inj, lt := h1.lt, off := h1.off, ilt := h1.ilt, objs := fun i o B ho hB => ?_ }, h2⟩
  rcases Nat.lt_trichotomy i H.length with h | h | h
  · rw [List.getElem?_append_left h] at ho
    exact h1.objs i o B (by rw [List.getElem?_append_left h]; exact ho) hB
  · subst h
    rw [List.getElem?_append_right (Nat.le_refl _)] at ho
    simp at ho; subst ho
    rw [← hs.len, List.getElem?_append_right (Nat.le_refl _)] at hB
    simp at hB; subst hB
    exact .slot
  · rw [List.getElem?_eq_none (by simp; omega)] at ho; cases ho

theorem slot_none (hs : St μ I w H) {id : Nat} (h : nth H id = some .slot) : μ[id]? = some ⟨none, 0⟩ := by
  rw [nth_eq] at h
  have hl := (List.getElem?_eq_some_iff.1 h).1
  have hB : μ[id]? = some (μ[id]'(by rw [hs.len]; exact hl)) := List.getElem?_eq_getElem _
  have := hs.objs id _ _ h hB
  rw [hB]
  generalize μ[id]'(by rw [hs.len]; exact hl) = B at this
  cases this
  rfl

/-- The object has come. -/
theorem St.come (hs : St μ I w H) {id : Nat} (h : nth H id = some .slot) (b : Obj) (o : LObj) (ho : ∀ μ' w', Ext μ.length μ I w μ' I w' → w'.heap[w.heap.size]? = some b → ORep μ' I w' o ⟨some w.heap.size, 0⟩) :
    St (μ.set id ⟨some w.heap.size, 0⟩) I (w.alloc b) (H.set id o) ∧ Ext μ.length μ I w (μ.set id ⟨some w.heap.size, 0⟩) I (w.alloc b) :=
  hs.growS (slot_none hs h) (Nat.le_refl _) (.inl rfl) (fun _ => rfl) (.inr (Nat.le_refl _)) (by simp) (fun c hc _ => heap_alloc_old w b hc) (by simp) rfl rfl rfl
    (fun c e f hc => by have := (Array.getElem?_eq_some_iff.1 hc).1; omega)
    fun μ' hE => ho μ' _ hE (heap_alloc_new w b)

/-- A slice that is to come is there, and empty. -/
theorem St.slotVec (hs : St μ I w H) {id : Nat} (h : nth H id = some .slot) (m : Nat) : St μ I w (H.set id (.vec m [])) where
  len := by simp [hs.len]
  inj := hs.inj
  lt := hs.lt
  off := hs.off
  ilt := hs.ilt
  objs := fun i o B ho hB => by
    rw [List.getElem?_set] at ho
    split at ho
    · rename_i e
      subst e
      split at ho
      · cases ho
        rw [slot_none hs h] at hB; cases hB
        exact .vecE
      · cases ho
    · exact hs.objs i o B ho hB
end

section
variable {P : Program} {o : Oper} {env : Env} {H : List LObj} {n k : Nat} {Q : Exit → Env → List LObj → Prop}

theorem Ent.slot {H' : List LObj} (hH : appC H .slot = some H') : Ent k env H env H' := fun n μ I w a hn hk => by
  have e := appC_eq hH
  subst e
  obtain ⟨h1, h2⟩ := hn.st.slot
  exact ⟨_, _, ⟨hn.size, hn.defers, h1, fun t x ht => let ⟨v, hv, hr⟩ := hn.env t x ht; ⟨v, hv, hr.ext h2⟩⟩, h2.weak hk⟩

theorem come_ptr {μ : List Blk} {I : Nat → Prop} {w : World} (hs : St μ I w H) {id : Nat} (h : nth H id = some .slot) (b : Nat) (q : Blk) : (μ.set id q)[id]? = some q := by
  rw [List.getElem?_set_self]
  rw [nth_eq] at h
  rw [hs.len]; exact (List.getElem?_eq_some_iff.1 h).1

theorem LOp.allocS {t : TypeId} {cs : List LV} {id : Nat} {H' : List LObj} (ho : o.op = .alloc t) (hz : zeroTy P t = some cs)
    (hid : nth H id = some .slot) (hH : setC H id (.box cs) = some H') : LOp P o env H (Is (.ptr id 0) H') :=
  LOp.step fun a w μ I hs he => by
    obtain ⟨hH', -⟩ := setC_eq hH
    subst hH'
    unfold zeroTy at hz
    split at hz
    · rename_i i hi
      split at hz
      · rename_i z hz0
        obtain ⟨h1, h2, h3⟩ := cellsOfConst_spec (μ := μ) (I := I) (w := w) hz
        obtain ⟨hs', hE⟩ := hs.come hid (.cells z.cells t) (.box cs) fun μ' w' hE hb => .box hb (by simpa using h1) (fun u hu => h2 u (by simpa using hu)) fun i c v hc hv => (h3 i c v hc (by simpa using hv)).ext hE
        exact ⟨.pointer (some ⟨w.heap.size, 0, none⟩), _, _, by simp [execOp, ho, Instr.alloc, zeroValue, typeInfo, hi, hz0, newVar, newRow], hs', .ptr (come_ptr hs hid w.heap.size _), hE⟩
      · cases hz
    · cases hz

theorem LOp.boxS {t : TypeId} {x : Operand} {l : LV} {cs : List LV} {id : Nat} {H' : List LObj} (ho : o.op = .box t x) (hx : lev env x = some l) (hc : cells1 l = some cs)
    (hid : nth H id = some .slot) (hH : setC H id (.box cs) = some H') : LOp P o env H (Is (.ptr id 0) H') :=
  LOp.step fun a w μ I hs he => by
    have hr := he.ev (x := x) (by simp [ho, Op.operands]) hx
    obtain ⟨h1, h2, h3⟩ := cells1_rep hc hr
    obtain ⟨hH', -⟩ := setC_eq hH
    subst hH'
    obtain ⟨hs', hE⟩ := hs.come hid (.cells (a.eval x).cells t) (.box cs) fun μ' w' hE hb => .box hb h1 h2 fun i c v hc hv => (h3 i c v hc hv).ext hE
    exact ⟨.pointer (some ⟨w.heap.size, 0, none⟩), _, _, by simp [execOp, ho, Instr.box, newVar, newRow], hs', .ptr (come_ptr hs hid w.heap.size _), hE⟩

theorem LOp.makeMapS {t : TypeId} {id : Nat} {H' : List LObj} (ho : o.op = .makeMap t none) (hid : nth H id = some .slot) (hH : setC H id (.map []) = some H') : LOp P o env H (Is (.map id) H') :=
  LOp.step fun a w μ I hs he => by
    obtain ⟨hH', -⟩ := setC_eq hH
    subst hH'
    obtain ⟨hs', hE⟩ := hs.come hid (.map #[] 0) (.map []) fun μ' w' hE hb => .map hb rfl (fun i c e hc => by simp at hc) (fun e he => by simp at he) (by simp)
    exact ⟨.map (some w.heap.size), _, _, by simp [execOp, ho, Instr.makeMap], hs', .map (come_ptr hs hid w.heap.size _), hE⟩

/-- 'append(nil, x..)' for a slice that is to come. -/
theorem LOp.appendS {t : TypeId} {x y : Operand} {m bytes id : Nat} {ys : List PV} {l : LV} {H' : List LObj}
    (ho : o.op = .call { callee := .builtin .append, args := #[x, y], argTypes := #[t, t] }) (hx : lev env x = some .zs) (hid : nth H id = some .slot)
    (hy : lev env y = some l) (hc : Src (H.set id (.vec m [])) l m ys) (hT : slTy P t = some (m, bytes)) (hb : ys.length * (bytes + 1) ≤ 140737488355328) (hH' : setC H id (.vec m ys) = some H') :
    LOp P o env H (Is (.vec m id ys.length 0 ys.length) H') :=
  LOp.step fun a w μ I hs he => by
    have hr := he.ev (x := x) (by simp [ho, Op.operands, Call.operands]) hx
    have hry := he.ev (x := y) (by simp [ho, Op.operands, Call.operands]) hy
    obtain ⟨hH2, hlt⟩ := setC_eq hH'
    subst hH2
    have hs' := hs.slotVec hid m
    have hidm := slot_none hs hid
    generalize hv : a.eval x = vx at hr
    cases hr with
    | @zs ad =>
      have hr' : LRep μ I w (.vec m id 0 0 0) (.slice ad 0 0) := .vec hidm rfl (Nat.le_refl _) fun _ => .inl ⟨rfl, ad, rfl⟩
      obtain ⟨v', w', μ', h1, h2, h3, h4⟩ := append_core (ty := o.type) (xs := []) hs' hr' (by rw [nth_eq, List.getElem?_set_self hlt]) rfl rfl hry hc hT (by simpa using hb)
      rw [← hv] at h1
      have e : (H.set id (LObj.vec m [])).set id (.vec m ([] ++ ys)) = H.set id (.vec m ys) := by rw [List.set_set]; simp
      rw [e] at h2
      simp only [Nat.zero_add] at h3
      exact ⟨v', w', μ', append_exec ho h1, h2, h3, h4⟩

/-! The same in regions of every order. -/

theorem LAt.read {F : List Nat} {x : LV} (h : ∀ H', Agree F H H' → LOp P o env H' (Is x H')) : LAt P o env H F none x := h

theorem LAt.alloc {t : TypeId} {cs : List LV} {id : Nat} (ho : o.op = .alloc t) (hz : zeroTy P t = some cs) (hid : nth H id = some .slot) : LAt P o env H [id] (some (id, .box cs)) (.ptr id 0) :=
  fun H' hA => LOp.allocS ho hz (hA.get (by simp) hid) (hA.set (by simp) hid)

theorem LAt.box {t : TypeId} {x : Operand} {l : LV} {cs : List LV} {id : Nat} (ho : o.op = .box t x) (hx : lev env x = some l) (hc : cells1 l = some cs) (hid : nth H id = some .slot) :
    LAt P o env H [id] (some (id, .box cs)) (.ptr id 0) :=
  fun H' hA => LOp.boxS ho hx hc (hA.get (by simp) hid) (hA.set (by simp) hid)

theorem LAt.makeMap {t : TypeId} {id : Nat} (ho : o.op = .makeMap t none) (hid : nth H id = some .slot) : LAt P o env H [id] (some (id, .map [])) (.map id) :=
  fun H' hA => LOp.makeMapS ho (hA.get (by simp) hid) (hA.set (by simp) hid)

theorem LAt.load {t : TypeId} {x : Operand} {id off n : Nat} {ag : Bool} {cs s : List LV} {l : LV} (ho : o.op = .load t x) (hx : lev env x = some (.ptr id off)) (hH : nth H id = some (.box cs))
    (hT : varTy P t = some (n, ag)) (hs : subC cs off n = some s) (hl : valOf ag s = some l) : LAt P o env H [id] none l :=
  fun H' hA => LOp.load ho hx (hA.get (by simp) hH) hT hs hl

theorem LAt.store {t : TypeId} {x y : Operand} {id off n : Nat} {ag : Bool} {cs ys s : List LV} {l : LV} (ho : o.op = .store t x y) (hx : lev env x = some (.ptr id off)) (hy : lev env y = some l)
    (hH : nth H id = some (.box cs)) (hT : varTy P t = some (n, ag)) (hys : cells1 l = some ys) (hn : lenC ys = some n) (hs : splC cs off ys = some s) : LAt P o env H [id] (some (id, .box s)) .any :=
  fun H' hA => LOp.store ho hx hy (hA.get (by simp) hH) hT hys hn hs (hA.set (by simp) hH)

/-- Appends of plain elements. -/
theorem LAt.append {t : TypeId} {x y : Operand} {m bytes id n len : Nat} {xs ys : List PV}
    (ho : o.op = .call { callee := .builtin .append, args := #[x, y], argTypes := #[t, t] }) (hx : lev env x = some (.vec m id n 0 len)) (hH : nth H id = some (.vec m xs)) (hn : n = xs.length) (hlen : len = n)
    (hy : lev env y = some (.p (.slice m ys))) (hT : slTy P t = some (m, bytes)) (hb : (xs.length + ys.length) * (bytes + 1) ≤ 140737488355328) :
    LAt P o env H [id] (some (id, .vec m (xs ++ ys))) (.vec m id (n + ys.length) 0 (n + ys.length)) :=
  fun H' hA => LOp.append ho hx (hA.get (by simp) hH) hn hlen hy Src.p hT hb (hA.set (by simp) hH)

theorem LAt.appendZ {t : TypeId} {x y : Operand} {m bytes id : Nat} {ys : List PV}
    (ho : o.op = .call { callee := .builtin .append, args := #[x, y], argTypes := #[t, t] }) (hx : lev env x = some .zs) (hid : nth H id = some .slot)
    (hy : lev env y = some (.p (.slice m ys))) (hT : slTy P t = some (m, bytes)) (hb : ys.length * (bytes + 1) ≤ 140737488355328) :
    LAt P o env H [id] (some (id, .vec m ys)) (.vec m id ys.length 0 ys.length) :=
  fun H' hA => LOp.appendS ho hx (hA.get (by simp) hid) hy Src.p hT hb (hA.set (by simp) hid)
end
end Go.Mg
