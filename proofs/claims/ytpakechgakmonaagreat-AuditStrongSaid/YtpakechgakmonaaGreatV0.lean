/- Maps: entries that are stored in two steps, in regions of every order; how many there are. Parts of slices of one's own: a beginning of one, stores into it, its end cleared. Slices that are nil or not; functions of data that hand back a slice of one's own, also where its object is to come. Objects that nobody needs; the last object alone; objects framed. Values without memory of their own as arguments: nil slices, structs of these. Conditions: none. -/
import Derived.Test.YtpakechgakmonaaGreatS1
namespace Go.Mg
section
variable {α β : Type} [DecidableEq α]
variable {P : Program} {o : Oper} {env : Env} {H : List LObj}
variable {t ek ev : TypeId} {x y : Operand} {id n : Nat} {ag : Bool} {f : α → PV} {g : β → LV} {m : List (α × β)}
theorem LAt.setX {z : Operand} {l : LV} (a : α) (v : β) (hk : KeyOk f n ag) (ho : o.op = .mapUpdate t x y z ∨ o.op = .insert t x y z) (hx : lev env x = some (.map id)) (hy : lev env y = some (.p (f a)))
    (hz : lev env z = some l) (hl : l = g v) (hH : nth H id = some (.map (entsOf f g m))) (hT : mapTy P t = some (ek, ev, n, ag)) : LAt P o env H [id] (some (id, .map (entsOf f g (setE m a v)))) .any :=
  fun _ hA => LOp.setX a v hk ho hx hy hz hl (hA.get (by simp) hH) hT (hA.set (by simp) hH)
end
section
variable {P : Program} {o : Oper} {env : Env} {H : List LObj}
/-- 'x == nil' for a slice that is data: if so it has no elements. -/
theorem LOp.eqNil {t t' : TypeId} {x y : Operand} {m bytes : Nat} {xs : List PV} (ho : o.op = .binOp .eql t x y t') (hx : lev env x = some (.p (.slice m xs))) (hy : y = .const (.slice none 0 0)) (hT : slTy P t = some (m, bytes)) :
    LOp P o env H (fun r H' => H' = H ∧ ∃ b, r = .p (.bool b) ∧ (b = true → xs = [])) := by
  intro a w μ I hs he K Q hK
  obtain ⟨ad, cap, f, hv, hcap, hmax, hm, hc, hr⟩ := rep_slice (lrep_slice (he.ev (x := x) (by simp [ho, Op.operands]) hx))
  obtain ⟨e, i, zz, hu, hi', hzz, hzs, rfl, rfl, hpos⟩ := slTy_spec hT
  have hyv : a.eval y = .slice none 0 0 := by subst hy; rfl
  have heq : (Op.equal t (.slice ad xs.length cap) (.slice none 0 0)).run P w = .ok ad.isNone w := by
    unfold Op.equal
    obtain ⟨d, hd⟩ : ∃ d, Op.maxDepth = d + 1 := ⟨_, rfl⟩
    rw [hd]
    cases ad <;> simp [Op.equalIn, run_underlying hu]
  have hg : (eqGuard .eql t x y (.slice ad xs.length cap) (.slice none 0 0)).run P w = .ok () w := by simp [eqGuard]
  have hrun : (execOp a.eval o).run P w = .ok (.value (.bool ad.isNone)) w := by
    simp only [execOp, ho, hv, hyv, binOp]
    simp [hg, heq]
  unfold Oper.wp
  rw [hrun]
  refine hK (.p (.bool ad.isNone)) H _ w μ I ⟨rfl, _, rfl, fun h => ?_⟩ hs (.p .bool) (Ext.refl _ _ _ _ (Nat.le_refl _))
  cases ad with
  | some b => cases h
  | none =>
    cases xs with
    | nil => rfl
    | cons x r =>
      exfalso
      have h1 := (hm x (.head _)).1
      obtain ⟨c, hcc⟩ : ∃ c, (flat (x :: r))[0]? = some c := by
        rw [flat_cons, List.getElem?_append_left (by omega)]
        exact ⟨_, List.getElem?_eq_getElem (by omega)⟩
      obtain ⟨b, o', hb, -⟩ := hc 0 c hcc
      cases hb
/-- A slice literal without elements. -/
theorem LOp.buildSlice0 {t : TypeId} {m bytes : Nat} (ho : o.op = .buildSlice t 0 #[]) (hT : slTy P t = some (m, bytes)) : LOp P o env H (Is .zs H) := by
  intro a w μ I hs hE K Q hK
  obtain ⟨el, i, z, hu, hi, hz, hzs, rfl, rfl, hpos⟩ := slTy_spec hT
  have hr0 : Array.range 0 = #[] := rfl
  have hso : (sizeOf el).run P w = .ok i.size w := by simp [sizeOf, typeInfo, hi]
  have hrun : (execOp a.eval o).run P w = .ok (.value (.slice (some ⟨w.heap.size, 0, none⟩) 0 0)) (w.alloc (.cells #[] el)) := by
    simp only [execOp, ho, Instr.buildSlice]
    simp [run_underlying hu, hso, Instr.fill, newRow, hr0]
  unfold Oper.wp
  rw [hrun]
  obtain ⟨hs', hE'⟩ := hs.fresh (.cells #[] el)
  exact hK .zs H _ _ μ _ ⟨rfl, rfl⟩ hs' .zs hE'
end
theorem ORep.monoK {k : Nat} {μ μ' : List Blk} {I I' : Nat → Prop} {w : World} {o : LObj} {B : Blk} (h : ORep μ I w o B) (hE : Ext k μ I w μ' I' w) (hlo : o.Low k) : ORep μ' I' w o B := by
  cases h with
  | box h1 h2 h3 h4 => exact .box h1 h2 h3 fun i c v hc hv => (h4 i c v hc hv).mono hE (hlo c (List.mem_of_getElem? hc))
  | vecE => exact .vecE
  | vec h1 h2 h3 h4 h5 => exact .vec h1 h2 h3 h4 fun i c v hc hv => (h5 i c v hc hv).mono hE.imm
  | map h1 h2 h3 h4 h5 => exact .map h1 h2 (fun i c e hc he => ⟨(h3 i c e hc he).1.mono hE.imm, (h3 i c e hc he).2.mono hE (hlo c (List.mem_of_getElem? hc))⟩) h4 h5
  | dead => exact .dead
  | slot => exact .slot
  | loop h1 hs hp hps hA hB hn he => exact .loop h1 hs hp hps hA hB hn fun t x ht => let ⟨v, h2, h3⟩ := he t x ht; ⟨v, h2, h3.mono hE (hlo t x ht)⟩
  | defd h1 => exact .defd h1
/-- Objects that are there speak of objects that are there. -/
theorem St.lowAll {μ : List Blk} {I : Nat → Prop} {w : World} {H : List LObj} (hs : St μ I w H) {o : LObj} (ho : o ∈ H) : o.Low H.length := by
  obtain ⟨i, hi⟩ := List.getElem?_of_mem ho
  have hil := (List.getElem?_eq_some_iff.1 hi).1
  have hlen := hs.len
  obtain ⟨B, hB⟩ : ∃ B, μ[i]? = some B := ⟨_, List.getElem?_eq_getElem (by omega)⟩
  have hob := hs.objs i o B hi hB
  have hlow : ∀ {x : LV} {v : Value}, LRep μ I w x v → LV.Low H.length x := fun h => hlen ▸ h.lows
  cases hob with
  | box h1 h2 h3 h4 =>
    intro c hc
    obtain ⟨j, hj⟩ := List.getElem?_of_mem hc
    have hjl := (List.getElem?_eq_some_iff.1 hj).1
    exact hlow (h4 j c _ hj (Array.getElem?_eq_getElem (by omega)))
  | vecE => trivial
  | vec h1 h2 h3 h4 h5 => trivial
  | map h1 h2 h3 h4 h5 =>
    intro e he
    obtain ⟨j, hj⟩ := List.getElem?_of_mem he
    have hjl := (List.getElem?_eq_some_iff.1 hj).1
    exact hlow (h3 j e _ hj (Array.getElem?_eq_getElem (by omega))).2
  | dead => trivial
  | slot => trivial
  | loop h1 hs hp hps hA hB hn he => exact fun t x ht => let ⟨v, _, h3⟩ := he t x ht; hlow h3
  | defd h1 => trivial
/-- What a function hands back, a slice of its own at the end of all objects, in a place that was kept for it. -/
theorem LC.toSlot {P : Program} {f : FuncId} {ls : List LV} {H : List LObj} {m id n d : Nat} {xs : List PV} (h : LC P f ls H (Is (.vec m d n 0 n) (H ++ [.vec m xs]))) (hd : d = H.length) (hid : nth H id = some .slot) :
    LC P f ls H (Is (.vec m id n 0 n) (H.set id (.vec m xs))) := by
  subst hd
  intro args w μ I hs ha
  have hl : ∀ o ∈ H, o.Low H.length := fun o ho => hs.lowAll ho
  refine (h args w μ I hs ha).mono ?_
  rintro e w' ⟨_, v, _, μ', I', rfl, ⟨e1, e2⟩, hs', hv, hE⟩
  rw [e2] at hs'
  rw [e1] at hv
  rw [nth_eq] at hid
  have hidl := (List.getElem?_eq_some_iff.1 hid).1
  have hlen := hs.len
  have hlen' := hs'.len
  rw [List.length_append, List.length_singleton] at hlen'
  have hB0 : μ[id]? = some ⟨none, 0⟩ := slot_none hs (by rw [nth_eq]; exact hid)
  have hB0' : μ'[id]? = some ⟨none, 0⟩ := slot_none hs' (by rw [nth_eq, List.getElem?_append_left hidl]; exact hid)
  obtain ⟨B, hB⟩ : ∃ B, μ'[H.length]? = some B := ⟨_, List.getElem?_eq_getElem (by omega)⟩
  have hob := hs'.objs H.length (.vec m xs) B (by simp) hB
  -- the last number goes to the place that was kept
  have hget : ∀ i, i < H.length → ((μ'.take H.length).set id B)[i]? = if i = id then some B else μ'[i]? := fun i hi => by
    rw [List.getElem?_set]
    by_cases e : id = i
    · subst e; rw [if_pos rfl, if_pos rfl, if_pos (by rw [List.length_take]; omega)]
    · rw [if_neg e, if_neg (Ne.symm e), List.getElem?_take_of_lt hi]
  have hlen2 : ((μ'.take H.length).set id B).length = H.length := by rw [List.length_set, List.length_take]; omega
  have hownS : ∀ b, Own ((μ'.take H.length).set id B) b → Own μ' b := fun b hb => by
    obtain ⟨i, n', hi⟩ := Own.get hb
    have hil := (List.getElem?_eq_some_iff.1 hi).1
    rw [hlen2] at hil
    rw [hget i hil] at hi
    split at hi
    · cases hi; exact Own.mk hB
    · exact Own.mk hi
  have hEx : Ext μ.length μ I w ((μ'.take H.length).set id B) I' w' :=
    { get := fun i C hi hC => by
        rw [hget i (by omega)]
        split
        · rename_i e; subst e
          rw [hB0] at hC; cases hC
          exact ⟨B, rfl, Nat.zero_le _, fun _ => .inr rfl, fun _ h => absurd rfl h⟩
        · exact hE.get i C (by omega) hC
      len := Nat.le_refl _
      len' := by omega
      os := hE.os
      tape := hE.tape
      output := hE.output
      size := hE.size
      imm := hE.imm
      shape := hE.shape
      inew := hE.inew
      mnew := fun b hb => hE.mnew b (hownS b hb)
      keep := hE.keep }
  -- what does not speak of that place stays
  have hE2 : Ext H.length μ' I' w' ((μ'.take H.length).set id B) I' w' :=
    { get := fun i C hi hC => by
        rw [hget i hi]
        split
        · rename_i e; subst e
          rw [hB0'] at hC; cases hC
          exact ⟨B, rfl, Nat.zero_le _, fun _ => .inr rfl, fun _ h => absurd rfl h⟩
        · exact ⟨C, hC, Nat.le_refl _, fun _ => .inl rfl, fun _ _ => rfl⟩
      len := by omega
      len' := by omega
      os := rfl
      tape := rfl
      output := rfl
      size := Nat.le_refl _
      imm := fun _ h => ⟨h, rfl⟩
      shape := fun _ c _ _ h => ⟨c, h, rfl⟩
      inew := fun _ h => .inl h
      mnew := fun b hb => .inl (hownS b hb)
      keep := fun _ _ _ => rfl }
  refine ⟨_, v, _, (μ'.take H.length).set id B, I', rfl, ⟨rfl, rfl⟩, ?_, ?_, hEx⟩
  · exact
      { len := by rw [hlen2, List.length_set]
        inj := fun i j b n1 n2 hi hj => by
          have hil := (List.getElem?_eq_some_iff.1 hi).1
          have hjl := (List.getElem?_eq_some_iff.1 hj).1
          rw [hlen2] at hil hjl
          rw [hget i hil] at hi
          rw [hget j hjl] at hj
          split at hi <;> split at hj
          · omega
          · cases hi
            have := hs'.inj _ _ b _ _ hB hj
            omega
          · cases hj
            have := hs'.inj _ _ b _ _ hi hB
            omega
          · exact hs'.inj i j b n1 n2 hi hj
        lt := fun b hb => hs'.lt b (hownS b hb)
        off := fun b hb => hs'.off b (hownS b hb)
        ilt := hs'.ilt
        objs := fun i o C ho hC => by
          have hil := (List.getElem?_eq_some_iff.1 hC).1
          rw [hlen2] at hil
          rw [hget i hil] at hC
          rw [List.getElem?_set] at ho
          by_cases e : id = i
          · subst e
            rw [if_pos rfl] at hC
            rw [if_pos rfl, if_pos hidl] at ho
            cases hC; cases ho
            exact hob.monoK hE2 trivial
          · rw [if_neg (Ne.symm e)] at hC
            rw [if_neg e] at ho
            exact (hs'.objs i o C (by rw [List.getElem?_append_left hil]; exact ho) hC).monoK hE2 (hl o (List.mem_of_getElem? ho)) }
  · cases hv with
    | @vec _ _ _ _ _ C _ h1 h2 h3 h4 =>
      rw [hB] at h1; cases h1
      exact .vec (by rw [hget id hidl, if_pos rfl]) h2 h3 h4
section
variable {P : Program} {o : Oper} {env : Env} {H : List LObj}
theorem LC.frameV {f : FuncId} {qs ls : List LV} {m n d : Nat} {xs : List PV} (h : LC P f qs [] (Is (.vec m 0 n 0 n) [.vec m xs])) (hc : ConvEs H ls qs) (hd : lenC H = some d) :
    LC P f ls H (Is (.vec m d n 0 n) (H ++ [.vec m xs])) := LC.frameG h hc hd
/-- A call of a function of data that hands back a slice of its own. -/
theorem LOp.callV {fo : Operand} {args : Array Operand} {ats : Array TypeId} {f : FuncId} {qs ls : List LV} {m n d : Nat} {xs : List PV} {H' : List LObj} (ho : o.op = .call { callee := .value fo, args := args, argTypes := ats })
    (hf : lev env fo = some (.fn f [] [])) (hl : levs env args.toList = some ls) (hc : callable P f = true) (h : LC P f qs [] (Is (.vec m 0 n 0 n) [.vec m xs])) (hcv : ConvEs H ls qs) (hd : lenC H = some d) (hH : appC H (.vec m xs) = some H') :
    LOp P o env H (Is (.vec m d n 0 n) H') := by
  have e := appC_eq hH
  subst e
  exact LOp.call ho hf hl hc (by simpa using LC.frameV h hcv hd)
/-- The same where its object is to come. -/
theorem LAt.callV {fo : Operand} {args : Array Operand} {ats : Array TypeId} {f : FuncId} {qs ls : List LV} {m n id : Nat} {xs : List PV} (ho : o.op = .call { callee := .value fo, args := args, argTypes := ats })
    (hf : lev env fo = some (.fn f [] [])) (hl : levs env args.toList = some ls) (hc : callable P f = true) (h : LC P f qs [] (Is (.vec m 0 n 0 n) [.vec m xs])) (hcv : ∀ H, ConvEs H ls qs) (hid : nth H id = some .slot) :
    LAt P o env H [id] (some (id, .vec m xs)) (.vec m id n 0 n) := by
  intro H' hA
  have hid' := hA.get (by simp) hid
  obtain ⟨d, hd⟩ : ∃ d, lenC H' = some d := by
    clear hid' hA
    induction H' with
    | nil => exact ⟨0, rfl⟩
    | cons x r ih => obtain ⟨d, hd⟩ := ih; exact ⟨d + 1, by simp [lenC, hd]⟩
  have := LC.toSlot (LC.frameV h (hcv H') hd) (lenC_eq hd) hid'
  exact LOp.call ho hf hl hc (by simpa [wset] using this)
end
theorem LC.frameX {P : Program} {f : FuncId} {H : List LObj} {qs ls : List LV} {x x' : LV} {H0 H' : List LObj} {d : Nat} (h : LC P f qs [] (Is x H0)) (hc : ConvEs H ls qs) (hd : lenC H = some d) (hx : LV.shift d x = x') (hH : H ++ H0.map (LObj.shift d) = H') :
    LC P f ls H (Is x' H') := by
  subst hx hH
  exact LC.frameG h hc hd
def flatZ : LV → Bool
  | .zs => true
  | .p _ => true
  | _ => false
theorem LRep.flat {μ ν : List Blk} {I : Nat → Prop} {w : World} {c : LV} {v : Value} (h : LRep μ I w c v) (hf : flatZ c = true) : LRep ν I w c v := by
  cases h with
  | zs => exact .zs
  | p h => exact .p h
  | _ => cases hf
theorem LRep.flatAgg {μ ν : List Blk} {I : Nat → Prop} {w : World} {cs : List LV} {v : Value} (h : LRep μ I w (.agg cs) v) (hf : cs.all flatZ = true) : LRep ν I w (.agg cs) v := by
  cases h with
  | agg hl ho h => exact .agg hl ho fun i c v hc hv => (h i c v hc hv).flat (List.all_eq_true.1 hf c (List.mem_of_getElem? hc))
theorem ConvEs.consZ {H : List LObj} {ls qs : List LV} (hr : ConvEs H ls qs) : ConvEs H (.zs :: ls) (.zs :: qs) := fun μ I w vs hs hv => by
  cases vs with
  | nil => exact hv.elim
  | cons v r => exact ⟨hv.1.flat rfl, hr μ I w r hs hv.2⟩
theorem ConvEs.consA {H : List LObj} {cs ls qs : List LV} (hf : cs.all flatZ = true) (hr : ConvEs H ls qs) : ConvEs H (.agg cs :: ls) (.agg cs :: qs) := fun μ I w vs hs hv => by
  cases vs with
  | nil => exact hv.elim
  | cons v r => exact ⟨hv.1.flatAgg hf, hr μ I w r hs hv.2⟩
/-- What an operation comes to, as data. -/
theorem LOp.toP {P : Program} {o : Oper} {env : Env} {H H' : List LObj} {x : LV} {p : PV} (h : LOp P o env H (Is x H')) (hc : Conv false H' x p) : LOp P o env H (Is (.p p) H') :=
  fun a w μ I hs he K Q k => h a w μ I hs he K Q fun y H2 v w' μ' I' r st rep ext => by
    obtain ⟨rfl, rfl⟩ := r
    have h2 := hc μ' I' w' v st rep
    have e : (fun c => I' c ∨ (false = true ∧ Own μ' c)) = I' := by funext c; simp
    rw [e] at h2
    exact k _ _ v w' μ' I' ⟨rfl, rfl⟩ st (.p h2) ext
end Go.Mg
