/- Ghost steps, functions that hand back new objects, and their use upon more objects. Conditions: none. -/
import Derived.Test.YtlhocfhoocmfiaaMg10
namespace Go.Mg
open Go.RowKit (Below)

section
variable {P : Program} {n k : Nat} {env : Env} {H : List LObj} {Q : Exit → Env → List LObj → Prop} {ops : Array Oper}

/-- One state may be taken for another. -/
def Ent (k : Nat) (env : Env) (H : List LObj) (env' : Env) (H' : List LObj) : Prop :=
  ∀ n μ I w a, Now n μ I w H env a → k ≤ μ.length → ∃ μ' I', Now n μ' I' w H' env' a ∧ Ext k μ I w μ' I' w

theorem Ent.weak {env' : Env} {H' : List LObj} (h : Weak k env' H' env H) : Ent k env H env' H' := fun n μ I w a hn hk =>
  let ⟨μ', h1, h2⟩ := hn.weak h hk
  ⟨μ', I, h1, h2⟩

theorem Ent.trans {e1 e2 e3 : Env} {H1 H2 H3 : List LObj} (h : Ent k e1 H1 e2 H2) (h' : Ent k e2 H2 e3 H3) : Ent k e1 H1 e3 H3 := fun n μ I w a hn hk =>
  let ⟨μ1, I1, h1, h2⟩ := h n μ I w a hn hk
  let ⟨μ2, I2, h3, h4⟩ := h' n μ1 I1 w a h1 h2.len'
  ⟨μ2, I2, h3, h2.trans h4⟩

theorem LW.ent {c : Code} {env' : Env} {H' : List LObj} (h : Ent k env H env' H') (hw : LW P n k c env' H' Q) : LW P n k c env H Q := by
  intro a w μ I hn hk Q' hq
  obtain ⟨μ', I', hn', hE⟩ := h n μ I w a hn hk
  exact hw a w μ' I' hn' hE.len' Q' fun e env'' H'' a' w' μ'' I'' q hn'' hE' => hq e env'' H'' a' w' μ'' I'' q hn'' (hE.trans hE')

theorem LOps.ent {l : List Nat} {Q : Env → List LObj → Prop} {env' : Env} {H' : List LObj} (h : Ent k env H env' H') (hw : LOps P ops n k l env' H' Q) : LOps P ops n k l env H Q := by
  intro a w μ I hn hk Q' hq
  obtain ⟨μ', I', hn', hE⟩ := h n μ I w a hn hk
  exact hw a w μ' I' hn' hE.len' Q' fun env'' H'' a' w' μ'' I'' q hn'' hE' => hq env'' H'' a' w' μ'' I'' q hn'' (hE.trans hE')

/-- A nil slice is a slice of one's own without elements. -/
theorem Ent.lazy {t m id : Nat} {H' : List LObj} (ht : env.get t = some .zs) (hid : lenC H = some id) (hH : appC H (.vec m []) = some H') : Ent k env H ((t, .vec m id 0 0 0) :: env) H' := by
  intro n μ I w a hn hk
  have hid' := lenC_eq hid
  have e := appC_eq hH
  subst e
  obtain ⟨hs', hE'⟩ := hn.st.lazy m
  refine ⟨_, I, ⟨hn.size, hn.defers, hs', fun u x hu => ?_⟩, hE'.weak hk⟩
  rw [Env.get_cons] at hu
  split at hu
  · rename_i e
    subst e
    cases hu
    obtain ⟨v, hv, hr⟩ := hn.env t _ ht
    cases hr with
    | @zs ad => exact ⟨_, hv, .vec (B := ⟨none, 0⟩) (by rw [hid', ← hn.st.len]; simp) rfl (Nat.le_refl _) fun _ => .inl ⟨rfl, ad, rfl⟩⟩
  · obtain ⟨v, hv, hr⟩ := hn.env u x hu
    exact ⟨v, hv, hr.ext hE'⟩

/-- The same of a cell of a variable. -/
theorem Ent.lazyCell {i j m id : Nat} {cs cs' : List LV} {H' H'' : List LObj} (hi : nth H i = some (.box cs)) (hj : nth cs j = some .zs) (hid : lenC H = some id) (hcs : setC cs j (.vec m id 0 0 0) = some cs')
    (hH : setC H i (.box cs') = some H') (hH' : appC H' (.vec m []) = some H'') : Ent k env H env H'' := by
  intro n μ I w a hn hk
  have hid' := lenC_eq hid
  obtain ⟨e1, e2⟩ := setC_eq hcs
  obtain ⟨e3, e4⟩ := setC_eq hH
  have e5 := appC_eq hH'
  subst e5; subst e3; subst e1
  rw [nth_eq] at hi hj
  obtain ⟨hs', hE'⟩ := hn.st.lazy m
  refine ⟨_, I, ⟨hn.size, hn.defers, { hs' with len := ?_, objs := ?_ }, hn.env.ext hE'⟩, hE'.weak hk⟩
  · simp [hn.st.len]
  · intro q ob B hob hB
    by_cases hq : q < H.length
    · rw [List.getElem?_append_left (by simpa using hq), List.getElem?_set] at hob
      by_cases hqi : i = q
      · subst hqi
        simp [hq] at hob
        subst hob
        have hold := hs'.objs i (.box cs) B (by rw [List.getElem?_append_left hq]; exact hi) hB
        cases hold with
        | @box _ b vs e hb hl ho hr =>
          refine .box hb (by simpa using hl) ho fun p c v hc hv => ?_
          rw [List.getElem?_set] at hc
          split at hc
          · rename_i e; subst e
            cases hc
            have := hr j _ v hj hv
            cases this with
            | @zs ad => exact .vec (B := ⟨none, 0⟩) (by rw [hid', ← hn.st.len]; simp) rfl (Nat.le_refl _) fun _ => .inl ⟨rfl, ad, rfl⟩
          · exact hr p c v hc hv
      · rw [if_neg hqi] at hob
        exact hs'.objs q ob B (by rw [List.getElem?_append_left hq]; exact hob) hB
    · rw [List.getElem?_append_right (by simp; omega)] at hob
      exact hs'.objs q ob B (by rw [List.getElem?_append_right (by omega)]; simpa using hob) hB

/-! New objects handed back. -/

mutual
def LV.shift (d : Nat) : LV → LV
  | .p x => .p x
  | .agg cs => .agg (LV.shifts d cs)
  | .tup cs => .tup (LV.shifts d cs)
  | .ptr id o => .ptr (d + id) o
  | .cptr cs => .cptr cs
  | .vec m id n o l => .vec m (d + id) n o l
  | .vptr m id n j f => .vptr m (d + id) n j f
  | .zs => .zs
  | .map id => .map (d + id)
  | .nilmap => .nilmap
  | .fn f a c => .fn f (LV.shifts d a) (LV.shifts d c)
  | .any => .any
def LV.shifts (d : Nat) : List LV → List LV
  | [] => []
  | x :: r => LV.shift d x :: LV.shifts d r
end

theorem LV.shifts_eq (d : Nat) : ∀ xs : List LV, LV.shifts d xs = xs.map (LV.shift d)
  | [] => rfl
  | x :: r => by simp [LV.shifts, LV.shifts_eq d r]

def LObj.shift (d : Nat) : LObj → LObj
  | .box cs => .box (LV.shifts d cs)
  | .vec m xs => .vec m xs
  | .map es => .map (es.map fun e => (e.1, LV.shift d e.2))
  | .dead => .dead
  | .slot => .slot

theorem LRep.shift {μ μ0 : List Blk} {I : Nat → Prop} {w : World} {x : LV} {v : Value} (h : LRep μ0 I w x v) : LRep (μ ++ μ0) I w (x.shift μ.length) v := by
  have hget : ∀ (i : Nat) (B : Blk), μ0[i]? = some B → (μ ++ μ0)[μ.length + i]? = some B := fun i B h => by rw [List.getElem?_append_right (by omega)]; simpa using h
  induction h with
  | p h => exact .p h
  | agg hl ho h ih =>
    simp only [LV.shift, LV.shifts_eq]
    refine .agg (by simpa using hl) ho fun i c v hc hv => ?_
    rw [List.getElem?_map] at hc
    cases hx : (_ : List LV)[i]? with
    | none => rw [hx] at hc; cases hc
    | some y => rw [hx] at hc; cases hc; exact ih i y v hx hv
  | tup hl h ih =>
    simp only [LV.shift, LV.shifts_eq]
    refine .tup (by simpa using hl) fun i c v hc hv => ?_
    rw [List.getElem?_map] at hc
    cases hx : (_ : List LV)[i]? with
    | none => rw [hx] at hc; cases hc
    | some y => rw [hx] at hc; cases hc; exact ih i y v hx hv
  | ptr h => exact .ptr (hget _ _ h)
  | cptr f hI hc => exact .cptr f hI hc
  | vec h h1 hn hf => exact .vec (hget _ _ h) h1 hn hf
  | vptr h h1 hn hf => exact .vptr (hget _ _ h) h1 hn hf
  | zs => exact .zs
  | map h => exact .map (hget _ _ h)
  | nilmap => exact .nilmap
  | fn hl hl' h h' ih ih' =>
    simp only [LV.shift, LV.shifts_eq]
    refine .fn (by simpa using hl) (by simpa using hl') (fun i c v hc hv => ?_) (fun i c v hc hv => ?_)
    · rw [List.getElem?_map] at hc
      cases hx : (_ : List LV)[i]? with
      | none => rw [hx] at hc; cases hc
      | some y => rw [hx] at hc; cases hc; exact ih i y v hx hv
    · rw [List.getElem?_map] at hc
      cases hx : (_ : List LV)[i]? with
      | none => rw [hx] at hc; cases hc
      | some y => rw [hx] at hc; cases hc; exact ih' i y v hx hv
  | any => exact .any

theorem ORep.shift {μ μ0 : List Blk} {I : Nat → Prop} {w : World} {o : LObj} {B : Blk} (h : ORep μ0 I w o B) : ORep (μ ++ μ0) I w (o.shift μ.length) B := by
  cases h with
  | box hb hl ho h =>
    simp only [LObj.shift, LV.shifts_eq]
    refine .box hb (by simpa using hl) ho fun i c v hc hv => ?_
    rw [List.getElem?_map] at hc
    cases hx : (_ : List LV)[i]? with
    | none => rw [hx] at hc; cases hc
    | some y => rw [hx] at hc; cases hc; exact (h i y v hx hv).shift
  | vecE => exact .vecE
  | vec hb hl hne hm h => exact .vec hb hl hne hm h
  | map hb hl h h2 h3 =>
    refine .map hb (by simpa using hl) (fun i c e hc he => ?_) h2 h3
    rw [List.getElem?_map] at hc
    cases hx : (_ : List (PV × LV))[i]? with
    | none => rw [hx] at hc; cases hc
    | some y => rw [hx] at hc; cases hc; exact ⟨(h i y e hx he).1, (h i y e hx he).2.shift⟩
  | dead => exact .dead
  | slot => exact .slot

/-- A function of plain data that hands back new objects, called where there are objects already. -/
theorem LC.frame {f : FuncId} {as : List PV} {ls : List LV} {x : LV} {H0 : List LObj} {d : Nat} (h : LC P f (as.map .p) [] (Is x H0)) (hc : Convs false H ls as) (hd : lenC H = some d) :
    LC P f ls H (Is (x.shift d) (H ++ H0.map (LObj.shift d))) := by
  have hd' := lenC_eq hd
  intro args w μ I hs ha
  have hnil : ∀ b, ¬ Own [] b := fun b ⟨n, h⟩ => by cases h
  have hs0 : St [] I w [] := ⟨rfl, by simp, fun b h => absurd h (hnil b), fun b h => absurd h (hnil b), hs.ilt, by simp⟩
  have ha' : LRepL [] I w (as.map .p) args.toList := by
    have := convs_repL hs hc ha
    have e : (fun c => I c ∨ (false = true ∧ Own μ c)) = I := by funext c; simp
    rw [e] at this
    exact LRepL.of_repL this
  refine (h args w [] I hs0 ha').mono ?_
  rintro e w' ⟨y, v, H', μ0, I', rfl, ⟨rfl, rfl⟩, hs', hv, hE⟩
  have hold : ∀ b, b < w.heap.size → w'.heap[b]? = w.heap[b]? := fun b hb => hE.keep b hb (hnil b)
  have hown0 : ∀ b, Own μ0 b → w.heap.size ≤ b := fun b hb => (hE.mnew b hb).resolve_left (hnil b)
  have hI' : ∀ b, I' b → I b ∨ w.heap.size ≤ b := fun b hb => by
    rcases hE.inew b hb with h | h | h
    · exact .inl h
    · exact absurd h (hnil b)
    · exact .inr h
  have hownA : ∀ b, Own (μ ++ μ0) b → Own μ b ∨ Own μ0 b := fun b ⟨q, h⟩ => by
    rcases List.mem_append.1 h with h | h
    · exact .inl ⟨q, h⟩
    · exact .inr ⟨q, h⟩
  have hEx : Ext μ.length μ I w (μ ++ μ0) I' w' :=
    { get := fun i B hi hb => ⟨B, by rw [List.getElem?_append_left hi]; exact hb, Nat.le_refl _, fun _ => .inl rfl, fun _ _ => rfl⟩
      len := Nat.le_refl _
      len' := by simp
      os := hE.os
      tape := hE.tape
      output := hE.output
      size := hE.size
      imm := hE.imm
      shape := fun b c e f hb => ⟨c, by rw [hold b (Array.getElem?_eq_some_iff.1 hb).1]; exact hb, rfl⟩
      inew := fun b hb => (hI' b hb).elim .inl fun h => .inr (.inr h)
      mnew := fun b hb => (hownA b hb).elim .inl fun h => .inr (hown0 b h)
      keep := fun b hb _ => hold b hb }
  have hdm : d = μ.length := by rw [hd', hs.len]
  subst hdm
  refine ⟨_, v, _, μ ++ μ0, I', rfl, ⟨rfl, rfl⟩, ?_, hv.shift, hEx⟩
  refine { len := by simp [hs.len, hs'.len], inj := ?_, lt := ?_, off := ?_, ilt := hs'.ilt, objs := ?_ }
  · intro i j b q q' hi hj
    rw [List.getElem?_append] at hi hj
    split at hi <;> split at hj
    · exact hs.inj i j b q q' hi hj
    · have h1 := hs.lt b (.mk hi)
      have h2 := hown0 b (.mk hj); omega
    · have h1 := hs.lt b (.mk hj)
      have h2 := hown0 b (.mk hi); omega
    · have := hs'.inj _ _ b q q' hi hj; omega
  · intro b hb
    rcases hownA b hb with h | h
    · exact Nat.lt_of_lt_of_le (hs.lt b h) hE.size
    · exact hs'.lt b h
  · intro b hb hi
    rcases hownA b hb with h | h
    · rcases hI' b hi with h' | h'
      · exact hs.off b h h'
      · have := hs.lt b h; omega
    · exact hs'.off b h hi
  · intro i o B ho hB
    rw [List.getElem?_append] at ho hB
    rw [← hs.len] at ho
    split at ho
    · rename_i hlt
      rw [if_pos hlt] at hB
      exact (hs.objs i o B ho hB).ext hEx fun c hc => hold c (hs.lt c (.of hB hc))
    · rename_i hge
      rw [if_neg hge] at hB
      rw [List.getElem?_map] at ho
      cases hx : (_ : List LObj)[i - μ.length]? with
      | none => rw [hx] at ho; cases ho
      | some o' =>
        rw [hx] at ho; cases ho
        exact (hs'.objs _ o' B hx hB).shift

/-- The end of a function that hands back a new slice: its number does not matter. -/
theorem LC.ofVec {f : FuncId} {fn : Func} {c : Code} {as : List PV} {m : Nat} {xs : List PV} (hf : P.funcs[f]? = some fn) (hb : fn.body = some c)
    (hn : Nat.ble as.length fn.ntmps = true) (h : LW P fn.ntmps 0 c (penv 0 (as.map .p)) [] (fun e env H => (e = .normal ∨ e = .ret) ∧ ∃ id q, ResAll P env H fn.results (.vec m id q 0 q) ∧ nth H id = some (.vec m xs) ∧ q = xs.length)) :
    LC P f (as.map .p) [] (Is (.vec m 0 xs.length 0 xs.length) [.vec m xs]) := by
  intro args w μ I hs ha
  have hnow := start_now (P := P) (fn := fn) hs ha (by simpa using hn)
  have hμ : μ = [] := List.eq_nil_of_length_eq_zero hs.len
  subst hμ
  have hnil : ∀ b, ¬ Own [] b := fun b ⟨n, h⟩ => by cases h
  refine calls_of_wp hf hb (h _ w [] I hnow (Nat.le_refl _) _ ?_)
  rintro e env' H' a' w' μ' I' ⟨he, id, q, hres, hid, hq⟩ hn' hE
  obtain ⟨v, hrun, hv⟩ := hres.run hn'
  obtain ⟨B, hidB, hBn, hob, hfit⟩ := vec_now hn'.st hid hq hv
  have hsub : ∀ b, Own [B] b → Own μ' b := fun b ⟨q, h⟩ => by
    simp at h
    exact ⟨q, by rw [h]; exact List.mem_of_getElem? hidB⟩
  have hE2 : Ext 0 [] I w [B] I' w' :=
    { get := fun i B hi => by omega
      len := Nat.le_refl _
      len' := by simp
      os := hE.os
      tape := hE.tape
      output := hE.output
      size := hE.size
      imm := hE.imm
      shape := hE.shape
      inew := hE.inew
      mnew := fun b hb => hE.mnew b (hsub b hb)
      keep := hE.keep }
  have hob' : ORep [B] I' w' (.vec m xs) B := by
    cases hob with
    | vecE => exact .vecE
    | vec h1 h2 h3 h4 h5 => exact .vec h1 h2 h3 h4 h5
  have hst : St [B] I' w' [.vec m xs] :=
    { len := rfl
      inj := fun i j b n n' hi hj => by
        have h1 := (List.getElem?_eq_some_iff.1 hi).1
        have h2 := (List.getElem?_eq_some_iff.1 hj).1
        simp at h1 h2; omega
      lt := fun b hb => hn'.st.lt b (hsub b hb)
      off := fun b hb => hn'.st.off b (hsub b hb)
      ilt := hn'.st.ilt
      objs := fun i o C ho hC => by
        cases i with
        | zero => simp at ho hC; subst ho; subst hC; exact hob'
        | succ i => simp at ho }
  have h1v : one1 v = true := by cases hv; assumption
  have hlv : LRep [B] I' w' (.vec m 0 xs.length 0 xs.length) v := .vec (B := B) rfl h1v (by omega) fun _ => by rw [← hq]; exact hfit
  rcases he with rfl | rfl <;> exact ⟨hn'.defers, v, hrun, _, v, [.vec m xs], [B], I', rfl, ⟨rfl, rfl⟩, hst, hlv, hE2⟩

/-- A function that hands back new objects is pure if what it hands back reads as data. -/
theorem LPure.ofNew {f : FuncId} {as rs : List PV} {x : LV} {H0 : List LObj} (h : LC P f (as.map .p) [] (Is x H0)) (hc : Conv1 H0 x rs) : LPure P f as rs := by
  intro args w I hI ha
  have hnil : ∀ b, ¬ Own [] b := fun b ⟨n, h⟩ => by cases h
  have hs : St [] I w [] := ⟨rfl, by simp, fun b h => absurd h (hnil b), fun b h => absurd h (hnil b), hI, by simp⟩
  refine (h args w [] I hs (LRepL.of_repL ha)).mono ?_
  rintro e w' ⟨y, v, H', μ', I', rfl, ⟨rfl, rfl⟩, hs', hv, hE⟩
  refine ⟨v, rfl, (hc.rep hs' hv).wide ?_, ⟨hE.os, hE.tape, hE.output, hE.size, fun b hb => hE.keep b hb (hnil b)⟩⟩
  intro c hc
  rcases hc with hc | hc
  · rcases hE.inew c hc with h | h | h
    · exact .inl h
    · exact absurd h (hnil c)
    · exact .inr ⟨h, hs'.ilt c hc⟩
  · rcases hE.mnew c hc with h | h
    · exact absurd h (hnil c)
    · exact .inr ⟨h, hs'.lt c hc⟩
end
end Go.Mg
