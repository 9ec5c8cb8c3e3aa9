/- Plain laws of views: lists of blocks and votes, and what may be at all. Plain laws of views: which views may be. Plain laws of views: what is taken. Plain laws of views: what is taken, as the program does it. Plain laws of views: votes that are taken, as the program does it. Plain laws of views: view.Take. Plain laws of views: what holds of what is taken. The laws of views' example. Conditions: none. -/
import Derived.Test.YtlhocfhoocmfiaaD2
import Derived.Test.YtlhocfhoocmfiaaGH
import Derived.Test.YtlhocfhoocmfiaaV1
import Derived.Test.YtlhocfhoocmfiaaV2
namespace Go.Mg
def mayB (c : Cf) (b : Bk) : Bool := decide (0 ≤ prP c b.Slot ∧ prP c b.Slot = b.From ∧ nm b ≠ (0, 0))
def mayV (c : Cf) (v : Vt) : Bool := decide (v.From ∈ cmP c v.Slot)
/-- What may be at all of what came. -/
def onlyP (c : Cf) (w : Vw) : Vw := ⟨w.B.filter (mayB c), w.V.filter (mayV c)⟩
/-- The slot of what is there, by its name. -/
def slotQ (B : List Bk) (id : ID) : Option Int := if id = (0, 0) then some 0 else (B.find? fun b => decide (nm b = id)).map Bk.Slot
/-- Do blocks stand on one another? -/
def ValidB (B : List Bk) : Prop := (places B).isSome = true
/-- Is a vote for what is there, of a slot that is not later than its own? -/
def forB (B : List Bk) (v : Vt) : Prop := ∃ s, slotQ B v.Head = some s ∧ s ≤ v.Slot
/-- May a view be? -/
structure MayW (c : Cf) (w : Vw) : Prop where
  conf : MayC c
  valid : ValidB w.B
  lenB : w.B.length ≤ 60
  lenV : w.V.length ≤ 240
  mayB : ∀ b ∈ w.B, mayB c b = true
  mayV : ∀ v ∈ w.V, mayV c v = true
  nodup : w.V.Nodup
  forB : ∀ v ∈ w.V, forB w.B v
open Classical in
theorem F89_eq {c : Cf} {w : Vw} (h1 : w.B.length ≤ 1000) (h2 : w.V.length ≤ 1000) : F89 c w = some (decide (MayW c w)) := by
  have hno : ∀ h : ¬ MayW c w, decide (MayW c w) = false := fun h => decide_eq_false h
  unfold F89
  rw [F64_eq, ob]
  by_cases c1 : MayC c
  · rw [decide_eq_true c1, Bool.not_true, cf, F52_eq, ob]
    by_cases c2 : ValidB w.B
    · rw [show (places w.B).isSome = true from c2, Bool.not_true, cf]
      by_cases c3 : w.B.length ≤ 60
      · rw [decide_eq_false (show ¬ (w.B.length : Int) > 60 by omega), cf, ob]
        by_cases c4 : w.V.length ≤ 240
        · rw [decide_eq_false (show ¬ (w.V.length : Int) > 240 by omega), cf, F85_eq (by omega) (by omega), ob]
          have hfB : (onlyP c w).B.length = w.B.length ↔ ∀ b ∈ w.B, mayB c b = true := by unfold onlyP; exact List.length_filter_eq_length_iff
          have hfV : (onlyP c w).V.length = w.V.length ↔ ∀ v ∈ w.V, mayV c v = true := by unfold onlyP; exact List.length_filter_eq_length_iff
          by_cases c5 : ∀ b ∈ w.B, mayB c b = true
          · rw [show (((onlyP c w).B.length : Int) != (w.B.length : Int)) = false by rw [hfB.2 c5]; simp, cf, ob]
            by_cases c6 : ∀ v ∈ w.V, mayV c v = true
            · have hm := hmOf_len w.V
              rw [show (((onlyP c w).V.length : Int) != (w.V.length : Int)) = false by rw [hfV.2 c6]; simp, cf, F130_eq (by omega) (by omega), ob, show fewE (hmOf w.V) = true from decide_eq_true (by omega), ct]
              by_cases c7 : w.V.Nodup
              · rw [show (((hmOf w.V).length : Int) == (w.V.length : Int)) = true by rw [hm.2.2 c7]; simp, ct, F132_eq (by omega), ob]
                congr 1
                have hbad : ∀ v, badM (smOf w.B) v = false ↔ Go.Mg.forB w.B v := by
                  intro v
                  unfold badM Go.Mg.forB
                  rw [smOf_find c2]
                  cases slotQ w.B v.Head with
                  | none => simp
                  | some s => simp
                cases ha : w.V.any (badM (smOf w.B)) with
                | true =>
                  obtain ⟨v, hv, hb⟩ := List.any_eq_true.1 ha
                  symm
                  refine hno fun h => ?_
                  have := (hbad v).2 (h.forB v hv)
                  rw [hb] at this; cases this
                | false =>
                  rw [List.any_eq_false] at ha
                  symm
                  exact decide_eq_true ⟨c1, c2, c3, c4, c5, c6, c7, fun v hv => (hbad v).1 (by have := ha v hv; simpa using this)⟩
              · rw [show (((hmOf w.V).length : Int) == (w.V.length : Int)) = false by
                  rw [beq_eq_false_iff_ne]; intro e; exact c7 (hm.2.1 (by omega)), cf, hno fun h => c7 h.nodup]
            · rw [show (((onlyP c w).V.length : Int) != (w.V.length : Int)) = true by
                rw [bne_iff_ne]; intro e; exact c6 (hfV.1 (by omega)), ct, hno fun h => c6 h.mayV]
          · rw [show (((onlyP c w).B.length : Int) != (w.B.length : Int)) = true by
              rw [bne_iff_ne]; intro e; exact c5 (hfB.1 (by omega)), ct, ob, ct, hno fun h => c5 h.mayB]
        · rw [decide_eq_true (show (w.V.length : Int) > 240 by omega), ct, hno fun h => c4 h.lenV]
      · rw [decide_eq_true (show (w.B.length : Int) > 60 by omega), ct, ob, ct, hno fun h => c3 h.lenB]
    · rw [show (places w.B).isSome = false from by unfold ValidB at c2; simpa using c2, Bool.not_false, ct, ob, ct, hno fun h => c2 h.valid]
  · rw [decide_eq_false c1, Bool.not_false, ct, ob, ct, hno fun h => c1 h.conf]
/-- Is a block never to be counted? -/
def goneB (B : List Bk) (b : Bk) : Bool := (slotQ B (nm b)).isSome || (match slotQ B b.Parent with | some s => decide (s ≥ b.Slot) | none => false)
/-- Must it wait? -/
def waitB (B : List Bk) (upto : Int) (b : Bk) : Bool := match slotQ B b.Parent with | some _ => decide (b.Slot > upto) | none => true
def goneV (B : List Bk) (V : List Vt) (v : Vt) : Bool := decide (v ∈ V) || (match slotQ B v.Head with | some s => decide (s > v.Slot) | none => false)
def waitV (B : List Bk) (upto : Int) (v : Vt) : Bool := match slotQ B v.Head with | some _ => decide (v.Slot > upto) | none => true
def SmOk (B : List Bk) (sm : List (ID × Int)) : Prop := ∀ id, findE sm id = slotQ B id
def HmOk (V : List Vt) (hm : List (Vt × Bool)) : Prop := ∀ v, findE hm v = if v ∈ V then some true else none
structure SmR (B : List Bk) (sm : List (ID × Int)) : Prop where
  find : SmOk B sm
  len : sm.length ≤ B.length + 1
structure HmR (V : List Vt) (hm : List (Vt × Bool)) : Prop where
  find : HmOk V hm
  len : hm.length ≤ V.length
/-- A list in the beginning of another one. -/
structure PreL {α : Type} (lB : List α) (k : Nat) (l : List α) : Prop where
  take : lB.take k = l
  le : k ≤ lB.length
theorem PreL.len {α : Type} {lB l : List α} {k : Nat} (h : PreL lB k l) : l.length = k := by
  rw [← h.take, List.length_take]; have := h.le; omega
/-- What holds while those that stay are moved to the front. -/
structure Mv {α : Type} (l a : List α) (i j : Nat) (left : List α) : Prop where
  ij : i < j
  jl : j ≤ l.length
  len : l.length ≤ a.length
  left : a.take i = left
  rest : ∀ q, j ≤ q → q < l.length → a[q]? = l[q]?
/-- A view that grows, and what is left of what came. -/
structure GvS where
  B : List Bk
  V : List Vt
  full : Bool
  lB : List Bk
  lV : List Vt
open Classical in
/-- What is counted of what came, what is left, and whether there was no room. -/
noncomputable def takeP (c : Cf) (w inp : Vw) (slot : Int) : Vw × Vw × Bool :=
  if MayW c w then (⟨(takeT slot ⟨w.B, w.V, false, (onlyP c inp).B, (onlyP c inp).V⟩).B, (takeT slot ⟨w.B, w.V, false, (onlyP c inp).B, (onlyP c inp).V⟩).V⟩, ⟨(takeT slot ⟨w.B, w.V, false, (onlyP c inp).B, (onlyP c inp).V⟩).lB, (takeT slot ⟨w.B, w.V, false, (onlyP c inp).B, (onlyP c inp).V⟩).lV⟩, (takeT slot ⟨w.B, w.V, false, (onlyP c inp).B, (onlyP c inp).V⟩).full)
  else (w, inp, false)
/-- There is room for 60 blocks, and 240 votes. -/
def BelowT (s : GvS) : Prop := s.B.length ≤ 60 ∧ s.V.length ≤ 240
/-- The program's state is that of the plain one. -/
structure RepT (s : GvS) (x : F90_L1) : Prop where
  o6 : x.o6 = s.B
  o7 : x.o7 = s.V
  full : x.x_5 = s.full
  sm : SmR s.B x.o8
  hm : HmR s.V x.o9
  lB : PreL x.o14 x.left_0 s.lB
  lV : PreL x.o15 x.left_1 s.lV
open Classical in
theorem F90_eq {c : Cf} {w inp : Vw} {slot : Int} (h1 : w.B.length ≤ 1000) (h2 : w.V.length ≤ 1000) (h3 : inp.B.length ≤ 800) (h4 : inp.V.length ≤ 600) : F90 c w inp slot = some (takeP c w inp slot) := by
  unfold F90 takeP
  rw [F130_eq (by omega) (by omega), ob, F89_eq h1 h2, ob]
  by_cases hm : MayW c w
  · rw [decide_eq_true hm, Bool.not_true, cf, if_pos hm, F85V_eq (by omega) (by omega), ob]
    simp only
    have hfB : (onlyP c inp).B.length ≤ inp.B.length := List.length_filter_le _ _
    have hfV : (onlyP c inp).V.length ≤ inp.V.length := List.length_filter_le _ _
    have hr : RepT ⟨w.B, w.V, false, (onlyP c inp).B, (onlyP c inp).V⟩ (F90_L1.mk (-1) w.B w.V (smOf w.B) (hmOf w.V) false (onlyP c inp).B (onlyP c inp).V ((onlyP c inp).B.map blkP).length ((onlyP c inp).V.map vtP).length) :=
      ⟨rfl, rfl, rfl, ⟨smOf_find hm.valid, smOf_len w.B⟩, ⟨hmOf_find w.V, (hmOf_len w.V).1⟩, ⟨by simp, by simp⟩, ⟨by simp, by simp⟩⟩
    have hbel : BelowT ⟨w.B, w.V, false, (onlyP c inp).B, (onlyP c inp).V⟩ := ⟨hm.lenB, hm.lenV⟩
    generalize onlyP c inp = o at *
    obtain ⟨y, e, hy⟩ := F90_loop (upto := slot) 1000 _ _ 4611686018427387903 hr hbel (by simp only; omega) (by simp only; omega) (by simp only; omega) (by omega) (by omega)
    have e' : iter (F90_s1 slot) big (F90_L1.mk (-1) w.B w.V (smOf w.B) (hmOf w.V) false o.B o.V (o.B.map blkP).length (o.V.map vtP).length) = some y := e
    rw [e', ob]
    change RepT (takeT slot _) y at hy
    generalize takeT slot ⟨w.B, w.V, false, o.B, o.V⟩ = s at hy ⊢
    rw [Nat.ble_eq_true_of_le hy.lB.le, ct, Nat.ble_eq_true_of_le hy.lV.le, ct, hy.o6, hy.o7, hy.full, hy.lB.take, hy.lV.take]
  · rw [decide_eq_false hm, Bool.not_false, ct, if_neg hm, room_ok (by omega) (by omega), ct, room_ok (by omega) (by omega), ct]
/-- What holds of a view that grows. -/
structure InvT (w o : Vw) (upto : Int) (s : GvS) : Prop where
  preB : ∃ t, s.B = w.B ++ t ∧ ∀ b ∈ t, b ∈ o.B ∧ b.Slot ≤ upto
  preV : ∃ t, s.V = w.V ++ t ∧ ∀ v ∈ t, v ∈ o.V ∧ v.Slot ≤ upto
  valid : ValidB s.B
  nodup : s.V.Nodup
  forB : ∀ v ∈ s.V, forB s.B v
  below : BelowT s
  subB : s.lB.Sublist o.B
  subV : s.lV.Sublist o.V
  allB : ∀ b ∈ o.B, b ∈ s.lB ∨ goneB s.B b = true
  allV : ∀ v ∈ o.V, v ∈ s.lV ∨ goneV s.B s.V v = true
/-- What holds at the end: what is left is not gone, and must wait, or there was no room. -/
structure EndT (upto : Int) (s : GvS) : Prop where
  B : ∀ b ∈ s.lB, goneB s.B b = false ∧ (waitB s.B upto b = true ∨ 60 ≤ s.B.length ∧ s.full = true)
  V : ∀ v ∈ s.lV, goneV s.B s.V v = false ∧ (waitV s.B upto v = true ∨ 240 ≤ s.V.length ∧ s.full = true)
/-- What is taken, told at once. -/
structure Took (c : Cf) (w inp : Vw) (upto : Int) (r : Vw × Vw × Bool) : Prop where
  may : MayW c r.1
  preB : ∃ t, r.1.B = w.B ++ t ∧ ∀ b ∈ t, b ∈ (onlyP c inp).B ∧ b.Slot ≤ upto
  preV : ∃ t, r.1.V = w.V ++ t ∧ ∀ v ∈ t, v ∈ (onlyP c inp).V ∧ v.Slot ≤ upto
  subB : r.2.1.B.Sublist (onlyP c inp).B
  subV : r.2.1.V.Sublist (onlyP c inp).V
  allB : ∀ b ∈ (onlyP c inp).B, b ∈ r.2.1.B ∨ goneB r.1.B b = true
  allV : ∀ v ∈ (onlyP c inp).V, v ∈ r.2.1.V ∨ goneV r.1.B r.1.V v = true
  endB : ∀ b ∈ r.2.1.B, goneB r.1.B b = false ∧ (waitB r.1.B upto b = true ∨ 60 ≤ r.1.B.length ∧ r.2.2 = true)
  endV : ∀ v ∈ r.2.1.V, goneV r.1.B r.1.V v = false ∧ (waitV r.1.B upto v = true ∨ 240 ≤ r.1.V.length ∧ r.2.2 = true)
end Go.Mg
