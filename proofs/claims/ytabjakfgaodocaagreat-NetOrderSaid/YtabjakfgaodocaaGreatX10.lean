/- Plain laws of views: which views may be. Plain laws of views: what is taken. Plain laws of views: what is taken, as the program does it. Plain laws of views: votes that are taken, as the program does it. Plain laws of views: view.Take. Plain laws of views: what holds of what is taken. Laws of views. The laws of views' example. Laws of views. Laws of views: ViewOnly, ViewJoin. Laws of views. Laws of views. Laws of views: ViewMay, ViewKeeps. Plain laws of views: what is counted, as a set. Laws of views. Laws of views. Laws of views. Plain laws of views: order, and all. Nets, plain: how much nodes have; what they have together. Laws of nets, plain: what all have together, in whatever order. What arguments are: offers, nodes. How the program's own line of words reads, letter by letter; facts of the whole program that each row asks for. Conditions: none. -/
import Derived.Test.YtabjakfgaodocaaGreatX9
import Derived.Test.YtabjakfgaodocaaGreatX8
import Derived.Test.YtabjakfgaodocaaGreatX7
import Derived.Test.YtabjakfgaodocaaGreatRows
import Derived.ProofKit
import Derived.OpenShut
namespace Go.Mg
def slotQ (B : List Bk) (id : ID) : Option Int := if id = (0, 0) then some 0 else (B.find? fun b => decide (nm b = id)).map Bk.Slot
def ValidB (B : List Bk) : Prop := (places B).isSome = true
def forB (B : List Bk) (v : Vt) : Prop := ∃ s, slotQ B v.Head = some s ∧ s ≤ v.Slot
structure MayW (c : Cf) (w : Vw) : Prop where
  conf : MayC c
  valid : ValidB w.B
  lenB : w.B.length ≤ 60
  lenV : w.V.length ≤ 240
  mayB : ∀ b ∈ w.B, mayB c b = true
  mayV : ∀ v ∈ w.V, mayV c v = true
  nodup : w.V.Nodup
  forB : ∀ v ∈ w.V, forB w.B v
def goneB (B : List Bk) (b : Bk) : Bool := (slotQ B (nm b)).isSome || (match slotQ B b.Parent with | some s => decide (s ≥ b.Slot) | none => false)
def waitB (B : List Bk) (upto : Int) (b : Bk) : Bool := match slotQ B b.Parent with | some _ => decide (b.Slot > upto) | none => true
def goneV (B : List Bk) (V : List Vt) (v : Vt) : Bool := decide (v ∈ V) || (match slotQ B v.Head with | some s => decide (s > v.Slot) | none => false)
def waitV (B : List Bk) (upto : Int) (v : Vt) : Bool := match slotQ B v.Head with | some _ => decide (v.Slot > upto) | none => true
def SmOk (B : List Bk) (sm : List (ID × Int)) : Prop := ∀ id, findE sm id = slotQ B id
def HmOk (V : List Vt) (hm : List (Vt × Bool)) : Prop := ∀ v, findE hm v = if v ∈ V then some true else none
structure SmR (B : List Bk) (sm : List (ID × Int)) : Prop where
  find : SmOk B sm
  len : sm.length ≤ B.length + 1
structure HmR (V : List Vt) (hm : List (Vt × Bool)) : Prop where
  find : HmOk V hm
  len : hm.length ≤ V.length
structure PreL {α : Type} (lB : List α) (k : Nat) (l : List α) : Prop where
  take : lB.take k = l
  le : k ≤ lB.length
theorem PreL.len {α : Type} {lB l : List α} {k : Nat} (h : PreL lB k l) : l.length = k := by
  rw [← h.take, List.length_take]; have := h.le; omega
structure Mv {α : Type} (l a : List α) (i j : Nat) (left : List α) : Prop where
  ij : i < j
  jl : j ≤ l.length
  len : l.length ≤ a.length
  left : a.take i = left
  rest : ∀ q, j ≤ q → q < l.length → a[q]? = l[q]?
structure GvS where
  B : List Bk
  V : List Vt
  full : Bool
  lB : List Bk
  lV : List Vt
def BelowT (s : GvS) : Prop := s.B.length ≤ 60 ∧ s.V.length ≤ 240
structure RepT (s : GvS) (x : F90_L1) : Prop where
  o6 : x.o6 = s.B
  o7 : x.o7 = s.V
  full : x.x_5 = s.full
  sm : SmR s.B x.o8
  hm : HmR s.V x.o9
  lB : PreL x.o14 x.left_0 s.lB
  lV : PreL x.o15 x.left_1 s.lV
structure InvT (w o : Vw) (upto : Int) (s : GvS) : Prop where
  preB : ∃ t, s.B = w.B ++ t ∧ ∀ b ∈ t, b ∈ o.B ∧ b.Slot ≤ upto
  preV : ∃ t, s.V = w.V ++ t ∧ ∀ v ∈ t, v ∈ o.V ∧ v.Slot ≤ upto
  valid : ValidB s.B
  nodup : s.V.Nodup
  forB : ∀ v ∈ s.V, forB s.B v
  below : BelowT s
  subB : s.lB.Sublist o.B
  subV : s.lV.Sublist o.V
  allB : ∀ b ∈ o.B, b ∈ s.lB ∨ goneB s.B b = true
  allV : ∀ v ∈ o.V, v ∈ s.lV ∨ goneV s.B s.V v = true
structure EndT (upto : Int) (s : GvS) : Prop where
  B : ∀ b ∈ s.lB, goneB s.B b = false ∧ (waitB s.B upto b = true ∨ 60 ≤ s.B.length ∧ s.full = true)
  V : ∀ v ∈ s.lV, goneV s.B s.V v = false ∧ (waitV s.B upto v = true ∨ 240 ≤ s.V.length ∧ s.full = true)
structure Took (c : Cf) (w inp : Vw) (upto : Int) (r : Vw × Vw × Bool) : Prop where
  may : MayW c r.1
  preB : ∃ t, r.1.B = w.B ++ t ∧ ∀ b ∈ t, b ∈ (onlyP c inp).B ∧ b.Slot ≤ upto
  preV : ∃ t, r.1.V = w.V ++ t ∧ ∀ v ∈ t, v ∈ (onlyP c inp).V ∧ v.Slot ≤ upto
  subB : r.2.1.B.Sublist (onlyP c inp).B
  subV : r.2.1.V.Sublist (onlyP c inp).V
  allB : ∀ b ∈ (onlyP c inp).B, b ∈ r.2.1.B ∨ goneB r.1.B b = true
  allV : ∀ v ∈ (onlyP c inp).V, v ∈ r.2.1.V ∨ goneV r.1.B r.1.V v = true
  endB : ∀ b ∈ r.2.1.B, goneB r.1.B b = false ∧ (waitB r.1.B upto b = true ∨ 60 ≤ r.1.B.length ∧ r.2.2 = true)
  endV : ∀ v ∈ r.2.1.V, goneV r.1.B r.1.V v = false ∧ (waitV r.1.B upto v = true ∨ 240 ≤ r.1.V.length ∧ r.2.2 = true)
open Go.Proofs
open Go.Proofs
theorem filter_len_snoc {α : Type} {p : α → Bool} {l : List α} {n : Nat} {y : α} (hy : l[n]? = some y) : ((l.take (n + 1)).filter p).length = ((l.take n).filter p).length + bif p y then 1 else 0 := by
  rw [filter_take_snoc hy, List.length_append]
  cases p y <;> rfl
theorem inL_len {α : Type} {l : List α} {n : Nat} (h : n ≤ l.length) : inL l 0 (n : Int) = true := inL_hi (by omega) (by omega)
open Go.Proofs
open Go.Proofs
theorem nodup_len {α : Type} [DecidableEq α] : ∀ {l L : List α}, l.Nodup → (∀ x ∈ l, x ∈ L) → l.length ≤ L.length
  | [], _, _, _ => Nat.zero_le _
  | x :: r, L, h, hs => by
    rw [List.nodup_cons] at h
    have hx := hs x (.head _)
    have h1 := nodup_len (L := L.erase x) h.2 fun y hy => (List.mem_erase_of_ne (show y ≠ x from fun e => h.1 (by rw [← e]; exact hy))).2 (hs y (.tail _ hy))
    have h2 := List.length_erase_of_mem hx
    have h3 := List.length_pos_of_mem hx
    simp only [List.length_cons]; omega
inductive CB (base o : List Bk) (upto : Int) : Bk → Prop
  | base {b : Bk} : b ∈ base → CB base o upto b
  | root {b : Bk} : b ∈ o → b.Slot ≤ upto → b.Parent = (0, 0) → 0 < b.Slot → CB base o upto b
  | step {b p : Bk} : b ∈ o → b.Slot ≤ upto → CB base o upto p → nm p = b.Parent → p.Slot < b.Slot → CB base o upto b
theorem CB.mono {base base' o o' : List Bk} {upto upto' : Int} (h1 : ∀ b ∈ base, CB base' o' upto' b) (h2 : ∀ b ∈ o, b ∈ o') (h3 : upto ≤ upto') {b : Bk} (h : CB base o upto b) : CB base' o' upto' b := by
  induction h with
  | base h => exact h1 _ h
  | root a1 a2 a3 a4 => exact .root (h2 _ a1) (Int.le_trans a2 h3) a3 a4
  | step a1 a2 _ a4 a5 ih => exact .step (h2 _ a1) (Int.le_trans a2 h3) ih a4 a5
structure Rm (U : Vw) : Prop where
  inj : ∀ a ∈ U.B, ∀ b ∈ U.B, nm a = nm b → a = b
  B : U.B.length < 60
  V : U.V.length < 240
open Go.Proofs
open Go.Proofs
open Go.Proofs
open Classical in
theorem scan_loop {S R : Type} {step : S → Option (S ⊕ (S ⊕ R))} {n : Nat} (mk : Nat → S) (r0 : R) (P : Nat → Prop) (hs : ∀ j, j < n → step (mk j) = some (.inr (.inr r0)) ∨ (step (mk j) = some (.inl (mk (j + 1))) ∧ P j))
    (he : step (mk n) = some (.inr (.inl (mk n)))) (hn : n < 4000000000000000000) : iter step big (mk 0) = some (.inr r0) ∨ (iter step big (mk 0) = some (.inl (mk n)) ∧ ∀ j, j < n → P j) := by
  have e := search_loop mk (fun j => if step (mk j) = some (.inl (mk (j + 1))) ∧ P j then none else some r0) (fun j hj => by
    by_cases h : step (mk j) = some (.inl (mk (j + 1))) ∧ P j
    · simp only [if_pos h]; exact h.1
    · simp only [if_neg h]; exact (hs j hj).resolve_right h) he hn
  rw [e]
  cases h : firstF (fun j => if step (mk j) = some (.inl (mk (j + 1))) ∧ P j then none else some r0) 0 n with
  | none =>
    right
    refine ⟨rfl, fun j hj => ?_⟩
    have := firstF_none.1 h j (Nat.zero_le _) (by omega)
    split at this
    · rename_i h2; exact h2.2
    · cases this
  | some r =>
    left
    obtain ⟨j, -, -, h2, -⟩ := firstF_some h
    split at h2
    · cases h2
    · cases h2; rfl
theorem F163_eq {l : List Vt} (hl : l.length ≤ 100000) (v : Vt) : F163 l v = some ((l.filter fun y => decide (y = v)).length : Int) := by
  have e := count_loop (step := F163_s1 l v) (n := l.length) (fun k => F163_L1.mk (((l.take k).filter fun y => decide (y = v)).length : Int) (k : Int)) (F163_L1.mk ((l.filter fun y => decide (y = v)).length : Int) (l.length : Int)) (fun k hk => by
    obtain ⟨y, hy, -⟩ := get_of hk
    have hf := filter_take_len (p := fun y => decide (y = v)) (l := l) k
    unfold F163_s1
    simp only
    rw [decide_eq_true (show (k : Int) < (l.length : Int) by omega), ct, ix_nat hy, ob, eqVt, filter_len_snoc hy, wrap_succ (n := k) (by omega), wrap_succ (n := _) (by omega)]
    cases decide (y = v) with
    | true => rw [ct, ct]
    | false => rw [cf, cf]; rfl) (by
    unfold F163_s1
    simp only
    rw [decide_eq_false (show ¬ (l.length : Int) < (l.length : Int) by omega), cf, List.take_length]) (by omega)
  have e' : iter (F163_s1 l v) big (F163_L1.mk 0 0) = some (F163_L1.mk ((l.filter fun y => decide (y = v)).length : Int) (l.length : Int)) := e
  unfold F163
  rw [e', ob]
theorem count_zero {l : List Vt} {v : Vt} : (((l.filter fun y => decide (y = v)).length : Int) == 0) = !decide (v ∈ l) := by
  by_cases h : v ∈ l
  · rw [decide_eq_true h]
    have : 0 < (l.filter fun y => decide (y = v)).length := List.length_pos_of_mem (List.mem_filter.2 ⟨h, decide_eq_true rfl⟩)
    rw [beq_eq_false_iff_ne.2 (by omega)]; rfl
  · rw [decide_eq_false h, List.filter_eq_nil_iff.2 fun y hy he => h (by rw [← of_decide_eq_true he]; exact hy)]; rfl
theorem F141_eq {a b : Vw} (h1 : a.B.length + b.B.length ≤ 90000) (h2 : a.V.length + b.V.length ≤ 90000) : F141 a b = some (joinP a b) := by
  have e1 := count_loop (step := F141_s1 b) (n := b.B.length) (fun k => F141_L1.mk (k : Int) (withP a.B (b.B.take k))) (F141_L1.mk (b.B.length : Int) (withP a.B b.B)) (fun k hk => by
    obtain ⟨y, hy, -⟩ := get_of hk
    have hlen := withP_len (b.B.take k) a.B
    have htl : (b.B.take k).length ≤ k := by rw [List.length_take]; omega
    rw [take_succ_getG hy, withP_snoc]
    generalize withP a.B (b.B.take k) = o at hlen ⊢
    have e := count_loop (step := F141_s2 b (F141_L1.mk (k : Int) o)) (n := o.length) (fun j => F141_L2.mk (decide (y ∈ o.take j)) (j : Int)) (F141_L2.mk (decide (y ∈ o)) (o.length : Int)) (fun j hj => by
      obtain ⟨z, hz, -⟩ := get_of hj
      unfold F141_s2
      simp only
      rw [decide_eq_true (show (j : Int) < (o.length : Int) by omega), ct, wrap_succ (n := j) (by omega), take_succ_getG hz]
      by_cases hm : y ∈ o.take j
      · rw [decide_eq_true hm, ct, decide_eq_true (List.mem_append_left _ hm)]
      · rw [decide_eq_false hm, cf, ix_nat hz, ob, ix_nat hy, ob, eqBk]
        rw [show decide (y ∈ o.take j ++ [z]) = decide (z = y) from decide_eq_decide.2 ⟨fun h => by
          rcases List.mem_append.1 h with h | h
          · exact absurd h hm
          · exact (List.mem_singleton.1 h).symm, fun h => List.mem_append_right _ (List.mem_singleton.2 h.symm)⟩]) (by
      unfold F141_s2
      simp only
      rw [decide_eq_false (show ¬ (o.length : Int) < (o.length : Int) by omega), cf, List.take_length]) (by omega)
    have e' : iter (F141_s2 b (F141_L1.mk (k : Int) o)) big (F141_L2.mk false 0) = some (F141_L2.mk (decide (y ∈ o)) (o.length : Int)) := e
    unfold F141_s1
    simp only
    rw [decide_eq_true (show (k : Int) < (b.B.length : Int) by omega), ct, e', ob, wrap_succ (n := k) (by omega)]
    by_cases hm : y ∈ o
    · simp only [decide_eq_true hm, Bool.not_true, cf, if_pos hm]
    · simp only [decide_eq_false hm, Bool.not_false, ct, if_neg hm]
      rw [ix_nat hy, ob, room_ok (by simp only [List.length_singleton]; omega) (by omega), ct]) (by
    unfold F141_s1
    simp only
    rw [decide_eq_false (show ¬ (b.B.length : Int) < (b.B.length : Int) by omega), cf, List.take_length]) (by omega)
  have e1' : iter (F141_s1 b) big (F141_L1.mk 0 a.B) = some (F141_L1.mk (b.B.length : Int) (withP a.B b.B)) := e1
  have e2 := count_loop (step := F141_s3 b) (n := b.V.length) (fun k => F141_L3.mk (k : Int) (withP a.V (b.V.take k))) (F141_L3.mk (b.V.length : Int) (withP a.V b.V)) (fun k hk => by
    obtain ⟨y, hy, -⟩ := get_of hk
    have hlen := withP_len (b.V.take k) a.V
    have htl : (b.V.take k).length ≤ k := by rw [List.length_take]; omega
    rw [take_succ_getG hy, withP_snoc]
    generalize withP a.V (b.V.take k) = o at hlen ⊢
    unfold F141_s3
    simp only
    rw [decide_eq_true (show (k : Int) < (b.V.length : Int) by omega), ct, ix_nat hy, ob, F163_eq (by omega), ob, count_zero, wrap_succ (n := k) (by omega)]
    by_cases hm : y ∈ o
    · simp only [decide_eq_true hm, Bool.not_true, cf, if_pos hm]
    · simp only [decide_eq_false hm, Bool.not_false, ct, if_neg hm]
      rw [ob, room_ok (by simp only [List.length_singleton]; omega) (by omega), ct]) (by
    unfold F141_s3
    simp only
    rw [decide_eq_false (show ¬ (b.V.length : Int) < (b.V.length : Int) by omega), cf, List.take_length]) (by omega)
  have e2' : iter (F141_s3 b) big (F141_L3.mk 0 a.V) = some (F141_L3.mk (b.V.length : Int) (withP a.V b.V)) := e2
  unfold F141
  rw [room_ok (by omega) (by omega), ct, room_ok (by omega) (by omega), ct, e1', ob, e2', ob]
  rfl
theorem nodup_same {α : Type} [DecidableEq α] {a b : List α} (ha : a.Nodup) (hb : b.Nodup) (h : ∀ x, x ∈ a ↔ x ∈ b) : a.length = b.length :=
  Nat.le_antisymm (nodup_len ha fun x hx => (h x).1 hx) (nodup_len hb fun x hx => (h x).2 hx)
theorem F92_same {a b : Vw} (h1 : a.B.length ≤ 1000) (h2 : a.V.length ≤ 1000) (n1 : a.B.Nodup) (n2 : b.B.Nodup) (n3 : a.V.Nodup) (n4 : b.V.Nodup) (hB : ∀ x, x ∈ a.B ↔ x ∈ b.B) (hV : ∀ x, x ∈ a.V ↔ x ∈ b.V) : F92 a b = some true := by
  have lB := nodup_same n1 n2 hB
  have lV := nodup_same n3 n4 hV
  have hj : joinP a b = a := by
    unfold joinP
    rw [withP_sub fun x hx => (hB x).2 hx, withP_sub fun x hx => (hV x).2 hx]
  unfold F92
  rw [F141_eq (by omega) (by omega), hj]
  simp [lB, lV]
def SmallV (k : Int) (w : Vw) : Prop := (w.B.length : Int) ≤ k ∧ (w.V.length : Int) ≤ k
def SmallN (k : Int) (n : Nd) : Prop := SmallV k n.V ∧ SmallV k n.In ∧ n.O.length ≤ 10 ∧ ∀ o ∈ n.O, SmallV k o.V
theorem F3016_or (l : List Of) (k : Int) : F3016 l k = some false ∨ (F3016 l k = some true ∧ l.length ≤ 10 ∧ ∀ o ∈ l, SmallV k o.V) := by
  unfold F3016
  by_cases h10 : (l.length : Int) > 10
  · rw [decide_eq_true h10, ct]; exact .inl rfl
  · rw [decide_eq_false h10, cf]
    have e := scan_loop (step := F3016_s1 l k) (n := l.length) (fun j => F3016_L1.mk (j : Int)) false (fun j => ∀ o, l[j]? = some o → SmallV k o.V) (fun j hj => by
      obtain ⟨y, hy, -⟩ := get_of hj
      unfold F3016_s1
      simp only
      rw [decide_eq_true (show (j : Int) < (l.length : Int) by omega), ct, ix_nat hy, ob, F84_eq, ob, wrap_succ (n := j) (by omega)]
      by_cases h : (y.V.B.length : Int) ≤ k ∧ (y.V.V.length : Int) ≤ k
      · rw [decide_eq_true h, Bool.not_true, cf]; exact .inr ⟨rfl, fun o ho => by rw [hy] at ho; cases ho; exact h⟩
      · rw [decide_eq_false h, Bool.not_false, ct]; exact .inl rfl) (by
      unfold F3016_s1
      simp only
      rw [decide_eq_false (show ¬ (l.length : Int) < (l.length : Int) by omega), cf]) (by omega)
    rcases e with e | ⟨e, h⟩
    · have e' : iter (F3016_s1 l k) big (F3016_L1.mk 0) = _ := e
      rw [e', ob, sr]; exact .inl rfl
    · have e' : iter (F3016_s1 l k) big (F3016_L1.mk 0) = _ := e
      rw [e', ob, sl]
      exact .inr ⟨rfl, by omega, fun o ho => by obtain ⟨j, hj⟩ := List.getElem?_of_mem ho; exact h j (List.getElem?_eq_some_iff.1 hj).1 o hj⟩
theorem F3014_or (n : Nd) (k : Int) : F3014 n k = some false ∨ (F3014 n k = some true ∧ SmallN k n) := by
  unfold F3014
  rw [F84_eq, ob, F84_eq, ob]
  rcases F3016_or n.O k with e | ⟨e, h1, h2⟩
  · rw [e, ob]
    cases decide ((n.V.B.length : Int) ≤ k ∧ (n.V.V.length : Int) ≤ k) <;> cases decide ((n.In.B.length : Int) ≤ k ∧ (n.In.V.length : Int) ≤ k) <;> exact .inl rfl
  · rw [e, ob]
    by_cases ha : (n.V.B.length : Int) ≤ k ∧ (n.V.V.length : Int) ≤ k
    · rw [decide_eq_true ha, ct]
      by_cases hb : (n.In.B.length : Int) ≤ k ∧ (n.In.V.length : Int) ≤ k
      · rw [decide_eq_true hb, ct]; exact .inr ⟨rfl, ha, hb, h1, h2⟩
      · rw [decide_eq_false hb, cf]; exact .inl rfl
    · rw [decide_eq_false ha, cf]; exact .inl rfl
theorem F3030_or (l : List Nd) {m : Int} (hm : m ≤ 1000) (k : Int) : F3030 l m k = some false ∨ (F3030 l m k = some true ∧ (l.length : Int) ≤ m ∧ ∀ n ∈ l, SmallN k n) := by
  unfold F3030
  by_cases h10 : (l.length : Int) > m
  · rw [decide_eq_true h10, ct]; exact .inl rfl
  · rw [decide_eq_false h10, cf]
    have e := scan_loop (step := F3030_s1 l k) (n := l.length) (fun j => F3030_L1.mk (j : Int)) false (fun j => ∀ o, l[j]? = some o → SmallN k o) (fun j hj => by
      obtain ⟨y, hy, -⟩ := get_of hj
      unfold F3030_s1
      simp only
      rw [decide_eq_true (show (j : Int) < (l.length : Int) by omega), ct, ix_nat hy, ob, wrap_succ (n := j) (by omega)]
      rcases F3014_or y k with e | ⟨e, h⟩
      · rw [e, ob, Bool.not_false, ct]; exact .inl rfl
      · rw [e, ob, Bool.not_true, cf]; exact .inr ⟨rfl, fun o ho => by rw [hy] at ho; cases ho; exact h⟩) (by
      unfold F3030_s1
      simp only
      rw [decide_eq_false (show ¬ (l.length : Int) < (l.length : Int) by omega), cf]) (by omega)
    rcases e with e | ⟨e, h⟩
    · have e' : iter (F3030_s1 l k) big (F3030_L1.mk 0) = _ := e
      rw [e', ob, sr]; exact .inl rfl
    · have e' : iter (F3030_s1 l k) big (F3030_L1.mk 0) = _ := e
      rw [e', ob, sl]
      exact .inr ⟨rfl, by omega, fun o ho => by obtain ⟨j, hj⟩ := List.getElem?_of_mem ho; exact h j (List.getElem?_eq_some_iff.1 hj).1 o hj⟩
def knownP (n : Nd) : Vw := joinP n.V n.In
theorem known_len {n : Nd} {k : Int} (h : SmallN k n) : ((knownP n).B.length : Int) ≤ 2 * k ∧ ((knownP n).V.length : Int) ≤ 2 * k := by
  obtain ⟨⟨a1, a2⟩, ⟨b1, b2⟩, -⟩ := h
  have h1 := withP_len n.In.B n.V.B
  have h2 := withP_len n.In.V n.V.V
  unfold knownP joinP
  simp only
  omega
theorem F1051_eq {n : Nd} {k : Int} (h : SmallN k n) (hk : k ≤ 1000) : F1051 n = some (knownP n) := by
  obtain ⟨⟨a1, a2⟩, ⟨b1, b2⟩, -⟩ := h
  unfold F1051
  rw [F91_eq (by omega) (by omega)]; rfl
def allP (l : List Nd) (w : Vw) : Vw := l.foldl (fun w n => joinP w (knownP n)) w
theorem allP_snoc (l : List Nd) (n : Nd) (w : Vw) : allP (l ++ [n]) w = joinP (allP l w) (knownP n) := by unfold allP; rw [List.foldl_append]; rfl
theorem allP_len {k : Int} : ∀ {l : List Nd} {w : Vw}, (∀ n ∈ l, SmallN k n) → ((allP l w).B.length : Int) ≤ w.B.length + l.length * (2 * k) ∧ ((allP l w).V.length : Int) ≤ w.V.length + l.length * (2 * k)
  | [], w, _ => by simp [allP]
  | n :: r, w, h => by
    have h1 := known_len (h n (.head _))
    have h2 := allP_len (l := r) (w := joinP w (knownP n)) fun m hm => h m (.tail _ hm)
    have h3 := withP_len (knownP n).B w.B
    have h4 := withP_len (knownP n).V w.V
    have e : allP (n :: r) w = allP r (joinP w (knownP n)) := rfl
    have e1 : (joinP w (knownP n)).B = withP w.B (knownP n).B := rfl
    have e2 : (joinP w (knownP n)).V = withP w.V (knownP n).V := rfl
    rw [e, List.length_cons, Int.natCast_add, Int.add_mul]
    rw [e1, e2] at h2
    omega
theorem mem_allB {b : Bk} : ∀ {l : List Nd} {w : Vw}, b ∈ (allP l w).B ↔ b ∈ w.B ∨ ∃ n ∈ l, b ∈ (knownP n).B
  | [], w => by simp [allP]
  | n :: r, w => by
    have e : allP (n :: r) w = allP r (joinP w (knownP n)) := rfl
    rw [e, mem_allB]
    have e1 : (joinP w (knownP n)).B = withP w.B (knownP n).B := rfl
    rw [e1, withP_mem]
    simp [or_assoc]
theorem mem_allV {v : Vt} : ∀ {l : List Nd} {w : Vw}, v ∈ (allP l w).V ↔ v ∈ w.V ∨ ∃ n ∈ l, v ∈ (knownP n).V
  | [], w => by simp [allP]
  | n :: r, w => by
    have e : allP (n :: r) w = allP r (joinP w (knownP n)) := rfl
    rw [e, mem_allV]
    have e1 : (joinP w (knownP n)).V = withP w.V (knownP n).V := rfl
    rw [e1, withP_mem]
    simp [or_assoc]
theorem all_nodup : ∀ {l : List Nd} {w : Vw}, w.B.Nodup → w.V.Nodup → (allP l w).B.Nodup ∧ (allP l w).V.Nodup
  | [], w, h1, h2 => ⟨h1, h2⟩
  | n :: r, w, h1, h2 => all_nodup (l := r) (w := joinP w (knownP n)) (withP_nodup h1) (withP_nodup h2)
theorem FEachA_eq {l : List Nd} {w : Vw} (hl : l.length ≤ 100) (hs : ∀ n ∈ l, SmallN 100 n) (h1 : w.B.length ≤ 1000) (h2 : w.V.length ≤ 1000) : FEachA l w = some (allP l w) := by
  have e := count_loop (step := FEachA_s1 l) (n := l.length) (fun k => FEachA_L1.mk (k : Int) (allP (l.take k) w)) (FEachA_L1.mk (l.length : Int) (allP l w)) (fun k hk => by
    obtain ⟨y, hy, hm⟩ := get_of hk
    have et : l.take (k + 1) = l.take k ++ [y] := by rw [List.take_add_one, hy]; rfl
    have hsy := hs y hm
    have hlen := allP_len (l := l.take k) (w := w) fun m hm => hs m (List.mem_of_mem_take hm)
    rw [List.length_take] at hlen
    have hkn := known_len hsy
    have hmul : ((Min.min k l.length : Nat) : Int) * (2 * 100) ≤ 100 * (2 * 100) := Int.mul_le_mul_of_nonneg_right (by omega) (by omega)
    unfold FEachA_s1
    simp only
    rw [decide_eq_true (show (k : Int) < (l.length : Int) by omega), ct, ix_nat hy, ob, et, allP_snoc, wrap_succ (n := k) (by omega)]
    unfold FAll1
    rw [F1051_eq hsy (by omega), ob, F91_eq (by omega) (by omega), ob]
    rfl) (by
    unfold FEachA_s1
    simp only
    rw [decide_eq_false (show ¬ (l.length : Int) < (l.length : Int) by omega), cf, List.take_length]) (by omega)
  have e' : iter (FEachA_s1 l) big (FEachA_L1.mk 0 w) = _ := e
  unfold FEachA
  rw [e', ob]
theorem F1031_eq {l : List Nd} (hl : l.length ≤ 100) (hs : ∀ n ∈ l, SmallN 100 n) : F1031 l = some (allP l ⟨[], []⟩) := by
  unfold F1031
  rw [FEachA_eq hl hs (Nat.zero_le _) (Nat.zero_le _)]; rfl
theorem small_mono {k k' : Int} {n : Nd} (h : SmallN k n) (hk : k ≤ k') : SmallN k' n := by
  obtain ⟨⟨a1, a2⟩, ⟨b1, b2⟩, c, d⟩ := h
  exact ⟨⟨by omega, by omega⟩, ⟨by omega, by omega⟩, c, fun o ho => ⟨by have := (d o ho).1; omega, by have := (d o ho).2; omega⟩⟩
theorem all_bound {l : List Nd} (hl : l.length ≤ 6) (hs : ∀ n ∈ l, SmallN 20 n) : (allP l ⟨[], []⟩).B.length ≤ 240 ∧ (allP l ⟨[], []⟩).V.length ≤ 240 := by
  have h := allP_len (w := ⟨[], []⟩) hs
  simp only [List.length_nil] at h
  omega
theorem full_first (l : List Nd) : (firstF (fun j => match l[j]? with | some y => if y.Full = true then some (j : Int) else none | none => none) 0 l.length).isSome = l.any Nd.Full := by
  cases h : firstF (fun j => match l[j]? with | some y => if y.Full = true then some (j : Int) else none | none => none) 0 l.length with
  | none =>
    symm
    rw [Option.isSome_none, List.any_eq_false]
    intro x hx
    obtain ⟨j, hj⟩ := List.getElem?_of_mem hx
    have := firstF_none.1 h j (Nat.zero_le _) (by have := (List.getElem?_eq_some_iff.1 hj).1; omega)
    rw [hj] at this
    simp only at this
    split at this
    · cases this
    · assumption
  | some r =>
    symm
    rw [Option.isSome_some, List.any_eq_true]
    obtain ⟨j, -, -, h3, -⟩ := firstF_some h
    split at h3
    · rename_i y hy
      split at h3
      · rename_i hf; exact ⟨y, List.mem_of_getElem? hy, hf⟩
      · cases h3
    · cases h3
theorem F3033_eq {l : List Nd} (hl : l.length ≤ 100000) : F3033 l = some (l.any Nd.Full) := by
  have e := search_loop (step := FIxn_s1 l) (n := l.length) (fun k => FIxn_L1.mk (k : Int)) (fun j => match l[j]? with | some y => if y.Full = true then some (j : Int) else none | none => none) (fun j hj => by
    obtain ⟨y, hy, -⟩ := get_of hj
    unfold FIxn_s1 F3076
    simp only
    rw [decide_eq_true (show (j : Int) < (l.length : Int) by omega), ct, ix_nat hy, ob, ob, wrap_succ (n := j) (by omega), hy]
    cases hf : y.Full with
    | true => rw [ct]; simp [hf]
    | false => rw [cf]; simp [hf]) (by
    unfold FIxn_s1
    simp only
    rw [decide_eq_false (show ¬ (l.length : Int) < (l.length : Int) by omega), cf]) (by omega)
  have e' : iter (FIxn_s1 l) big (FIxn_L1.mk 0) = _ := e
  unfold F3033 FCfn FIxn
  rw [← full_first, e', ob]
  cases h : firstF (fun j => match l[j]? with | some y => if y.Full = true then some (j : Int) else none | none => none) 0 l.length with
  | none => rw [outF, sl, ob]; rfl
  | some r =>
    have h0 : r ≥ 0 := by
      obtain ⟨j, -, -, h3, -⟩ := firstF_some h
      split at h3
      · split at h3
        · cases h3; omega
        · cases h3
      · cases h3
    rw [outF, sr, ob, decide_eq_true h0]; rfl
theorem netOrder (ha : F3029 = some true) (l : List Nd) (at_ : Int) : F3008 l at_ = some true := by
  unfold F3008
  rw [ha, ob]
  rcases F3030_or l (m := 6) (by omega) 20 with e | ⟨e, hl, hs⟩
  · rw [e, ob, Bool.not_true, cf, Bool.not_false, ct, ob, ct]
  rw [e, ob, Bool.not_true, cf, cf]
  by_cases h2 : at_ < 0
  · rw [decide_eq_true h2, ct, ob, ct]
  rw [decide_eq_false h2, cf, ob]
  by_cases h3 : at_ > (l.length : Int)
  · rw [decide_eq_true h3, ct]
  rw [decide_eq_false h3, cf]
  obtain ⟨n, rfl⟩ : ∃ n : Nat, at_ = n := ⟨at_.toNat, by omega⟩
  have hs' : ∀ m ∈ l, SmallN 100 m := fun m hm => small_mono (hs m hm) (by omega)
  have hmem : ∀ m, m ∈ l.drop n ++ l.take n ↔ m ∈ l := fun m => by
    rw [List.mem_append, or_comm, ← List.mem_append, List.take_append_drop]
  have hlen : (l.drop n ++ l.take n).length ≤ 6 := by rw [List.length_append, List.length_drop, List.length_take]; omega
  have hs2 : ∀ m ∈ l.drop n ++ l.take n, SmallN 20 m := fun m hm => hs m ((hmem m).1 hm)
  have hb := all_bound (by omega) hs
  have hb2 := all_bound hlen hs2
  have hd := all_nodup (l := l) (w := ⟨[], []⟩) List.nodup_nil List.nodup_nil
  have hd2 := all_nodup (l := l.drop n ++ l.take n) (w := ⟨[], []⟩) List.nodup_nil List.nodup_nil
  have hin : inL l (n : Int) l.length = true := by
    unfold inL
    exact decide_eq_true (by omega)
  have h92 : F92 (allP l ⟨[], []⟩) (allP (l.drop n ++ l.take n) ⟨[], []⟩) = some true := F92_same (by omega) (by omega) hd.1 hd2.1 hd.2 hd2.2
    (fun x => by
      rw [mem_allB, mem_allB]
      exact ⟨fun h => h.imp id fun ⟨m, hm, h⟩ => ⟨m, (hmem m).2 hm, h⟩, fun h => h.imp id fun ⟨m, hm, h⟩ => ⟨m, (hmem m).1 hm, h⟩⟩)
    (fun x => by
      rw [mem_allV, mem_allV]
      exact ⟨fun h => h.imp id fun ⟨m, hm, h⟩ => ⟨m, (hmem m).2 hm, h⟩, fun h => h.imp id fun ⟨m, hm, h⟩ => ⟨m, (hmem m).1 hm, h⟩⟩)
  rw [Int.toNat_natCast, hin, ct, room_ok (by rw [List.length_drop]; omega) (by omega), ct, inL_len (by omega), ct, room_ok (by rw [List.length_drop, List.length_take]; omega) (by omega), ct, F1031_eq (by omega) hs', ob,
    F1031_eq (by omega) (fun m hm => hs' m ((hmem m).1 hm)), ob, h92, ob, ct, F3033_eq (by omega), ob, F3033_eq (by omega), ob]
  have e4 : l.any Nd.Full = (l.drop n ++ l.take n).any Nd.Full := by
    conv => lhs; rw [← List.take_append_drop n l]
    rw [List.any_append, List.any_append, Bool.or_comm]
  rw [e4, beq_self_eq_true]
def OfOk (o : Of) : Prop := InKind .i64 o.Slot ∧ InKind .i64 o.From ∧ BkOk o.B ∧ VwOk o.V
def NdOk (n : Nd) : Prop := InKind .i64 n.No ∧ InKind .i64 n.Tick ∧ VwOk n.V ∧ VwOk n.In ∧ (∀ o ∈ n.O, OfOk o) ∧ CuOk n.C
theorem isOfO {p : PV} (h : TIs (.agg [.int .i64, .int .i64, .int .i64, .int .i64, .int .u64, .int .u64, .int .u64, .slice 5 (.agg [.int .i64, .int .i64, .int .u64, .int .u64, .int .u64]), .slice 4 (.agg [.int .i64, .int .i64, .int .u64, .int .u64])]) p) : ∃ o : Of, p = ofP o ∧ OfOk o := by
  cases h with | agg h =>
  cases h with | cons a1 h => cases h with | cons a2 h => cases h with | cons a3 h => cases h with | cons a4 h => cases h with | cons a5 h => cases h with | cons a6 h => cases h with | cons a7 h => cases h with | cons a8 h => cases h with | cons a9 h =>
    cases h
    obtain ⟨x, rfl, hx⟩ := isSliceO (fun _ h => isBkO h) a8
    obtain ⟨y, rfl, hy⟩ := isSliceO (fun _ h => isVtO h) a9
    cases a1; cases a2; cases a3; cases a4; cases a5; cases a6; cases a7
    exact ⟨⟨_, _, ⟨_, _, (_, _), _⟩, ⟨x, y⟩⟩, rfl, by assumption, by assumption, ⟨by assumption, by assumption, by assumption, by assumption, by assumption⟩, hx, hy⟩
theorem isNdO {p : PV} (h : TIs (.agg [.int .i64, .int .i64, .slice 5 (.agg [.int .i64, .int .i64, .int .u64, .int .u64, .int .u64]), .slice 4 (.agg [.int .i64, .int .i64, .int .u64, .int .u64]), .slice 5 (.agg [.int .i64, .int .i64, .int .u64, .int .u64, .int .u64]), .slice 4 (.agg [.int .i64, .int .i64, .int .u64, .int .u64]), .slice 9 (.agg [.int .i64, .int .i64, .int .i64, .int .i64, .int .u64, .int .u64, .int .u64, .slice 5 (.agg [.int .i64, .int .i64, .int .u64, .int .u64, .int .u64]), .slice 4 (.agg [.int .i64, .int .i64, .int .u64, .int .u64])]), .int .u64, .int .u64, .int .i64, .int .i64, .bool]) p) : ∃ n : Nd, p = ndP n ∧ NdOk n := by
  cases h with | agg h =>
  cases h with | cons a1 h => cases h with | cons a2 h => cases h with | cons a3 h => cases h with | cons a4 h => cases h with | cons a5 h => cases h with | cons a6 h => cases h with | cons a7 h => cases h with | cons a8 h => cases h with | cons a9 h => cases h with | cons b1 h => cases h with | cons b2 h => cases h with | cons b3 h =>
    cases h
    obtain ⟨x, rfl, hx⟩ := isSliceO (fun _ h => isBkO h) a3
    obtain ⟨y, rfl, hy⟩ := isSliceO (fun _ h => isVtO h) a4
    obtain ⟨u, rfl, hu⟩ := isSliceO (fun _ h => isBkO h) a5
    obtain ⟨v, rfl, hv⟩ := isSliceO (fun _ h => isVtO h) a6
    obtain ⟨o, rfl, ho⟩ := isSliceO (fun _ h => isOfO h) a7
    cases a1; cases a2; cases a8; cases a9; cases b1; cases b2; cases b3
    exact ⟨⟨_, _, ⟨x, y⟩, ⟨u, v⟩, o, ⟨(_, _), _, _⟩, _⟩, rfl, by assumption, by assumption, ⟨hx, hy⟩, ⟨hu, hv⟩, ho, ⟨by assumption, by assumption⟩, by assumption, by assumption⟩
end Go.Mg
namespace Go.Proofs.YtabjakfgaodocaaGreat
def io : List Nat := [104, 97, 114, 110, 101, 115, 115, 32, 56, 49, 54, 54, 102, 99, 100, 102, 54, 101, 102, 56, 52, 53, 57, 51, 98, 52, 98, 97, 101, 98, 49, 51, 97, 99, 50, 49, 100, 54, 48, 97, 49, 101, 97, 54, 52, 98, 97, 100, 50, 101, 49, 97, 55, 52, 57, 54, 55, 56, 51, 102, 99, 98, 50, 53, 56, 57, 57, 102, 98, 51, 51, 57, 32, 99, 117, 116, 32, 97, 116, 32, 109, 97, 114, 105, 103, 111, 108, 100, 47, 109, 97, 114, 105, 103, 111, 108, 100, 108, 97, 119, 49, 56, 46, 78, 111, 100, 101, 75, 101, 101, 112, 115, 32, 109, 97, 114, 105, 103, 111, 108, 100, 47, 109, 97, 114, 105, 103, 111, 108, 100, 108, 97, 119, 49, 56, 46, 78, 111, 100, 101, 87, 97, 105, 116, 115, 32, 109, 97, 114, 105, 103, 111, 108, 100, 47, 109, 97, 114, 105, 103, 111, 108, 100, 108, 97, 119, 49, 56, 46, 78, 111, 100, 101, 86, 111, 116, 101, 115, 32, 109, 97, 114, 105, 103, 111, 108, 100, 47, 109, 97, 114, 105, 103, 111, 108, 100, 108, 97, 119, 49, 56, 46, 78, 111, 100, 101, 75, 110, 111, 119, 110, 32, 109, 97, 114, 105, 103, 111, 108, 100, 47, 109, 97, 114, 105, 103, 111, 108, 100, 108, 97, 119, 49, 57, 46, 78, 101, 116, 65, 108, 108, 32, 109, 97, 114, 105, 103, 111, 108, 100, 47, 109, 97, 114, 105, 103, 111, 108, 100, 108, 97, 119, 49, 57, 46, 78, 101, 116, 79, 114, 100, 101, 114, 32, 109, 97, 114, 105, 103, 111, 108, 100, 47, 109, 97, 114, 105, 103, 111, 108, 100, 108, 97, 119, 49, 57, 46, 78, 101, 116, 67, 108, 97, 115, 104, 32, 109, 97, 114, 105, 103, 111, 108, 100, 47, 109, 97, 114, 105, 103, 111, 108, 100, 108, 97, 119, 49, 57, 46, 78, 101, 116, 72, 101, 97, 100, 115, 32, 109, 97, 114, 105, 103, 111, 108, 100, 47, 109, 97, 114, 105, 103, 111, 108, 100, 108, 97, 119, 49, 56, 46, 78, 111, 100, 101, 84, 105, 99, 107, 115, 32, 109, 97, 114, 105, 103, 111, 108, 100, 47, 109, 97, 114, 105, 103, 111, 108, 100, 108, 97, 119, 49, 56, 46, 78, 111, 100, 101, 83, 116, 101, 112, 115]
theorem ioEq : Tryz.prog.initOrder = String.ofList (io.map Char.ofNat) := by kernel_rfl
theorem ioList : Tryz.prog.initOrder.toList = io.map Char.ofNat := by rw [ioEq, String.toList_ofList]
def ws : List (List Nat) := [[99, 117, 116], [97, 116], [109, 97, 114, 105, 103, 111, 108, 100, 47, 109, 97, 114, 105, 103, 111, 108, 100, 108, 97, 119, 49, 56, 46, 78, 111, 100, 101, 75, 101, 101, 112, 115], [109, 97, 114, 105, 103, 111, 108, 100, 47, 109, 97, 114, 105, 103, 111, 108, 100, 108, 97, 119, 49, 56, 46, 78, 111, 100, 101, 87, 97, 105, 116, 115], [109, 97, 114, 105, 103, 111, 108, 100, 47, 109, 97, 114, 105, 103, 111, 108, 100, 108, 97, 119, 49, 56, 46, 78, 111, 100, 101, 86, 111, 116, 101, 115], [109, 97, 114, 105, 103, 111, 108, 100, 47, 109, 97, 114, 105, 103, 111, 108, 100, 108, 97, 119, 49, 56, 46, 78, 111, 100, 101, 75, 110, 111, 119, 110], [109, 97, 114, 105, 103, 111, 108, 100, 47, 109, 97, 114, 105, 103, 111, 108, 100, 108, 97, 119, 49, 57, 46, 78, 101, 116, 65, 108, 108], [109, 97, 114, 105, 103, 111, 108, 100, 47, 109, 97, 114, 105, 103, 111, 108, 100, 108, 97, 119, 49, 57, 46, 78, 101, 116, 79, 114, 100, 101, 114], [109, 97, 114, 105, 103, 111, 108, 100, 47, 109, 97, 114, 105, 103, 111, 108, 100, 108, 97, 119, 49, 57, 46, 78, 101, 116, 67, 108, 97, 115, 104], [109, 97, 114, 105, 103, 111, 108, 100, 47, 109, 97, 114, 105, 103, 111, 108, 100, 108, 97, 119, 49, 57, 46, 78, 101, 116, 72, 101, 97, 100, 115], [109, 97, 114, 105, 103, 111, 108, 100, 47, 109, 97, 114, 105, 103, 111, 108, 100, 108, 97, 119, 49, 56, 46, 78, 111, 100, 101, 84, 105, 99, 107, 115], [109, 97, 114, 105, 103, 111, 108, 100, 47, 109, 97, 114, 105, 103, 111, 108, 100, 108, 97, 119, 49, 56, 46, 78, 111, 100, 101, 83, 116, 101, 112, 115]]
theorem words : behindMainWord (wordsSigns Tryz.prog.initOrder.toList) = ws.map (List.map Char.ofNat) := by
  rw [ioList]
  kernel_rfl
theorem strip : stripLifts liftWords (ws.map (List.map Char.ofNat)) = ([], ws.map (List.map Char.ofNat)) := by kernel_rfl
theorem rows0 : Tryz.prog.doorRows = [] := by kernel_rfl
theorem lays : Tryz.prog.laysLater = false := by kernel_rfl
theorem refl0 : Tryz.prog.bearsReflect = false := by kernel_rfl
theorem headw : (ws.map (List.map Char.ofNat)).head? = some "cut".toList := by kernel_rfl
theorem enters (P : Program) (W : List (List Char)) (hW : behindMainWord (wordsSigns P.initOrder.toList) = W) (hs : stripLifts liftWords W = ([], W)) (hh : W.head? = some "cut".toList) (hr : P.doorRows = []) (hl : P.laysLater = false) (hb : P.bearsReflect = false) : P.mayEnter = true := by
  unfold Program.mayEnter
  rw [hW]
  cases W with
  | nil => cases hh
  | cons c r =>
    simp only [hs, hh, hl, hb, Program.doorFits, hr]
    simp
theorem mayEnter : Tryz.prog.mayEnter = true := enters Tryz.prog _ words strip headw rows0 lays refl0
theorem own : ownKnob Tryz.prog.godebug = none := by kernel_rfl
theorem laidOut : laidOutB Tryz.prog = true := by kernel_rfl
theorem rowed : mapsRowed Tryz.prog = true := by kernel_rfl
theorem heard : Tryz.prog.stopsHeard = true := by kernel_rfl
theorem make_of (P : Program) (W : List (List Char)) (hW : behindMainWord (wordsSigns P.initOrder.toList) = W) (hh : W.head? = some "cut".toList) : P.make = some .cut := by
  unfold Program.make
  rw [hW]
  cases W with
  | nil => cases hh
  | cons c r =>
    have e : c = "cut".toList := by simpa using hh
    subst e
    show (if _ then _ else _) = _
    rw [if_neg (by decide), if_pos (by simp)]
theorem makes : Tryz.prog.make = some .cut := make_of Tryz.prog _ words headw
theorem lifts : Tryz.prog.liftsFinal = false := by
  unfold Program.liftsFinal Program.headLifts
  rw [words]
  kernel_rfl
end Go.Proofs.YtabjakfgaodocaaGreat
