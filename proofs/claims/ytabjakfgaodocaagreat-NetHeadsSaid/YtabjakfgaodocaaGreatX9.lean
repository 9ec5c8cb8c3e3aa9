/- Plain laws of views: what is taken, as the program does it. Plain laws of views: votes that are taken, as the program does it. Plain laws of views: view.Take. Plain laws of views: what holds of what is taken. Laws of views. The laws of views' example. Laws of views. Laws of views: ViewOnly, ViewJoin. Laws of views. Laws of views. Laws of views: ViewMay, ViewKeeps. Plain laws of views: what is counted, as a set. Laws of views. Laws of views. Laws of views. Plain laws of views: order, and all. Nets, plain: how much nodes have; what they have together. The votes of a committee, and the head by them, plain. Laws of nets, plain: the blocks that nodes stand by. What arguments are: offers, nodes. How the program's own line of words reads, letter by letter; facts of the whole program that each row asks for. Conditions: none. -/
import Derived.Test.YtabjakfgaodocaaGreatX8
import Derived.Test.YtabjakfgaodocaaGreatX7
import Derived.Test.YtabjakfgaodocaaGreatX6
import Derived.Test.YtabjakfgaodocaaGreatRows
import Derived.ProofKit
import Derived.OpenShut
namespace Go.Mg
structure SmR (B : List Bk) (sm : List (ID × Int)) : Prop where
  find : SmOk B sm
  len : sm.length ≤ B.length + 1
structure HmR (V : List Vt) (hm : List (Vt × Bool)) : Prop where
  find : HmOk V hm
  len : hm.length ≤ V.length
theorem take_one {α : Type} {l : List α} {j : Nat} {y : α} (h : l[j]? = some y) : l.take (j + 1) = l.take j ++ [y] := take_succ_getG h
structure PreL {α : Type} (lB : List α) (k : Nat) (l : List α) : Prop where
  take : lB.take k = l
  le : k ≤ lB.length
theorem PreL.len {α : Type} {lB l : List α} {k : Nat} (h : PreL lB k l) : l.length = k := by
  rw [← h.take, List.length_take]; have := h.le; omega
theorem clr_pre {α : Type} {a l : List α} {i kk : Nat} {z : α} (hi : i ≤ kk) (hk : kk ≤ a.length) (h : a.take i = l) : PreL (clrL a i (kk - i) z) i l := by
  have hlen := clrL_len (l := a) (off := i) (k := kk - i) (z := z) (by omega)
  refine ⟨?_, by omega⟩
  unfold clrL
  rw [List.append_assoc, List.take_left' (by rw [List.length_take]; omega), h]
structure Mv {α : Type} (l a : List α) (i j : Nat) (left : List α) : Prop where
  ij : i < j
  jl : j ≤ l.length
  len : l.length ≤ a.length
  left : a.take i = left
  rest : ∀ q, j ≤ q → q < l.length → a[q]? = l[q]?
theorem Mv.next_gone {α : Type} {l a : List α} {i j : Nat} {left : List α} (h : Mv l a i j left) (hj : j < l.length) : Mv l a i (j + 1) left :=
  ⟨by have := h.ij; omega, hj, h.len, h.left, fun q h1 h2 => h.rest q (by omega) h2⟩
theorem Mv.next_stay {α : Type} {l a : List α} {i j : Nat} {left : List α} {y : α} (h : Mv l a i j left) (hj : j < l.length) (_ : l[j]? = some y) : Mv l (a.set i y) (i + 1) (j + 1) (left ++ [y]) := by
  have h1 := h.ij
  have h2 := h.len
  refine ⟨by omega, hj, by rw [List.length_set]; exact h2, ?_, fun q h3 h4 => ?_⟩
  · have hi : (a.set i y)[i]? = some y := by rw [List.getElem?_set]; simp; omega
    rw [take_one hi, List.take_set_of_le (Nat.le_refl _), h.left]
  · rw [List.getElem?_set, if_neg (by omega)]
    exact h.rest q (by omega) h4
structure GvS where
  B : List Bk
  V : List Vt
  full : Bool
  lB : List Bk
  lV : List Vt
def BelowT (s : GvS) : Prop := s.B.length ≤ 60 ∧ s.V.length ≤ 240
structure RepT (s : GvS) (x : F90_L1) : Prop where
  o6 : x.o6 = s.B
  o7 : x.o7 = s.V
  full : x.x_5 = s.full
  sm : SmR s.B x.o8
  hm : HmR s.V x.o9
  lB : PreL x.o14 x.left_0 s.lB
  lV : PreL x.o15 x.left_1 s.lV
structure InvT (w o : Vw) (upto : Int) (s : GvS) : Prop where
  preB : ∃ t, s.B = w.B ++ t ∧ ∀ b ∈ t, b ∈ o.B ∧ b.Slot ≤ upto
  preV : ∃ t, s.V = w.V ++ t ∧ ∀ v ∈ t, v ∈ o.V ∧ v.Slot ≤ upto
  valid : ValidB s.B
  nodup : s.V.Nodup
  forB : ∀ v ∈ s.V, forB s.B v
  below : BelowT s
  subB : s.lB.Sublist o.B
  subV : s.lV.Sublist o.V
  allB : ∀ b ∈ o.B, b ∈ s.lB ∨ goneB s.B b = true
  allV : ∀ v ∈ o.V, v ∈ s.lV ∨ goneV s.B s.V v = true
structure EndT (upto : Int) (s : GvS) : Prop where
  B : ∀ b ∈ s.lB, goneB s.B b = false ∧ (waitB s.B upto b = true ∨ 60 ≤ s.B.length ∧ s.full = true)
  V : ∀ v ∈ s.lV, goneV s.B s.V v = false ∧ (waitV s.B upto v = true ∨ 240 ≤ s.V.length ∧ s.full = true)
structure Took (c : Cf) (w inp : Vw) (upto : Int) (r : Vw × Vw × Bool) : Prop where
  may : MayW c r.1
  preB : ∃ t, r.1.B = w.B ++ t ∧ ∀ b ∈ t, b ∈ (onlyP c inp).B ∧ b.Slot ≤ upto
  preV : ∃ t, r.1.V = w.V ++ t ∧ ∀ v ∈ t, v ∈ (onlyP c inp).V ∧ v.Slot ≤ upto
  subB : r.2.1.B.Sublist (onlyP c inp).B
  subV : r.2.1.V.Sublist (onlyP c inp).V
  allB : ∀ b ∈ (onlyP c inp).B, b ∈ r.2.1.B ∨ goneB r.1.B b = true
  allV : ∀ v ∈ (onlyP c inp).V, v ∈ r.2.1.V ∨ goneV r.1.B r.1.V v = true
  endB : ∀ b ∈ r.2.1.B, goneB r.1.B b = false ∧ (waitB r.1.B upto b = true ∨ 60 ≤ r.1.B.length ∧ r.2.2 = true)
  endV : ∀ v ∈ r.2.1.V, goneV r.1.B r.1.V v = false ∧ (waitV r.1.B upto v = true ∨ 240 ≤ r.1.V.length ∧ r.2.2 = true)
open Go.Proofs
open Go.Proofs
open Go.Proofs
open Go.Proofs
inductive CB (base o : List Bk) (upto : Int) : Bk → Prop
  | base {b : Bk} : b ∈ base → CB base o upto b
  | root {b : Bk} : b ∈ o → b.Slot ≤ upto → b.Parent = (0, 0) → 0 < b.Slot → CB base o upto b
  | step {b p : Bk} : b ∈ o → b.Slot ≤ upto → CB base o upto p → nm p = b.Parent → p.Slot < b.Slot → CB base o upto b
theorem CB.mono {base base' o o' : List Bk} {upto upto' : Int} (h1 : ∀ b ∈ base, CB base' o' upto' b) (h2 : ∀ b ∈ o, b ∈ o') (h3 : upto ≤ upto') {b : Bk} (h : CB base o upto b) : CB base' o' upto' b := by
  induction h with
  | base h => exact h1 _ h
  | root a1 a2 a3 a4 => exact .root (h2 _ a1) (Int.le_trans a2 h3) a3 a4
  | step a1 a2 _ a4 a5 ih => exact .step (h2 _ a1) (Int.le_trans a2 h3) ih a4 a5
structure Rm (U : Vw) : Prop where
  inj : ∀ a ∈ U.B, ∀ b ∈ U.B, nm a = nm b → a = b
  B : U.B.length < 60
  V : U.V.length < 240
open Go.Proofs
open Go.Proofs
open Go.Proofs
open Classical in
theorem scan_loop {S R : Type} {step : S → Option (S ⊕ (S ⊕ R))} {n : Nat} (mk : Nat → S) (r0 : R) (P : Nat → Prop) (hs : ∀ j, j < n → step (mk j) = some (.inr (.inr r0)) ∨ (step (mk j) = some (.inl (mk (j + 1))) ∧ P j))
    (he : step (mk n) = some (.inr (.inl (mk n)))) (hn : n < 4000000000000000000) : iter step big (mk 0) = some (.inr r0) ∨ (iter step big (mk 0) = some (.inl (mk n)) ∧ ∀ j, j < n → P j) := by
  have e := search_loop mk (fun j => if step (mk j) = some (.inl (mk (j + 1))) ∧ P j then none else some r0) (fun j hj => by
    by_cases h : step (mk j) = some (.inl (mk (j + 1))) ∧ P j
    · simp only [if_pos h]; exact h.1
    · simp only [if_neg h]; exact (hs j hj).resolve_right h) he hn
  rw [e]
  cases h : firstF (fun j => if step (mk j) = some (.inl (mk (j + 1))) ∧ P j then none else some r0) 0 n with
  | none =>
    right
    refine ⟨rfl, fun j hj => ?_⟩
    have := firstF_none.1 h j (Nat.zero_le _) (by omega)
    split at this
    · rename_i h2; exact h2.2
    · cases this
  | some r =>
    left
    obtain ⟨j, -, -, h2, -⟩ := firstF_some h
    split at h2
    · cases h2
    · cases h2; rfl
def SmallV (k : Int) (w : Vw) : Prop := (w.B.length : Int) ≤ k ∧ (w.V.length : Int) ≤ k
def SmallN (k : Int) (n : Nd) : Prop := SmallV k n.V ∧ SmallV k n.In ∧ n.O.length ≤ 10 ∧ ∀ o ∈ n.O, SmallV k o.V
theorem F3016_or (l : List Of) (k : Int) : F3016 l k = some false ∨ (F3016 l k = some true ∧ l.length ≤ 10 ∧ ∀ o ∈ l, SmallV k o.V) := by
  unfold F3016
  by_cases h10 : (l.length : Int) > 10
  · rw [decide_eq_true h10, ct]; exact .inl rfl
  · rw [decide_eq_false h10, cf]
    have e := scan_loop (step := F3016_s1 l k) (n := l.length) (fun j => F3016_L1.mk (j : Int)) false (fun j => ∀ o, l[j]? = some o → SmallV k o.V) (fun j hj => by
      obtain ⟨y, hy, -⟩ := get_of hj
      unfold F3016_s1
      simp only
      rw [decide_eq_true (show (j : Int) < (l.length : Int) by omega), ct, ix_nat hy, ob, F84_eq, ob, wrap_succ (n := j) (by omega)]
      by_cases h : (y.V.B.length : Int) ≤ k ∧ (y.V.V.length : Int) ≤ k
      · rw [decide_eq_true h, Bool.not_true, cf]; exact .inr ⟨rfl, fun o ho => by rw [hy] at ho; cases ho; exact h⟩
      · rw [decide_eq_false h, Bool.not_false, ct]; exact .inl rfl) (by
      unfold F3016_s1
      simp only
      rw [decide_eq_false (show ¬ (l.length : Int) < (l.length : Int) by omega), cf]) (by omega)
    rcases e with e | ⟨e, h⟩
    · have e' : iter (F3016_s1 l k) big (F3016_L1.mk 0) = _ := e
      rw [e', ob, sr]; exact .inl rfl
    · have e' : iter (F3016_s1 l k) big (F3016_L1.mk 0) = _ := e
      rw [e', ob, sl]
      exact .inr ⟨rfl, by omega, fun o ho => by obtain ⟨j, hj⟩ := List.getElem?_of_mem ho; exact h j (List.getElem?_eq_some_iff.1 hj).1 o hj⟩
theorem F3014_or (n : Nd) (k : Int) : F3014 n k = some false ∨ (F3014 n k = some true ∧ SmallN k n) := by
  unfold F3014
  rw [F84_eq, ob, F84_eq, ob]
  rcases F3016_or n.O k with e | ⟨e, h1, h2⟩
  · rw [e, ob]
    cases decide ((n.V.B.length : Int) ≤ k ∧ (n.V.V.length : Int) ≤ k) <;> cases decide ((n.In.B.length : Int) ≤ k ∧ (n.In.V.length : Int) ≤ k) <;> exact .inl rfl
  · rw [e, ob]
    by_cases ha : (n.V.B.length : Int) ≤ k ∧ (n.V.V.length : Int) ≤ k
    · rw [decide_eq_true ha, ct]
      by_cases hb : (n.In.B.length : Int) ≤ k ∧ (n.In.V.length : Int) ≤ k
      · rw [decide_eq_true hb, ct]; exact .inr ⟨rfl, ha, hb, h1, h2⟩
      · rw [decide_eq_false hb, cf]; exact .inl rfl
    · rw [decide_eq_false ha, cf]; exact .inl rfl
theorem F3030_or (l : List Nd) {m : Int} (hm : m ≤ 1000) (k : Int) : F3030 l m k = some false ∨ (F3030 l m k = some true ∧ (l.length : Int) ≤ m ∧ ∀ n ∈ l, SmallN k n) := by
  unfold F3030
  by_cases h10 : (l.length : Int) > m
  · rw [decide_eq_true h10, ct]; exact .inl rfl
  · rw [decide_eq_false h10, cf]
    have e := scan_loop (step := F3030_s1 l k) (n := l.length) (fun j => F3030_L1.mk (j : Int)) false (fun j => ∀ o, l[j]? = some o → SmallN k o) (fun j hj => by
      obtain ⟨y, hy, -⟩ := get_of hj
      unfold F3030_s1
      simp only
      rw [decide_eq_true (show (j : Int) < (l.length : Int) by omega), ct, ix_nat hy, ob, wrap_succ (n := j) (by omega)]
      rcases F3014_or y k with e | ⟨e, h⟩
      · rw [e, ob, Bool.not_false, ct]; exact .inl rfl
      · rw [e, ob, Bool.not_true, cf]; exact .inr ⟨rfl, fun o ho => by rw [hy] at ho; cases ho; exact h⟩) (by
      unfold F3030_s1
      simp only
      rw [decide_eq_false (show ¬ (l.length : Int) < (l.length : Int) by omega), cf]) (by omega)
    rcases e with e | ⟨e, h⟩
    · have e' : iter (F3030_s1 l k) big (F3030_L1.mk 0) = _ := e
      rw [e', ob, sr]; exact .inl rfl
    · have e' : iter (F3030_s1 l k) big (F3030_L1.mk 0) = _ := e
      rw [e', ob, sl]
      exact .inr ⟨rfl, by omega, fun o ho => by obtain ⟨j, hj⟩ := List.getElem?_of_mem ho; exact h j (List.getElem?_eq_some_iff.1 hj).1 o hj⟩
theorem small_mono {k k' : Int} {n : Nd} (h : SmallN k n) (hk : k ≤ k') : SmallN k' n := by
  obtain ⟨⟨a1, a2⟩, ⟨b1, b2⟩, c, d⟩ := h
  exact ⟨⟨by omega, by omega⟩, ⟨by omega, by omega⟩, c, fun o ho => ⟨by have := (d o ho).1; omega, by have := (d o ho).2; omega⟩⟩
theorem F1089_eq {l : List Int} (hl : l.length ≤ 100000) (v : Int) : F1089 l v = some (decide (v ∈ l)) := by
  have e := search_loop (step := F1103_s1 l v) (n := l.length) (fun k => F1103_L1.mk (k : Int)) (hasAt l v) (fun j hj => by
    obtain ⟨y, hy, -⟩ := get_of hj
    unfold F1103_s1 hasAt
    simp only
    rw [decide_eq_true (show (j : Int) < (l.length : Int) by omega), ct, ix_nat hy, ob, wrap_succ (n := j) (by omega), hy]
    by_cases h : v = y
    · rw [beq_iff_eq.2 h, ct, if_pos (by rw [h])]
    · rw [beq_eq_false_iff_ne.2 h, cf, if_neg (fun e => h (Option.some.inj e).symm)]) (by
    unfold F1103_s1
    simp only
    rw [decide_eq_false (show ¬ (l.length : Int) < (l.length : Int) by omega), cf]) (by omega)
  unfold F1089 F1103
  rw [← hasAt_first]
  have e' : iter (F1103_s1 l v) big (F1103_L1.mk 0) = some (outF (F1103_L1.mk (l.length : Int)) (firstF (hasAt l v) 0 l.length)) := e
  rw [e', ob]
  cases h : firstF (hasAt l v) 0 l.length with
  | none => rw [outF, sl, ob]; rfl
  | some r => rw [outF, sr, ob, decide_eq_true (hasAt_nn h)]; rfl
def inC (cm : List Int) (v : Vt) : Bool := decide (v.From ∈ cm)
theorem F1076_eq {cm : List Int} (hl : cm.length ≤ 100000) (v : Vt) : F1076 cm v = some (!inC cm v) := by
  unfold F1076
  rw [F1089_eq hl, ob]
  rfl
theorem F158G_eq {l : List Vt} {cm : List Int} (hc : cm.length ≤ 100000) (hl : l.length ≤ 100000) :
    ∃ i, F158G l l.length cm = some i ∧ ((i = -1 ∧ l.filter (inC cm) = l) ∨ ∃ j : Nat, i = j ∧ j < l.length ∧ (l.take (j + 1)).filter (inC cm) = l.take j) := by
  unfold F158G
  have key := iter_inv (step := F158G_s1 l l.length cm) (fun x => ∃ j : Nat, j ≤ l.length ∧ x.t8 = j ∧ (l.take j).filter (inC cm) = l.take j) (fun x => l.length - x.t8.toNat)
    (fun b => (∃ x, b = .inl x ∧ l.filter (inC cm) = l) ∨ ∃ j : Nat, b = .inr (j : Int) ∧ j < l.length ∧ (l.take (j + 1)).filter (inC cm) = l.take j) (by
      rintro ⟨t⟩ ⟨j, hj, h1, h2⟩
      simp only at h1 h2
      subst h1
      by_cases hlt : j < l.length
      · obtain ⟨y, hy, -⟩ := get_of hlt
        have hsn := filter_take_snoc (p := inC cm) hy
        have hstep : F158G_s1 l l.length cm ⟨(j : Int)⟩ = bif !inC cm y then some (.inr (.inr (j : Int))) else some (.inl ⟨((j + 1 : Nat) : Int)⟩) := by
          unfold F158G_s1
          simp only
          rw [decide_eq_true (show (j : Int) < (l.length : Int) by omega), ct, List.take_length, ix_nat hy, ob, F1076_eq hc, ob, wrap_succ (n := j) (by omega)]
        rw [h2] at hsn
        cases hp : inC cm y with
        | true =>
          rw [hp, Bool.not_true, cf] at hstep
          rw [hp, ct] at hsn
          exact .inl ⟨_, hstep, ⟨j + 1, by omega, rfl, by rw [hsn, take_one hy]⟩, by simp only; omega⟩
        | false =>
          rw [hp, Bool.not_false, ct] at hstep
          rw [hp, cf, List.append_nil] at hsn
          exact .inr ⟨_, hstep, .inr ⟨j, rfl, hlt, hsn⟩⟩
      · right
        obtain rfl : j = l.length := by omega
        refine ⟨.inl ⟨(l.length : Int)⟩, ?_, .inl ⟨_, rfl, ?_⟩⟩
        · unfold F158G_s1
          simp only
          rw [decide_eq_false (show ¬ (l.length : Int) < (l.length : Int) by omega), cf]
        · rw [List.take_length] at h2; exact h2) (n := big) (x := ⟨0⟩) ⟨0, by omega, rfl, by simp⟩ (big_gt (by simp only; omega))
  obtain ⟨b, e, ⟨x, rfl, h1⟩ | ⟨j, rfl, h0, h1⟩⟩ := key
  · exact ⟨-1, by rw [e, ob, sl], .inl ⟨rfl, h1⟩⟩
  · exact ⟨j, by rw [e, ob, sr], .inr ⟨j, rfl, h0, h1⟩⟩
theorem F138G_eq {l : List Vt} {cm : List Int} (hc : cm.length ≤ 100000) (hl : l.length ≤ 100000) : ∃ k' l', F138G l l.length cm = some (k', l') ∧ PreL l' k' (l.filter (inC cm)) := by
  obtain ⟨i, e0, h0⟩ := F158G_eq hc hl
  unfold F138G
  rw [e0, ob]
  rcases h0 with ⟨rfl, hp⟩ | ⟨j0, rfl, hj0, hp⟩
  · rw [hp, show ((-1 : Int) == -1) = true from rfl, ct]
    exact ⟨_, _, rfl, List.take_length, Nat.le_refl _⟩
  · rw [show ((j0 : Int) == -1) = false by rw [beq_eq_false_iff_ne]; omega, cf, wrap_succ (n := j0) (by omega)]
    have key := iter_inv (step := F138G_s1 l.length cm) (fun x => ∃ (i j : Nat), x.i = i ∧ x.j = j ∧ Mv l x.o1 i j ((l.take j).filter (inC cm))) (fun x => l.length - x.j.toNat)
      (fun x => ∃ i : Nat, x.i = i ∧ i ≤ l.length ∧ x.o1.take i = l.filter (inC cm) ∧ l.length ≤ x.o1.length) (by
      rintro ⟨i', j', a⟩ ⟨i, j, h1, h2, h5⟩
      simp only at h1 h2 h5
      subst h1 h2
      have hij := h5.ij
      have hjl := h5.jl
      have hal := h5.len
      by_cases hlt : j < l.length
      · left
        obtain ⟨y, hy, -⟩ := get_of hlt
        have hya : (a.take l.length)[j]? = some y := by rw [List.getElem?_take_of_lt hlt, h5.rest j (Nat.le_refl _) (by omega), hy]
        obtain ⟨z, hz, -⟩ := get_of (l := a.take l.length) (n := i) (by rw [List.length_take]; omega)
        have hsn := filter_take_snoc (p := inC cm) hy
        have hstep : F138G_s1 l.length cm ⟨(i : Int), (j : Int), a⟩ = bif inC cm y then some (.inl ⟨((i + 1 : Nat) : Int), ((j + 1 : Nat) : Int), a.set i y⟩) else some (.inl ⟨(i : Int), ((j + 1 : Nat) : Int), a⟩) := by
          unfold F138G_s1
          simp only
          rw [decide_eq_true (show (j : Int) < (l.length : Int) by omega), ct, ix_nat hya, ob, F1076_eq hc, ob, ix_nat hz, ob, wrap_succ (n := j) (by omega), wrap_succ (n := i) (by omega), Int.toNat_natCast, Bool.not_not]
        cases hp : inC cm y with
        | false =>
          rw [hp, cf] at hstep
          rw [hp, cf, List.append_nil] at hsn
          refine ⟨_, hstep, ⟨i, j + 1, rfl, rfl, ?_⟩, by simp only; omega⟩
          rw [hsn]
          exact h5.next_gone (by omega)
        | true =>
          rw [hp, ct] at hstep
          rw [hp, ct] at hsn
          refine ⟨_, hstep, ⟨i + 1, j + 1, rfl, rfl, ?_⟩, by simp only; omega⟩
          rw [hsn]
          exact h5.next_stay (by omega) hy
      · right
        have hjk : j = l.length := by omega
        have htl : l.take j = l := List.take_of_length_le (by omega)
        rw [htl] at h5
        refine ⟨⟨(i : Int), (j : Int), a⟩, ?_, i, rfl, by omega, h5.left, by show l.length ≤ a.length; omega⟩
        unfold F138G_s1
        simp only
        rw [decide_eq_false (show ¬ (j : Int) < (l.length : Int) by omega), cf]) (n := big) (x := ⟨(j0 : Int), ((j0 + 1 : Nat) : Int), l⟩)
      ⟨j0, j0 + 1, rfl, rfl, by
        rw [hp]
        exact ⟨by omega, by omega, Nat.le_refl _, rfl, fun q h1 h2 => rfl⟩⟩ (big_gt (by simp only; omega))
    obtain ⟨x, ex, i, hi, hik, h2, h3⟩ := key
    rw [ex, ob, hi, decide_eq_true (show 0 ≤ (i : Int) ∧ (i : Int) ≤ (l.length : Int) by omega), ct, Int.toNat_natCast, decide_eq_true (show i + (l.length - i) ≤ x.o1.length by omega), ct, ct]
    exact ⟨_, _, rfl, clr_pre hik h3 h2⟩
def goldP (c : Cf) (v : List Vt) (slot : Int) : List Vt := (ofV v slot).filter (inC (cmP c slot))
theorem of_len (v : List Vt) (slot : Int) : (ofV v slot).length ≤ v.length := by
  unfold ofV
  rw [(sortV_perm _).length_eq]
  exact Nat.le_trans (List.length_filterMap_le _ _) (book_keys v).2
theorem gold_len (c : Cf) (v : List Vt) (slot : Int) : (goldP c v slot).length ≤ v.length := Nat.le_trans (List.length_filter_le _ _) (of_len v slot)
theorem F1064_eq {v : List Vt} (hv : v.length ≤ 90000) (c : Cf) (slot : Int) : F1064 c v slot = some (goldP c v slot) := by
  have hl := of_len v slot
  have hc := cm_len c slot
  obtain ⟨k', l', e, hp⟩ := F138G_eq (l := ofV v slot) (cm := cmP c slot) (by omega) (by omega)
  unfold F1064 FOfV
  rw [show Nat.ble v.length 90000 = true from Nat.ble_eq_true_of_le hv, ct, ob, F65_eq, ob, List.length_map, e, ob]
  simp only
  rw [show Nat.ble k' l'.length = true from Nat.ble_eq_true_of_le hp.le, ct, hp.take]
  rfl
theorem F1048_eq {w : Vw} (h1 : w.B.length ≤ 1000) (h2 : w.V.length ≤ 1000) (c : Cf) (slot : Int) : F1048 c w slot = some (headP c w.B (goldP c w.V slot)) := by
  have hg := gold_len c w.V slot
  unfold F1048
  rw [F1064_eq (by omega), ob, F81_eq h1 (by omega), ob]
def slotN (t : Int) : Int := bif ((IntKind.i64.wrap (t - 1)).tmod 3) != 2 then IntKind.i64.wrap ((IntKind.i64.wrap ((IntKind.i64.wrap (t - 1)).tdiv 3)) - 1) else IntKind.i64.wrap ((IntKind.i64.wrap (t - 1)).tdiv 3)
def nodeHead (c : Cf) (n : Nd) : ID := headP c n.V.B (goldP c n.V.V (slotN n.Tick))
theorem F1030_eq {n : Nd} (h1 : n.V.B.length ≤ 1000) (h2 : n.V.V.length ≤ 1000) (c : Cf) : F1030 c n = some (nodeHead c n) := by
  unfold F1030 nodeHead slotN
  cases ((IntKind.i64.wrap (n.Tick - 1)).tmod 3) != 2 with
  | true => rw [ct, ct, F1048_eq h1 h2, ob]
  | false => rw [cf, cf, F1048_eq h1 h2, ob]
theorem headF_leaf {l : List Bk} {v : List Vt} (c : Cf) {m : List (ID × Int)} (hp : places l = some m) : ∀ (n : Nat) (id : ID) (i : Int), findE m id = some i → (l.length : Int) - i ≤ n → (∃ j, findE m (headF c l v n id) = some j) ∧ kidsOf l (headF c l v n id) = []
  | 0, id, i, hi, hn => by
    rcases (places_inv hp).known _ _ hi with ⟨h, -⟩ | ⟨b, p, h0, h1, -⟩ <;> omega
  | n + 1, id, i, hi, hn => by
    unfold headF
    rcases bestP_cases c l v id with ⟨hk, e⟩ | ⟨k, hk, e⟩
    · have : ¬ (bestP c l v id).n ≥ 0 := by rw [e]; simp
      rw [if_neg this]
      exact ⟨⟨i, hi⟩, hk⟩
    · have hpos : (bestP c l v id).n ≥ 0 := by rw [e]; exact on_in c l v k
      rw [if_pos hpos, e]
      obtain ⟨j, hj, h1, h2⟩ := kid_ix hp hi hk
      exact headF_leaf c hp n k j hj (by omega)
theorem headP_leaf {l : List Bk} {v : List Vt} (c : Cf) (hl : ValidB l) : chainOf l (headP c l v) ≠ [] ∧ kidsOf l (headP c l v) = [] := by
  unfold ValidB at hl
  cases hp : places l with
  | none => rw [hp] at hl; cases hl
  | some m =>
    obtain ⟨⟨j, hj⟩, h2⟩ := headF_leaf (v := v) c hp (l.length + 1) (0, 0) (-1) (places_inv hp).zero (by omega)
    refine ⟨?_, h2⟩
    unfold headP chainOf
    rw [hp]
    simp only
    rw [hj]
    simp only
    cases (j + 1).toNat with
    | zero => simp [chainF]
    | succ n =>
      unfold chainF
      split
      · simp
      · split
        · simp
        · split
          · simp
          · split <;> simp
theorem FEachH_eq {c : Cf} {l : List Nd} (hl : l.length ≤ 100) (hs : ∀ n ∈ l, SmallN 100 n) : FEachH l c [] = some (l.map (nodeHead c)) := by
  have e := count_loop (step := FEachH_s1 l c) (n := l.length) (fun k => FEachH_L1.mk (k : Int) ((l.take k).map (nodeHead c))) (FEachH_L1.mk (l.length : Int) (l.map (nodeHead c))) (fun k hk => by
    obtain ⟨y, hy, hm⟩ := get_of hk
    have et : l.take (k + 1) = l.take k ++ [y] := by rw [List.take_add_one, hy]; rfl
    obtain ⟨⟨a1, a2⟩, -⟩ := hs y hm
    unfold FEachH_s1
    simp only
    rw [decide_eq_true (show (k : Int) < (l.length : Int) by omega), ct, ix_nat hy, ob, et, List.map_append, wrap_succ (n := k) (by omega)]
    unfold FHeads1
    rw [F1030_eq (by omega) (by omega), ob, room_ok (by rw [List.length_map, List.length_take, List.length_singleton]; omega) (by omega), ct, ob]
    rfl) (by
    unfold FEachH_s1
    simp only
    rw [decide_eq_false (show ¬ (l.length : Int) < (l.length : Int) by omega), cf, List.take_length]) (by omega)
  have e' : iter (FEachH_s1 l c) big (FEachH_L1.mk 0 []) = _ := e
  unfold FEachH
  rw [e', ob]
open Classical in
theorem netHeads (ha : F3029 = some true) (c : Cf) (l : List Nd) : F3010 c l = some true := by
  unfold F3010
  rw [ha, ob]
  rcases F3030_or l (m := 6) (by omega) 20 with e | ⟨e, hl, hs⟩
  · rw [e, ob, Bool.not_true, cf, Bool.not_false, ct, ob, ct]
  rw [e, ob, Bool.not_true, cf, cf, ob]
  by_cases h3 : (c.W.length : Int) > 40
  · rw [decide_eq_true h3, ct]
  rw [decide_eq_false h3, cf]
  have hs' : ∀ m ∈ l, SmallN 100 m := fun m hm => small_mono (hs m hm) (by omega)
  unfold F3036
  rw [FEachH_eq (by omega) hs', ob, ob, List.length_map, show ((l.length : Int) != (l.length : Int)) = false by simp, cf]
  have e := count_loop (step := F3010_s1 c l (l.map (nodeHead c))) (n := l.length) (fun k => F3010_L1.mk (k : Int)) (.inl (F3010_L1.mk (l.length : Int))) (fun k hk => by
    obtain ⟨y, hy, hm⟩ := get_of hk
    have hy2 : (l.map (nodeHead c))[k]? = some (nodeHead c y) := by rw [List.getElem?_map, hy]; rfl
    obtain ⟨⟨a1, a2⟩, -⟩ := hs y hm
    unfold F3010_s1
    simp only
    rw [decide_eq_true (show (k : Int) < (l.length : Int) by omega), ct, ix_nat hy, ob, F89_eq (by omega) (by omega), ob, wrap_succ (n := k) (by omega)]
    by_cases hw : MayW c y.V
    · obtain ⟨h1, h2⟩ := headP_leaf (v := goldP c y.V.V (slotN y.Tick)) c hw.valid
      rw [decide_eq_true hw, ct, ob, ix_nat hy2, ob, show few y.V.B = true from decide_eq_true (by omega), ct]
      have h3 : ((chainOf y.V.B (nodeHead c y)).length : Int) ≠ 0 := fun h => by
        have h5 : (chainOf y.V.B (nodeHead c y)).length = 0 := by omega
        exact h1 (List.length_eq_zero_iff.1 h5)
      rw [beq_eq_false_iff_ne.2 h3, cf, ob, ob, F46_eq (by omega), ob]
      have h4 : kidsOf y.V.B (nodeHead c y) = [] := h2
      rw [h4]
      rfl
    · rw [decide_eq_false hw, cf]) (by
    unfold F3010_s1
    simp only
    rw [decide_eq_false (show ¬ (l.length : Int) < (l.length : Int) by omega), cf]) (by omega)
  have e' : iter (F3010_s1 c l (l.map (nodeHead c))) big (F3010_L1.mk 0) = _ := e
  rw [e', ob]
  rfl
def OfOk (o : Of) : Prop := InKind .i64 o.Slot ∧ InKind .i64 o.From ∧ BkOk o.B ∧ VwOk o.V
def NdOk (n : Nd) : Prop := InKind .i64 n.No ∧ InKind .i64 n.Tick ∧ VwOk n.V ∧ VwOk n.In ∧ (∀ o ∈ n.O, OfOk o) ∧ CuOk n.C
theorem isOfO {p : PV} (h : TIs (.agg [.int .i64, .int .i64, .int .i64, .int .i64, .int .u64, .int .u64, .int .u64, .slice 5 (.agg [.int .i64, .int .i64, .int .u64, .int .u64, .int .u64]), .slice 4 (.agg [.int .i64, .int .i64, .int .u64, .int .u64])]) p) : ∃ o : Of, p = ofP o ∧ OfOk o := by
  cases h with | agg h =>
  cases h with | cons a1 h => cases h with | cons a2 h => cases h with | cons a3 h => cases h with | cons a4 h => cases h with | cons a5 h => cases h with | cons a6 h => cases h with | cons a7 h => cases h with | cons a8 h => cases h with | cons a9 h =>
    cases h
    obtain ⟨x, rfl, hx⟩ := isSliceO (fun _ h => isBkO h) a8
    obtain ⟨y, rfl, hy⟩ := isSliceO (fun _ h => isVtO h) a9
    cases a1; cases a2; cases a3; cases a4; cases a5; cases a6; cases a7
    exact ⟨⟨_, _, ⟨_, _, (_, _), _⟩, ⟨x, y⟩⟩, rfl, by assumption, by assumption, ⟨by assumption, by assumption, by assumption, by assumption, by assumption⟩, hx, hy⟩
theorem isNdO {p : PV} (h : TIs (.agg [.int .i64, .int .i64, .slice 5 (.agg [.int .i64, .int .i64, .int .u64, .int .u64, .int .u64]), .slice 4 (.agg [.int .i64, .int .i64, .int .u64, .int .u64]), .slice 5 (.agg [.int .i64, .int .i64, .int .u64, .int .u64, .int .u64]), .slice 4 (.agg [.int .i64, .int .i64, .int .u64, .int .u64]), .slice 9 (.agg [.int .i64, .int .i64, .int .i64, .int .i64, .int .u64, .int .u64, .int .u64, .slice 5 (.agg [.int .i64, .int .i64, .int .u64, .int .u64, .int .u64]), .slice 4 (.agg [.int .i64, .int .i64, .int .u64, .int .u64])]), .int .u64, .int .u64, .int .i64, .int .i64, .bool]) p) : ∃ n : Nd, p = ndP n ∧ NdOk n := by
  cases h with | agg h =>
  cases h with | cons a1 h => cases h with | cons a2 h => cases h with | cons a3 h => cases h with | cons a4 h => cases h with | cons a5 h => cases h with | cons a6 h => cases h with | cons a7 h => cases h with | cons a8 h => cases h with | cons a9 h => cases h with | cons b1 h => cases h with | cons b2 h => cases h with | cons b3 h =>
    cases h
    obtain ⟨x, rfl, hx⟩ := isSliceO (fun _ h => isBkO h) a3
    obtain ⟨y, rfl, hy⟩ := isSliceO (fun _ h => isVtO h) a4
    obtain ⟨u, rfl, hu⟩ := isSliceO (fun _ h => isBkO h) a5
    obtain ⟨v, rfl, hv⟩ := isSliceO (fun _ h => isVtO h) a6
    obtain ⟨o, rfl, ho⟩ := isSliceO (fun _ h => isOfO h) a7
    cases a1; cases a2; cases a8; cases a9; cases b1; cases b2; cases b3
    exact ⟨⟨_, _, ⟨x, y⟩, ⟨u, v⟩, o, ⟨(_, _), _, _⟩, _⟩, rfl, by assumption, by assumption, ⟨hx, hy⟩, ⟨hu, hv⟩, ho, ⟨by assumption, by assumption⟩, by assumption, by assumption⟩
end Go.Mg
namespace Go.Proofs.YtabjakfgaodocaaGreat
def io : List Nat := [104, 97, 114, 110, 101, 115, 115, 32, 56, 49, 54, 54, 102, 99, 100, 102, 54, 101, 102, 56, 52, 53, 57, 51, 98, 52, 98, 97, 101, 98, 49, 51, 97, 99, 50, 49, 100, 54, 48, 97, 49, 101, 97, 54, 52, 98, 97, 100, 50, 101, 49, 97, 55, 52, 57, 54, 55, 56, 51, 102, 99, 98, 50, 53, 56, 57, 57, 102, 98, 51, 51, 57, 32, 99, 117, 116, 32, 97, 116, 32, 109, 97, 114, 105, 103, 111, 108, 100, 47, 109, 97, 114, 105, 103, 111, 108, 100, 108, 97, 119, 49, 56, 46, 78, 111, 100, 101, 75, 101, 101, 112, 115, 32, 109, 97, 114, 105, 103, 111, 108, 100, 47, 109, 97, 114, 105, 103, 111, 108, 100, 108, 97, 119, 49, 56, 46, 78, 111, 100, 101, 87, 97, 105, 116, 115, 32, 109, 97, 114, 105, 103, 111, 108, 100, 47, 109, 97, 114, 105, 103, 111, 108, 100, 108, 97, 119, 49, 56, 46, 78, 111, 100, 101, 86, 111, 116, 101, 115, 32, 109, 97, 114, 105, 103, 111, 108, 100, 47, 109, 97, 114, 105, 103, 111, 108, 100, 108, 97, 119, 49, 56, 46, 78, 111, 100, 101, 75, 110, 111, 119, 110, 32, 109, 97, 114, 105, 103, 111, 108, 100, 47, 109, 97, 114, 105, 103, 111, 108, 100, 108, 97, 119, 49, 57, 46, 78, 101, 116, 65, 108, 108, 32, 109, 97, 114, 105, 103, 111, 108, 100, 47, 109, 97, 114, 105, 103, 111, 108, 100, 108, 97, 119, 49, 57, 46, 78, 101, 116, 79, 114, 100, 101, 114, 32, 109, 97, 114, 105, 103, 111, 108, 100, 47, 109, 97, 114, 105, 103, 111, 108, 100, 108, 97, 119, 49, 57, 46, 78, 101, 116, 67, 108, 97, 115, 104, 32, 109, 97, 114, 105, 103, 111, 108, 100, 47, 109, 97, 114, 105, 103, 111, 108, 100, 108, 97, 119, 49, 57, 46, 78, 101, 116, 72, 101, 97, 100, 115, 32, 109, 97, 114, 105, 103, 111, 108, 100, 47, 109, 97, 114, 105, 103, 111, 108, 100, 108, 97, 119, 49, 56, 46, 78, 111, 100, 101, 84, 105, 99, 107, 115, 32, 109, 97, 114, 105, 103, 111, 108, 100, 47, 109, 97, 114, 105, 103, 111, 108, 100, 108, 97, 119, 49, 56, 46, 78, 111, 100, 101, 83, 116, 101, 112, 115]
theorem ioEq : Tryz.prog.initOrder = String.ofList (io.map Char.ofNat) := by kernel_rfl
theorem ioList : Tryz.prog.initOrder.toList = io.map Char.ofNat := by rw [ioEq, String.toList_ofList]
def ws : List (List Nat) := [[99, 117, 116], [97, 116], [109, 97, 114, 105, 103, 111, 108, 100, 47, 109, 97, 114, 105, 103, 111, 108, 100, 108, 97, 119, 49, 56, 46, 78, 111, 100, 101, 75, 101, 101, 112, 115], [109, 97, 114, 105, 103, 111, 108, 100, 47, 109, 97, 114, 105, 103, 111, 108, 100, 108, 97, 119, 49, 56, 46, 78, 111, 100, 101, 87, 97, 105, 116, 115], [109, 97, 114, 105, 103, 111, 108, 100, 47, 109, 97, 114, 105, 103, 111, 108, 100, 108, 97, 119, 49, 56, 46, 78, 111, 100, 101, 86, 111, 116, 101, 115], [109, 97, 114, 105, 103, 111, 108, 100, 47, 109, 97, 114, 105, 103, 111, 108, 100, 108, 97, 119, 49, 56, 46, 78, 111, 100, 101, 75, 110, 111, 119, 110], [109, 97, 114, 105, 103, 111, 108, 100, 47, 109, 97, 114, 105, 103, 111, 108, 100, 108, 97, 119, 49, 57, 46, 78, 101, 116, 65, 108, 108], [109, 97, 114, 105, 103, 111, 108, 100, 47, 109, 97, 114, 105, 103, 111, 108, 100, 108, 97, 119, 49, 57, 46, 78, 101, 116, 79, 114, 100, 101, 114], [109, 97, 114, 105, 103, 111, 108, 100, 47, 109, 97, 114, 105, 103, 111, 108, 100, 108, 97, 119, 49, 57, 46, 78, 101, 116, 67, 108, 97, 115, 104], [109, 97, 114, 105, 103, 111, 108, 100, 47, 109, 97, 114, 105, 103, 111, 108, 100, 108, 97, 119, 49, 57, 46, 78, 101, 116, 72, 101, 97, 100, 115], [109, 97, 114, 105, 103, 111, 108, 100, 47, 109, 97, 114, 105, 103, 111, 108, 100, 108, 97, 119, 49, 56, 46, 78, 111, 100, 101, 84, 105, 99, 107, 115], [109, 97, 114, 105, 103, 111, 108, 100, 47, 109, 97, 114, 105, 103, 111, 108, 100, 108, 97, 119, 49, 56, 46, 78, 111, 100, 101, 83, 116, 101, 112, 115]]
theorem words : behindMainWord (wordsSigns Tryz.prog.initOrder.toList) = ws.map (List.map Char.ofNat) := by
  rw [ioList]
  kernel_rfl
theorem strip : stripLifts liftWords (ws.map (List.map Char.ofNat)) = ([], ws.map (List.map Char.ofNat)) := by kernel_rfl
theorem rows0 : Tryz.prog.doorRows = [] := by kernel_rfl
theorem lays : Tryz.prog.laysLater = false := by kernel_rfl
theorem refl0 : Tryz.prog.bearsReflect = false := by kernel_rfl
theorem headw : (ws.map (List.map Char.ofNat)).head? = some "cut".toList := by kernel_rfl
theorem enters (P : Program) (W : List (List Char)) (hW : behindMainWord (wordsSigns P.initOrder.toList) = W) (hs : stripLifts liftWords W = ([], W)) (hh : W.head? = some "cut".toList) (hr : P.doorRows = []) (hl : P.laysLater = false) (hb : P.bearsReflect = false) : P.mayEnter = true := by
  unfold Program.mayEnter
  rw [hW]
  cases W with
  | nil => cases hh
  | cons c r =>
    simp only [hs, hh, hl, hb, Program.doorFits, hr]
    simp
theorem mayEnter : Tryz.prog.mayEnter = true := enters Tryz.prog _ words strip headw rows0 lays refl0
theorem own : ownKnob Tryz.prog.godebug = none := by kernel_rfl
theorem laidOut : laidOutB Tryz.prog = true := by kernel_rfl
theorem rowed : mapsRowed Tryz.prog = true := by kernel_rfl
theorem heard : Tryz.prog.stopsHeard = true := by kernel_rfl
theorem make_of (P : Program) (W : List (List Char)) (hW : behindMainWord (wordsSigns P.initOrder.toList) = W) (hh : W.head? = some "cut".toList) : P.make = some .cut := by
  unfold Program.make
  rw [hW]
  cases W with
  | nil => cases hh
  | cons c r =>
    have e : c = "cut".toList := by simpa using hh
    subst e
    show (if _ then _ else _) = _
    rw [if_neg (by decide), if_pos (by simp)]
theorem makes : Tryz.prog.make = some .cut := make_of Tryz.prog _ words headw
theorem lifts : Tryz.prog.liftsFinal = false := by
  unfold Program.liftsFinal Program.headLifts
  rw [words]
  kernel_rfl
end Go.Proofs.YtabjakfgaodocaaGreat
