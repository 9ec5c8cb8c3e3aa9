/- Plain laws of views: lists of blocks and votes, and what may be at all. Plain laws of views: which views may be. Plain laws of views: what is taken. Plain laws of views: what is taken, as the program does it. Plain laws of views: votes that are taken, as the program does it. Plain laws of views: view.Take. Plain laws of views: what holds of what is taken. The laws of views' example. Conditions: none. -/
import Derived.Test.YtlhocfhoocmfiaaD2
import Derived.Test.YtlhocfhoocmfiaaGH
import Derived.Test.YtlhocfhoocmfiaaV1
import Derived.Test.YtlhocfhoocmfiaaV2
namespace Go.Mg
def firstF {R : Type} (f : Nat → Option R) : Nat → Nat → Option R
  | _, 0 => none
  | k, d + 1 => match f k with
    | some r => some r
    | none => firstF f (k + 1) d
theorem firstF_none {R : Type} {f : Nat → Option R} : ∀ {d k : Nat}, firstF f k d = none ↔ ∀ j, k ≤ j → j < k + d → f j = none
  | 0, k => ⟨fun _ j h1 h2 => by omega, fun _ => rfl⟩
  | d + 1, k => by
    unfold firstF
    cases h : f k with
    | some r => exact ⟨fun h => (by cases h), fun h2 => (by rw [h2 k (Nat.le_refl _) (by omega)] at h; cases h)⟩
    | none =>
      rw [firstF_none (k := k + 1)]
      refine ⟨fun h2 j h3 h4 => ?_, fun h2 j h3 h4 => h2 j (by omega) (by omega)⟩
      by_cases e : j = k
      · subst e; exact h
      · exact h2 j (by omega) (by omega)
theorem firstF_some {R : Type} {f : Nat → Option R} {r : R} : ∀ {d k : Nat}, firstF f k d = some r → ∃ j, k ≤ j ∧ j < k + d ∧ f j = some r ∧ ∀ i, k ≤ i → i < j → f i = none
  | 0, k, h => by cases h
  | d + 1, k, h => by
    unfold firstF at h
    cases hk : f k with
    | some q =>
      rw [hk] at h
      cases h
      exact ⟨k, Nat.le_refl _, by omega, hk, fun i h1 h2 => by omega⟩
    | none =>
      rw [hk] at h
      obtain ⟨j, h1, h2, h3, h4⟩ := firstF_some h
      refine ⟨j, by omega, by omega, h3, fun i h5 h6 => ?_⟩
      by_cases e : i = k
      · subst e; exact hk
      · exact h4 i (by omega) h6
def outF {S R : Type} (s : S) : Option R → S ⊕ R
  | some r => .inr r
  | none => .inl s
theorem search_loop {S R : Type} {step : S → Option (S ⊕ (S ⊕ R))} {n : Nat} (mk : Nat → S) (f : Nat → Option R) (hs : ∀ j, j < n → step (mk j) = match f j with | some r => some (.inr (.inr r)) | none => some (.inl (mk (j + 1))))
    (he : step (mk n) = some (.inr (.inl (mk n)))) (hn : n < 4000000000000000000) : iter step big (mk 0) = some (outF (mk n) (firstF f 0 n)) := by
  have key : ∀ (d k q : Nat), k + d = n → d < q → iter step q (mk k) = some (outF (mk n) (firstF f k d)) := by
    intro d
    induction d with
    | zero =>
      intro k q hk hq
      obtain ⟨q, rfl⟩ : ∃ p, q = p + 1 := ⟨q - 1, by omega⟩
      obtain rfl : k = n := by omega
      exact iter_end he
    | succ d ih =>
      intro k q hk hq
      obtain ⟨q, rfl⟩ : ∃ p, q = p + 1 := ⟨q - 1, by omega⟩
      have h1 := hs k (by omega)
      unfold firstF
      cases hf : f k with
      | some r =>
        rw [hf] at h1
        exact iter_end h1
      | none =>
        rw [hf] at h1
        rw [iter_go h1]
        exact ih (k + 1) q (by omega) (by omega)
  exact key n 0 big (by omega) (big_gt hn)
def hasAt {α : Type} [DecidableEq α] (l : List α) (v : α) (j : Nat) : Option Int := if l[j]? = some v then some (j : Int) else none
theorem hasAt_first {α : Type} [DecidableEq α] {l : List α} {v : α} : (firstF (hasAt l v) 0 l.length).isSome = decide (v ∈ l) := by
  cases h : firstF (hasAt l v) 0 l.length with
  | none =>
    rw [firstF_none] at h
    refine (decide_eq_false fun hm => ?_).symm
    obtain ⟨j, hj⟩ := List.getElem?_of_mem hm
    have := h j (Nat.zero_le _) (by have := (List.getElem?_eq_some_iff.1 hj).1; omega)
    unfold hasAt at this
    rw [if_pos hj] at this
    cases this
  | some r =>
    obtain ⟨j, -, -, h3, -⟩ := firstF_some h
    refine (decide_eq_true ?_).symm
    unfold hasAt at h3
    split at h3
    · rename_i e; exact List.mem_of_getElem? e
    · cases h3
theorem hasAt_nn {α : Type} [DecidableEq α] {l : List α} {v : α} {n : Nat} {r : Int} (h : firstF (hasAt l v) 0 n = some r) : 0 ≤ r := by
  obtain ⟨j, -, -, h3, -⟩ := firstF_some h
  unfold hasAt at h3
  split at h3
  · cases h3; omega
  · cases h3
theorem F161_eq {l : List Bk} (hl : l.length ≤ 100000) (v : Bk) : F161 l v = some (decide (v ∈ l)) := by
  have e := search_loop (step := F170_s1 l v) (n := l.length) (fun k => F170_L1.mk (k : Int)) (hasAt l v) (fun j hj => by
    obtain ⟨y, hy, -⟩ := get_of hj
    unfold F170_s1 hasAt
    simp only
    rw [decide_eq_true (show (j : Int) < (l.length : Int) by omega), ct, ix_nat hy, ob, eqBk, wrap_succ (n := j) (by omega), hy]
    by_cases h : v = y
    · rw [decide_eq_true h, ct, if_pos (by rw [h])]
    · rw [decide_eq_false h, cf, if_neg (fun e => h (Option.some.inj e).symm)]) (by
    unfold F170_s1
    simp only
    rw [decide_eq_false (show ¬ (l.length : Int) < (l.length : Int) by omega), cf]) (by omega)
  unfold F161 F170
  rw [← hasAt_first]
  have e' : iter (F170_s1 l v) big (F170_L1.mk 0) = some (outF (F170_L1.mk (l.length : Int)) (firstF (hasAt l v) 0 l.length)) := e
  rw [e', ob]
  cases h : firstF (hasAt l v) 0 l.length with
  | none => rw [outF, sl, ob]; rfl
  | some r => rw [outF, sr, ob, decide_eq_true (hasAt_nn h)]; rfl
theorem F162_eq {l : List Vt} (hl : l.length ≤ 100000) (v : Vt) : F162 l v = some (decide (v ∈ l)) := by
  have e := search_loop (step := F171_s1 l v) (n := l.length) (fun k => F171_L1.mk (k : Int)) (hasAt l v) (fun j hj => by
    obtain ⟨y, hy, -⟩ := get_of hj
    unfold F171_s1 hasAt
    simp only
    rw [decide_eq_true (show (j : Int) < (l.length : Int) by omega), ct, ix_nat hy, ob, eqVt, wrap_succ (n := j) (by omega), hy]
    by_cases h : v = y
    · rw [decide_eq_true h, ct, if_pos (by rw [h])]
    · rw [decide_eq_false h, cf, if_neg (fun e => h (Option.some.inj e).symm)]) (by
    unfold F171_s1
    simp only
    rw [decide_eq_false (show ¬ (l.length : Int) < (l.length : Int) by omega), cf]) (by omega)
  unfold F162 F171
  rw [← hasAt_first]
  have e' : iter (F171_s1 l v) big (F171_L1.mk 0) = some (outF (F171_L1.mk (l.length : Int)) (firstF (hasAt l v) 0 l.length)) := e
  rw [e', ob]
  cases h : firstF (hasAt l v) 0 l.length with
  | none => rw [outF, sl, ob]; rfl
  | some r => rw [outF, sr, ob, decide_eq_true (hasAt_nn h)]; rfl
section
variable {α : Type} [DecidableEq α]
def withP (a : List α) : List α → List α
  | [] => a
  | x :: r => withP (if x ∈ a then a else a ++ [x]) r
theorem withP_snoc (x : α) : ∀ (b a : List α), withP a (b ++ [x]) = if x ∈ withP a b then withP a b else withP a b ++ [x]
  | [], _ => rfl
  | _ :: r, _ => withP_snoc x r _
theorem withP_mem (x : α) : ∀ (b a : List α), x ∈ withP a b ↔ x ∈ a ∨ x ∈ b
  | [], a => by simp [withP]
  | y :: r, a => by
    unfold withP
    rw [withP_mem x r]
    by_cases h : y ∈ a
    · rw [if_pos h, List.mem_cons]
      exact ⟨fun h2 => h2.elim .inl (fun h3 => .inr (.inr h3)), fun h2 => h2.elim .inl fun h3 => h3.elim (fun e => .inl (e ▸ h)) .inr⟩
    · rw [if_neg h, List.mem_append, List.mem_singleton, List.mem_cons, or_assoc]
theorem withP_len : ∀ (b a : List α), (withP a b).length ≤ a.length + b.length
  | [], a => by simp [withP]
  | y :: r, a => by
    unfold withP
    have := withP_len r (if y ∈ a then a else a ++ [y])
    have h2 : (if y ∈ a then a else a ++ [y]).length ≤ a.length + 1 := by split <;> simp
    simp only [List.length_cons]; omega
theorem withP_pre : ∀ (b a : List α), ∃ t, withP a b = a ++ t
  | [], a => ⟨[], by simp [withP]⟩
  | y :: r, a => by
    unfold withP
    obtain ⟨t, ht⟩ := withP_pre r (if y ∈ a then a else a ++ [y])
    rw [ht]
    split
    · exact ⟨t, rfl⟩
    · exact ⟨[y] ++ t, by rw [List.append_assoc]⟩
theorem withP_sub : ∀ {b a : List α}, (∀ x ∈ b, x ∈ a) → withP a b = a
  | [], _, _ => rfl
  | y :: r, a, h => by
    unfold withP
    rw [if_pos (h y (.head _))]
    exact withP_sub fun x hx => h x (.tail _ hx)
theorem withP_len_ge (b a : List α) : a.length ≤ (withP a b).length := by
  obtain ⟨t, ht⟩ := withP_pre b a
  rw [ht, List.length_append]; omega
end
theorem F139_eq {a b : List Bk} (h : a.length + b.length ≤ 90000) : F139 a b = some (withP a b) := by
  unfold F139
  rw [room_ok (by omega) (by omega), ct]
  have e := count_loop (step := F139_s1 b) (n := b.length) (fun k => F139_L1.mk (k : Int) (withP a (b.take k))) (F139_L1.mk (b.length : Int) (withP a b)) (fun k hk => by
    obtain ⟨y, hy, -⟩ := get_of hk
    have hlen := withP_len (b.take k) a
    rw [List.length_take] at hlen
    unfold F139_s1
    simp only
    rw [decide_eq_true (show (k : Int) < (b.length : Int) by omega), ct, ix_nat hy, ob, F161_eq (by omega), ob, take_succ_getG hy, withP_snoc, wrap_succ (n := k) (by omega)]
    by_cases hm : y ∈ withP a (b.take k)
    · rw [decide_eq_true hm, Bool.not_true, cf, if_pos hm]
    · rw [decide_eq_false hm, Bool.not_false, ct, room_ok (by simp only [List.length_singleton]; omega) (by omega), ct, if_neg hm]) (by
    unfold F139_s1
    simp only
    rw [decide_eq_false (show ¬ (b.length : Int) < (b.length : Int) by omega), cf, List.take_length]) (by omega)
  have e' : iter (F139_s1 b) big (F139_L1.mk 0 a) = some (F139_L1.mk (b.length : Int) (withP a b)) := e
  rw [e', ob]
theorem F140_eq {a b : List Vt} (h : a.length + b.length ≤ 90000) : F140 a b = some (withP a b) := by
  unfold F140
  rw [room_ok (by omega) (by omega), ct]
  have e := count_loop (step := F140_s1 b) (n := b.length) (fun k => F140_L1.mk (k : Int) (withP a (b.take k))) (F140_L1.mk (b.length : Int) (withP a b)) (fun k hk => by
    obtain ⟨y, hy, -⟩ := get_of hk
    have hlen := withP_len (b.take k) a
    rw [List.length_take] at hlen
    unfold F140_s1
    simp only
    rw [decide_eq_true (show (k : Int) < (b.length : Int) by omega), ct, ix_nat hy, ob, F162_eq (by omega), ob, take_succ_getG hy, withP_snoc, wrap_succ (n := k) (by omega)]
    by_cases hm : y ∈ withP a (b.take k)
    · rw [decide_eq_true hm, Bool.not_true, cf, if_pos hm]
    · rw [decide_eq_false hm, Bool.not_false, ct, room_ok (by simp only [List.length_singleton]; omega) (by omega), ct, if_neg hm]) (by
    unfold F140_s1
    simp only
    rw [decide_eq_false (show ¬ (b.length : Int) < (b.length : Int) by omega), cf, List.take_length]) (by omega)
  have e' : iter (F140_s1 b) big (F140_L1.mk 0 a) = some (F140_L1.mk (b.length : Int) (withP a b)) := e
  rw [e', ob]
/-- One view with all of another one. -/
def joinP (a b : Vw) : Vw := ⟨withP a.B b.B, withP a.V b.V⟩
theorem F91_eq {a b : Vw} (h1 : a.B.length + b.B.length ≤ 90000) (h2 : a.V.length + b.V.length ≤ 90000) : F91 a b = some (joinP a b) := by
  unfold F91
  rw [F139_eq h1, ob, F140_eq h2, ob]; rfl
section
variable {α : Type} [DecidableEq α]
def diffAt (a b : List α) (j : Nat) : Option Bool := if a[j]? = b[j]? then none else some false
theorem diffAt_first {a b : List α} (hl : a.length = b.length) : (match firstF (diffAt a b) 0 a.length with | some r => r | none => true) = decide (a = b) := by
  cases h : firstF (diffAt a b) 0 a.length with
  | none =>
    rw [firstF_none] at h
    refine (decide_eq_true ?_).symm
    apply List.ext_getElem?
    intro j
    by_cases hj : j < a.length
    · have := h j (Nat.zero_le _) (by omega)
      unfold diffAt at this
      split at this
      · assumption
      · cases this
    · rw [List.getElem?_eq_none (by omega), List.getElem?_eq_none (by omega)]
  | some r =>
    obtain ⟨j, -, -, h3, -⟩ := firstF_some h
    unfold diffAt at h3
    split at h3
    · cases h3
    · rename_i hne
      cases h3
      exact (decide_eq_false fun e => hne (by rw [e])).symm
end
theorem F128_eq {a b : List Bk} (h : a.length ≤ 100000) : F128 a b = some (decide (a = b)) := by
  unfold F128
  by_cases hl : a.length = b.length
  · rw [show ((a.length : Int) != (b.length : Int)) = false by simp [hl], cf]
    have e := search_loop (step := F128_s1 a b) (n := a.length) (fun k => F128_L1.mk (k : Int)) (diffAt a b) (fun j hj => by
      obtain ⟨y, hy, -⟩ := get_of hj
      obtain ⟨z, hz, -⟩ := get_of (l := b) (n := j) (by omega)
      unfold F128_s1 diffAt
      simp only
      rw [decide_eq_true (show (j : Int) < (a.length : Int) by omega), ct, ix_nat hy, ob, ix_nat hz, ob, eqBk, wrap_succ (n := j) (by omega), hy, hz]
      by_cases e : y = z
      · rw [decide_eq_true e, Bool.not_true, cf, if_pos (by rw [e])]
      · rw [decide_eq_false e, Bool.not_false, ct, if_neg (fun q => e (Option.some.inj q))]) (by
      unfold F128_s1
      simp only
      rw [decide_eq_false (show ¬ (a.length : Int) < (a.length : Int) by omega), cf]) (by omega)
    have e' : iter (F128_s1 a b) big (F128_L1.mk 0) = some (outF (F128_L1.mk (a.length : Int)) (firstF (diffAt a b) 0 a.length)) := e
    rw [e', ob, ← diffAt_first hl]
    cases firstF (diffAt a b) 0 a.length with
    | none => rw [outF, sl]
    | some r => rw [outF, sr]
  · rw [show ((a.length : Int) != (b.length : Int)) = true by rw [bne_iff_ne]; omega, ct, decide_eq_false fun e => hl (by rw [e])]
theorem F129_eq {a b : List Vt} (h : a.length ≤ 100000) : F129 a b = some (decide (a = b)) := by
  unfold F129
  by_cases hl : a.length = b.length
  · rw [show ((a.length : Int) != (b.length : Int)) = false by simp [hl], cf]
    have e := search_loop (step := F129_s1 a b) (n := a.length) (fun k => F129_L1.mk (k : Int)) (diffAt a b) (fun j hj => by
      obtain ⟨y, hy, -⟩ := get_of hj
      obtain ⟨z, hz, -⟩ := get_of (l := b) (n := j) (by omega)
      unfold F129_s1 diffAt
      simp only
      rw [decide_eq_true (show (j : Int) < (a.length : Int) by omega), ct, ix_nat hy, ob, ix_nat hz, ob, eqVt, wrap_succ (n := j) (by omega), hy, hz]
      by_cases e : y = z
      · rw [decide_eq_true e, Bool.not_true, cf, if_pos (by rw [e])]
      · rw [decide_eq_false e, Bool.not_false, ct, if_neg (fun q => e (Option.some.inj q))]) (by
      unfold F129_s1
      simp only
      rw [decide_eq_false (show ¬ (a.length : Int) < (a.length : Int) by omega), cf]) (by omega)
    have e' : iter (F129_s1 a b) big (F129_L1.mk 0) = some (outF (F129_L1.mk (a.length : Int)) (firstF (diffAt a b) 0 a.length)) := e
    rw [e', ob, ← diffAt_first hl]
    cases firstF (diffAt a b) 0 a.length with
    | none => rw [outF, sl]
    | some r => rw [outF, sr]
  · rw [show ((a.length : Int) != (b.length : Int)) = true by rw [bne_iff_ne]; omega, ct, decide_eq_false fun e => hl (by rw [e])]
theorem F86_eq {a b : Vw} (h1 : a.B.length ≤ 100000) (h2 : a.V.length ≤ 100000) : F86 a b = some (decide (a.B = b.B ∧ a.V = b.V)) := by
  unfold F86
  rw [F128_eq h1, ob, F129_eq h2, ob]
  by_cases h : a.B = b.B
  · rw [decide_eq_true h, ct]; congr 1; exact decide_eq_decide.2 ⟨fun h3 => ⟨h, h3⟩, fun h3 => h3.2⟩
  · rw [decide_eq_false h, cf, decide_eq_false fun h3 => h h3.1]
theorem F84_eq (w : Vw) (n : Int) : F84 w n = some (decide ((w.B.length : Int) ≤ n ∧ (w.V.length : Int) ≤ n)) := by
  unfold F84
  by_cases h : (w.B.length : Int) ≤ n
  · rw [decide_eq_true h, ct]; congr 1; exact decide_eq_decide.2 ⟨fun h2 => ⟨h, h2⟩, fun h2 => h2.2⟩
  · rw [decide_eq_false h, cf, decide_eq_false fun h2 => h h2.1]
def mayB (c : Cf) (b : Bk) : Bool := decide (0 ≤ prP c b.Slot ∧ prP c b.Slot = b.From ∧ nm b ≠ (0, 0))
def mayV (c : Cf) (v : Vt) : Bool := decide (v.From ∈ cmP c v.Slot)
/-- What may be at all of what came. -/
def onlyP (c : Cf) (w : Vw) : Vw := ⟨w.B.filter (mayB c), w.V.filter (mayV c)⟩
/-- The slot of what is there, by its name. -/
def slotQ (B : List Bk) (id : ID) : Option Int := if id = (0, 0) then some 0 else (B.find? fun b => decide (nm b = id)).map Bk.Slot
/-- Do blocks stand on one another? -/
def ValidB (B : List Bk) : Prop := (places B).isSome = true
/-- Is a vote for what is there, of a slot that is not later than its own? -/
def forB (B : List Bk) (v : Vt) : Prop := ∃ s, slotQ B v.Head = some s ∧ s ≤ v.Slot
/-- May a view be? -/
structure MayW (c : Cf) (w : Vw) : Prop where
  conf : MayC c
  valid : ValidB w.B
  lenB : w.B.length ≤ 60
  lenV : w.V.length ≤ 240
  mayB : ∀ b ∈ w.B, mayB c b = true
  mayV : ∀ v ∈ w.V, mayV c v = true
  nodup : w.V.Nodup
  forB : ∀ v ∈ w.V, forB w.B v
open Classical in
/-- Is a block never to be counted? -/
def goneB (B : List Bk) (b : Bk) : Bool := (slotQ B (nm b)).isSome || (match slotQ B b.Parent with | some s => decide (s ≥ b.Slot) | none => false)
/-- Must it wait? -/
def waitB (B : List Bk) (upto : Int) (b : Bk) : Bool := match slotQ B b.Parent with | some _ => decide (b.Slot > upto) | none => true
def goneV (B : List Bk) (V : List Vt) (v : Vt) : Bool := decide (v ∈ V) || (match slotQ B v.Head with | some s => decide (s > v.Slot) | none => false)
def waitV (B : List Bk) (upto : Int) (v : Vt) : Bool := match slotQ B v.Head with | some _ => decide (v.Slot > upto) | none => true
def SmOk (B : List Bk) (sm : List (ID × Int)) : Prop := ∀ id, findE sm id = slotQ B id
def HmOk (V : List Vt) (hm : List (Vt × Bool)) : Prop := ∀ v, findE hm v = if v ∈ V then some true else none
structure SmR (B : List Bk) (sm : List (ID × Int)) : Prop where
  find : SmOk B sm
  len : sm.length ≤ B.length + 1
structure HmR (V : List Vt) (hm : List (Vt × Bool)) : Prop where
  find : HmOk V hm
  len : hm.length ≤ V.length
/-- A list in the beginning of another one. -/
structure PreL {α : Type} (lB : List α) (k : Nat) (l : List α) : Prop where
  take : lB.take k = l
  le : k ≤ lB.length
theorem PreL.len {α : Type} {lB l : List α} {k : Nat} (h : PreL lB k l) : l.length = k := by
  rw [← h.take, List.length_take]; have := h.le; omega
/-- What holds while those that stay are moved to the front. -/
structure Mv {α : Type} (l a : List α) (i j : Nat) (left : List α) : Prop where
  ij : i < j
  jl : j ≤ l.length
  len : l.length ≤ a.length
  left : a.take i = left
  rest : ∀ q, j ≤ q → q < l.length → a[q]? = l[q]?
/-- A view that grows, and what is left of what came. -/
structure GvS where
  B : List Bk
  V : List Vt
  full : Bool
  lB : List Bk
  lV : List Vt
open Classical in
/-- There is room for 60 blocks, and 240 votes. -/
def BelowT (s : GvS) : Prop := s.B.length ≤ 60 ∧ s.V.length ≤ 240
/-- The program's state is that of the plain one. -/
structure RepT (s : GvS) (x : F90_L1) : Prop where
  o6 : x.o6 = s.B
  o7 : x.o7 = s.V
  full : x.x_5 = s.full
  sm : SmR s.B x.o8
  hm : HmR s.V x.o9
  lB : PreL x.o14 x.left_0 s.lB
  lV : PreL x.o15 x.left_1 s.lV
open Classical in
/-- What holds of a view that grows. -/
structure InvT (w o : Vw) (upto : Int) (s : GvS) : Prop where
  preB : ∃ t, s.B = w.B ++ t ∧ ∀ b ∈ t, b ∈ o.B ∧ b.Slot ≤ upto
  preV : ∃ t, s.V = w.V ++ t ∧ ∀ v ∈ t, v ∈ o.V ∧ v.Slot ≤ upto
  valid : ValidB s.B
  nodup : s.V.Nodup
  forB : ∀ v ∈ s.V, forB s.B v
  below : BelowT s
  subB : s.lB.Sublist o.B
  subV : s.lV.Sublist o.V
  allB : ∀ b ∈ o.B, b ∈ s.lB ∨ goneB s.B b = true
  allV : ∀ v ∈ o.V, v ∈ s.lV ∨ goneV s.B s.V v = true
/-- What holds at the end: what is left is not gone, and must wait, or there was no room. -/
structure EndT (upto : Int) (s : GvS) : Prop where
  B : ∀ b ∈ s.lB, goneB s.B b = false ∧ (waitB s.B upto b = true ∨ 60 ≤ s.B.length ∧ s.full = true)
  V : ∀ v ∈ s.lV, goneV s.B s.V v = false ∧ (waitV s.B upto v = true ∨ 240 ≤ s.V.length ∧ s.full = true)
/-- What is taken, told at once. -/
structure Took (c : Cf) (w inp : Vw) (upto : Int) (r : Vw × Vw × Bool) : Prop where
  may : MayW c r.1
  preB : ∃ t, r.1.B = w.B ++ t ∧ ∀ b ∈ t, b ∈ (onlyP c inp).B ∧ b.Slot ≤ upto
  preV : ∃ t, r.1.V = w.V ++ t ∧ ∀ v ∈ t, v ∈ (onlyP c inp).V ∧ v.Slot ≤ upto
  subB : r.2.1.B.Sublist (onlyP c inp).B
  subV : r.2.1.V.Sublist (onlyP c inp).V
  allB : ∀ b ∈ (onlyP c inp).B, b ∈ r.2.1.B ∨ goneB r.1.B b = true
  allV : ∀ v ∈ (onlyP c inp).V, v ∈ r.2.1.V ∨ goneV r.1.B r.1.V v = true
  endB : ∀ b ∈ r.2.1.B, goneB r.1.B b = false ∧ (waitB r.1.B upto b = true ∨ 60 ≤ r.1.B.length ∧ r.2.2 = true)
  endV : ∀ v ∈ r.2.1.V, goneV r.1.B r.1.V v = false ∧ (waitV r.1.B upto v = true ∨ 240 ≤ r.1.V.length ∧ r.2.2 = true)
theorem F83_eq : F83 = some true := by kernel_rfl
end Go.Mg
