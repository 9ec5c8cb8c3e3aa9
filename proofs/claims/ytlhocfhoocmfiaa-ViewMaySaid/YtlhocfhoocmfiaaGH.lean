/- Weights of blocks, heads: what stands alone, and the reference. Weights of blocks; the head. Plain laws of weights on blocks, and of the head: the program's side. Laws of trees. TreeKids, TreeMore: plain. Conditions: none. -/
import Derived.Test.YtlhocfhoocmfiaaD1
import Derived.Test.YtlhocfhoocmfiaaS1
import Derived.Test.YtlhocfhoocmfiaaD2
import Derived.Test.YtlhocfhoocmfiaaL3
namespace Go.Mg
open Go.Proofs
structure F151_L1 where
  t11 : Int
structure F155_L1 where
  i : Int
  out : List ID
structure F169_L1 where
  i : Int
  id : ID
structure F156_L1 where
  i : Int
  who : List Int
structure F124_L1 where
  most : Int
  i : Int
  best : ID
structure F82_L1 where
  i : Int
  id : ID
open Go.Proofs
structure F153_L1 where
  t12 : Int
  o3 : List (ID × Bool)
  out : List Int
structure F79_L1 where
  t19 : Int
  best : Rk
structure F81_L1 where
  id : ID
theorem iter_go {α β : Type} {step : α → Option (α ⊕ β)} {n : Nat} {x y : α} (h : step x = some (.inl y)) : iter step (n + 1) x = iter step n y := by
  rw [iter, h]
theorem iter_end {α β : Type} {step : α → Option (α ⊕ β)} {n : Nat} {x : α} {b : β} (h : step x = some (.inr b)) : iter step (n + 1) x = some b := by
  rw [iter, h]
theorem findE_setEg {α β : Type} [DecidableEq α] {m : List (α × β)} {k q : α} {v : β} : findE (setE m k v) q = if k = q then some v else findE m q := by
  induction m with
  | nil => simp [setE, findE]
  | cons p r ih =>
    obtain ⟨a, b⟩ := p
    unfold setE
    by_cases h : a = k
    · rw [if_pos h]
      subst h
      by_cases h2 : a = q
      · simp [findE, h2]
      · simp [findE, h2]
    · rw [if_neg h]
      simp only [findE]
      rw [ih]
      by_cases h2 : a = q
      · rw [if_pos h2, if_pos h2, if_neg (fun e => h (by rw [h2, e]))]
      · rw [if_neg h2, if_neg h2]
theorem take_succ_getG {α : Type} {l : List α} {j : Nat} {y : α} (h : l[j]? = some y) : l.take (j + 1) = l.take j ++ [y] := by rw [List.take_add_one, h]; rfl
open Go.Proofs
structure F10_L1 where
  i : Int
structure F10_L2 where
  v_is : Bool
  j : Int
structure F13_L1 where
  n : Int
  i : Int
/-- Does the n-th block fit behind those ahead? -/
def okAt (l : List Bk) (n : Nat) : Prop := ∃ y p, l[n]? = some y ∧ findE (mAt l n) y.Parent = some p ∧ ¬ y.Slot ≤ slotIx l p ∧ findE (mAt l n) (nm y) = none
theorem go_iff {l : List Bk} : ∀ (r n : Nat), l.length - n = r → n ≤ l.length → ((placesGo l (l.drop n) n (mAt l n)).isSome = true ↔ ∀ i, n ≤ i → i < l.length → okAt l i)
  | 0, n, hr, hn => by
    have : n = l.length := by omega
    subst this
    rw [List.drop_length]
    exact ⟨fun _ i h1 h2 => by omega, fun _ => rfl⟩
  | r + 1, n, hr, hn => by
    obtain ⟨y, hy, -⟩ := get_of (l := l) (n := n) (by omega)
    have ih := go_iff (l := l) r (n + 1) (by omega) (by omega)
    have e : mAt l (n + 1) = mAt l n ++ [(nm y, (n : Int))] := by simp only [mAt, hy]
    rw [e] at ih
    rw [placesGo_at hy]
    constructor
    · intro h i h1 h2
      cases hp : findE (mAt l n) y.Parent with
      | none => rw [hp] at h; cases h
      | some p =>
        rw [hp] at h
        simp only at h
        by_cases hs : y.Slot ≤ slotIx l p
        · rw [if_pos hs] at h; cases h
        · rw [if_neg hs] at h
          cases hq : findE (mAt l n) (nm y) with
          | some q => rw [hq] at h; cases h
          | none =>
            rw [hq] at h
            by_cases hin : i = n
            · subst hin; exact ⟨y, p, hy, hp, hs, hq⟩
            · exact ih.1 h i (by omega) h2
    · intro h
      obtain ⟨y', p, hy', hp, hs, hq⟩ := h n (Nat.le_refl _) (by omega)
      rw [hy] at hy'; cases hy'
      rw [hp]; simp only
      rw [if_neg hs, hq]
      exact ih.2 fun i h1 h2 => h i (by omega) h2
theorem may_iff {l : List Bk} : (places l).isSome = true ↔ ∀ i, i < l.length → okAt l i := by
  have := go_iff (l := l) l.length 0 (by omega) (Nat.zero_le _)
  rw [show (places l) = placesGo l (l.drop 0) 0 (mAt l 0) from rfl, this]
  exact ⟨fun h i hi => h i (Nat.zero_le _) hi, fun h i _ hi => h i hi⟩
theorem mAt_prefix {l m : List Bk} : ∀ n, (∀ i, i < n → l[i]? = m[i]?) → mAt l n = mAt m n
  | 0, _ => rfl
  | n + 1, h => by
    simp only [mAt, h n (by omega), mAt_prefix n fun i hi => h i (by omega)]
theorem okAt_prefix {l m : List Bk} {n : Nat} (h : ∀ i, i ≤ n → l[i]? = m[i]?) (ho : okAt l n) (hn : n < l.length) : okAt m n := by
  obtain ⟨y, p, h1, h2, h3, h4⟩ := ho
  have e := mAt_prefix n fun i hi => h i (by omega)
  refine ⟨y, p, by rw [← h n (Nat.le_refl _)]; exact h1, by rw [← e]; exact h2, ?_, by rw [← e]; exact h4⟩
  have hp : p = -1 ∨ 0 ≤ p ∧ p < n := by
    rw [mAt_find _ n (by omega)] at h2
    split at h2
    · cases h2; exact .inl rfl
    · split at h2
      · rename_i hi
        obtain ⟨j, b, g1, g2, -⟩ := mAt_slot hi
        cases h2
        exact .inr ⟨by omega, by omega⟩
      · cases h2
  rcases hp with rfl | ⟨h5, h6⟩
  · simpa [slotIx] using h3
  · have : slotIx m p = slotIx l p := by
      simp only [slotIx, h p.toNat (by omega)]
    rw [this]; exact h3
theorem may_take {l : List Bk} {k : Nat} (h : (places l).isSome = true) (hk : k ≤ l.length) : (places (l.take k)).isSome = true := by
  rw [may_iff] at h ⊢
  intro i hi
  simp only [List.length_take] at hi
  refine okAt_prefix (fun j hj => ?_) (h i (by omega)) (by omega)
  rw [List.getElem?_take_of_lt (by omega)]
/-- What one more asks for. -/
def fineB (l : List Bk) (b : Bk) : Bool := (slotOfB l b.Parent).2 && decide (b.Slot > (slotOfB l b.Parent).1) && !decide (nm b = (0, 0)) && decide (findOf l (nm b) < 0)
theorem may_more {l : List Bk} {m : List (ID × Int)} {b : Bk} (h : places l = some m) : (places (l ++ [b])).isSome = fineB l b := by
  have hl : ∀ i, i < l.length → okAt l i := may_iff.1 (by rw [h]; rfl)
  have hpre : ∀ i, i < l.length → l[i]? = (l ++ [b])[i]? := fun i hi => by rw [List.getElem?_append_left hi]
  have hm : mAt (l ++ [b]) l.length = m := by rw [← mAt_prefix l.length hpre, ← places_is h]
  have hb : (l ++ [b])[l.length]? = some b := by simp
  have hslot : ∀ p i, findE m p = some i → slotIx (l ++ [b]) i = slotIx l i := by
    intro p i hf
    rcases known_ix h hf with ⟨rfl, -⟩ | ⟨c, h0, h1, h2, -⟩
    · rfl
    · have : ¬ i = -1 := by omega
      simp only [slotIx, if_neg this, ← hpre i.toNat (by omega)]
  have key : (places (l ++ [b])).isSome = true ↔ okAt (l ++ [b]) l.length := by
    rw [may_iff]
    constructor
    · intro h1; exact h1 l.length (by simp)
    · intro h1 i hi
      simp only [List.length_append, List.length_singleton] at hi
      by_cases e : i = l.length
      · subst e; exact h1
      · exact okAt_prefix (fun j hj => hpre j (by omega)) (hl i (by omega)) (by omega)
  rw [Bool.eq_iff_iff, key]
  constructor
  · rintro ⟨y, p, h1, h2, h3, h4⟩
    rw [hb] at h1; cases h1
    rw [hm] at h2 h4
    rw [hslot _ _ h2] at h3
    have hz : ¬ nm b = (0, 0) := fun e => by rw [e, (places_inv h).zero] at h4; cases h4
    have g1 : slotOfB l b.Parent = (slotIx l p, true) := by simp only [slotOfB, h, h2]
    have g2 : findOf l (nm b) = -1 := by simp only [findOf, h, h4]; rfl
    unfold fineB
    rw [g1, g2, decide_eq_true (show b.Slot > slotIx l p by omega), decide_eq_false hz]; rfl
  · intro hf
    unfold fineB at hf
    simp only [Bool.and_eq_true, Bool.not_eq_true', decide_eq_true_eq, decide_eq_false_iff_not] at hf
    obtain ⟨⟨⟨h1, h2⟩, h3⟩, h4⟩ := hf
    cases hp : findE m b.Parent with
    | none => simp only [slotOfB, h, hp] at h1; cases h1
    | some p =>
      simp only [slotOfB, h, hp] at h2
      refine ⟨b, p, hb, by rw [hm]; exact hp, by rw [hslot _ _ hp]; omega, ?_⟩
      rw [hm]
      rcases Option.eq_none_or_eq_some (findE m (nm b)) with h5 | ⟨i, h5⟩
      · exact h5
      · exfalso
        simp only [findOf, h, h5, Option.getD_some] at h4
        rcases known_ix h h5 with ⟨-, e⟩ | ⟨c, h0, -⟩
        · exact h3 e
        · omega
end Go.Mg
