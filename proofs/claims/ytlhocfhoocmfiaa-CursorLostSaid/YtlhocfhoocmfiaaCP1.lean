/- Plain facts of trees: what 'places' tells. Conditions: none. -/
import Derived.Test.YtlhocfhoocmfiaaCA4
namespace Go.Mg

/-- What holds of a map of places. -/
structure PInv (l : List Bk) (m : List (ID × Int)) (n : Nat) : Prop where
  zero : findE m (0, 0) = some (-1)
  known : ∀ k i, findE m k = some i → (i = -1 ∧ k = (0, 0)) ∨ ∃ b p, 0 ≤ i ∧ i < n ∧ l[i.toNat]? = some b ∧ nm b = k ∧ findE m b.par = some p ∧ p < i ∧ -1 ≤ p ∧ slotIx l p < b.s
  names : ∀ i b, i < n → l[i]? = some b → findE m (nm b) = some (i : Int)

theorem PInv.step {l : List Bk} {m : List (ID × Int)} {n : Nat} {y : Bk} {p : Int} (h : PInv l m n) (hy : l[n]? = some y) (hp : findE m y.par = some p) (hs : ¬ y.s ≤ slotIx l p) (hq : findE m (nm y) = none) :
    PInv l (m ++ [(nm y, (n : Int))]) (n + 1) := by
  have old : ∀ k i, findE m k = some i → findE (m ++ [(nm y, (n : Int))]) k = some i := fun k i hk => by rw [findE_append, hk]; rfl
  refine ⟨old _ _ h.zero, fun k i hk => ?_, fun i b hi hb => ?_⟩
  · rw [findE_append] at hk
    rcases hm : findE m k with _ | j
    · rw [hm] at hk
      simp only [Option.none_or] at hk
      split at hk
      · rename_i e
        cases hk
        right
        refine ⟨y, p, by omega, by omega, by simpa using hy, e, old _ _ hp, ?_, ?_, by omega⟩
        · rcases h.known _ _ hp with ⟨h1, -⟩ | ⟨b, q, h1, h2, -⟩ <;> omega
        · rcases h.known _ _ hp with ⟨h1, -⟩ | ⟨b, q, h1, h2, -⟩ <;> omega
      · cases hk
    · rw [hm] at hk
      cases hk
      rcases h.known _ _ hm with h1 | ⟨b, q, h1, h2, h3, h4, h5, h6, h7, h8⟩
      · exact .inl h1
      · exact .inr ⟨b, q, h1, by omega, h3, h4, old _ _ h5, h6, h7, h8⟩
  · rcases Nat.lt_succ_iff_lt_or_eq.1 hi with hi | hi
    · exact old _ _ (h.names i b hi hb)
    · subst hi
      rw [hy] at hb; cases hb
      rw [findE_append, hq]; simp

theorem placesGo_inv {l : List Bk} : ∀ (r : List Bk) (i : Nat) (m m' : List (ID × Int)), r = l.drop i → i ≤ l.length → PInv l m i → placesGo l r i m = some m' → PInv l m' l.length
  | [], i, m, m', hr, hi, h, hg => by
    cases hg
    have : l.length ≤ i := by
      have := congrArg List.length hr
      simp at this; omega
    rw [show l.length = i by omega]; exact h
  | y :: r, i, m, m', hr, hi, h, hg => by
    have hil : i < l.length := by
      have := congrArg List.length hr
      simp at this; omega
    have hd := List.drop_eq_getElem_cons hil
    rw [hd, List.cons.injEq] at hr
    obtain ⟨rfl, rfl⟩ := hr
    unfold placesGo at hg
    split at hg
    · cases hg
    · rename_i p hp
      split at hg
      · cases hg
      · rename_i hs
        split at hg
        · cases hg
        · rename_i hq
          exact placesGo_inv _ (i + 1) _ m' rfl (by omega) (h.step (List.getElem?_eq_getElem hil) hp hs hq) hg

theorem places_inv0 {l : List Bk} : ∀ (k : ID) (i : Int), findE [(((0, 0) : ID), (-1 : Int))] k = some i → (i = -1 ∧ k = (0, 0)) ∨ ∃ b p, 0 ≤ i ∧ i < (0 : Nat) ∧ l[i.toNat]? = some b ∧ nm b = k ∧ findE [(((0, 0) : ID), (-1 : Int))] b.par = some p ∧ p < i ∧ -1 ≤ p ∧ slotIx l p < b.s := by
  intro k i hk
  unfold findE findE at hk
  split at hk
  · rename_i e; cases hk; exact .inl ⟨rfl, e.symm⟩
  · cases hk

theorem places_inv {l : List Bk} {m : List (ID × Int)} (h : places l = some m) : PInv l m l.length :=
  placesGo_inv l 0 _ m rfl (Nat.zero_le _) ⟨rfl, places_inv0, fun i b hi => by omega⟩ h

/-- A block, and all below it. -/
def chainF (l : List Bk) : Nat → ID → Int → List ID
  | 0, id, _ => [id]
  | n + 1, id, i => if i = -1 then [id] else match l[i.toNat]? with
    | none => [id]
    | some b => match places l with
      | none => [id]
      | some m => match findE m b.par with
        | none => [id]
        | some p => id :: chainF l n b.par p

def chainOf (l : List Bk) (id : ID) : List ID := match places l with
  | none => []
  | some m => match findE m id with
    | none => []
    | some i => chainF l (i + 1).toNat id i
theorem chainF_more {l : List Bk} {m : List (ID × Int)} (hpl : places l = some m) : ∀ (n : Nat) (k : Nat) (id : ID) (i : Int), i + 1 ≤ n → n ≤ k → findE m id = some i → chainF l k id i = chainF l n id i := by
  intro n
  induction n with
  | zero =>
    intro k id i hi hk hf
    have : i = -1 := by
      rcases (places_inv hpl).known _ _ hf with ⟨h, -⟩ | ⟨_, _, h, -⟩ <;> omega
    cases k with
    | zero => rfl
    | succ k => simp [chainF, this]
  | succ n ih =>
    intro k id i hi hk hf
    obtain ⟨k, rfl⟩ : ∃ j, k = j + 1 := ⟨k - 1, by omega⟩
    rcases (places_inv hpl).known _ _ hf with ⟨h, -⟩ | ⟨b, p, h0, h1, h2, h3, h4, h5, h6, h7⟩
    · simp [chainF, h]
    · simp only [chainF, if_neg (show i ≠ -1 by omega), h2, hpl, h4]
      rw [ih k b.par p (by omega) (by omega) h4]

theorem chainF_step {l : List Bk} {m : List (ID × Int)} {id : ID} {i p : Int} {b : Bk} (hpl : places l = some m) (hne : i ≠ -1) (h0 : 0 ≤ i) (hb : l[i.toNat]? = some b) (hp : findE m b.par = some p) (hpi : p < i) (hp1 : -1 ≤ p) :
    chainF l (i + 1).toNat id i = id :: chainF l (p + 1).toNat b.par p := by
  obtain ⟨n, hn⟩ : ∃ n, (i + 1).toNat = n + 1 := ⟨i.toNat, by omega⟩
  rw [hn]
  simp only [chainF, if_neg hne, hb, hpl, hp]
  rw [chainF_more hpl (p + 1).toNat n b.par p (by omega) (by omega) hp]

theorem map_get' {α : Type} {f : α → PV} {l : List α} {i : Int} {a : α} (h : l[i.toNat]? = some a) : (l.map f)[i.toNat]? = some (f a) := by
  simp [h]

theorem Conv.zs' {H : List LObj} {m : Nat} {xs : List PV} (h : xs = []) : Conv true H .zs (.slice m xs) := by subst h; exact Conv.zs
theorem Conv.vecAll' {H : List LObj} {m id n len : Nat} {xs ys : List PV} (hH : H[id]? = some (.vec m xs)) (hn : n = xs.length) (hl : len = xs.length) (h : ys = xs) : Conv true H (.vec m id n 0 len) (.slice m ys) := by
  subst h; exact Conv.vecAll hH hn hl
end Go.Mg
