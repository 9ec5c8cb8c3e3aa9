/- Plain facts of chains and cursors. Conditions: none. -/
import Derived.Test.YtlhocfhoocmfiaaCA6
import Derived.Test.YtlhocfhoocmfiaaMg20
namespace Go.Mg

theorem indexOf_lt {l : List ID} {v : ID} : indexOf l v = -1 ∧ v ∉ l ∨ ∃ i : Nat, indexOf l v = i ∧ l[i]? = some v ∧ ∀ j, j < i → l[j]? ≠ some v := by
  unfold indexOf
  cases h : l.findIdx? (fun x => decide (v = x)) with
  | none =>
    left
    rw [List.findIdx?_eq_none_iff] at h
    exact ⟨rfl, fun hm => by simpa using h v hm⟩
  | some i =>
    right
    rw [List.findIdx?_eq_some_iff_getElem] at h
    obtain ⟨hi, h1, h2⟩ := h
    refine ⟨i, rfl, by rw [List.getElem?_eq_getElem hi]; simpa using (of_decide_eq_true h1).symm, fun j hj hc => ?_⟩
    have := h2 j hj
    rw [List.getElem?_eq_getElem (by omega)] at hc
    simp at hc this
    exact this hc.symm

theorem indexOf_mem {l : List ID} {v : ID} : 0 ≤ indexOf l v ↔ v ∈ l := by
  rcases indexOf_lt (l := l) (v := v) with ⟨h1, h2⟩ | ⟨i, h1, h2, h3⟩
  · rw [h1]; constructor
    · intro h; omega
    · intro h; exact absurd h h2
  · rw [h1]; exact ⟨fun _ => List.mem_of_getElem? h2, fun _ => by omega⟩

theorem indexOf_ge (l : List ID) (v : ID) : -1 ≤ indexOf l v := by
  rcases indexOf_lt (l := l) (v := v) with ⟨h1, h2⟩ | ⟨i, h1, h2, h3⟩ <;> omega

theorem indexOf_le {l : List ID} {v : ID} : indexOf l v < l.length := by
  rcases indexOf_lt (l := l) (v := v) with ⟨h1, h2⟩ | ⟨i, h1, h2, h3⟩
  · omega
  · have := (List.getElem?_eq_some_iff.1 h2).1; omega

section
variable {l : List Bk} {m : List (ID × Int)}

theorem chainF_zero (hpl : places l = some m) : ∀ (n : Nat) (id : ID) (i : Int), i + 1 ≤ n → findE m id = some i → (0, 0) ∈ chainF l n id i := by
  intro n
  induction n with
  | zero =>
    intro id i hi hf
    rcases (places_inv hpl).known _ _ hf with ⟨-, h⟩ | ⟨_, _, h, -⟩
    · simp [chainF, h]
    · omega
  | succ n ih =>
    intro id i hi hf
    rcases (places_inv hpl).known _ _ hf with ⟨h, h'⟩ | ⟨b, p, h0, h1, h2, h3, h4, h5, h6, h7⟩
    · simp [chainF, h, h']
    · simp only [chainF, if_neg (show i ≠ -1 by omega), h2, hpl, h4]
      exact List.mem_cons_of_mem _ (ih b.par p (by omega) h4)

theorem chainF_len (n : Nat) : ∀ (id : ID) (i : Int), (chainF l n id i).length ≤ n + 1 := by
  induction n with
  | zero => intro id i; simp [chainF]
  | succ n ih =>
    intro id i
    simp only [chainF]
    split
    · simp
    · split
      · simp
      · split
        · simp
        · split
          · simp
          · simp; exact ih _ _

theorem chain_len (id : ID) : (chainOf l id).length ≤ l.length + 1 := by
  unfold chainOf
  split
  · simp
  · rename_i m hpl
    split
    · simp
    · rename_i i hf
      have := chainF_len (l := l) (i + 1).toNat id i
      rcases (places_inv hpl).known _ _ hf with ⟨h, h'⟩ | ⟨b, p, h0, h1, h2, h3, h4, h5, h6, h7⟩
      · rw [h] at this ⊢; simp at this ⊢; omega
      · omega

theorem chain_zero {id : ID} (h : chainOf l id ≠ []) : (0, 0) ∈ chainOf l id := by
  unfold chainOf at h ⊢
  split
  · simp_all
  · rename_i m hpl
    split
    · simp_all
    · rename_i i hf
      refine chainF_zero hpl _ id i ?_ hf
      rcases (places_inv hpl).known _ _ hf with ⟨h, h'⟩ | ⟨b, p, h0, h1, h2, h3, h4, h5, h6, h7⟩ <;> omega

theorem chainF_end (hpl : places l = some m) {id : ID} (hf : findE m id = some (-1)) (n : Nat) : chainF l n id (-1) = [id] := by
  cases n with
  | zero => rfl
  | succ n => simp [chainF]

/-- Each on a chain is known, and its own chain is what is left. -/
theorem chainF_at (hpl : places l = some m) : ∀ (n : Nat) (id : ID) (i : Int), i + 1 ≤ n → findE m id = some i → ∀ (k : Nat) x, (chainF l (i + 1).toNat id i)[k]? = some x →
    ∃ j : Int, findE m x = some j ∧ j ≤ i ∧ (0 < k → j < i) ∧ chainF l (j + 1).toNat x j = (chainF l (i + 1).toNat id i).drop k := by
  intro n
  induction n with
  | zero =>
    intro id i hi hf k x hx
    rcases (places_inv hpl).known _ _ hf with ⟨h, h'⟩ | ⟨b, p, h0, h1, h2, h3, h4, h5, h6, h7⟩
    · subst h
      have hk : k = 0 := by
        have := (List.getElem?_eq_some_iff.1 hx).1
        simp [chainF] at this; exact this
      subst hk
      simp [chainF] at hx; subst hx
      exact ⟨-1, hf, Int.le_refl _, by omega, rfl⟩
    · omega
  | succ n ih =>
    intro id i hi hf k x hx
    rcases (places_inv hpl).known _ _ hf with ⟨h, h'⟩ | ⟨b, p, h0, h1, h2, h3, h4, h5, h6, h7⟩
    · exact ih id i (by omega) hf k x hx
    · have e := chainF_step (id := id) hpl (by omega) h0 h2 h4 h5 h6
      rw [e] at hx
      cases k with
      | zero =>
        simp at hx; subst hx
        exact ⟨i, hf, Int.le_refl _, by omega, rfl⟩
      | succ k =>
        simp at hx
        obtain ⟨j, g1, g2, g3, g4⟩ := ih b.par p (by omega) h4 k x hx
        exact ⟨j, g1, by omega, fun _ => by omega, by rw [g4, e]; rfl⟩

/-- What is on a chain has what is left for its chain. -/
theorem chain_at {id x : ID} {k : Nat} (h : (chainOf l id)[k]? = some x) : chainOf l x = (chainOf l id).drop k := by
  unfold chainOf at h ⊢
  cases hpl : places l with
  | none => rw [hpl] at h; simp at h
  | some m =>
    rw [hpl] at h
    simp only at h ⊢
    cases hf : findE m id with
    | none => rw [hf] at h; simp at h
    | some i =>
      rw [hf] at h
      simp only at h ⊢
      obtain ⟨j, g1, g2, g3, g4⟩ := chainF_at hpl (i + 1).toNat id i (by omega) hf k x h
      rw [g1]; exact g4

theorem chain_head {id : ID} (h : chainOf l id ≠ []) : (chainOf l id)[0]? = some id := by
  unfold chainOf at h ⊢
  split
  · simp_all
  · rename_i m hpl
    split
    · simp_all
    · rename_i i hf
      rcases (places_inv hpl).known _ _ hf with ⟨h, h'⟩ | ⟨b, p, h0, h1, h2, h3, h4, h5, h6, h7⟩
      · subst h; rfl
      · rw [chainF_step (id := id) hpl (by omega) h0 h2 h4 h5 h6]; rfl

theorem chain_lt (hpl : places l = some m) {id : ID} {i : Int} (hf : findE m id = some i) : ∀ {a b : Nat} {x y : ID}, a < b → (chainF l (i + 1).toNat id i)[a]? = some x → (chainF l (i + 1).toNat id i)[b]? = some y → x ≠ y := by
  intro a b x y hab ha hb
  obtain ⟨j, g1, g2, g3, g4⟩ := chainF_at hpl (i + 1).toNat id i (by omega) hf a x ha
  have hy : (chainF l (j + 1).toNat x j)[b - a]? = some y := by
    rw [g4, List.getElem?_drop, show a + (b - a) = b by omega]; exact hb
  obtain ⟨j', g5, g6, g7, -⟩ := chainF_at hpl (j + 1).toNat x j (by omega) g1 (b - a) y hy
  intro e
  subst e
  rw [g1] at g5
  cases g5
  have := g7 (by omega)
  omega

/-- On a chain nothing is twice. -/
theorem chain_inj {id x : ID} {a b : Nat} (ha : (chainOf l id)[a]? = some x) (hb : (chainOf l id)[b]? = some x) : a = b := by
  unfold chainOf at ha hb
  cases hpl : places l with
  | none => rw [hpl] at ha; simp at ha
  | some m =>
    rw [hpl] at ha hb
    simp only at ha hb
    cases hf : findE m id with
    | none => rw [hf] at ha; simp at ha
    | some i =>
      rw [hf] at ha hb
      simp only at ha hb
      rcases Nat.lt_trichotomy a b with h | h | h
      · exact absurd rfl (chain_lt hpl hf h ha hb)
      · exact h
      · exact absurd rfl (chain_lt hpl hf h hb ha)

theorem chain_mem {id x : ID} (h : x ∈ chainOf l id) : ∃ k : Nat, (chainOf l id)[k]? = some x ∧ indexOf (chainOf l id) x = k := by
  rcases indexOf_lt (l := chainOf l id) (v := x) with ⟨h1, h2⟩ | ⟨i, h1, h2, h3⟩
  · exact absurd h h2
  · exact ⟨i, h2, h1⟩

theorem indexOf_of {id x : ID} {k : Nat} (h : (chainOf l id)[k]? = some x) : indexOf (chainOf l id) x = k := by
  obtain ⟨k', h1, h2⟩ := chain_mem (List.mem_of_getElem? h)
  rw [h2, chain_inj h h1]

/-- Under: on the chain. -/
theorem chain_sub {a b c : ID} (h : a ∈ chainOf l b) (h' : b ∈ chainOf l c) : a ∈ chainOf l c := by
  obtain ⟨k, h1, -⟩ := chain_mem h'
  rw [chain_at h1] at h
  exact List.mem_of_mem_drop h

theorem chain_self {a b : ID} (h : a ∈ chainOf l b) : a ∈ chainOf l a := by
  obtain ⟨k, h1, -⟩ := chain_mem h
  rw [chain_at h1]
  have : ((chainOf l b).drop k)[0]? = some a := by simpa using h1
  exact List.mem_of_getElem? this

/-- Of two on a chain: the further down is on the other one's chain. -/
theorem chain_le {id x y : ID} (hx : x ∈ chainOf l id) (hy : y ∈ chainOf l id) : y ∈ chainOf l x ↔ indexOf (chainOf l id) x ≤ indexOf (chainOf l id) y := by
  obtain ⟨a, h1, h2⟩ := chain_mem hx
  obtain ⟨b, h3, h4⟩ := chain_mem hy
  rw [h2, h4, chain_at h1]
  constructor
  · intro h
    obtain ⟨q, hq, e⟩ := List.mem_iff_getElem.1 h
    have : (chainOf l id)[a + q]? = some y := by
      rw [← List.getElem?_drop, List.getElem?_eq_getElem hq, e]
    have := chain_inj this h3
    omega
  · intro h
    have : ((chainOf l id).drop a)[b - a]? = some y := by
      rw [List.getElem?_drop, show a + (b - a) = b by omega]; exact h3
    exact List.mem_of_getElem? this
end

/-! What the laws hand over. -/

theorem isCur {p : PV} (h : TIs (.agg [.int .u64, .int .u64, .int .i64, .int .i64]) p) : ∃ c : Cu, p = curP c := by
  cases h with
  | agg h =>
    cases h with | cons a h => cases h with | cons b h => cases h with | cons c h => cases h with | cons d h => cases h; cases a; cases b; cases c; cases d; exact ⟨⟨(_, _), _, _⟩, rfl⟩

theorem isId {p : PV} (h : TIs (.agg [.int .u64, .int .u64]) p) : ∃ c : ID, p = idP c := by
  cases h with
  | agg h =>
    cases h with | cons a h => cases h with | cons b h => cases h; cases a; cases b; exact ⟨(_, _), rfl⟩

theorem isBk {p : PV} (h : TIs (.agg [.int .i64, .int .i64, .int .u64, .int .u64, .int .u64]) p) : ∃ c : Bk, p = blkP c := by
  cases h with
  | agg h =>
    cases h with | cons a h => cases h with | cons b h => cases h with | cons c h => cases h with | cons d h => cases h with | cons e h => cases h; cases a; cases b; cases c; cases d; cases e; exact ⟨⟨_, _, _, _, _⟩, rfl⟩

theorem isList {α : Type} {f : α → PV} {T : TS} (hf : ∀ p, TIs T p → ∃ a, p = f a) : ∀ {xs : List PV}, (∀ x ∈ xs, TIs T x) → ∃ l : List α, xs = l.map f
  | [], _ => ⟨[], rfl⟩
  | x :: xs, h => by
    obtain ⟨a, rfl⟩ := hf x (h x (.head _))
    obtain ⟨l, rfl⟩ := isList hf fun y hy => h y (.tail _ hy)
    exact ⟨a :: l, rfl⟩

theorem isSlice {α : Type} {f : α → PV} {T : TS} {m : Nat} (hf : ∀ p, TIs T p → ∃ a, p = f a) {p : PV} (h : TIs (.slice m T) p) : ∃ l : List α, p = .slice m (l.map f) := by
  cases h with
  | slice h =>
    obtain ⟨l, rfl⟩ := isList hf h
    exact ⟨l, rfl⟩

theorem isBool {p : PV} (h : TIs .bool p) : ∃ b, p = .bool b := by cases h; exact ⟨_, rfl⟩
theorem isInt {k : IntKind} {p : PV} (h : TIs (.int k) p) : ∃ n, p = .int k n ∧ InKind k n := by
  cases h with | int h => exact ⟨_, rfl, h⟩

theorem len40 {l : List Bk} {b : Bool} (hb : b = false) (h : decide (((l.map blkP).length : Int) > 40) = b) : l.length ≤ 1000 := by
  subst hb
  have := of_decide_eq_false h
  simp at this
  omega
end Go.Mg
