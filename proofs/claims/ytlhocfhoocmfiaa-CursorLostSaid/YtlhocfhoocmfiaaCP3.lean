/- Plain laws of cursors. Conditions: none. -/
import Derived.Test.YtlhocfhoocmfiaaCP2
namespace Go.Mg

theorem wrap_len {l : List Bk} {id : ID} (hl : l.length ≤ 1000) : IntKind.i64.wrap ((chainOf l id).length - 1) = (chainOf l id).length - 1 := by
  have := chain_len (l := l) id
  exact wrapI (by omega) (by omega)

/-- CursorTwice's plain law. -/
theorem move_twice {c : Cu} {l : List Bk} {head found : ID} {is : Bool} {slot : Int} (hl : l.length ≤ 1000) (hne : chainOf l head ≠ []) :
    moveOf (moveOf c l head found is slot) l head found is slot = moveOf c l head found is slot := by
  have h0 := indexOf_mem.2 (chain_zero hne)
  have h1 := indexOf_le (l := chainOf l head) (v := (0, 0))
  have hw := wrap_len (id := head) hl
  simp only [moveOf, hw]
  by_cases h2 : indexOf (chainOf l head) c.id < 0
  · simp only [if_pos h2]
    by_cases h3 : is = true ∧ indexOf (chainOf l head) found ≥ 0 ∧ indexOf (chainOf l head) found < ((chainOf l head).length : Int) - 1
    · simp only [if_pos h3]
      rw [if_neg (show ¬ indexOf (chainOf l head) found < 0 by omega)]
      rw [if_neg (by rintro ⟨-, -, h⟩; omega)]
      rw [if_neg (show ¬ indexOf (chainOf l head) found < 0 by omega)]
    · simp only [if_neg h3]
      rw [if_neg (show ¬ indexOf (chainOf l head) (0, 0) < 0 by omega)]
      rw [if_neg (by rintro ⟨h4, h5, h6⟩; exact h3 ⟨h4, h5, by omega⟩)]
      rw [if_neg (show ¬ indexOf (chainOf l head) (0, 0) < 0 by omega)]
  · simp only [if_neg h2]
    by_cases h3 : is = true ∧ indexOf (chainOf l head) found ≥ 0 ∧ indexOf (chainOf l head) found < indexOf (chainOf l head) c.id
    · simp only [if_pos h3]
      rw [if_neg (show ¬ indexOf (chainOf l head) found < 0 by omega)]
      rw [if_neg (by rintro ⟨-, -, h⟩; omega)]
      rw [if_neg (show ¬ indexOf (chainOf l head) found < 0 by omega)]
    · simp only [if_neg h3, if_neg h2]

/-- CursorLost's plain law. -/
theorem move_lost {c : Cu} {l : List Bk} {head found : ID} {is : Bool} {slot : Int} (h : chainOf l head = []) :
    moveOf c l head found is slot = ⟨(0, 0), slot, IntKind.i64.wrap (c.r + 1)⟩ := by
  have hi : ∀ v, indexOf [] v = -1 := fun v => rfl
  simp only [moveOf, h, hi]
  have h0 : ¬ (is = true ∧ (-1 : Int) ≥ 0 ∧ (-1 : Int) < if (-1 : Int) < 0 then IntKind.i64.wrap ((([] : List ID).length : Int) - 1) else -1) := by rintro ⟨-, h, -⟩; omega
  rw [if_neg h0, if_pos (by decide)]
end Go.Mg
