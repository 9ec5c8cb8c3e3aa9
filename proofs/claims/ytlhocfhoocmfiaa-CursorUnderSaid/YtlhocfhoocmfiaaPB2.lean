/- CursorUnder, CursorStays, CursorLine: the plain laws. Conditions: none. -/
import Derived.Test.YtlhocfhoocmfiaaL3
import Derived.Test.YtlhocfhoocmfiaaPLc
namespace Go.Mg
section
variable {c : Cu} {l : List Bk} {head found : ID} {is : Bool} {slot : Int}

theorem few_of (h : l.length ≤ 1000) : few l = true := decide_eq_true h

theorem move_was (h : 0 ≤ indexOf (chainOf l head) c.ID) : moveOf c l head found is slot =
    if is = true ∧ indexOf (chainOf l head) found ≥ 0 ∧ indexOf (chainOf l head) found < indexOf (chainOf l head) c.ID then ⟨found, slot, c.Revoked⟩ else c := by
  simp only [moveOf, if_neg (show ¬ indexOf (chainOf l head) c.ID < 0 by omega)]

theorem move_not (hl : l.length ≤ 1000) (h : indexOf (chainOf l head) c.ID < 0) : moveOf c l head found is slot =
    if is = true ∧ indexOf (chainOf l head) found ≥ 0 ∧ indexOf (chainOf l head) found < ((chainOf l head).length : Int) - 1 then ⟨found, slot, IntKind.i64.wrap (c.Revoked + 1)⟩ else ⟨(0, 0), slot, IntKind.i64.wrap (c.Revoked + 1)⟩ := by
  simp only [moveOf, if_pos h, wrap_len hl]

theorem move_id (hl : l.length ≤ 1000) (hne : chainOf l head ≠ []) : 0 ≤ indexOf (chainOf l head) (moveOf c l head found is slot).ID := by
  by_cases h : 0 ≤ indexOf (chainOf l head) c.ID
  · rw [move_was h]; split
    · rename_i h2; exact h2.2.1
    · exact h
  · rw [move_not hl (by omega)]; split
    · rename_i h2; exact h2.2.1
    · exact indexOf_mem.2 (chain_zero hne)

theorem move_rev (h : 0 ≤ indexOf (chainOf l head) c.ID) : (moveOf c l head found is slot).Revoked = c.Revoked := by
  rw [move_was h]; split <;> rfl

theorem move_revd (hl : l.length ≤ 1000) (h : indexOf (chainOf l head) c.ID < 0) : (moveOf c l head found is slot).Revoked = IntKind.i64.wrap (c.Revoked + 1) := by
  rw [move_not hl h]; split <;> rfl

theorem move_low (h : 0 ≤ indexOf (chainOf l head) c.ID) : 0 ≤ indexOf (chainOf l (moveOf c l head found is slot).ID) c.ID := by
  have hc := indexOf_mem.1 h
  rw [move_was h]; split
  · rename_i h2; exact indexOf_mem.2 ((chain_le (indexOf_mem.1 h2.2.1) hc).2 (by omega))
  · exact indexOf_mem.2 (chain_self hc)

theorem move_same (h : 0 ≤ indexOf (chainOf l head) c.ID) (e : (moveOf c l head found is slot).ID = c.ID) : moveOf c l head found is slot = c := by
  rw [move_was h] at e ⊢
  split at e
  · rename_i h2
    simp only at e
    rw [e] at h2; omega
  · rename_i h2; rw [if_neg h2]

theorem underLaw : F6 c l head found is slot = some true := by
  simp only [F6, F36_eq, ob, Bool.not_true, cf]
  by_cases hl : (l.length : Int) > 40
  · simp [hl]
  have hl' : l.length ≤ 1000 := by omega
  simp only [hl, decide_false, cf, few_of hl', ct]
  by_cases hc : chainOf l head = []
  · simp [hc]
  have hc2 : (((chainOf l head).length : Int) == 0) = false := by
    have : (chainOf l head).length ≠ 0 := fun e => hc (List.eq_nil_of_length_eq_zero e)
    simpa using hc
  rw [hc2, cf]
  by_cases h1 : c.Revoked < 0
  · simp [h1]
  by_cases h2 : c.Revoked > 1152921504606846976
  · simp [h2, h1]
  simp only [h1, h2, decide_false, cf, ob, eqID, eqCu]
  rw [decide_eq_true (show indexOf (chainOf l head) (moveOf c l head found is slot).ID ≥ 0 from move_id hl' hc)]
  by_cases h : 0 ≤ indexOf (chainOf l head) c.ID
  · rw [decide_eq_true (show indexOf (chainOf l head) c.ID ≥ 0 from h), decide_eq_true (show indexOf (chainOf l (moveOf c l head found is slot).ID) c.ID ≥ 0 from move_low h), move_rev h]
    by_cases e : (moveOf c l head found is slot).ID = c.ID
    · simp [e, move_same h e]
    · simp [e]
  · rw [decide_eq_false (show ¬ indexOf (chainOf l head) c.ID ≥ 0 from h), move_revd hl' (by omega)]
    have hw : IntKind.i64.wrap (c.Revoked + 1) = c.Revoked + 1 := wrapI (by omega) (by omega)
    rw [hw]
    have : (c.Revoked + 1 == c.Revoked) = false := by simp; omega
    simp [this]

theorem staysLaw : F7 c l head found slot = some true := by
  simp only [F7, F36_eq, ob, Bool.not_true, cf]
  by_cases hl : (l.length : Int) > 40
  · simp [hl]
  have hl' : l.length ≤ 1000 := by omega
  simp only [hl, decide_false, cf, few_of hl', ct, ob]
  by_cases h : 0 ≤ indexOf (chainOf l head) c.ID
  · rw [decide_eq_true (show indexOf (chainOf l head) c.ID ≥ 0 from h)]
    simp only [eqID, eqCu]
    have e0 : moveOf c l head found false slot = c := by rw [move_was h, if_neg (by simp)]
    simp only [Bool.not_true, cf, e0, decide_true, Bool.not_true, cf]
    rw [move_was h]
    have hc := indexOf_mem.1 h
    by_cases hf : 0 ≤ indexOf (chainOf l head) found
    · have hf' := indexOf_mem.1 hf
      have hle := chain_le hc hf'
      rw [decide_eq_true (show indexOf (chainOf l head) found ≥ 0 from hf)]
      by_cases hu : 0 ≤ indexOf (chainOf l c.ID) found
      · have := hle.1 (indexOf_mem.1 hu)
        rw [if_neg (by rintro ⟨-, -, h3⟩; omega)]
        simp [decide_eq_true (show indexOf (chainOf l c.ID) found ≥ 0 from hu)]
      · have : ¬ indexOf (chainOf l head) c.ID ≤ indexOf (chainOf l head) found := fun h3 => hu (indexOf_mem.2 (hle.2 h3))
        rw [if_pos ⟨rfl, hf, by omega⟩]
        simp [decide_eq_false (show ¬ indexOf (chainOf l c.ID) found ≥ 0 from hu)]
    · rw [decide_eq_false (show ¬ indexOf (chainOf l head) found ≥ 0 from hf), if_neg (by rintro ⟨-, h2, -⟩; exact hf h2)]
      simp
  · rw [decide_eq_false (show ¬ indexOf (chainOf l head) c.ID ≥ 0 from h)]
    simp
end

theorem lineLaw {c : Cu} {l : List Bk} {heads found : List ID} : F8 c l heads found = some true := by
  simp only [F8, F36_eq, ob, Bool.not_true, cf]
  by_cases hl : (l.length : Int) > 40
  · simp [hl]
  have hl' : l.length ≤ 1000 := by omega
  simp only [hl, decide_false, cf, few_of hl', ct]
  by_cases hh : (heads.length : Int) > 20
  · simp [hh]
  simp only [hh, decide_false, cf]
  cases hd : heads with
  | nil => simp
  | cons h0 hr =>
  rw [← hd]
  have hz : heads[0]? = some h0 := by rw [hd]; rfl
  have hn0 : ((heads.length : Int) == 0) = false := by rw [hd]; simp; omega
  rw [hn0, cf, show ix heads 0 = some h0 from ix_nat (n := 0) hz]
  simp only [ob]
  by_cases hu : 0 ≤ indexOf (chainOf l h0) c.ID
  case neg => rw [decide_eq_false (show ¬ indexOf (chainOf l h0) c.ID ≥ 0 from hu)]; simp
  rw [decide_eq_true (show indexOf (chainOf l h0) c.ID ≥ 0 from hu)]
  simp only [Bool.not_true, cf]
  have key := iter_inv (step := F8_s1 c l heads found)
    (fun x => ∃ n : Nat, x.i = n ∧ n ≤ heads.length ∧ x.c.Revoked = c.Revoked ∧ (n = 0 → x.c = c) ∧ ∀ h, 0 < n → heads[n - 1]? = some h → 0 ≤ indexOf (chainOf l h) x.c.ID)
    (fun x => heads.length - x.i.toNat) (fun b => ∀ r, b = .inr r → r = true) (by
      rintro ⟨i, d⟩ ⟨n, rfl, hn, hrev, h0', hprev⟩
      simp only at hrev h0' hprev ⊢
      by_cases hlt : n < heads.length
      case neg =>
        right
        refine ⟨_, by simp only [F8_s1]; rw [decide_eq_false (by omega)]; rfl, ?_⟩
        intro r h; cases h
      obtain ⟨y, hy, -⟩ := get_of hlt
      -- is the one ahead under it?
      have hd : (n = 0 ∨ 0 < n ∧ ∃ y2, heads[n - 1]? = some y2 ∧ 0 ≤ indexOf (chainOf l y) y2) ∨ 0 < n ∧ ∃ y2, heads[n - 1]? = some y2 ∧ ¬ 0 ≤ indexOf (chainOf l y) y2 := by
        by_cases hn0 : n = 0
        · exact .inl (.inl hn0)
        · obtain ⟨y2, hy2, -⟩ := get_of (l := heads) (n := n - 1) (by omega)
          by_cases hq : 0 ≤ indexOf (chainOf l y) y2
          · exact .inl (.inr ⟨by omega, y2, hy2, hq⟩)
          · exact .inr ⟨by omega, y2, hy2, hq⟩
      have hw : 0 < n → IntKind.i64.wrap ((n : Int) - 1) = ((n - 1 : Nat) : Int) := fun h => by rw [wrapI (by omega) (by omega)]; omega
      rcases hd.symm with ⟨hp, y2, hy2, hq⟩ | hd
      · right
        refine ⟨.inr true, ?_, fun r h => by cases h; rfl⟩
        simp only [F8_s1]
        rw [decide_eq_true (show ((n : Int) < (heads.length : Int)) by omega), decide_eq_true (show (n : Int) > 0 by omega), hw hp]
        simp only [ct, ix_nat hy2, ix_nat hy, ob, few_of hl']
        rw [decide_eq_false (show ¬ indexOf (chainOf l y) y2 ≥ 0 from hq)]
        simp
      left
      have hunder : 0 ≤ indexOf (chainOf l y) d.ID := by
        rcases hd with hn0 | ⟨hp, y2, hy2, hq⟩
        · subst hn0
          rw [h0' rfl]
          rw [hz] at hy; cases hy
          exact hu
        · exact indexOf_mem.2 (chain_sub (indexOf_mem.1 (hprev y2 hp hy2)) (indexOf_mem.1 hq))
      have hf : ∃ f : ID, (bif decide ((n : Int) < (found.length : Int)) then (ix found (n : Int)).bind fun y4 => some y4 else some ((0 : Int), (0 : Int))) = some f := by
        by_cases hfl : n < found.length
        · obtain ⟨f, hf, -⟩ := get_of hfl
          exact ⟨f, by rw [decide_eq_true (by omega), ix_nat hf]; rfl⟩
        · exact ⟨(0, 0), by rw [decide_eq_false (by omega)]; rfl⟩
      obtain ⟨f, hf⟩ := hf
      have hne : chainOf l y ≠ [] := fun e => by rw [e] at hunder; simp [indexOf] at hunder
      refine ⟨F8_L1.mk (IntKind.i64.wrap ((n : Int) + 1)) (moveOf d l y f (decide ((n : Int) < (found.length : Int))) n), ?_, ⟨n + 1, wrap_succ (n := n) (by omega), by omega, ?_, by omega, ?_⟩, ?_⟩
      · simp only [F8_s1]
        rw [decide_eq_true (show ((n : Int) < (heads.length : Int)) by omega)]
        have hfirst : (bif decide ((n : Int) > 0) then (ix heads (IntKind.i64.wrap ((n : Int) - 1))).bind fun y2 => (ix heads (n : Int)).bind fun y3 => bif few l then bif !(decide (indexOf (chainOf l y3) y2 ≥ 0)) then (some (.inr (.inr (.inr true))) : Option (Unit ⊕ (F8_L1 ⊕ (F8_L1 ⊕ Bool)))) else some (.inl ()) else none else some (.inl ())) = some (.inl ()) := by
          rcases hd with hn0 | ⟨hp, y2, hy2, hq⟩
          · subst hn0; rfl
          · rw [decide_eq_true (show (n : Int) > 0 by omega), hw hp]
            simp only [ct, ix_nat hy2, ix_nat hy, ob, few_of hl']
            rw [decide_eq_true (show indexOf (chainOf l y) y2 ≥ 0 from hq)]; rfl
        rw [hfirst]
        simp only [ct, ob, sl, hf, ix_nat hy, few_of hl', move_rev hunder, hrev]
        rw [decide_eq_true (show indexOf (chainOf l y) _ ≥ 0 from move_id hl' hne)]
        simp
      · simpa using (move_rev hunder).trans hrev
      · intro h _ hh
        simp only [Nat.add_sub_cancel] at hh
        rw [hy] at hh; cases hh
        exact move_id hl' hne
      · simp only [wrap_succ (show n < 4000000000 by omega)]
        omega) (x := F8_L1.mk 0 c) ⟨0, rfl, Nat.zero_le _, rfl, fun _ => rfl, fun h hp => absurd hp (by omega)⟩ (n := big) (big_gt (by simp only; omega))
  obtain ⟨b, hb, hpost⟩ := key
  rw [hb]
  cases b with
  | inl v => rfl
  | inr r => simp [hpost r rfl]
end Go.Mg
