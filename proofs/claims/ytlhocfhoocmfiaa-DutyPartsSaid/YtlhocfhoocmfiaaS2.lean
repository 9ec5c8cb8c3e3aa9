/- Plain laws of the shuffle. Plain laws of the shuffle: all places together. Conditions: none. -/
import Derived.Test.YtlhocfhoocmfiaaR1
import Derived.Test.YtlhocfhoocmfiaaS1
namespace Go.Mg
theorem and_one {x : Int} (h0 : 0 ≤ x) (h1 : x ≤ 18446744073709551615) : bits .and .u64 x 1 = x.tmod 2 := by
  obtain ⟨n, rfl⟩ : ∃ n : Nat, x = n := ⟨x.toNat, by omega⟩
  have e : bits .and .u64 (n : Int) 1 = IntKind.u64.wrap ((BitVec.ofInt 64 (n : Int) &&& BitVec.ofInt 64 1).toNat : Int) := rfl
  have e2 : (BitVec.ofInt 64 1).toNat = 1 := by decide
  have e3 : (BitVec.ofInt 64 (n : Int)).toNat = n := by
    rw [BitVec.toNat_ofInt]; omega
  rw [e, BitVec.toNat_and, e2, e3, Nat.and_one_is_mod, wrapU (by omega) (by omega)]
  rfl
/-- A place of a shuffle. -/
def Pl (n i : Int) : Prop := 1 ≤ n ∧ n ≤ 1000 ∧ 0 ≤ i ∧ i < n
instance (n i : Int) : Decidable (Pl n i) := inferInstanceAs (Decidable (_ ∧ _))
theorem pivot_in {seed n r : Int} (h1 : 1 ≤ n) (h2 : n ≤ 1000) : 0 ≤ pivotOf seed n r ∧ pivotOf seed n r < n ∧ pivotOf seed n r = IntKind.i64.wrap ((step seed (IntKind.u64.wrap r)).tmod (IntKind.u64.wrap n)) := by
  have hs := (step_in seed (IntKind.u64.wrap r)).1
  have hs' : 0 ≤ step seed (IntKind.u64.wrap r) := hs
  unfold pivotOf
  rw [wrapU (n := n) (by omega) (by omega), Int.tmod_eq_emod_of_nonneg hs']
  have a := Int.emod_nonneg (step seed (IntKind.u64.wrap r)) (show n ≠ 0 by omega)
  have b := Int.emod_lt_of_pos (step seed (IntKind.u64.wrap r)) (show 0 < n by omega)
  rw [wrapI (by omega) (by omega)]
  exact ⟨a, b, rfl⟩
theorem mate_eq {seed n r i : Int} (h : Pl n i) : mateOf seed n r i = (pivotOf seed n r + n - i) % n := by
  obtain ⟨h1, h2, h3, h4⟩ := h
  have hp := pivot_in (seed := seed) (r := r) h1 h2
  unfold mateOf
  rw [wrapI (n := pivotOf seed n r + n) (by omega) (by omega), wrapI (by omega) (by omega), Int.tmod_eq_emod_of_nonneg (by omega)]
theorem mate_in {seed n r i : Int} (h : Pl n i) : Pl n (mateOf seed n r i) := by
  rw [mate_eq h]
  obtain ⟨h1, h2, h3, h4⟩ := h
  exact ⟨h1, h2, Int.emod_nonneg _ (by omega), Int.emod_lt_of_pos _ (by omega)⟩
theorem turn_in {seed n r i : Int} (h : Pl n i) : Pl n (turnOf seed n r i) := by
  unfold turnOf
  cases turnB seed n r i
  · exact h
  · exact mate_in h
/-- The first k rounds. -/
def rt (seed n i : Int) : Nat → Int
  | 0 => i
  | k + 1 => turnOf seed n k (rt seed n i k)
theorem rt_in {seed n i : Int} (h : Pl n i) : ∀ k, Pl n (rt seed n i k)
  | 0 => h
  | k + 1 => turn_in (rt_in h k)
/-- Where a place goes. -/
def toA (seed n i : Int) : Int := rt seed n i 10
theorem to_in {seed n i : Int} (h : Pl n i) : Pl n (toA seed n i) := rt_in h 10
theorem F101_eq (n i : Int) : F101 n i = some (decide (Pl n i)) := by
  unfold F101
  by_cases h1 : n > 0
  · rw [decide_eq_true h1, ct]
    by_cases h2 : n ≤ 1000
    · rw [decide_eq_true h2, ct]
      by_cases h3 : i ≥ 0
      · rw [decide_eq_true h3, ct]
        congr 1
        exact decide_eq_decide.2 ⟨fun h => ⟨by omega, h2, h3, h⟩, fun h => h.2.2.2⟩
      · rw [decide_eq_false h3, cf, decide_eq_false (fun h => h3 h.2.2.1)]
    · rw [decide_eq_false h2, cf, decide_eq_false (fun h => h2 h.2.1)]
  · rw [decide_eq_false h1, cf, decide_eq_false (fun h => h1 (by have := h.1; omega))]
theorem F103_eq (n i : Int) : F103 n i = some (decide (Pl n i)) := by
  rw [← F101_eq]
  unfold F101 F103
  by_cases h1 : n > 0
  · rw [decide_eq_true h1, decide_eq_true (show n ≥ 1 by omega)]
  · rw [decide_eq_false h1, decide_eq_false (show ¬ n ≥ 1 by omega)]
theorem turnOk_of {n i r : Int} (h : Pl n i) (h0 : 0 ≤ r) (h1 : r < 10) : turnOk n r = true :=
  decide_eq_true ⟨by have := h.1; omega, by have := h.1; have := h.2.1; rw [wrapU (by omega) (by omega)]; omega, h0, h1⟩
theorem F102_eq {seed n i : Int} {d : Dk} (h : Pl n i) (hk0 : 0 ≤ d.k) (hk1 : d.k ≤ 100000) : ∃ d', F102 seed n i d = some (toA seed n i, d') ∧ d'.k = d.k + 10 := by
  have key := @iter_inv _ _ (F102_s1 seed n) (fun x => ∃ j : Nat, j ≤ 10 ∧ x.t6 = j ∧ x.i = rt seed n i j ∧ x.d.k = d.k + j) (fun x => 11 - x.t6.toNat) (fun b => b.i = toA seed n i ∧ b.d.k = d.k + 10) (by
    rintro ⟨a, t, dd⟩ ⟨j, hj, rfl, ha, hd⟩
    simp only at ha hd
    subst ha
    by_cases hlt : j < 10
    · left
      refine ⟨_, by
        simp only [F102_s1]
        rw [decide_eq_true (show (j : Int) < 10 by omega), ct, turnOk_of h (by omega) (by omega), ct], ⟨j + 1, by omega, wrap_succ (n := j) (by omega), rfl, ?_⟩, ?_⟩
      · show IntKind.i64.wrap (dd.k + 1) = _
        rw [hd, wrapI (by omega) (by omega)]; omega
      · simp only [wrap_succ (show j < 4000000000 by omega)]; omega
    · right
      obtain rfl : j = 10 := by omega
      exact ⟨_, rfl, rfl, hd⟩)
  obtain ⟨b, hb, h1, h2⟩ := key (n := big) (x := ⟨i, 0, d⟩) ⟨0, by omega, rfl, rfl, by simp⟩ (big_gt (by omega))
  refine ⟨b.d, ?_, h2⟩
  unfold F102
  rw [hb, ob, h1]
def atP (seed n i : Int) : Int := if Pl n i then toA seed n i else -1
theorem F104_eq {seed n r i : Int} (h : Pl n i) (_ : 0 ≤ r) (_ : r < 10) : F104 seed n r i = some (turnOf seed n r i) := by
  unfold F104
  have hn := h.1
  have hn2 := h.2.1
  have hz : decide (IntKind.u64.wrap n ≠ 0) = true := decide_eq_true (by rw [wrapU (by omega) (by omega)]; omega)
  have hz2 : decide (n ≠ 0) = true := decide_eq_true (by omega)
  have hm : IntKind.i64.wrap ((step seed (IntKind.u64.wrap r)).tmod (IntKind.u64.wrap n)) = pivotOf seed n r := rfl
  rw [F115_eq, ob, hz, ct, hz2, ct, hm]
  have hm2 : (IntKind.i64.wrap (IntKind.i64.wrap (pivotOf seed n r + n) - i)).tmod n = mateOf seed n r i := rfl
  rw [hm2]
  have e : (bif decide (mateOf seed n r i > i) then some (mateOf seed n r i) else some i) = some (if mateOf seed n r i > i then mateOf seed n r i else i) := by
    rw [bifd]; split <;> rfl
  rw [e, ob, F115_eq, ob, F115_eq, ob]
  have hs := step_in (step seed (IntKind.u64.wrap (IntKind.i64.wrap (1000 + r)))) (IntKind.u64.wrap (if mateOf seed n r i > i then mateOf seed n r i else i))
  rw [← and_one hs.1 hs.2]
  show (bif turnB seed n r i then some (mateOf seed n r i) else some i) = some (bif turnB seed n r i then mateOf seed n r i else i)
  cases turnB seed n r i <;> rfl
theorem F57_eq (seed n i : Int) : F57 seed n i = some (atP seed n i) := by
  unfold F57 atP
  rw [F103_eq, ob]
  by_cases h : Pl n i
  · rw [decide_eq_true h, if_pos h]
    have key := @iter_inv _ _ (F57_s1 seed n) (fun x => ∃ j : Nat, j ≤ 10 ∧ x.r = j ∧ x.i = rt seed n i j) (fun x => 11 - x.r.toNat) (fun b => b.i = toA seed n i) (by
      rintro ⟨a, t⟩ ⟨j, hj, rfl, ha⟩
      simp only at ha
      subst ha
      by_cases hlt : j < 10
      · left
        refine ⟨_, by
          simp only [F57_s1]
          rw [decide_eq_true (show (j : Int) < 10 by omega), ct, F104_eq (rt_in h j) (by omega) (by omega), ob], ⟨j + 1, by omega, wrap_succ (n := j) (by omega), rfl⟩, ?_⟩
        simp only [wrap_succ (show j < 4000000000 by omega)]; omega
      · right
        obtain rfl : j = 10 := by omega
        exact ⟨_, rfl, rfl⟩)
    obtain ⟨b, hb, h1⟩ := key (n := big) (x := ⟨i, 0⟩) ⟨0, by omega, rfl, rfl⟩ (big_gt (by omega))
    rw [Bool.not_true, cf, hb, ob, h1]
  · rw [decide_eq_false h, if_neg h]; rfl
def permL (seed n : Int) (k : Nat) : List Int := (List.range k).map fun j : Nat => toA seed n j
def permP (seed n : Int) : List Int := if 1 ≤ n ∧ n ≤ 1000 then permL seed n n.toNat else []
theorem permL_len (seed n : Int) (k : Nat) : (permL seed n k).length = k := by simp [permL]
theorem permL_succ (seed n : Int) (k : Nat) : permL seed n (k + 1) = permL seed n k ++ [toA seed n k] := by simp [permL, List.range_succ]
theorem permL_get {seed n : Int} {k j : Nat} (h : j < k) : (permL seed n k)[j]? = some (toA seed n j) := by simp [permL, h]
theorem set_mid {A : List Int} {m : Nat} {v z : Int} : (A ++ List.replicate (m + 1) z).set A.length v = (A ++ [v]) ++ List.replicate m z := by
  rw [List.set_append_right _ _ (Nat.le_refl _), Nat.sub_self, List.replicate_succ]
  simp
theorem F60_eq (seed n : Int) : F60 seed n = some (permP seed n) := by
  unfold F60 permP
  rw [F101_eq, ob]
  by_cases h : 1 ≤ n ∧ n ≤ 1000
  · obtain ⟨h1, h2⟩ := h
    have hp : Pl n 0 := ⟨h1, h2, by omega, by omega⟩
    rw [decide_eq_true hp, if_pos ⟨h1, h2⟩, Bool.not_true, cf, show mkOk n 8 = true from decide_eq_true ⟨by omega, by omega, by omega⟩, ct]
    have key := @iter_inv _ _ (F60_s1 seed n) (fun x => ∃ j : Nat, j ≤ n.toNat ∧ x.t19 = j ∧ x.d.k = 10 * (j : Int) ∧ x.l = permL seed n j ++ List.replicate (n.toNat - j) 0) (fun x => n.toNat + 1 - x.t19.toNat) (fun b => b.l = permL seed n n.toNat ∧ b.d.k = 10 * n) (by
      rintro ⟨t, d, l⟩ ⟨j, hj, rfl, hd, hl⟩
      simp only at hd hl
      subst hl
      by_cases hlt : j < n.toNat
      · left
        have hpl : Pl n (j : Int) := ⟨h1, h2, by omega, by omega⟩
        obtain ⟨d', e, hk⟩ := F102_eq (seed := seed) (d := d) hpl (by omega) (by omega)
        have hix : ix (permL seed n j ++ List.replicate (n.toNat - j) 0) (j : Int) = some 0 := ix_nat (by
          rw [List.getElem?_append_right (by rw [permL_len]; omega), permL_len, Nat.sub_self, show n.toNat - j = (n.toNat - j - 1) + 1 by omega, List.replicate_succ]; rfl)
        refine ⟨_, by
          simp only [F60_s1]
          rw [decide_eq_true (show (j : Int) < ((List.replicate n.toNat (0 : Int)).length : Int) by rw [List.length_replicate]; omega), ct, e, ob, hix, ob],
          ⟨j + 1, by omega, wrap_succ (n := j) (by omega), by show d'.k = _; omega, ?_⟩, ?_⟩
        · show List.set (permL seed n j ++ List.replicate (n.toNat - j) 0) (j : Int).toNat (toA seed n j) = _
          rw [show n.toNat - j = (n.toNat - (j + 1)) + 1 by omega, permL_succ]
          have := set_mid (A := permL seed n j) (m := n.toNat - (j + 1)) (v := toA seed n j) (z := 0)
          rw [permL_len] at this
          exact this
        · simp only [wrap_succ (show j < 4000000000 by omega)]; omega
      · right
        obtain rfl : j = n.toNat := by omega
        refine ⟨_, by
          simp only [F60_s1]
          rw [decide_eq_false (show ¬ ((n.toNat : Nat) : Int) < ((List.replicate n.toNat (0 : Int)).length : Int) by rw [List.length_replicate]; omega), cf], ?_, ?_⟩
        · simp
        · simp only; omega)
    obtain ⟨b, hb, h3, h4⟩ := key (n := big) (x := ⟨0, dk0, List.replicate n.toNat 0⟩) ⟨0, by omega, rfl, rfl, by simp [permL]⟩ (big_gt (by omega))
    rw [hb, ob, h3, decide_eq_false (show ¬ b.d.k < n by omega), cf]
  · rw [decide_eq_false (fun hp : Pl n 0 => h ⟨hp.1, hp.2.1⟩), if_neg h]; rfl
theorem beq_self' (a : Int) : (a != a) = false := by simp
theorem beqt {a b : Int} (h : a = b) : (a == b) = true := by simp [h]
theorem perm_get {seed n : Int} (h1 : 1 ≤ n) (h2 : n ≤ 1000) {j : Nat} (hj : (j : Int) < n) : ix (permP seed n) (j : Int) = some (toA seed n j) := by
  unfold permP
  rw [if_pos ⟨h1, h2⟩]
  exact ix_nat (permL_get (by omega))
end Go.Mg
