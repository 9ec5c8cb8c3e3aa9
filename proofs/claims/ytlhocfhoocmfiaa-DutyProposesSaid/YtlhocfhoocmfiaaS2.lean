/- Plain laws of the shuffle. Plain laws of the shuffle: all places together. Conditions: none. -/
import Derived.Test.YtlhocfhoocmfiaaR1
import Derived.Test.YtlhocfhoocmfiaaS1
namespace Go.Mg

theorem and_one {x : Int} (h0 : 0 ≤ x) (h1 : x ≤ 18446744073709551615) : bits .and .u64 x 1 = x.tmod 2 := by
  obtain ⟨n, rfl⟩ : ∃ n : Nat, x = n := ⟨x.toNat, by omega⟩
  have e : bits .and .u64 (n : Int) 1 = IntKind.u64.wrap ((BitVec.ofInt 64 (n : Int) &&& BitVec.ofInt 64 1).toNat : Int) := rfl
  have e2 : (BitVec.ofInt 64 1).toNat = 1 := by decide
  have e3 : (BitVec.ofInt 64 (n : Int)).toNat = n := by
    rw [BitVec.toNat_ofInt]; omega
  rw [e, BitVec.toNat_and, e2, e3, Nat.and_one_is_mod, wrapU (by omega) (by omega)]
  rfl

theorem emod_hi {x n : Int} (h : n ≤ x) (h2 : x < n + n) : x % n = x - n := by
  have e : x = (x - n) + n := by omega
  rw [e, Int.add_emod_right, Int.emod_eq_of_lt (by omega) (by omega)]
  omega

/-- A place of a shuffle. -/
def Pl (n i : Int) : Prop := 1 ≤ n ∧ n ≤ 1000 ∧ 0 ≤ i ∧ i < n
instance (n i : Int) : Decidable (Pl n i) := inferInstanceAs (Decidable (_ ∧ _))

theorem pivot_in {seed n r : Int} (h1 : 1 ≤ n) (h2 : n ≤ 1000) : 0 ≤ pivotOf seed n r ∧ pivotOf seed n r < n ∧ pivotOf seed n r = IntKind.i64.wrap ((step seed (IntKind.u64.wrap r)).tmod (IntKind.u64.wrap n)) := by
  have hs := (step_in seed (IntKind.u64.wrap r)).1
  have hs' : 0 ≤ step seed (IntKind.u64.wrap r) := hs
  unfold pivotOf
  rw [wrapU (n := n) (by omega) (by omega), Int.tmod_eq_emod_of_nonneg hs']
  have a := Int.emod_nonneg (step seed (IntKind.u64.wrap r)) (show n ≠ 0 by omega)
  have b := Int.emod_lt_of_pos (step seed (IntKind.u64.wrap r)) (show 0 < n by omega)
  rw [wrapI (by omega) (by omega)]
  exact ⟨a, b, rfl⟩

theorem mate_eq {seed n r i : Int} (h : Pl n i) : mateOf seed n r i = (pivotOf seed n r + n - i) % n := by
  obtain ⟨h1, h2, h3, h4⟩ := h
  have hp := pivot_in (seed := seed) (r := r) h1 h2
  unfold mateOf
  rw [wrapI (n := pivotOf seed n r + n) (by omega) (by omega), wrapI (by omega) (by omega), Int.tmod_eq_emod_of_nonneg (by omega)]

theorem mate_in {seed n r i : Int} (h : Pl n i) : Pl n (mateOf seed n r i) := by
  rw [mate_eq h]
  obtain ⟨h1, h2, h3, h4⟩ := h
  exact ⟨h1, h2, Int.emod_nonneg _ (by omega), Int.emod_lt_of_pos _ (by omega)⟩

theorem mate_mate {seed n r i : Int} (h : Pl n i) : mateOf seed n r (mateOf seed n r i) = i := by
  rw [mate_eq (mate_in h), mate_eq h]
  obtain ⟨h1, h2, h3, h4⟩ := h
  have hp := pivot_in (seed := seed) (r := r) h1 h2
  generalize pivotOf seed n r = p at hp
  by_cases hc : i ≤ p
  · rw [emod_hi (x := p + n - i) (by omega) (by omega), emod_hi (by omega) (by omega)]; omega
  · rw [Int.emod_eq_of_lt (a := p + n - i) (by omega) (by omega), Int.emod_eq_of_lt (by omega) (by omega)]; omega

theorem turnB_mate {seed n r i : Int} (h : Pl n i) : turnB seed n r (mateOf seed n r i) = turnB seed n r i := by
  unfold turnB
  rw [mate_mate h]
  have e : (if i > mateOf seed n r i then i else mateOf seed n r i) = if mateOf seed n r i > i then mateOf seed n r i else i := by split <;> split <;> omega
  rw [e]

theorem turn_in {seed n r i : Int} (h : Pl n i) : Pl n (turnOf seed n r i) := by
  unfold turnOf
  cases turnB seed n r i
  · exact h
  · exact mate_in h

theorem turn_turn {seed n r i : Int} (h : Pl n i) : turnOf seed n r (turnOf seed n r i) = i := by
  cases hb : turnB seed n r i with
  | false =>
    have e : turnOf seed n r i = i := by unfold turnOf; rw [hb]; rfl
    rw [e, e]
  | true =>
    have e : turnOf seed n r i = mateOf seed n r i := by unfold turnOf; rw [hb]; rfl
    rw [e]
    unfold turnOf
    rw [turnB_mate h, hb, mate_mate h]; rfl

/-- The first k rounds. -/
def rt (seed n i : Int) : Nat → Int
  | 0 => i
  | k + 1 => turnOf seed n k (rt seed n i k)
/-- The last k rounds, backwards. -/
def bk (seed n i : Int) : Nat → Int
  | 0 => i
  | k + 1 => turnOf seed n (9 - (k : Int)) (bk seed n i k)

theorem rt_in {seed n i : Int} (h : Pl n i) : ∀ k, Pl n (rt seed n i k)
  | 0 => h
  | k + 1 => turn_in (rt_in h k)
theorem bk_in {seed n i : Int} (h : Pl n i) : ∀ k, Pl n (bk seed n i k)
  | 0 => h
  | k + 1 => turn_in (bk_in h k)

theorem bk_rt {seed n i : Int} (h : Pl n i) : ∀ k, k ≤ 10 → bk seed n (rt seed n i 10) k = rt seed n i (10 - k)
  | 0, _ => rfl
  | k + 1, hk => by
    show turnOf seed n (9 - (k : Int)) (bk seed n (rt seed n i 10) k) = _
    rw [bk_rt h k (by omega)]
    have e : 10 - k = (9 - k) + 1 := by omega
    have e2 : 10 - (k + 1) = 9 - k := by omega
    rw [e, e2]
    show turnOf seed n (9 - (k : Int)) (turnOf seed n ((9 - k : Nat) : Int) (rt seed n i (9 - k))) = _
    have e3 : ((9 - k : Nat) : Int) = 9 - (k : Int) := by omega
    rw [e3, turn_turn (rt_in h _)]

theorem rt_bk {seed n i : Int} (h : Pl n i) : ∀ k, k ≤ 10 → rt seed n (bk seed n i 10) k = bk seed n i (10 - k)
  | 0, _ => rfl
  | k + 1, hk => by
    show turnOf seed n (k : Int) (rt seed n (bk seed n i 10) k) = _
    rw [rt_bk h k (by omega)]
    have e : 10 - k = (9 - k) + 1 := by omega
    have e2 : 10 - (k + 1) = 9 - k := by omega
    rw [e, e2]
    show turnOf seed n (k : Int) (turnOf seed n (9 - ((9 - k : Nat) : Int)) (bk seed n i (9 - k))) = _
    have e3 : 9 - ((9 - k : Nat) : Int) = (k : Int) := by omega
    rw [e3, turn_turn (bk_in h _)]

/-- Where a place goes. -/
def toA (seed n i : Int) : Int := rt seed n i 10
/-- Where it comes from. -/
def fromA (seed n i : Int) : Int := bk seed n i 10
theorem from_to {seed n i : Int} (h : Pl n i) : fromA seed n (toA seed n i) = i := bk_rt h 10 (by omega)
theorem to_from {seed n i : Int} (h : Pl n i) : toA seed n (fromA seed n i) = i := rt_bk h 10 (by omega)
theorem to_in {seed n i : Int} (h : Pl n i) : Pl n (toA seed n i) := rt_in h 10
theorem from_in {seed n i : Int} (h : Pl n i) : Pl n (fromA seed n i) := bk_in h 10

theorem F101_eq (n i : Int) : F101 n i = some (decide (Pl n i)) := by
  unfold F101
  by_cases h1 : n > 0
  · rw [decide_eq_true h1, ct]
    by_cases h2 : n ≤ 1000
    · rw [decide_eq_true h2, ct]
      by_cases h3 : i ≥ 0
      · rw [decide_eq_true h3, ct]
        congr 1
        exact decide_eq_decide.2 ⟨fun h => ⟨by omega, h2, h3, h⟩, fun h => h.2.2.2⟩
      · rw [decide_eq_false h3, cf, decide_eq_false (fun h => h3 h.2.2.1)]
    · rw [decide_eq_false h2, cf, decide_eq_false (fun h => h2 h.2.1)]
  · rw [decide_eq_false h1, cf, decide_eq_false (fun h => h1 (by have := h.1; omega))]
theorem F103_eq (n i : Int) : F103 n i = some (decide (Pl n i)) := by
  rw [← F101_eq]
  unfold F101 F103
  by_cases h1 : n > 0
  · rw [decide_eq_true h1, decide_eq_true (show n ≥ 1 by omega)]
  · rw [decide_eq_false h1, decide_eq_false (show ¬ n ≥ 1 by omega)]

theorem turnOk_of {n i r : Int} (h : Pl n i) (h0 : 0 ≤ r) (h1 : r < 10) : turnOk n r = true :=
  decide_eq_true ⟨by have := h.1; omega, by have := h.1; have := h.2.1; rw [wrapU (by omega) (by omega)]; omega, h0, h1⟩

theorem F102_eq {seed n i : Int} {d : Dk} (h : Pl n i) (hk0 : 0 ≤ d.k) (hk1 : d.k ≤ 100000) : ∃ d', F102 seed n i d = some (toA seed n i, d') ∧ d'.k = d.k + 10 := by
  have key := @iter_inv _ _ (F102_s1 seed n) (fun x => ∃ j : Nat, j ≤ 10 ∧ x.t6 = j ∧ x.i = rt seed n i j ∧ x.d.k = d.k + j) (fun x => 11 - x.t6.toNat) (fun b => b.i = toA seed n i ∧ b.d.k = d.k + 10) (by
    rintro ⟨a, t, dd⟩ ⟨j, hj, rfl, ha, hd⟩
    simp only at ha hd
    subst ha
    by_cases hlt : j < 10
    · left
      refine ⟨_, by
        simp only [F102_s1]
        rw [decide_eq_true (show (j : Int) < 10 by omega), ct, turnOk_of h (by omega) (by omega), ct], ⟨j + 1, by omega, wrap_succ (n := j) (by omega), rfl, ?_⟩, ?_⟩
      · show IntKind.i64.wrap (dd.k + 1) = _
        rw [hd, wrapI (by omega) (by omega)]; omega
      · simp only [wrap_succ (show j < 4000000000 by omega)]; omega
    · right
      obtain rfl : j = 10 := by omega
      exact ⟨_, rfl, rfl, hd⟩)
  obtain ⟨b, hb, h1, h2⟩ := key (n := big) (x := ⟨i, 0, d⟩) ⟨0, by omega, rfl, rfl, by simp⟩ (big_gt (by omega))
  refine ⟨b.d, ?_, h2⟩
  unfold F102
  rw [hb, ob, h1]

def atP (seed n i : Int) : Int := if Pl n i then toA seed n i else -1
def backP (seed n i : Int) : Int := if Pl n i then fromA seed n i else -1

theorem F56_eq (seed n i : Int) : F56 seed n i = some (atP seed n i) := by
  unfold F56 atP
  rw [F101_eq, ob]
  by_cases h : Pl n i
  · obtain ⟨d', e, -⟩ := F102_eq (seed := seed) (d := dk0) h (by decide) (by decide)
    rw [decide_eq_true h, if_pos h, e]; rfl
  · rw [decide_eq_false h, if_neg h]; rfl

theorem F58_eq (seed n i : Int) : F58 seed n i = some (backP seed n i) := by
  unfold F58 backP
  rw [F101_eq, ob]
  by_cases h : Pl n i
  · rw [decide_eq_true h, if_pos h]
    have key := @iter_inv _ _ (F58_s1 seed n) (fun x => ∃ j : Nat, j ≤ 10 ∧ x.t17 = j ∧ x.i = bk seed n i j) (fun x => 11 - x.t17.toNat) (fun b => b.i = fromA seed n i) (by
      rintro ⟨a, t, dd⟩ ⟨j, hj, rfl, ha⟩
      simp only at ha
      subst ha
      by_cases hlt : j < 10
      · left
        have e9 : IntKind.i64.wrap (9 - (j : Int)) = 9 - (j : Int) := wrapI (by omega) (by omega)
        refine ⟨_, by
          simp only [F58_s1]
          rw [decide_eq_true (show (j : Int) < 10 by omega), ct, e9, turnOk_of h (by omega) (by omega), ct], ⟨j + 1, by omega, wrap_succ (n := j) (by omega), rfl⟩, ?_⟩
        simp only [wrap_succ (show j < 4000000000 by omega)]; omega
      · right
        obtain rfl : j = 10 := by omega
        exact ⟨_, rfl, rfl⟩)
    obtain ⟨b, hb, h1⟩ := key (n := big) (x := ⟨i, 0, dk0⟩) ⟨0, by omega, rfl, rfl⟩ (big_gt (by omega))
    rw [Bool.not_true, cf, hb, ob, h1]
  · rw [decide_eq_false h, if_neg h]; rfl

theorem F104_eq {seed n r i : Int} (h : Pl n i) (_ : 0 ≤ r) (_ : r < 10) : F104 seed n r i = some (turnOf seed n r i) := by
  unfold F104
  have hn := h.1
  have hn2 := h.2.1
  have hz : decide (IntKind.u64.wrap n ≠ 0) = true := decide_eq_true (by rw [wrapU (by omega) (by omega)]; omega)
  have hz2 : decide (n ≠ 0) = true := decide_eq_true (by omega)
  have hm : IntKind.i64.wrap ((step seed (IntKind.u64.wrap r)).tmod (IntKind.u64.wrap n)) = pivotOf seed n r := rfl
  rw [F115_eq, ob, hz, ct, hz2, ct, hm]
  have hm2 : (IntKind.i64.wrap (IntKind.i64.wrap (pivotOf seed n r + n) - i)).tmod n = mateOf seed n r i := rfl
  rw [hm2]
  have e : (bif decide (mateOf seed n r i > i) then some (mateOf seed n r i) else some i) = some (if mateOf seed n r i > i then mateOf seed n r i else i) := by
    rw [bifd]; split <;> rfl
  rw [e, ob, F115_eq, ob, F115_eq, ob]
  have hs := step_in (step seed (IntKind.u64.wrap (IntKind.i64.wrap (1000 + r)))) (IntKind.u64.wrap (if mateOf seed n r i > i then mateOf seed n r i else i))
  rw [← and_one hs.1 hs.2]
  show (bif turnB seed n r i then some (mateOf seed n r i) else some i) = some (bif turnB seed n r i then mateOf seed n r i else i)
  cases turnB seed n r i <;> rfl

theorem F57_eq (seed n i : Int) : F57 seed n i = some (atP seed n i) := by
  unfold F57 atP
  rw [F103_eq, ob]
  by_cases h : Pl n i
  · rw [decide_eq_true h, if_pos h]
    have key := @iter_inv _ _ (F57_s1 seed n) (fun x => ∃ j : Nat, j ≤ 10 ∧ x.r = j ∧ x.i = rt seed n i j) (fun x => 11 - x.r.toNat) (fun b => b.i = toA seed n i) (by
      rintro ⟨a, t⟩ ⟨j, hj, rfl, ha⟩
      simp only at ha
      subst ha
      by_cases hlt : j < 10
      · left
        refine ⟨_, by
          simp only [F57_s1]
          rw [decide_eq_true (show (j : Int) < 10 by omega), ct, F104_eq (rt_in h j) (by omega) (by omega), ob], ⟨j + 1, by omega, wrap_succ (n := j) (by omega), rfl⟩, ?_⟩
        simp only [wrap_succ (show j < 4000000000 by omega)]; omega
      · right
        obtain rfl : j = 10 := by omega
        exact ⟨_, rfl, rfl⟩)
    obtain ⟨b, hb, h1⟩ := key (n := big) (x := ⟨i, 0⟩) ⟨0, by omega, rfl, rfl⟩ (big_gt (by omega))
    rw [Bool.not_true, cf, hb, ob, h1]
  · rw [decide_eq_false h, if_neg h]; rfl

theorem F59_eq (seed n i : Int) : F59 seed n i = some (backP seed n i) := by
  unfold F59 backP
  rw [F103_eq, ob]
  by_cases h : Pl n i
  · rw [decide_eq_true h, if_pos h]
    have key := @iter_inv _ _ (F59_s1 seed n) (fun x => ∃ j : Nat, j ≤ 10 ∧ x.r = 9 - (j : Int) ∧ x.i = bk seed n i j) (fun x => (x.r + 2).toNat) (fun b => b.i = fromA seed n i) (by
      rintro ⟨a, t⟩ ⟨j, hj, rfl, ha⟩
      simp only at ha
      subst ha
      by_cases hlt : j < 10
      · left
        have e9 : IntKind.i64.wrap (9 - (j : Int) - 1) = 9 - ((j + 1 : Nat) : Int) := by rw [wrapI (by omega) (by omega)]; omega
        refine ⟨_, by
          simp only [F59_s1]
          rw [decide_eq_true (show 9 - (j : Int) ≥ 0 by omega), ct, F104_eq (bk_in h j) (by omega) (by omega), ob], ⟨j + 1, by omega, e9, rfl⟩, ?_⟩
        simp only [e9]; omega
      · right
        obtain rfl : j = 10 := by omega
        exact ⟨_, rfl, rfl⟩)
    obtain ⟨b, hb, h1⟩ := key (n := big) (x := ⟨i, 9⟩) ⟨0, by omega, rfl, rfl⟩ (big_gt (by show (11 : Nat) < _; omega))
    rw [Bool.not_true, cf, hb, ob, h1]
  · rw [decide_eq_false h, if_neg h]; rfl
end Go.Mg

namespace Go.Mg

def permL (seed n : Int) (k : Nat) : List Int := (List.range k).map fun j : Nat => toA seed n j
def permP (seed n : Int) : List Int := if 1 ≤ n ∧ n ≤ 1000 then permL seed n n.toNat else []

theorem permL_len (seed n : Int) (k : Nat) : (permL seed n k).length = k := by simp [permL]
theorem permL_succ (seed n : Int) (k : Nat) : permL seed n (k + 1) = permL seed n k ++ [toA seed n k] := by simp [permL, List.range_succ]
theorem permL_get {seed n : Int} {k j : Nat} (h : j < k) : (permL seed n k)[j]? = some (toA seed n j) := by simp [permL, h]

theorem set_mid {A : List Int} {m : Nat} {v z : Int} : (A ++ List.replicate (m + 1) z).set A.length v = (A ++ [v]) ++ List.replicate m z := by
  rw [List.set_append_right _ _ (Nat.le_refl _), Nat.sub_self, List.replicate_succ]
  simp

theorem F60_eq (seed n : Int) : F60 seed n = some (permP seed n) := by
  unfold F60 permP
  rw [F101_eq, ob]
  by_cases h : 1 ≤ n ∧ n ≤ 1000
  · obtain ⟨h1, h2⟩ := h
    have hp : Pl n 0 := ⟨h1, h2, by omega, by omega⟩
    rw [decide_eq_true hp, if_pos ⟨h1, h2⟩, Bool.not_true, cf, show mkOk n 8 = true from decide_eq_true ⟨by omega, by omega, by omega⟩, ct]
    have key := @iter_inv _ _ (F60_s1 seed n) (fun x => ∃ j : Nat, j ≤ n.toNat ∧ x.t19 = j ∧ x.d.k = 10 * (j : Int) ∧ x.l = permL seed n j ++ List.replicate (n.toNat - j) 0) (fun x => n.toNat + 1 - x.t19.toNat) (fun b => b.l = permL seed n n.toNat ∧ b.d.k = 10 * n) (by
      rintro ⟨t, d, l⟩ ⟨j, hj, rfl, hd, hl⟩
      simp only at hd hl
      subst hl
      by_cases hlt : j < n.toNat
      · left
        have hpl : Pl n (j : Int) := ⟨h1, h2, by omega, by omega⟩
        obtain ⟨d', e, hk⟩ := F102_eq (seed := seed) (d := d) hpl (by omega) (by omega)
        have hix : ix (permL seed n j ++ List.replicate (n.toNat - j) 0) (j : Int) = some 0 := ix_nat (by
          rw [List.getElem?_append_right (by rw [permL_len]; omega), permL_len, Nat.sub_self, show n.toNat - j = (n.toNat - j - 1) + 1 by omega, List.replicate_succ]; rfl)
        refine ⟨_, by
          simp only [F60_s1]
          rw [decide_eq_true (show (j : Int) < ((List.replicate n.toNat (0 : Int)).length : Int) by rw [List.length_replicate]; omega), ct, e, ob, hix, ob],
          ⟨j + 1, by omega, wrap_succ (n := j) (by omega), by show d'.k = _; omega, ?_⟩, ?_⟩
        · show List.set (permL seed n j ++ List.replicate (n.toNat - j) 0) (j : Int).toNat (toA seed n j) = _
          rw [show n.toNat - j = (n.toNat - (j + 1)) + 1 by omega, permL_succ]
          have := set_mid (A := permL seed n j) (m := n.toNat - (j + 1)) (v := toA seed n j) (z := 0)
          rw [permL_len] at this
          exact this
        · simp only [wrap_succ (show j < 4000000000 by omega)]; omega
      · right
        obtain rfl : j = n.toNat := by omega
        refine ⟨_, by
          simp only [F60_s1]
          rw [decide_eq_false (show ¬ ((n.toNat : Nat) : Int) < ((List.replicate n.toNat (0 : Int)).length : Int) by rw [List.length_replicate]; omega), cf], ?_, ?_⟩
        · simp
        · simp only; omega)
    obtain ⟨b, hb, h3, h4⟩ := key (n := big) (x := ⟨0, dk0, List.replicate n.toNat 0⟩) ⟨0, by omega, rfl, rfl, by simp [permL]⟩ (big_gt (by omega))
    rw [hb, ob, h3, decide_eq_false (show ¬ b.d.k < n by omega), cf]
  · rw [decide_eq_false (fun hp : Pl n 0 => h ⟨hp.1, hp.2.1⟩), if_neg h]; rfl

theorem F61_eq (seed n : Int) : F61 seed n = some (permP seed n) := by
  unfold F61 permP
  by_cases h : 1 ≤ n ∧ n ≤ 1000
  · obtain ⟨h1, h2⟩ := h
    rw [if_pos ⟨h1, h2⟩]
    have key := @iter_inv _ _ (F61_s1 seed n) (fun x => ∃ j : Nat, j ≤ n.toNat ∧ x.i = j ∧ x.out = permL seed n j) (fun x => n.toNat + 1 - x.i.toNat) (fun b => b.out = permL seed n n.toNat) (by
      rintro ⟨t, l⟩ ⟨j, hj, rfl, hl⟩
      simp only at hl
      subst hl
      by_cases hlt : j < n.toNat
      · left
        have hpl : Pl n (j : Int) := ⟨h1, h2, by omega, by omega⟩
        refine ⟨_, by
          simp only [F61_s1]
          rw [decide_eq_true (show (j : Int) < n by omega), ct, decide_eq_true h2, ob, ct, F57_eq, ob, room_ok (by rw [permL_len]; simp only [List.length_singleton]; omega) (by omega), ct],
          ⟨j + 1, by omega, wrap_succ (n := j) (by omega), ?_⟩, ?_⟩
        · show permL seed n j ++ [atP seed n j] = _
          rw [permL_succ, atP, if_pos hpl]
        · simp only [wrap_succ (show j < 4000000000 by omega)]; omega
      · right
        obtain rfl : j = n.toNat := by omega
        refine ⟨_, by
          simp only [F61_s1]
          rw [decide_eq_false (show ¬ ((n.toNat : Nat) : Int) < n by omega), cf, ob, cf], rfl⟩)
    obtain ⟨b, hb, h3⟩ := key (n := big) (x := ⟨0, []⟩) ⟨0, by omega, rfl, by simp [permL]⟩ (big_gt (by omega))
    rw [hb, ob, h3]
  · rw [if_neg h]
    have e : F61_s1 seed n ⟨0, []⟩ = some (.inr ⟨0, []⟩) := by
      simp only [F61_s1]
      by_cases h0 : (0 : Int) < n
      · rw [decide_eq_true h0, ct, decide_eq_false (show ¬ n ≤ 1000 by omega), ob, cf]
      · rw [decide_eq_false h0, cf, ob, cf]
    have e2 : iter (F61_s1 seed n) big ⟨0, []⟩ = some ⟨0, []⟩ := by
      rw [show big = 4611686018427387903 + 1 from rfl]
      unfold iter
      rw [e]
    rw [e2, ob]

theorem F55_eq : F55 = some true := by
  unfold F55
  have h : Pl 1 0 := by decide
  have ht := to_in (seed := 7) h
  have hf := from_in (seed := 7) h
  have e1 : toA 7 1 0 = 0 := by have := ht.2.2.1; have := ht.2.2.2; omega
  have e2 : fromA 7 1 0 = 0 := by have := hf.2.2.1; have := hf.2.2.2; omega
  have p : permP 7 1 = [0] := by
    unfold permP
    rw [if_pos (by decide)]
    show [toA 7 1 ((0 : Nat) : Int)] = [0]
    rw [show ((0 : Nat) : Int) = 0 from rfl, e1]
  rw [F60_eq, ob, F56_eq, ob, F58_eq, ob, p, atP, if_pos h, e1, backP, if_pos h, e2, F56_eq, atP, if_neg (by decide)]
  rfl

/-! The laws. -/

theorem beq_self' (a : Int) : (a != a) = false := by simp

theorem beqt {a b : Int} (h : a = b) : (a == b) = true := by simp [h]

theorem perm_get {seed n : Int} (h1 : 1 ≤ n) (h2 : n ≤ 1000) {j : Nat} (hj : (j : Int) < n) : ix (permP seed n) (j : Int) = some (toA seed n j) := by
  unfold permP
  rw [if_pos ⟨h1, h2⟩]
  exact ix_nat (permL_get (by omega))

theorem perm_len {seed n : Int} (h1 : 1 ≤ n) (h2 : n ≤ 1000) : ((permP seed n).length : Int) = n := by
  unfold permP
  rw [if_pos ⟨h1, h2⟩, permL_len]; omega

def sumL : List Int → Int
  | [] => 0
  | x :: r => x + sumL r
theorem sumL_app (a : List Int) (x : Int) : sumL (a ++ [x]) = sumL a + x := by
  induction a with
  | nil => simp [sumL]
  | cons y r ih => simp [sumL, ih]; omega
theorem sumL_perm {a b : List Int} (h : a.Perm b) : sumL a = sumL b := by
  induction h with
  | nil => rfl
  | cons x _ ih => simp [sumL, ih]
  | swap x y l => simp [sumL]; omega
  | trans _ _ h1 h2 => exact h1.trans h2

theorem sub_perm : ∀ {a r : List Int}, a.Nodup → (∀ x ∈ a, x ∈ r) → ∃ rest, (a ++ rest).Perm r
  | [], r, _, _ => ⟨r, .refl _⟩
  | x :: t, r, hn, h => by
    have hx : x ∈ r := h x (.head _)
    obtain ⟨hx2, hn2⟩ := List.nodup_cons.1 hn
    obtain ⟨rest, hp⟩ := sub_perm (a := t) (r := r.erase x) hn2 fun y hy => by
      have hne : y ≠ x := fun e => hx2 (e ▸ hy)
      exact (List.mem_erase_of_ne hne).2 (h y (.tail _ hy))
    exact ⟨rest, (List.Perm.cons x hp).trans (List.perm_cons_erase hx).symm⟩

def idL (k : Nat) : List Int := (List.range k).map fun j : Nat => (j : Int)
theorem sum_idL : ∀ k : Nat, 2 * sumL (idL k) = (k : Int) * ((k : Int) - 1)
  | 0 => rfl
  | k + 1 => by
    have ih := sum_idL k
    have e : idL (k + 1) = idL k ++ [(k : Int)] := by simp [idL, List.range_succ]
    rw [e, sumL_app]
    have e2 : ((k + 1 : Nat) : Int) * (((k + 1 : Nat) : Int) - 1) = (k : Int) * ((k : Int) - 1) + 2 * k := by
      have e3 : ((k + 1 : Nat) : Int) - 1 = k := by omega
      rw [e3, Int.natCast_add, Int.add_mul, Int.mul_sub]
      simp only [Int.mul_one]
      have : ((1 : Nat) : Int) * (k : Int) = k := by simp
      omega
    rw [e2, ← ih]; omega

theorem nodup_map {f : Nat → Int} : ∀ {l : List Nat}, l.Nodup → (∀ a ∈ l, ∀ b ∈ l, f a = f b → a = b) → (l.map f).Nodup
  | [], _, _ => by simp
  | x :: t, hn, h => by
    obtain ⟨hx, hn2⟩ := List.nodup_cons.1 hn
    rw [List.map_cons, List.nodup_cons]
    refine ⟨fun hm => ?_, nodup_map hn2 fun a ha b hb => h a (.tail _ ha) b (.tail _ hb)⟩
    obtain ⟨y, hy, e⟩ := List.mem_map.1 hm
    exact hx (h y (.tail _ hy) x (.head _) e ▸ hy)

theorem perm_sum {seed n : Int} (h1 : 1 ≤ n) (h2 : n ≤ 1000) : (permL seed n n.toNat).Perm (idL n.toNat) := by
  have hn : (permL seed n n.toNat).Nodup := nodup_map List.nodup_range fun a ha b hb e => by
    have ha := List.mem_range.1 ha
    have hb := List.mem_range.1 hb
    have := congrArg (fromA seed n) e
    rw [from_to (i := (a : Int)) ⟨h1, h2, by omega, by omega⟩, from_to (i := (b : Int)) ⟨h1, h2, by omega, by omega⟩] at this
    omega
  obtain ⟨rest, hp⟩ := sub_perm (r := idL n.toNat) hn fun x hx => by
    obtain ⟨j, hj, rfl⟩ := List.mem_map.1 hx
    have hj := List.mem_range.1 hj
    have ht := to_in (seed := seed) (n := n) (i := (j : Int)) ⟨h1, h2, by omega, by omega⟩
    refine List.mem_map.2 ⟨(toA seed n j).toNat, List.mem_range.2 ?_, ?_⟩
    · have := ht.2.2.1; have := ht.2.2.2; omega
    · have := ht.2.2.1; omega
  have hl := hp.length_eq
  rw [List.length_append, permL_len] at hl
  have hl2 : (idL n.toNat).length = n.toNat := by simp [idL]
  rw [hl2] at hl
  have hr : rest = [] := List.length_eq_zero_iff.1 (by omega)
  rw [hr, List.append_nil] at hp
  exact hp

end Go.Mg
