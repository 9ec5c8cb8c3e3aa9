/- Plain laws of the shuffle. Plain laws of the shuffle: all places together. Conditions: none. -/
import Derived.Test.YtpakechgakmonaaGreatR1
import Derived.Test.YtpakechgakmonaaGreatS1
namespace Go.Mg
/-- A place of a shuffle. -/
def Pl (n i : Int) : Prop := 1 ≤ n ∧ n ≤ 1000 ∧ 0 ≤ i ∧ i < n
instance (n i : Int) : Decidable (Pl n i) := inferInstanceAs (Decidable (_ ∧ _))
/-- The first k rounds. -/
def rt (seed n i : Int) : Nat → Int
  | 0 => i
  | k + 1 => turnOf seed n k (rt seed n i k)
/-- Where a place goes. -/
def toA (seed n i : Int) : Int := rt seed n i 10
theorem F101_eq (n i : Int) : F101 n i = some (decide (Pl n i)) := by
  unfold F101
  by_cases h1 : n > 0
  · rw [decide_eq_true h1, ct]
    by_cases h2 : n ≤ 1000
    · rw [decide_eq_true h2, ct]
      by_cases h3 : i ≥ 0
      · rw [decide_eq_true h3, ct]
        congr 1
        exact decide_eq_decide.2 ⟨fun h => ⟨by omega, h2, h3, h⟩, fun h => h.2.2.2⟩
      · rw [decide_eq_false h3, cf, decide_eq_false (fun h => h3 h.2.2.1)]
    · rw [decide_eq_false h2, cf, decide_eq_false (fun h => h2 h.2.1)]
  · rw [decide_eq_false h1, cf, decide_eq_false (fun h => h1 (by have := h.1; omega))]
theorem turnOk_of {n i r : Int} (h : Pl n i) (h0 : 0 ≤ r) (h1 : r < 10) : turnOk n r = true :=
  decide_eq_true ⟨by have := h.1; omega, by have := h.1; have := h.2.1; rw [wrapU (by omega) (by omega)]; omega, h0, h1⟩
theorem F102_eq {seed n i : Int} {d : Dk} (h : Pl n i) (hk0 : 0 ≤ d.k) (hk1 : d.k ≤ 100000) : ∃ d', F102 seed n i d = some (toA seed n i, d') ∧ d'.k = d.k + 10 := by
  have key := @iter_inv _ _ (F102_s1 seed n) (fun x => ∃ j : Nat, j ≤ 10 ∧ x.t6 = j ∧ x.i = rt seed n i j ∧ x.d.k = d.k + j) (fun x => 11 - x.t6.toNat) (fun b => b.i = toA seed n i ∧ b.d.k = d.k + 10) (by
    rintro ⟨a, t, dd⟩ ⟨j, hj, rfl, ha, hd⟩
    simp only at ha hd
    subst ha
    by_cases hlt : j < 10
    · left
      refine ⟨_, by
        simp only [F102_s1]
        rw [decide_eq_true (show (j : Int) < 10 by omega), ct, turnOk_of h (by omega) (by omega), ct], ⟨j + 1, by omega, wrap_succ (n := j) (by omega), rfl, ?_⟩, ?_⟩
      · show IntKind.i64.wrap (dd.k + 1) = _
        rw [hd, wrapI (by omega) (by omega)]; omega
      · simp only [wrap_succ (show j < 4000000000 by omega)]; omega
    · right
      obtain rfl : j = 10 := by omega
      exact ⟨_, rfl, rfl, hd⟩)
  obtain ⟨b, hb, h1, h2⟩ := key (n := big) (x := ⟨i, 0, d⟩) ⟨0, by omega, rfl, rfl, by simp⟩ (big_gt (by omega))
  refine ⟨b.d, ?_, h2⟩
  unfold F102
  rw [hb, ob, h1]
def permL (seed n : Int) (k : Nat) : List Int := (List.range k).map fun j : Nat => toA seed n j
def permP (seed n : Int) : List Int := if 1 ≤ n ∧ n ≤ 1000 then permL seed n n.toNat else []
theorem permL_len (seed n : Int) (k : Nat) : (permL seed n k).length = k := by simp [permL]
theorem permL_succ (seed n : Int) (k : Nat) : permL seed n (k + 1) = permL seed n k ++ [toA seed n k] := by simp [permL, List.range_succ]
theorem permL_get {seed n : Int} {k j : Nat} (h : j < k) : (permL seed n k)[j]? = some (toA seed n j) := by simp [permL, h]
theorem set_mid {A : List Int} {m : Nat} {v z : Int} : (A ++ List.replicate (m + 1) z).set A.length v = (A ++ [v]) ++ List.replicate m z := by
  rw [List.set_append_right _ _ (Nat.le_refl _), Nat.sub_self, List.replicate_succ]
  simp
theorem F60_eq (seed n : Int) : F60 seed n = some (permP seed n) := by
  unfold F60 permP
  rw [F101_eq, ob]
  by_cases h : 1 ≤ n ∧ n ≤ 1000
  · obtain ⟨h1, h2⟩ := h
    have hp : Pl n 0 := ⟨h1, h2, by omega, by omega⟩
    rw [decide_eq_true hp, if_pos ⟨h1, h2⟩, Bool.not_true, cf, show mkOk n 8 = true from decide_eq_true ⟨by omega, by omega, by omega⟩, ct]
    have key := @iter_inv _ _ (F60_s1 seed n) (fun x => ∃ j : Nat, j ≤ n.toNat ∧ x.t19 = j ∧ x.d.k = 10 * (j : Int) ∧ x.l = permL seed n j ++ List.replicate (n.toNat - j) 0) (fun x => n.toNat + 1 - x.t19.toNat) (fun b => b.l = permL seed n n.toNat ∧ b.d.k = 10 * n) (by
      rintro ⟨t, d, l⟩ ⟨j, hj, rfl, hd, hl⟩
      simp only at hd hl
      subst hl
      by_cases hlt : j < n.toNat
      · left
        have hpl : Pl n (j : Int) := ⟨h1, h2, by omega, by omega⟩
        obtain ⟨d', e, hk⟩ := F102_eq (seed := seed) (d := d) hpl (by omega) (by omega)
        have hix : ix (permL seed n j ++ List.replicate (n.toNat - j) 0) (j : Int) = some 0 := ix_nat (by
          rw [List.getElem?_append_right (by rw [permL_len]; omega), permL_len, Nat.sub_self, show n.toNat - j = (n.toNat - j - 1) + 1 by omega, List.replicate_succ]; rfl)
        refine ⟨_, by
          simp only [F60_s1]
          rw [decide_eq_true (show (j : Int) < ((List.replicate n.toNat (0 : Int)).length : Int) by rw [List.length_replicate]; omega), ct, e, ob, hix, ob],
          ⟨j + 1, by omega, wrap_succ (n := j) (by omega), by show d'.k = _; omega, ?_⟩, ?_⟩
        · show List.set (permL seed n j ++ List.replicate (n.toNat - j) 0) (j : Int).toNat (toA seed n j) = _
          rw [show n.toNat - j = (n.toNat - (j + 1)) + 1 by omega, permL_succ]
          have := set_mid (A := permL seed n j) (m := n.toNat - (j + 1)) (v := toA seed n j) (z := 0)
          rw [permL_len] at this
          exact this
        · simp only [wrap_succ (show j < 4000000000 by omega)]; omega
      · right
        obtain rfl : j = n.toNat := by omega
        refine ⟨_, by
          simp only [F60_s1]
          rw [decide_eq_false (show ¬ ((n.toNat : Nat) : Int) < ((List.replicate n.toNat (0 : Int)).length : Int) by rw [List.length_replicate]; omega), cf], ?_, ?_⟩
        · simp
        · simp only; omega)
    obtain ⟨b, hb, h3, h4⟩ := key (n := big) (x := ⟨0, dk0, List.replicate n.toNat 0⟩) ⟨0, by omega, rfl, rfl, by simp [permL]⟩ (big_gt (by omega))
    rw [hb, ob, h3, decide_eq_false (show ¬ b.d.k < n by omega), cf]
  · rw [decide_eq_false (fun hp : Pl n 0 => h ⟨hp.1, hp.2.1⟩), if_neg h]; rfl
theorem beqt {a b : Int} (h : a = b) : (a == b) = true := by simp [h]
theorem perm_get {seed n : Int} (h1 : 1 ≤ n) (h2 : n ≤ 1000) {j : Nat} (hj : (j : Int) < n) : ix (permP seed n) (j : Int) = some (toA seed n j) := by
  unfold permP
  rw [if_pos ⟨h1, h2⟩]
  exact ix_nat (permL_get (by omega))
end Go.Mg
