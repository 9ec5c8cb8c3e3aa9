/- Laws of duties. Laws of duties. Laws of duties. Plain laws of duties: which confs may be, and sums of weights. Plain laws of duties: which confs may be; weights. Plain laws of duties: weights of lists; lists. Plain laws of duties: committees, proposers. Laws of duties. Laws of duties: DutyAll. Laws of duties: DutyParts. Laws of duties: DutyWeighs. Conditions: none. -/
import Derived.Test.YtpakechgakmonaaGreatD1
import Derived.Test.YtpakechgakmonaaGreatS2
namespace Go.Mg
open Go.Proofs
open Go.Proofs
open Go.Proofs
/-- A loop that counts up, told by its states. -/
theorem count_loop {S R : Type} {step : S → Option (S ⊕ R)} {n : Nat} (g : Nat → S) (r : R) (hs : ∀ j, j < n → step (g j) = some (.inl (g (j + 1)))) (he : step (g n) = some (.inr r)) (hn : n < 4000000000000000000) :
    iter step big (g 0) = some r := by
  have key : ∀ (d k f : Nat), k + d = n → d < f → iter step f (g k) = some r := by
    intro d
    induction d with
    | zero =>
      intro k f hk hf
      obtain ⟨f, rfl⟩ : ∃ q, f = q + 1 := ⟨f - 1, by omega⟩
      obtain rfl : k = n := by omega
      unfold iter
      rw [he]
    | succ d ih =>
      intro k f hk hf
      obtain ⟨f, rfl⟩ : ∃ q, f = q + 1 := ⟨f - 1, by omega⟩
      unfold iter
      rw [hs k (by omega)]
      exact ih (k + 1) f (by omega) (by omega)
  exact key n 0 big (by omega) (big_gt hn)
/-- The least, and the greatest, of a list that begins by x. -/
def minL (x : Int) : List Int → Int
  | [] => x
  | y :: r => minL (if y < x then y else x) r
def maxL (x : Int) : List Int → Int
  | [] => x
  | y :: r => maxL (if y > x then y else x) r
theorem minL_app (x : Int) (a : List Int) (y : Int) : minL x (a ++ [y]) = if y < minL x a then y else minL x a := by
  induction a generalizing x with
  | nil => rfl
  | cons z r ih => exact ih _
theorem maxL_app (x : Int) (a : List Int) (y : Int) : maxL x (a ++ [y]) = if y > maxL x a then y else maxL x a := by
  induction a generalizing x with
  | nil => rfl
  | cons z r ih => exact ih _
theorem minL_lt {k x : Int} {l : List Int} : minL x l < k ↔ x < k ∨ ∃ y ∈ l, y < k := by
  induction l generalizing x with
  | nil => simp [minL]
  | cons z r ih =>
    simp only [minL, ih, List.mem_cons, exists_eq_or_imp]
    split
    · constructor
      · rintro (h | h)
        · exact .inr (.inl h)
        · exact .inr (.inr h)
      · rintro (h | h | h)
        · exact .inl (by omega)
        · exact .inl h
        · exact .inr h
    · constructor
      · rintro (h | h)
        · exact .inl h
        · exact .inr (.inr h)
      · rintro (h | h | h)
        · exact .inl h
        · exact .inl (by omega)
        · exact .inr h
theorem maxL_gt {k x : Int} {l : List Int} : maxL x l > k ↔ x > k ∨ ∃ y ∈ l, y > k := by
  induction l generalizing x with
  | nil => simp [maxL]
  | cons z r ih =>
    simp only [maxL, ih, List.mem_cons, exists_eq_or_imp]
    split
    · constructor
      · rintro (h | h)
        · exact .inr (.inl h)
        · exact .inr (.inr h)
      · rintro (h | h | h)
        · exact .inl (by omega)
        · exact .inl h
        · exact .inr h
    · constructor
      · rintro (h | h)
        · exact .inl h
        · exact .inr (.inr h)
      · rintro (h | h | h)
        · exact .inl h
        · exact .inl (by omega)
        · exact .inr h
theorem take_succ_get {l : List Int} {j : Nat} {y : Int} (h : l[j]? = some y) : l.take (j + 1) = l.take j ++ [y] := by rw [List.take_add_one, h]; rfl
theorem F109_eq {x : Int} {r : List Int} (h : r.length ≤ 1000) : F109 (x :: r) = some (minL x r) := by
  unfold F109
  rw [decide_eq_false (show ¬ (((x :: r).length : Nat) : Int) < 1 by simp; omega), cf, show ix (x :: r) 0 = some x from rfl, ob]
  have e := count_loop (step := F109_s1 (x :: r)) (n := r.length) (fun j => ⟨minL x (r.take j), ((j + 1 : Nat) : Int)⟩) ⟨minL x r, ((r.length + 1 : Nat) : Int)⟩ (fun j hj => by
    obtain ⟨y, hy, -⟩ := get_of hj
    have hy' : (x :: r)[j + 1]? = some y := by simpa using hy
    simp only [F109_s1]
    rw [decide_eq_true (show ((j + 1 : Nat) : Int) < (((x :: r).length : Nat) : Int) by simp; omega), ct, ix_nat hy', ob, wrap_succ (n := j + 1) (by omega), take_succ_get hy, minL_app]) (by
    simp only [F109_s1]
    rw [decide_eq_false (show ¬ ((r.length + 1 : Nat) : Int) < (((x :: r).length : Nat) : Int) by simp), cf, List.take_length]) (by omega)
  have e0 : (⟨minL x (r.take 0), ((0 + 1 : Nat) : Int)⟩ : F109_L1) = ⟨x, 1⟩ := rfl
  rw [e0] at e
  rw [e, ob]
theorem F110_eq {x : Int} {r : List Int} (h : r.length ≤ 1000) : F110 (x :: r) = some (maxL x r) := by
  unfold F110
  rw [decide_eq_false (show ¬ (((x :: r).length : Nat) : Int) < 1 by simp; omega), cf, show ix (x :: r) 0 = some x from rfl, ob]
  have e := count_loop (step := F110_s1 (x :: r)) (n := r.length) (fun j => ⟨maxL x (r.take j), ((j + 1 : Nat) : Int)⟩) ⟨maxL x r, ((r.length + 1 : Nat) : Int)⟩ (fun j hj => by
    obtain ⟨y, hy, -⟩ := get_of hj
    have hy' : (x :: r)[j + 1]? = some y := by simpa using hy
    simp only [F110_s1]
    rw [decide_eq_true (show ((j + 1 : Nat) : Int) < (((x :: r).length : Nat) : Int) by simp; omega), ct, ix_nat hy', ob, wrap_succ (n := j + 1) (by omega), take_succ_get hy, maxL_app]) (by
    simp only [F110_s1]
    rw [decide_eq_false (show ¬ ((r.length + 1 : Nat) : Int) < (((x :: r).length : Nat) : Int) by simp), cf, List.take_length]) (by omega)
  have e0 : (⟨maxL x (r.take 0), ((0 + 1 : Nat) : Int)⟩ : F110_L1) = ⟨x, 1⟩ := rfl
  rw [e0] at e
  rw [e, ob]
/-- May a conf be? -/
def MayC (c : Cf) : Prop := 1 ≤ c.W.length ∧ c.W.length ≤ 12 ∧ (∀ w ∈ c.W, 0 ≤ w ∧ w ≤ 1099511627776) ∧ 1 ≤ c.Epoch ∧ c.Epoch ≤ 8 ∧ 0 ≤ c.Num ∧ c.Num ≤ c.Den ∧ 1 ≤ c.Den ∧ c.Den ≤ 1000
instance (c : Cf) : Decidable (MayC c) := inferInstanceAs (Decidable (_ ∧ _))
/-- How much those of p weigh, among the first k. -/
def wsum (p : Nat → Bool) (W : List Int) : Nat → Int
  | 0 => 0
  | k + 1 => wsum p W k + (bif p k then (W[k]?).getD 0 else 0)
theorem wsum_in {p : Nat → Bool} {W : List Int} (h : ∀ w ∈ W, 0 ≤ w ∧ w ≤ 1099511627776) : ∀ k, 0 ≤ wsum p W k ∧ wsum p W k ≤ 1099511627776 * k
  | 0 => by simp [wsum]
  | k + 1 => by
    have ih := wsum_in (p := p) h k
    unfold wsum
    cases p k with
    | false => simp only [cond_false]; omega
    | true =>
      simp only [cond_true]
      cases hk : W[k]? with
      | none => simp only [Option.getD_none]; omega
      | some w =>
        have := h w (List.mem_of_getElem? hk)
        simp only [Option.getD_some]; omega
theorem wsum_t {p : Nat → Bool} {W : List Int} {k : Nat} {w : Int} (hp : p k = true) (hw : W[k]? = some w) : wsum p W (k + 1) = wsum p W k + w := by
  rw [wsum, hp, hw]; rfl
theorem wsum_f {p : Nat → Bool} {W : List Int} {k : Nat} (hp : p k = false) : wsum p W (k + 1) = wsum p W k := by
  rw [wsum, hp]; simp
/-- The end of the question which confs may be. -/
theorem may_tail (c : Cf) : (bif decide (c.Epoch > 0) then bif decide (c.Epoch ≤ 8) then bif decide (c.Num ≥ 0) then bif decide (c.Num ≤ c.Den) then bif decide (c.Den > 0) then some (decide (c.Den ≤ 1000)) else some false else some false else some false else some false else some false) =
    some (decide (1 ≤ c.Epoch ∧ c.Epoch ≤ 8 ∧ 0 ≤ c.Num ∧ c.Num ≤ c.Den ∧ 1 ≤ c.Den ∧ c.Den ≤ 1000)) := by
  by_cases h1 : c.Epoch > 0
  · rw [decide_eq_true h1, ct]
    by_cases h2 : c.Epoch ≤ 8
    · rw [decide_eq_true h2, ct]
      by_cases h3 : c.Num ≥ 0
      · rw [decide_eq_true h3, ct]
        by_cases h4 : c.Num ≤ c.Den
        · rw [decide_eq_true h4, ct]
          by_cases h5 : c.Den > 0
          · rw [decide_eq_true h5, ct]
            congr 1
            exact decide_eq_decide.2 ⟨fun h => ⟨h1, h2, h3, h4, h5, h⟩, fun h => h.2.2.2.2.2⟩
          · rw [decide_eq_false h5, cf, decide_eq_false (fun h => h5 h.2.2.2.2.1)]
        · rw [decide_eq_false h4, cf, decide_eq_false (fun h => h4 h.2.2.2.1)]
      · rw [decide_eq_false h3, cf, decide_eq_false (fun h => h3 h.2.2.1)]
    · rw [decide_eq_false h2, cf, decide_eq_false (fun h => h2 h.2.1)]
  · rw [decide_eq_false h1, cf, decide_eq_false (fun h => h1 h.1)]
theorem F64_eq (c : Cf) : F64 c = some (decide (MayC c)) := by
  unfold F64
  have hno : ∀ h : ¬ MayC c, decide (MayC c) = false := fun h => decide_eq_false h
  by_cases h0 : c.W.length = 0
  · rw [show ((c.W.length : Int) == 0) = true by simp [h0], ct, ob, ct, decide_eq_false (fun h : MayC c => by have := h.1; omega)]
  · rw [show ((c.W.length : Int) == 0) = false by simpa using h0, cf]
    by_cases h12 : c.W.length > 12
    · rw [decide_eq_true (show (c.W.length : Int) > 12 by omega), ct, ob, ct, decide_eq_false (fun h : MayC c => by have := h.2.1; omega)]
    · rw [decide_eq_false (show ¬ (c.W.length : Int) > 12 by omega), cf]
      obtain ⟨x, r, hW⟩ : ∃ x r, c.W = x :: r := by
        cases hc : c.W with
        | nil => rw [hc] at h0; simp at h0
        | cons x r => exact ⟨x, r, rfl⟩
      have hr : r.length ≤ 1000 := by rw [hW] at h12; simp at h12; omega
      have hall : (∀ w ∈ c.W, 0 ≤ w ∧ w ≤ 1099511627776) ↔ ¬ minL x r < 0 ∧ ¬ maxL x r > 1099511627776 := by
        rw [minL_lt, maxL_gt, hW]
        constructor
        · intro h
          refine ⟨?_, ?_⟩
          · rintro (h1 | ⟨y, hy, h1⟩)
            · have := (h x (.head _)).1; omega
            · have := (h y (.tail _ hy)).1; omega
          · rintro (h1 | ⟨y, hy, h1⟩)
            · have := (h x (.head _)).2; omega
            · have := (h y (.tail _ hy)).2; omega
        · rintro ⟨h1, h2⟩ w hw
          refine ⟨?_, ?_⟩
          · refine Classical.byContradiction fun hc => h1 ?_
            cases hw with
            | head => exact .inl (by omega)
            | tail _ hw => exact .inr ⟨w, hw, by omega⟩
          · refine Classical.byContradiction fun hc => h2 ?_
            cases hw with
            | head => exact .inl (by omega)
            | tail _ hw => exact .inr ⟨w, hw, by omega⟩
      have hlen : 1 ≤ c.W.length ∧ c.W.length ≤ 12 := ⟨by omega, by omega⟩
      have e9 := F109_eq (x := x) hr
      have e10 := F110_eq (x := x) hr
      rw [← hW] at e9 e10
      rw [e9, ob]
      by_cases hm : minL x r < 0
      · rw [decide_eq_true hm, ct, ob, ct, decide_eq_false (fun h : MayC c => (hall.1 h.2.2.1).1 hm)]
      · rw [decide_eq_false hm, cf, e10, ob, ob]
        by_cases hx : maxL x r > 1099511627776
        · rw [decide_eq_true hx, ct, decide_eq_false (fun h : MayC c => (hall.1 h.2.2.1).2 hx)]
        · rw [decide_eq_false hx, cf, may_tail]
          congr 1
          exact decide_eq_decide.2 ⟨fun h => ⟨hlen.1, hlen.2, hall.2 ⟨hm, hx⟩, h⟩, fun h => h.2.2.2⟩
def okW (c : Cf) : Prop := c.W.length ≤ 12 ∧ ∀ w ∈ c.W, 0 ≤ w ∧ w ≤ 1099511627776
theorem MayC.okW {c : Cf} (h : MayC c) : okW c := ⟨h.2.1, h.2.2.1⟩
theorem wrap_sum {p : Nat → Bool} {W : List Int} (h : ∀ w ∈ W, 0 ≤ w ∧ w ≤ 1099511627776) {k : Nat} (hk : k ≤ 12) : IntKind.i64.wrap (wsum p W k) = wsum p W k := by
  have := wsum_in (p := p) h k
  exact wrapI (by omega) (by omega)
theorem F148W_eq {c : Cf} {m : List (Int × Bool)} (h : okW c) : F148W c m 0 = some (wsum (fun j => (findE m (j : Int)).getD false) c.W c.W.length) := by
  unfold F148W
  have e := count_loop (step := F148W_s1 c m) (n := c.W.length) (fun j => ⟨(j : Int), wsum (fun j => (findE m (j : Int)).getD false) c.W j⟩) ⟨(c.W.length : Int), wsum (fun j => (findE m (j : Int)).getD false) c.W c.W.length⟩ (fun j hj => by
    obtain ⟨y, hy, hm⟩ := get_of hj
    have h12 := h.1
    simp only [F148W_s1, F117]
    rw [decide_eq_true (show (j : Int) < (c.W.length : Int) by omega), ct, ob]
    cases hb : (findE m (j : Int)).getD false with
    | true => rw [ct, ix_nat hy, ob, wrap_succ (n := j) (by omega), ← wsum_t (p := fun j => (findE m (j : Int)).getD false) hb hy, wrap_sum h.2 (by omega)]
    | false => rw [cf, wrap_succ (n := j) (by omega), wsum_f (p := fun j => (findE m (j : Int)).getD false) hb]) (by
    simp only [F148W_s1]
    rw [decide_eq_false (show ¬ (c.W.length : Int) < (c.W.length : Int) by omega), cf]) (by have := h.1; omega)
  exact (congrArg (fun z => Option.bind z fun v1 => some v1.o4_0) e).trans ob
/-- What those of a list weigh. -/
def wtP (c : Cf) (l : List Int) : Int := if MayC c then wsum (fun j => decide ((j : Int) ∈ l)) c.W c.W.length else 0
theorem wsum_congr {p q : Nat → Bool} {W : List Int} (h : ∀ j, p j = q j) : ∀ k, wsum p W k = wsum q W k
  | 0 => rfl
  | k + 1 => by rw [wsum, wsum, wsum_congr h k, h k]
theorem findE_setE {m : List (Int × Bool)} {k q : Int} {v : Bool} : findE (setE m k v) q = if k = q then some v else findE m q := by
  induction m with
  | nil => simp [setE, findE]
  | cons p r ih =>
    obtain ⟨a, b⟩ := p
    unfold setE
    by_cases h : a = k
    · rw [if_pos h]
      subst h
      by_cases h2 : a = q
      · simp [findE, h2]
      · simp [findE, h2]
    · rw [if_neg h]
      simp only [findE]
      rw [ih]
      by_cases h2 : a = q
      · rw [if_pos h2, if_pos h2, if_neg (fun e => h (by rw [h2, e]))]
      · rw [if_neg h2, if_neg h2]
/-- The keys of a list, set one after the other. -/
def keysM : List Int → List (Int × Bool) → List (Int × Bool)
  | [], m => m
  | x :: r, m => keysM r (setE m x true)
theorem keysM_app (a : List Int) (x : Int) : ∀ m, keysM (a ++ [x]) m = setE (keysM a m) x true := by
  induction a with
  | nil => intro m; rfl
  | cons y r ih => intro m; exact ih _
theorem keysM_find (q : Int) : ∀ (l : List Int) (m : List (Int × Bool)), findE (keysM l m) q = if q ∈ l then some true else findE m q
  | [], m => by simp [keysM]
  | x :: r, m => by
    unfold keysM
    rw [keysM_find q r, findE_setE]
    by_cases h : q ∈ r
    · simp [h]
    · by_cases h2 : x = q
      · simp [h2]
      · simp [h, h2, Ne.symm h2]
theorem F70_eq {c : Cf} {l : List Int} (hl : l.length ≤ 100000) : F70 c l = some (wtP c l) := by
  unfold F70
  have e := count_loop (step := F70_s1 l) (n := l.length) (fun j => F70_L1.mk (j : Int) (keysM (l.take j) [])) (F70_L1.mk (l.length : Int) (keysM l [])) (fun j hj => by
    obtain ⟨y, hy, hm⟩ := get_of hj
    have e1 : F70_s1 l (F70_L1.mk (j : Int) (keysM (l.take j) [])) = some (.inl (F70_L1.mk (IntKind.i64.wrap ((j : Int) + 1)) (setE (keysM (l.take j) []) y true))) := by
      unfold F70_s1
      rw [decide_eq_true (show (j : Int) < (l.length : Int) by omega), ct, ix_nat hy, ob]
    rw [e1, wrap_succ (n := j) (by omega), take_succ_get hy, keysM_app]) (by
    unfold F70_s1
    rw [decide_eq_false (show ¬ (l.length : Int) < (l.length : Int) by omega), cf, List.take_length]) (by omega)
  have e0 : F70_L1.mk (((0 : Nat) : Int)) (keysM (l.take 0) []) = F70_L1.mk 0 [] := rfl
  rw [e0] at e
  rw [e, ob]
  unfold F116W wtP
  rw [F64_eq, ob]
  by_cases h : MayC c
  · rw [decide_eq_true h, if_pos h, Bool.not_true, cf, F148W_eq h.okW, ob, ob]
    congr 1
    refine wsum_congr (fun j => ?_) _
    rw [keysM_find]
    by_cases hj : (j : Int) ∈ l <;> simp [hj, findE]
  · rw [decide_eq_false h, if_neg h]; rfl
theorem F119_eq {l : List Int} {n : Int} (hl : l.length ≤ 100000) : F119 l n = some (decide (n ∈ l)) := by
  unfold F119 F150
  have key := @iter_inv _ _ (F150_s1 l n) (fun x => ∃ j : Nat, j ≤ l.length ∧ x.t8 = j ∧ n ∉ l.take j) (fun x => l.length + 1 - x.t8.toNat)
    (fun b => (∃ i : Nat, b = .inr (i : Int) ∧ n ∈ l) ∨ ∃ x, b = .inl x ∧ n ∉ l) (by
      rintro ⟨t⟩ ⟨j, hj, rfl, hw⟩
      by_cases hlt : j < l.length
      · obtain ⟨y, hy, hm⟩ := get_of hlt
        by_cases h1 : n = y
        · right
          refine ⟨.inr (j : Int), by
            simp only [F150_s1]
            rw [decide_eq_true (show (j : Int) < (l.length : Int) by omega), ct, ix_nat hy, ob, beqt h1, ct], .inl ⟨j, rfl, h1 ▸ hm⟩⟩
        · left
          refine ⟨⟨IntKind.i64.wrap ((j : Int) + 1)⟩, by
            simp only [F150_s1]
            rw [decide_eq_true (show (j : Int) < (l.length : Int) by omega), ct, ix_nat hy, ob, show (n == y) = false by simpa using h1, cf], ⟨j + 1, by omega, wrap_succ (n := j) (by omega), ?_⟩, ?_⟩
          · rw [take_succ_get hy]
            intro h
            rcases List.mem_append.1 h with h | h
            · exact hw h
            · exact h1 (List.mem_singleton.1 h)
          · simp only [wrap_succ (show j < 4000000000 by omega)]; omega
      · right
        obtain rfl : j = l.length := by omega
        refine ⟨.inl ⟨((l.length : Nat) : Int)⟩, by
          simp only [F150_s1]
          rw [decide_eq_false (show ¬ ((l.length : Nat) : Int) < (l.length : Int) by omega), cf], .inr ⟨_, rfl, ?_⟩⟩
        rw [List.take_length] at hw
        exact hw)
  obtain ⟨b, hb, ⟨i, rfl, h⟩ | ⟨x, rfl, h⟩⟩ := key (n := big) (x := ⟨0⟩) ⟨0, by omega, rfl, by simp⟩ (big_gt (by show l.length + 1 - 0 < _; omega))
  · rw [hb, ob, sr, ob, decide_eq_true h, decide_eq_true (show (i : Int) ≥ 0 by omega)]
  · rw [hb, ob, sl, ob, decide_eq_false h]; rfl
/-- Those of the first k that p lets in. -/
def pickL (p : Nat → Bool) : Nat → List Int
  | 0 => []
  | k + 1 => bif p k then pickL p k ++ [(k : Int)] else pickL p k
theorem pickL_len (p : Nat → Bool) : ∀ k, (pickL p k).length ≤ k
  | 0 => by simp [pickL]
  | k + 1 => by
    have := pickL_len p k
    unfold pickL
    cases p k <;> simp <;> omega
/-- A slot of a conf that may be. -/
def OkS (c : Cf) (slot : Int) : Prop := MayC c ∧ 0 < slot ∧ slot ≤ 1048576
instance (c : Cf) (slot : Int) : Decidable (OkS c slot) := inferInstanceAs (Decidable (_ ∧ _))
theorem F107_eq (c : Cf) (slot : Int) : F107 c slot = some (decide (OkS c slot)) := by
  unfold F107
  rw [F64_eq, ob]
  by_cases h : MayC c
  · rw [decide_eq_true h, ct]
    by_cases h1 : slot > 0
    · rw [decide_eq_true h1, ct]
      congr 1
      exact decide_eq_decide.2 ⟨fun h2 => ⟨h, h1, h2⟩, fun h2 => h2.2.2⟩
    · rw [decide_eq_false h1, cf, decide_eq_false (fun h2 : OkS c slot => h1 h2.2.1)]
  · rw [decide_eq_false h, cf, decide_eq_false (fun h2 : OkS c slot => h h2.1)]
def seedOf (c : Cf) (slot : Int) : Int := step c.Seed (IntKind.u64.wrap (IntKind.i64.wrap (slot.tdiv c.Epoch)))
def inP (c : Cf) (slot : Int) (j : Nat) : Bool := (toA (seedOf c slot) (c.W.length : Int) (j : Int)).tmod c.Epoch == slot.tmod c.Epoch
/-- Who votes in a slot. -/
def cmP (c : Cf) (slot : Int) : List Int := if OkS c slot then pickL (inP c slot) c.W.length else []
theorem cm_len (c : Cf) (slot : Int) : (cmP c slot).length ≤ 12 := by
  unfold cmP
  split
  · next h => have := pickL_len (inP c slot) c.W.length; have := h.1.2.1; omega
  · simp
theorem epoch_ne {c : Cf} (h : MayC c) : decide (c.Epoch ≠ 0) = true := decide_eq_true (by have := h.2.2.2.1; omega)
theorem F111C_eq {c : Cf} {slot : Int} (h : MayC c) : F111C c slot (permP (seedOf c slot) (c.W.length : Int)) = some (pickL (inP c slot) c.W.length) := by
  have h1 := h.1
  have h2 := h.2.1
  have e := count_loop (step := F148C_s1 c slot (permP (seedOf c slot) (c.W.length : Int))) (n := c.W.length) (fun j => F148C_L1.mk (j : Int) (pickL (inP c slot) j)) (F148C_L1.mk (c.W.length : Int) (pickL (inP c slot) c.W.length)) (fun j hj => by
    have hl := pickL_len (inP c slot) j
    unfold F148C_s1 F113
    simp only
    rw [decide_eq_true (show (j : Int) < (c.W.length : Int) by omega), ct, perm_get (by omega) (by omega) (by omega), ob, epoch_ne h, ct, ct, ob]
    cases hb : inP c slot j with
    | true =>
      rw [show ((toA (seedOf c slot) (c.W.length : Int) (j : Int)).tmod c.Epoch == slot.tmod c.Epoch) = true from hb, ct, room_ok (by simp only [List.length_singleton]; omega) (by omega), ct, wrap_succ (n := j) (by omega), pickL, hb, ct]
    | false =>
      rw [show ((toA (seedOf c slot) (c.W.length : Int) (j : Int)).tmod c.Epoch == slot.tmod c.Epoch) = false from hb, cf, wrap_succ (n := j) (by omega), pickL, hb, cf]) (by
    unfold F148C_s1
    rw [decide_eq_false (show ¬ (c.W.length : Int) < (c.W.length : Int) by omega), cf]) (by omega)
  have e0 : F148C_L1.mk (((0 : Nat) : Int)) (pickL (inP c slot) 0) = F148C_L1.mk 0 [] := rfl
  rw [e0] at e
  unfold F111C F147C F148C
  rw [e, ob, ob, ob]
theorem F65_eq (c : Cf) (slot : Int) : F65 c slot = some (cmP c slot) := by
  unfold F65 cmP
  rw [F107_eq, ob]
  by_cases h : OkS c slot
  · rw [decide_eq_true h, if_pos h, Bool.not_true, cf, epoch_ne h.1, ct, F60_eq, ob]
    have := F111C_eq (slot := slot) h.1
    unfold seedOf at this
    rw [this, ob]
  · rw [decide_eq_false h, if_neg h]; rfl
def c0 : Cf := ⟨[5], 0, 1, 0, 4⟩
theorem wsum_or {p q r : Nat → Bool} {W : List Int} (hW : ∀ w ∈ W, 0 ≤ w ∧ w ≤ 1099511627776) (h : ∀ j, r j = (p j || q j)) : ∀ k, wsum r W k ≤ wsum p W k + wsum q W k ∧ ((∀ j, j < k → ¬ (p j = true ∧ q j = true)) → wsum r W k = wsum p W k + wsum q W k)
  | 0 => by simp [wsum]
  | k + 1 => by
    obtain ⟨h1, h2⟩ := wsum_or hW h k
    unfold wsum
    rw [h k]
    have hg : 0 ≤ (W[k]?).getD 0 := by
      cases hk : W[k]? with
      | none => simp
      | some w => have := hW w (List.mem_of_getElem? hk); simp; omega
    generalize (W[k]?).getD 0 = g at hg
    refine ⟨?_, fun hd => ?_⟩
    · cases p k <;> cases q k <;> simp <;> omega
    · have e := h2 fun j hj => hd j (by omega)
      have hk := hd k (by omega)
      cases hp : p k <;> cases hq : q k
      · simp; omega
      · simp; omega
      · simp; omega
      · exact absurd ⟨hp, hq⟩ hk
def hitA (a b : List Int) : Bool := a.any fun x => b.any fun y => x == y
theorem wt_in (c : Cf) (l : List Int) : 0 ≤ wtP c l ∧ wtP c l ≤ 13194139533312 := by
  unfold wtP
  split
  · next h =>
    have := wsum_in (p := fun j => decide ((j : Int) ∈ l)) h.okW.2 c.W.length
    have := h.2.1
    omega
  · omega
theorem hitA_false {a b : List Int} (h : hitA a b = false) {x : Int} (h1 : x ∈ a) (h2 : x ∈ b) : False := by
  have : hitA a b = true := List.any_eq_true.2 ⟨x, h1, List.any_eq_true.2 ⟨x, h2, by simp⟩⟩
  rw [h] at this; cases this
theorem wt_or (c : Cf) (a b : List Int) : wtP c (a ++ b) ≤ wtP c a + wtP c b ∧ (hitA a b = false → wtP c (a ++ b) = wtP c a + wtP c b) := by
  unfold wtP
  by_cases h : MayC c
  · rw [if_pos h, if_pos h, if_pos h]
    obtain ⟨h1, h2⟩ := wsum_or (p := fun j => decide ((j : Int) ∈ a)) (q := fun j => decide ((j : Int) ∈ b)) (r := fun j => decide ((j : Int) ∈ a ++ b)) h.okW.2 (fun j => by simp) c.W.length
    exact ⟨h1, fun hh => h2 fun j _ hj => hitA_false hh (of_decide_eq_true hj.1) (of_decide_eq_true hj.2)⟩
  · rw [if_neg h, if_neg h, if_neg h]; exact ⟨by omega, fun _ => by omega⟩
theorem wt_same {c : Cf} {a b : List Int} (h : ∀ x, x ∈ a ↔ x ∈ b) : wtP c a = wtP c b := by
  unfold wtP
  by_cases hm : MayC c
  · rw [if_pos hm, if_pos hm]
    exact wsum_congr (fun j => decide_eq_decide.2 (h _)) _
  · rw [if_neg hm, if_neg hm]
end Go.Mg
