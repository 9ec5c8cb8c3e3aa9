/- Plain laws of the shuffle: all places together. Laws of duties. Plain laws of duties: which confs may be, and sums of weights. Plain laws of duties: which confs may be; weights. Plain laws of duties: weights of lists; lists. Plain laws of duties: committees, proposers. Laws of duties. Laws of duties. Laws of duties: DutyAll. Laws of duties: DutyParts. Laws of duties. Laws of duties: DutyWeighs. The book of votes. The sort of votes by who it is: the shelf's structures at this program. One's own slice of votes, as the sort's row. slices.SortFunc over a slice of votes of one's own, by who it is: the shelf's contract in my terms. Votes sorted by who it is. votes.sorted. The votes of a slot. The votes of a slot that count: plain. The votes of a committee; the head by them. A node at a tick, as plain data. Nodes: what stands alone. Nets. Offers, one behind another. Products of numbers. What is confirmed. view.May. view.Take. Conditions: none. -/
import Derived.Test.YtabjakfgaodocaaGreatX6
import Derived.Test.YtabjakfgaodocaaGreatX5
import Derived.Test.YtabjakfgaodocaaGreatX3
import Derived.Shelf.SlSortCmp.WholeK
import Derived.Shelf.SlicesG.Cmp
import Derived.Test.YtabjakfgaodocaaGreatChecked
import Derived.Shelf.SlGeneric
import Derived.Shelf.GgSortFunc.InsertionK
import Derived.Shelf.SlSortCmp.NoneTotal
import Derived.Test.YtabjakfgaodocaaGreatX4
namespace Go.Mg
def permL (seed n : Int) (k : Nat) : List Int := (List.range k).map fun j : Nat => toA seed n j
def permP (seed n : Int) : List Int := if 1 ≤ n ∧ n ≤ 1000 then permL seed n n.toNat else []
theorem permL_len (seed n : Int) (k : Nat) : (permL seed n k).length = k := by simp [permL]
theorem permL_succ (seed n : Int) (k : Nat) : permL seed n (k + 1) = permL seed n k ++ [toA seed n k] := by simp [permL, List.range_succ]
theorem permL_get {seed n : Int} {k j : Nat} (h : j < k) : (permL seed n k)[j]? = some (toA seed n j) := by simp [permL, h]
theorem set_mid {A : List Int} {m : Nat} {v z : Int} : (A ++ List.replicate (m + 1) z).set A.length v = (A ++ [v]) ++ List.replicate m z := by
 rw [List.set_append_right _ _ (Nat.le_refl _), Nat.sub_self, List.replicate_succ]
 simp
theorem F60_eq (seed n : Int) : F60 seed n = some (permP seed n) := by
 unfold F60 permP
 rw [F101_eq, ob]
 by_cases h : 1 ≤ n ∧ n ≤ 1000
 ·obtain ⟨h1, h2⟩ := h
  have hp : Pl n 0 := ⟨h1, h2, by omega, by omega⟩
  rw [decide_eq_true hp, if_pos ⟨h1, h2⟩, Bool.not_true, cf, show mkOk n 8 = true from decide_eq_true ⟨by omega, by omega, by omega⟩, ct]
  have key := @iter_inv _ _ (F60_s1 seed n) (fun x => ∃ j : Nat, j ≤ n.toNat ∧ x.t19 = j ∧ x.d.k = 10 * (j : Int) ∧ x.l = permL seed n j ++ List.replicate (n.toNat - j) 0) (fun x => n.toNat + 1 - x.t19.toNat) (fun b => b.l = permL seed n n.toNat ∧ b.d.k = 10 * n) (by
   rintro ⟨t, d, l⟩ ⟨j, hj, rfl, hd, hl⟩
   simp only at hd hl
   subst hl
   by_cases hlt : j < n.toNat
   ·left
    have hpl : Pl n (j : Int) := ⟨h1, h2, by omega, by omega⟩
    obtain ⟨d', e, hk⟩ := F102_eq (seed := seed) (d := d) hpl (by omega) (by omega)
    have hix : ix (permL seed n j ++ List.replicate (n.toNat - j) 0) (j : Int) = some 0 := ix_nat (by
     rw [List.getElem?_append_right (by rw [permL_len]; omega), permL_len, Nat.sub_self, show n.toNat - j = (n.toNat - j - 1) + 1 by omega, List.replicate_succ]; rfl)
    refine ⟨_, by
     simp only [F60_s1]
     rw [decide_eq_true (show (j : Int) < ((List.replicate n.toNat (0 : Int)).length : Int) by rw [List.length_replicate]; omega), ct, e, ob, hix, ob],
     ⟨j + 1, by omega, wrap_succ (n := j) (by omega), by show d'.k = _; omega, ?_⟩, ?_⟩
    ·show List.set (permL seed n j ++ List.replicate (n.toNat - j) 0) (j : Int).toNat (toA seed n j) = _
     rw [show n.toNat - j = (n.toNat - (j + 1)) + 1 by omega, permL_succ]
     have := set_mid (A := permL seed n j) (m := n.toNat - (j + 1)) (v := toA seed n j) (z := 0)
     rw [permL_len] at this
     exact this
    ·simp only [wrap_succ (show j < 4000000000 by omega)]; omega
   ·right
    obtain rfl : j = n.toNat := by omega
    refine ⟨_, by
     simp only [F60_s1]
     rw [decide_eq_false (show ¬ ((n.toNat : Nat) : Int) < ((List.replicate n.toNat (0 : Int)).length : Int) by rw [List.length_replicate]; omega), cf], ?_, ?_⟩
    ·simp
    ·simp only; omega)
  obtain ⟨b, hb, h3, h4⟩ := key (n := big) (x := ⟨0, dk0, List.replicate n.toNat 0⟩) ⟨0, by omega, rfl, rfl, by simp [permL]⟩ (big_gt (by omega))
  rw [hb, ob, h3, decide_eq_false (show ¬ b.d.k < n by omega), cf]
 ·rw [decide_eq_false (fun hp : Pl n 0 => h ⟨hp.1, hp.2.1⟩), if_neg h]; rfl
theorem beqt {a b : Int} (h : a = b) : (a == b) = true := by simp [h]
theorem perm_get {seed n : Int} (h1 : 1 ≤ n) (h2 : n ≤ 1000) {j : Nat} (hj : (j : Int) < n) : ix (permP seed n) (j : Int) = some (toA seed n j) := by
 unfold permP
 rw [if_pos ⟨h1, h2⟩]
 exact ix_nat (permL_get (by omega))
open Go.Proofs
theorem count_loop {S R : Type} {step : S → Option (S ⊕ R)} {n : Nat} (g : Nat → S) (r : R) (hs : ∀ j, j < n → step (g j) = some (.inl (g (j + 1)))) (he : step (g n) = some (.inr r)) (hn : n < 4000000000000000000) :
  iter step big (g 0) = some r := by
 have key : ∀ (d k f : Nat), k + d = n → d < f → iter step f (g k) = some r := by
  intro d
  induction d with
  | zero =>
   intro k f hk hf
   obtain ⟨f, rfl⟩ : ∃ q, f = q + 1 := ⟨f - 1, by omega⟩
   obtain rfl : k = n := by omega
   unfold iter
   rw [he]
  | succ d ih =>
   intro k f hk hf
   obtain ⟨f, rfl⟩ : ∃ q, f = q + 1 := ⟨f - 1, by omega⟩
   unfold iter
   rw [hs k (by omega)]
   exact ih (k + 1) f (by omega) (by omega)
 exact key n 0 big (by omega) (big_gt hn)
def minL (x : Int) : List Int → Int
 | [] => x
 | y :: r => minL (if y < x then y else x) r
def maxL (x : Int) : List Int → Int
 | [] => x
 | y :: r => maxL (if y > x then y else x) r
theorem minL_app (x : Int) (a : List Int) (y : Int) : minL x (a ++ [y]) = if y < minL x a then y else minL x a := by
 induction a generalizing x with
 | nil => rfl
 | cons z r ih => exact ih _
theorem maxL_app (x : Int) (a : List Int) (y : Int) : maxL x (a ++ [y]) = if y > maxL x a then y else maxL x a := by
 induction a generalizing x with
 | nil => rfl
 | cons z r ih => exact ih _
theorem minL_lt {k x : Int} {l : List Int} : minL x l < k ↔ x < k ∨ ∃ y ∈ l, y < k := by
 induction l generalizing x with
 | nil => simp [minL]
 | cons z r ih =>
  simp only [minL, ih, List.mem_cons, exists_eq_or_imp]
  split
  ·constructor
   ·rintro (h | h)
    ·exact .inr (.inl h)
    ·exact .inr (.inr h)
   ·rintro (h | h | h)
    ·exact .inl (by omega)
    ·exact .inl h
    ·exact .inr h
  ·constructor
   ·rintro (h | h)
    ·exact .inl h
    ·exact .inr (.inr h)
   ·rintro (h | h | h)
    ·exact .inl h
    ·exact .inl (by omega)
    ·exact .inr h
theorem maxL_gt {k x : Int} {l : List Int} : maxL x l > k ↔ x > k ∨ ∃ y ∈ l, y > k := by
 induction l generalizing x with
 | nil => simp [maxL]
 | cons z r ih =>
  simp only [maxL, ih, List.mem_cons, exists_eq_or_imp]
  split
  ·constructor
   ·rintro (h | h)
    ·exact .inr (.inl h)
    ·exact .inr (.inr h)
   ·rintro (h | h | h)
    ·exact .inl (by omega)
    ·exact .inl h
    ·exact .inr h
  ·constructor
   ·rintro (h | h)
    ·exact .inl h
    ·exact .inr (.inr h)
   ·rintro (h | h | h)
    ·exact .inl h
    ·exact .inl (by omega)
    ·exact .inr h
theorem take_succ_get {l : List Int} {j : Nat} {y : Int} (h : l[j]? = some y) : l.take (j + 1) = l.take j ++ [y] := by rw [List.take_add_one, h]; rfl
theorem F109_eq {x : Int} {r : List Int} (h : r.length ≤ 1000) : F109 (x :: r) = some (minL x r) := by
 unfold F109
 rw [decide_eq_false (show ¬ (((x :: r).length : Nat) : Int) < 1 by simp; omega), cf, show ix (x :: r) 0 = some x from rfl, ob]
 have e := count_loop (step := F109_s1 (x :: r)) (n := r.length) (fun j => ⟨minL x (r.take j), ((j + 1 : Nat) : Int)⟩) ⟨minL x r, ((r.length + 1 : Nat) : Int)⟩ (fun j hj => by
  obtain ⟨y, hy, -⟩ := get_of hj
  have hy' : (x :: r)[j + 1]? = some y := by simpa using hy
  simp only [F109_s1]
  rw [decide_eq_true (show ((j + 1 : Nat) : Int) < (((x :: r).length : Nat) : Int) by simp; omega), ct, ix_nat hy', ob, wrap_succ (n := j + 1) (by omega), take_succ_get hy, minL_app]) (by
  simp only [F109_s1]
  rw [decide_eq_false (show ¬ ((r.length + 1 : Nat) : Int) < (((x :: r).length : Nat) : Int) by simp), cf, List.take_length]) (by omega)
 have e0 : (⟨minL x (r.take 0), ((0 + 1 : Nat) : Int)⟩ : F109_L1) = ⟨x, 1⟩ := rfl
 rw [e0] at e
 rw [e, ob]
theorem F110_eq {x : Int} {r : List Int} (h : r.length ≤ 1000) : F110 (x :: r) = some (maxL x r) := by
 unfold F110
 rw [decide_eq_false (show ¬ (((x :: r).length : Nat) : Int) < 1 by simp; omega), cf, show ix (x :: r) 0 = some x from rfl, ob]
 have e := count_loop (step := F110_s1 (x :: r)) (n := r.length) (fun j => ⟨maxL x (r.take j), ((j + 1 : Nat) : Int)⟩) ⟨maxL x r, ((r.length + 1 : Nat) : Int)⟩ (fun j hj => by
  obtain ⟨y, hy, -⟩ := get_of hj
  have hy' : (x :: r)[j + 1]? = some y := by simpa using hy
  simp only [F110_s1]
  rw [decide_eq_true (show ((j + 1 : Nat) : Int) < (((x :: r).length : Nat) : Int) by simp; omega), ct, ix_nat hy', ob, wrap_succ (n := j + 1) (by omega), take_succ_get hy, maxL_app]) (by
  simp only [F110_s1]
  rw [decide_eq_false (show ¬ ((r.length + 1 : Nat) : Int) < (((x :: r).length : Nat) : Int) by simp), cf, List.take_length]) (by omega)
 have e0 : (⟨maxL x (r.take 0), ((0 + 1 : Nat) : Int)⟩ : F110_L1) = ⟨x, 1⟩ := rfl
 rw [e0] at e
 rw [e, ob]
def MayC (c : Cf) : Prop := 1 ≤ c.W.length ∧ c.W.length ≤ 12 ∧ (∀ w ∈ c.W, 0 ≤ w ∧ w ≤ 1099511627776) ∧ 1 ≤ c.Epoch ∧ c.Epoch ≤ 8 ∧ 0 ≤ c.Num ∧ c.Num ≤ c.Den ∧ 1 ≤ c.Den ∧ c.Den ≤ 1000
instance (c : Cf) : Decidable (MayC c) := inferInstanceAs (Decidable (_ ∧ _))
def wsum (p : Nat → Bool) (W : List Int) : Nat → Int
 | 0 => 0
 | k + 1 => wsum p W k + (bif p k then (W[k]?).getD 0 else 0)
theorem wsum_in {p : Nat → Bool} {W : List Int} (h : ∀ w ∈ W, 0 ≤ w ∧ w ≤ 1099511627776) : ∀ k, 0 ≤ wsum p W k ∧ wsum p W k ≤ 1099511627776 * k
 | 0 => by simp [wsum]
 | k + 1 => by
  have ih := wsum_in (p := p) h k
  unfold wsum
  cases p k with
  | false => simp only [cond_false]; omega
  | true =>
   simp only [cond_true]
   cases hk : W[k]? with
   | none => simp only [Option.getD_none]; omega
   | some w =>
    have := h w (List.mem_of_getElem? hk)
    simp only [Option.getD_some]; omega
theorem wsum_t {p : Nat → Bool} {W : List Int} {k : Nat} {w : Int} (hp : p k = true) (hw : W[k]? = some w) : wsum p W (k + 1) = wsum p W k + w := by
 rw [wsum, hp, hw]; rfl
theorem wsum_f {p : Nat → Bool} {W : List Int} {k : Nat} (hp : p k = false) : wsum p W (k + 1) = wsum p W k := by
 rw [wsum, hp]; simp
theorem may_tail (c : Cf) : (bif decide (c.Epoch > 0) then bif decide (c.Epoch ≤ 8) then bif decide (c.Num ≥ 0) then bif decide (c.Num ≤ c.Den) then bif decide (c.Den > 0) then some (decide (c.Den ≤ 1000)) else some false else some false else some false else some false else some false) =
  some (decide (1 ≤ c.Epoch ∧ c.Epoch ≤ 8 ∧ 0 ≤ c.Num ∧ c.Num ≤ c.Den ∧ 1 ≤ c.Den ∧ c.Den ≤ 1000)) := by
 by_cases h1 : c.Epoch > 0
 ·rw [decide_eq_true h1, ct]
  by_cases h2 : c.Epoch ≤ 8
  ·rw [decide_eq_true h2, ct]
   by_cases h3 : c.Num ≥ 0
   ·rw [decide_eq_true h3, ct]
    by_cases h4 : c.Num ≤ c.Den
    ·rw [decide_eq_true h4, ct]
     by_cases h5 : c.Den > 0
     ·rw [decide_eq_true h5, ct]
      congr 1
      exact decide_eq_decide.2 ⟨fun h => ⟨h1, h2, h3, h4, h5, h⟩, fun h => h.2.2.2.2.2⟩
     ·rw [decide_eq_false h5, cf, decide_eq_false (fun h => h5 h.2.2.2.2.1)]
    ·rw [decide_eq_false h4, cf, decide_eq_false (fun h => h4 h.2.2.2.1)]
   ·rw [decide_eq_false h3, cf, decide_eq_false (fun h => h3 h.2.2.1)]
  ·rw [decide_eq_false h2, cf, decide_eq_false (fun h => h2 h.2.1)]
 ·rw [decide_eq_false h1, cf, decide_eq_false (fun h => h1 h.1)]
theorem F64_eq (c : Cf) : F64 c = some (decide (MayC c)) := by
 unfold F64
 have hno : ∀ h : ¬ MayC c, decide (MayC c) = false := fun h => decide_eq_false h
 by_cases h0 : c.W.length = 0
 ·rw [show ((c.W.length : Int) == 0) = true by simp [h0], ct, ob, ct, decide_eq_false (fun h : MayC c => by have := h.1; omega)]
 ·rw [show ((c.W.length : Int) == 0) = false by simpa using h0, cf]
  by_cases h12 : c.W.length > 12
  ·rw [decide_eq_true (show (c.W.length : Int) > 12 by omega), ct, ob, ct, decide_eq_false (fun h : MayC c => by have := h.2.1; omega)]
  ·rw [decide_eq_false (show ¬ (c.W.length : Int) > 12 by omega), cf]
   obtain ⟨x, r, hW⟩ : ∃ x r, c.W = x :: r := by
    cases hc : c.W with
    | nil => rw [hc] at h0; simp at h0
    | cons x r => exact ⟨x, r, rfl⟩
   have hr : r.length ≤ 1000 := by rw [hW] at h12; simp at h12; omega
   have hall : (∀ w ∈ c.W, 0 ≤ w ∧ w ≤ 1099511627776) ↔ ¬ minL x r < 0 ∧ ¬ maxL x r > 1099511627776 := by
    rw [minL_lt, maxL_gt, hW]
    constructor
    ·intro h
     refine ⟨?_, ?_⟩
     ·rintro (h1 | ⟨y, hy, h1⟩)
      ·have := (h x (.head _)).1; omega
      ·have := (h y (.tail _ hy)).1; omega
     ·rintro (h1 | ⟨y, hy, h1⟩)
      ·have := (h x (.head _)).2; omega
      ·have := (h y (.tail _ hy)).2; omega
    ·rintro ⟨h1, h2⟩ w hw
     refine ⟨?_, ?_⟩
     ·refine Classical.byContradiction fun hc => h1 ?_
      cases hw with
      | head => exact .inl (by omega)
      | tail _ hw => exact .inr ⟨w, hw, by omega⟩
     ·refine Classical.byContradiction fun hc => h2 ?_
      cases hw with
      | head => exact .inl (by omega)
      | tail _ hw => exact .inr ⟨w, hw, by omega⟩
   have hlen : 1 ≤ c.W.length ∧ c.W.length ≤ 12 := ⟨by omega, by omega⟩
   have e9 := F109_eq (x := x) hr
   have e10 := F110_eq (x := x) hr
   rw [← hW] at e9 e10
   rw [e9, ob]
   by_cases hm : minL x r < 0
   ·rw [decide_eq_true hm, ct, ob, ct, decide_eq_false (fun h : MayC c => (hall.1 h.2.2.1).1 hm)]
   ·rw [decide_eq_false hm, cf, e10, ob, ob]
    by_cases hx : maxL x r > 1099511627776
    ·rw [decide_eq_true hx, ct, decide_eq_false (fun h : MayC c => (hall.1 h.2.2.1).2 hx)]
    ·rw [decide_eq_false hx, cf, may_tail]
     congr 1
     exact decide_eq_decide.2 ⟨fun h => ⟨hlen.1, hlen.2, hall.2 ⟨hm, hx⟩, h⟩, fun h => h.2.2.2⟩
def okW (c : Cf) : Prop := c.W.length ≤ 12 ∧ ∀ w ∈ c.W, 0 ≤ w ∧ w ≤ 1099511627776
theorem MayC.okW {c : Cf} (h : MayC c) : okW c := ⟨h.2.1, h.2.2.1⟩
theorem wrap_sum {p : Nat → Bool} {W : List Int} (h : ∀ w ∈ W, 0 ≤ w ∧ w ≤ 1099511627776) {k : Nat} (hk : k ≤ 12) : IntKind.i64.wrap (wsum p W k) = wsum p W k := by
 have := wsum_in (p := p) h k
 exact wrapI (by omega) (by omega)
theorem F148W_eq {c : Cf} {m : List (Int × Bool)} (h : okW c) : F148W c m 0 = some (wsum (fun j => (findE m (j : Int)).getD false) c.W c.W.length) := by
 unfold F148W
 have e := count_loop (step := F148W_s1 c m) (n := c.W.length) (fun j => ⟨(j : Int), wsum (fun j => (findE m (j : Int)).getD false) c.W j⟩) ⟨(c.W.length : Int), wsum (fun j => (findE m (j : Int)).getD false) c.W c.W.length⟩ (fun j hj => by
  obtain ⟨y, hy, hm⟩ := get_of hj
  have h12 := h.1
  simp only [F148W_s1, F117]
  rw [decide_eq_true (show (j : Int) < (c.W.length : Int) by omega), ct, ob]
  cases hb : (findE m (j : Int)).getD false with
  | true => rw [ct, ix_nat hy, ob, wrap_succ (n := j) (by omega), ← wsum_t (p := fun j => (findE m (j : Int)).getD false) hb hy, wrap_sum h.2 (by omega)]
  | false => rw [cf, wrap_succ (n := j) (by omega), wsum_f (p := fun j => (findE m (j : Int)).getD false) hb]) (by
  simp only [F148W_s1]
  rw [decide_eq_false (show ¬ (c.W.length : Int) < (c.W.length : Int) by omega), cf]) (by have := h.1; omega)
 exact (congrArg (fun z => Option.bind z fun v1 => some v1.o4_0) e).trans ob
def wtP (c : Cf) (l : List Int) : Int := if MayC c then wsum (fun j => decide ((j : Int) ∈ l)) c.W c.W.length else 0
theorem wsum_congr {p q : Nat → Bool} {W : List Int} (h : ∀ j, p j = q j) : ∀ k, wsum p W k = wsum q W k
 | 0 => rfl
 | k + 1 => by rw [wsum, wsum, wsum_congr h k, h k]
theorem findE_setE {m : List (Int × Bool)} {k q : Int} {v : Bool} : findE (setE m k v) q = if k = q then some v else findE m q := by
 induction m with
 | nil => simp [setE, findE]
 | cons p r ih =>
  obtain ⟨a, b⟩ := p
  unfold setE
  by_cases h : a = k
  ·rw [if_pos h]
   subst h
   by_cases h2 : a = q
   ·simp [findE, h2]
   ·simp [findE, h2]
  ·rw [if_neg h]
   simp only [findE]
   rw [ih]
   by_cases h2 : a = q
   ·rw [if_pos h2, if_pos h2, if_neg (fun e => h (by rw [h2, e]))]
   ·rw [if_neg h2, if_neg h2]
def keysM : List Int → List (Int × Bool) → List (Int × Bool)
 | [], m => m
 | x :: r, m => keysM r (setE m x true)
theorem keysM_app (a : List Int) (x : Int) : ∀ m, keysM (a ++ [x]) m = setE (keysM a m) x true := by
 induction a with
 | nil => intro m; rfl
 | cons y r ih => intro m; exact ih _
theorem keysM_find (q : Int) : ∀ (l : List Int) (m : List (Int × Bool)), findE (keysM l m) q = if q ∈ l then some true else findE m q
 | [], m => by simp [keysM]
 | x :: r, m => by
  unfold keysM
  rw [keysM_find q r, findE_setE]
  by_cases h : q ∈ r
  ·simp [h]
  ·by_cases h2 : x = q
   ·simp [h2]
   ·simp [h, h2, Ne.symm h2]
theorem F70_eq {c : Cf} {l : List Int} (hl : l.length ≤ 100000) : F70 c l = some (wtP c l) := by
 unfold F70
 have e := count_loop (step := F70_s1 l) (n := l.length) (fun j => F70_L1.mk (j : Int) (keysM (l.take j) [])) (F70_L1.mk (l.length : Int) (keysM l [])) (fun j hj => by
  obtain ⟨y, hy, hm⟩ := get_of hj
  have e1 : F70_s1 l (F70_L1.mk (j : Int) (keysM (l.take j) [])) = some (.inl (F70_L1.mk (IntKind.i64.wrap ((j : Int) + 1)) (setE (keysM (l.take j) []) y true))) := by
   unfold F70_s1
   rw [decide_eq_true (show (j : Int) < (l.length : Int) by omega), ct, ix_nat hy, ob]
  rw [e1, wrap_succ (n := j) (by omega), take_succ_get hy, keysM_app]) (by
  unfold F70_s1
  rw [decide_eq_false (show ¬ (l.length : Int) < (l.length : Int) by omega), cf, List.take_length]) (by omega)
 have e0 : F70_L1.mk (((0 : Nat) : Int)) (keysM (l.take 0) []) = F70_L1.mk 0 [] := rfl
 rw [e0] at e
 rw [e, ob]
 unfold F116W wtP
 rw [F64_eq, ob]
 by_cases h : MayC c
 ·rw [decide_eq_true h, if_pos h, Bool.not_true, cf, F148W_eq h.okW, ob, ob]
  congr 1
  refine wsum_congr (fun j => ?_) _
  rw [keysM_find]
  by_cases hj : (j : Int) ∈ l <;> simp [hj, findE]
 ·rw [decide_eq_false h, if_neg h]; rfl
theorem F119_eq {l : List Int} {n : Int} (hl : l.length ≤ 100000) : F119 l n = some (decide (n ∈ l)) := by
 unfold F119 F150
 have key := @iter_inv _ _ (F150_s1 l n) (fun x => ∃ j : Nat, j ≤ l.length ∧ x.t8 = j ∧ n ∉ l.take j) (fun x => l.length + 1 - x.t8.toNat)
  (fun b => (∃ i : Nat, b = .inr (i : Int) ∧ n ∈ l) ∨ ∃ x, b = .inl x ∧ n ∉ l) (by
   rintro ⟨t⟩ ⟨j, hj, rfl, hw⟩
   by_cases hlt : j < l.length
   ·obtain ⟨y, hy, hm⟩ := get_of hlt
    by_cases h1 : n = y
    ·right
     refine ⟨.inr (j : Int), by
      simp only [F150_s1]
      rw [decide_eq_true (show (j : Int) < (l.length : Int) by omega), ct, ix_nat hy, ob, beqt h1, ct], .inl ⟨j, rfl, h1 ▸ hm⟩⟩
    ·left
     refine ⟨⟨IntKind.i64.wrap ((j : Int) + 1)⟩, by
      simp only [F150_s1]
      rw [decide_eq_true (show (j : Int) < (l.length : Int) by omega), ct, ix_nat hy, ob, show (n == y) = false by simpa using h1, cf], ⟨j + 1, by omega, wrap_succ (n := j) (by omega), ?_⟩, ?_⟩
     ·rw [take_succ_get hy]
      intro h
      rcases List.mem_append.1 h with h | h
      ·exact hw h
      ·exact h1 (List.mem_singleton.1 h)
     ·simp only [wrap_succ (show j < 4000000000 by omega)]; omega
   ·right
    obtain rfl : j = l.length := by omega
    refine ⟨.inl ⟨((l.length : Nat) : Int)⟩, by
     simp only [F150_s1]
     rw [decide_eq_false (show ¬ ((l.length : Nat) : Int) < (l.length : Int) by omega), cf], .inr ⟨_, rfl, ?_⟩⟩
    rw [List.take_length] at hw
    exact hw)
 obtain ⟨b, hb, ⟨i, rfl, h⟩ | ⟨x, rfl, h⟩⟩ := key (n := big) (x := ⟨0⟩) ⟨0, by omega, rfl, by simp⟩ (big_gt (by show l.length + 1 - 0 < _; omega))
 ·rw [hb, ob, sr, ob, decide_eq_true h, decide_eq_true (show (i : Int) ≥ 0 by omega)]
 ·rw [hb, ob, sl, ob, decide_eq_false h]; rfl
def pickL (p : Nat → Bool) : Nat → List Int
 | 0 => []
 | k + 1 => bif p k then pickL p k ++ [(k : Int)] else pickL p k
theorem pickL_len (p : Nat → Bool) : ∀ k, (pickL p k).length ≤ k
 | 0 => by simp [pickL]
 | k + 1 => by
  have := pickL_len p k
  unfold pickL
  cases p k <;> simp <;> omega
def OkS (c : Cf) (slot : Int) : Prop := MayC c ∧ 0 < slot ∧ slot ≤ 1048576
instance (c : Cf) (slot : Int) : Decidable (OkS c slot) := inferInstanceAs (Decidable (_ ∧ _))
theorem F107_eq (c : Cf) (slot : Int) : F107 c slot = some (decide (OkS c slot)) := by
 unfold F107
 rw [F64_eq, ob]
 by_cases h : MayC c
 ·rw [decide_eq_true h, ct]
  by_cases h1 : slot > 0
  ·rw [decide_eq_true h1, ct]
   congr 1
   exact decide_eq_decide.2 ⟨fun h2 => ⟨h, h1, h2⟩, fun h2 => h2.2.2⟩
  ·rw [decide_eq_false h1, cf, decide_eq_false (fun h2 : OkS c slot => h1 h2.2.1)]
 ·rw [decide_eq_false h, cf, decide_eq_false (fun h2 : OkS c slot => h h2.1)]
def seedOf (c : Cf) (slot : Int) : Int := step c.Seed (IntKind.u64.wrap (IntKind.i64.wrap (slot.tdiv c.Epoch)))
def inP (c : Cf) (slot : Int) (j : Nat) : Bool := (toA (seedOf c slot) (c.W.length : Int) (j : Int)).tmod c.Epoch == slot.tmod c.Epoch
def cmP (c : Cf) (slot : Int) : List Int := if OkS c slot then pickL (inP c slot) c.W.length else []
theorem cm_len (c : Cf) (slot : Int) : (cmP c slot).length ≤ 12 := by
 unfold cmP
 split
 ·next h => have := pickL_len (inP c slot) c.W.length; have := h.1.2.1; omega
 ·simp
theorem epoch_ne {c : Cf} (h : MayC c) : decide (c.Epoch ≠ 0) = true := decide_eq_true (by have := h.2.2.2.1; omega)
theorem F111C_eq {c : Cf} {slot : Int} (h : MayC c) : F111C c slot (permP (seedOf c slot) (c.W.length : Int)) = some (pickL (inP c slot) c.W.length) := by
 have h1 := h.1
 have h2 := h.2.1
 have e := count_loop (step := F148C_s1 c slot (permP (seedOf c slot) (c.W.length : Int))) (n := c.W.length) (fun j => F148C_L1.mk (j : Int) (pickL (inP c slot) j)) (F148C_L1.mk (c.W.length : Int) (pickL (inP c slot) c.W.length)) (fun j hj => by
  have hl := pickL_len (inP c slot) j
  unfold F148C_s1 F113
  simp only
  rw [decide_eq_true (show (j : Int) < (c.W.length : Int) by omega), ct, perm_get (by omega) (by omega) (by omega), ob, epoch_ne h, ct, ct, ob]
  cases hb : inP c slot j with
  | true =>
   rw [show ((toA (seedOf c slot) (c.W.length : Int) (j : Int)).tmod c.Epoch == slot.tmod c.Epoch) = true from hb, ct, room_ok (by simp only [List.length_singleton]; omega) (by omega), ct, wrap_succ (n := j) (by omega), pickL, hb, ct]
  | false =>
   rw [show ((toA (seedOf c slot) (c.W.length : Int) (j : Int)).tmod c.Epoch == slot.tmod c.Epoch) = false from hb, cf, wrap_succ (n := j) (by omega), pickL, hb, cf]) (by
  unfold F148C_s1
  rw [decide_eq_false (show ¬ (c.W.length : Int) < (c.W.length : Int) by omega), cf]) (by omega)
 have e0 : F148C_L1.mk (((0 : Nat) : Int)) (pickL (inP c slot) 0) = F148C_L1.mk 0 [] := rfl
 rw [e0] at e
 unfold F111C F147C F148C
 rw [e, ob, ob, ob]
theorem F65_eq (c : Cf) (slot : Int) : F65 c slot = some (cmP c slot) := by
 unfold F65 cmP
 rw [F107_eq, ob]
 by_cases h : OkS c slot
 ·rw [decide_eq_true h, if_pos h, Bool.not_true, cf, epoch_ne h.1, ct, F60_eq, ob]
  have := F111C_eq (slot := slot) h.1
  unfold seedOf at this
  rw [this, ob]
 ·rw [decide_eq_false h, if_neg h]; rfl
theorem F74_eq (c : Cf) (slot who : Int) : F74 c slot who = some (decide (who ∈ cmP c slot)) := by
 have := cm_len c slot
 unfold F74
 rw [F65_eq, ob, F119_eq (by omega), ob]
def prP (c : Cf) (slot : Int) : Int := if OkS c slot then IntKind.i64.wrap ((step (step c.Seed 4294967296) (IntKind.u64.wrap slot)).tmod (IntKind.u64.wrap (c.W.length : Int))) else -1
theorem len_ne {c : Cf} (h : MayC c) : decide (IntKind.u64.wrap (c.W.length : Int) ≠ 0) = true := decide_eq_true (by have := h.1; have := h.2.1; rw [wrapU (by omega) (by omega)]; omega)
theorem F63_eq (c : Cf) (slot : Int) : F63 c slot = some (prP c slot) := by
 unfold F63 prP
 rw [F107_eq, ob]
 by_cases h : OkS c slot
 ·rw [decide_eq_true h, if_pos h, Bool.not_true, cf, len_ne h.1, ct]
 ·rw [decide_eq_false h, if_neg h]; rfl
def c0 : Cf := ⟨[5], 0, 1, 0, 4⟩
open Go.Proofs
theorem wt_in (c : Cf) (l : List Int) : 0 ≤ wtP c l ∧ wtP c l ≤ 13194139533312 := by
 unfold wtP
 split
 ·next h =>
  have := wsum_in (p := fun j => decide ((j : Int) ∈ l)) h.okW.2 c.W.length
  have := h.2.1
  omega
 ·omega
open Go.Proofs
open Go.Proofs
structure FBook_L1 where
 t14 : Int
 o1 : List (Du × ID)
 o2 : List (Du × Bool)
def FBook_s1 (l : List Vt) (x1 : FBook_L1) : Option (FBook_L1 ⊕ FBook_L1) :=
 bif decide (x1.t14 < (l.length : Int)) then
  (ix l x1.t14).bind fun y1 =>
  bif (findE x1.o1 (Du.mk y1.From y1.Slot)).isSome then
   bif !(((((findE x1.o1 (Du.mk y1.From y1.Slot)).getD (0, 0)).1) == y1.Head.1) && (((((findE x1.o1 (Du.mk y1.From y1.Slot)).getD (0, 0)).2) == y1.Head.2) && true)) then
    some (.inl (FBook_L1.mk (IntKind.i64.wrap (x1.t14 + 1)) (setE x1.o1 (Du.mk y1.From y1.Slot) y1.Head) (setE x1.o2 (Du.mk y1.From y1.Slot) true)))
   else
    some (.inl (FBook_L1.mk (IntKind.i64.wrap (x1.t14 + 1)) (setE x1.o1 (Du.mk y1.From y1.Slot) y1.Head) x1.o2))
  else
   some (.inl (FBook_L1.mk (IntKind.i64.wrap (x1.t14 + 1)) (setE x1.o1 (Du.mk y1.From y1.Slot) y1.Head) x1.o2))
 else
  some (.inr (FBook_L1.mk x1.t14 x1.o1 x1.o2))
def FBook (l : List Vt) : Option (List (Du × ID) × List (Du × Bool)) :=
 (iter (FBook_s1 l) big (FBook_L1.mk 0 ([] : List (Du × ID)) ([] : List (Du × Bool)))).bind fun v1 =>
 some (v1.o1, v1.o2)
set_option maxRecDepth 100000 in
theorem cFBook {l : List Vt} {r_ : List (Du × ID) × List (Du × Bool)} (hr : FBook l = some r_) : LC Tryz.prog 164 [.p (.slice 4 (l.map vtP))] [] (Is (.agg [.map 1, .map 2]) [.box [.map 1, .map 2], .map (entsOf duP (fun v => .p (idP v)) r_.1), .map (entsOf duP (fun v => .p (.bool v)) r_.2), .box [.map 1, .map 2]]) := by
 refine LC.start Tryz.func164 Z Z Z ?_
 unfold FBook at hr
 refine zQ (zR (zS Z Z Z (LOp.alloc Z zt1167 Z Z) (zN (zT (zQ (zR (zS Z Z Z (LOp.makeMap Z Z Z) (zS Z Z Z (LOp.makeMap Z Z Z) (zS Z Z Z (LOp.build Z bt1167 Z Z Z) (zS Z Z Z (LOp.alloc Z zt1167 Z Z) (zS Z Z Z (LOp.store Z Z Z Z vt1167 Z Z Z Z) (zN (zT (zQ (zQ (zR (zM Z (zS Z Z Z (LOp.lenM Z Z (by kernel_rfl)) (zM Z (zN (zT ?_)))))))))))))))))))))
 obtain ⟨v1, hb_v1, ho_v1⟩ := zB hr
 clear hr
 refine LW.tail (E := [(2, .ptr 0 0), (3, .ptr 3 0)]) (O := [.box [.nilmap, .nilmap], .map (entsOf duP (fun v => .p (idP v)) v1.o1), .map (entsOf duP (fun v => .p (.bool v)) v1.o2), .box [.map 1, .map 2]]) ?_ (fun env_v1 H_v1 hw_v1 => ?_)
 ·refine LW.block ?_
  refine LW.iterB (E := fun x1 : FBook_L1 => [(2, .ptr 0 0), (3, .ptr 3 0), (12, .p (.slice 4 (l.map vtP))), (13, .p (.int .i64 (l.length : Int))), (14, .p (.int .i64 x1.t14))]) (O := fun x1 => [.box [.nilmap, .nilmap], .map (entsOf duP (fun v => .p (idP v)) x1.o1), .map (entsOf duP (fun v => .p (.bool v)) x1.o2), .box [.map 1, .map 2]]) hb_v1 (zW 4 ⟨rfl, rfl, rfl, rfl, rfl, trivial⟩ Z Z Z (zL Z (zL (entsLow (fun _ => rfl) _) (zL (entsLow (fun _ => rfl) _) (zL Z Z))))) (fun x1 z_x1 hr hb_x1 => ?_)
  unfold FBook_s1 at hr
  refine zQ (zR (zS Z Z Z (LOp.bin Z Z Z Z) (zN (zT (zQ ?_)))))
  refine zX Z (fun g1 => ?_) (fun g1 => ?_)
  ·
   refine zi g1 hr fun hr => LW.skip (zT (zQ (LW.block (zQ (zR (zb hr fun y1 h_y1 hr => zS Z Z Z (LOp.indexAddrX Z Z Z st68 h_y1 Z) (zS Z Z Z (LOp.loadC Z Z Z vt82 Z Z) (zS Z Z Z (LOp.alloc Z zt82 Z Z) (zS Z Z Z (LOp.store Z Z Z Z vt82 Z Z Z Z) (zN (zT (zQ (zR (zS Z Z Z (zA Z Z ft82_0) (zS Z Z Z (zD Z Z Z vt3 Z Z) (zS Z Z Z (zA Z Z ft82_1) (zS Z Z Z (zD Z Z Z vt3 Z Z) (zS Z Z Z (LOp.build Z bt1170 Z Z Z) (zS Z Z Z (LOp.alloc Z zt1170 Z Z) (zS Z Z Z (LOp.store Z Z Z Z vt1170 Z Z Z Z) (zN ?_)))))))))))))))))))))
   refine zT (zQ (zR (zS Z Z Z (zA Z Z ft1167_0) (zS Z Z Z (zD Z Z Z vt1164 Z Z) (zS Z Z Z (zD Z Z Z vt1170 Z Z) ?_)))))
   refine zS Z Z Z (LOp.getX (f := duP) (g := (fun v => .p (idP v))) (Du.mk y1.From y1.Slot) (0, 0) duKey Z Z Z Z mt1164 zl24 Z Z) ?_
   refine zM Z (zS Z Z Z (LOp.extract Z Z Z) (zS Z Z Z (LOp.extract Z Z Z) (zS Z Z Z (LOp.alloc Z zt24 Z Z) (zS Z Z Z (LOp.store Z Z Z Z vt24 Z Z Z Z) (zM Z (zN (zT (zQ (zR (zS Z Z Z (zA Z Z ft1167_0) (zS Z Z Z (zD Z Z Z vt1164 Z Z) (zS Z Z Z (zD Z Z Z vt1170 Z Z) (zS Z Z Z (zA Z Z ft82_2) (zS Z Z Z (zD Z Z Z vt24 Z Z) ?_))))))))))))))
   refine zS Z Z Z (LOp.setX (f := duP) (g := (fun v => .p (idP v))) (Du.mk y1.From y1.Slot) y1.Head duKey (.inl Z) Z Z Z Z Z mt1164 Z) ?_
   refine zN (zT (zQ (zR (zM Z (zM Z ?_)))))
   refine LOps.cases 36 Z (fun g2 => ?_) (fun g2 => ?_)
   ·
    refine zi g2 hr fun hr => zV Z Z Z (gd g2 Z) Z (zD Z Z Z vt24 Z Z) (zV Z Z Z (gd g2 Z) Z (zA Z Z ft82_2) (zV Z Z Z (gd g2 Z) Z (zD Z Z Z vt24 Z Z) (zV Z Z Z (gd g2 Z) Z (LOp.neqAgg Z Z Z Z Z eqt24) (zS Z Z Z (LOp.pickT Z (gdl g2 Z) Z) (zN (zT ?_))))))
    refine zX Z (fun g3 => ?_) (fun g3 => ?_)
    ·
     refine zi g3 hr fun hr => zR (zS Z Z Z (zA Z Z ft1167_1) (zS Z Z Z (zD Z Z Z vt1165 Z Z) (zS Z Z Z (zD Z Z Z vt1170 Z Z) ?_)))
     refine zS Z Z Z (LOp.setX (f := duP) (g := (fun v => .p (.bool v))) (Du.mk y1.From y1.Slot) true duKey (.inl Z) Z Z Z Z Z mt1165 Z) ?_
     refine zN (inBlk_n (zT (zR (zS Z Z Z (LOp.bin Z Z Z Z) (zM Z (zN (zT ?_)))))))
     obtain rfl := zJ hr
     exact ⟨_, rfl, zW 4 ⟨rfl, rfl, rfl, rfl, rfl, trivial⟩ Z Z Z (zL Z (zL (entsLow (fun _ => rfl) _) (zL (entsLow (fun _ => rfl) _) (zL Z Z))))⟩
    ·
     refine zo g3 hr fun hr => LW.skip (inBlk_n (zT (zR (zS Z Z Z (LOp.bin Z Z Z Z) (zM Z (zN (zT ?_)))))))
     obtain rfl := zJ hr
     exact ⟨_, rfl, zW 4 ⟨rfl, rfl, rfl, rfl, rfl, trivial⟩ Z Z Z (zL Z (zL (entsLow (fun _ => rfl) _) (zL (entsLow (fun _ => rfl) _) (zL Z Z))))⟩
   ·
    refine zo g2 hr fun hr => zU Z Z Z (gd g2 Z) Z Z (zU Z Z Z (gd g2 Z) Z Z (zU Z Z Z (gd g2 Z) Z Z (zU Z Z Z (gd g2 Z) Z Z (zS Z Z Z (LOp.pickF Z (gdl g2 Z) Z) (zN (zT (LW.condF Z (LW.skip (inBlk_n (zT (zR (zS Z Z Z (LOp.bin Z Z Z Z) (zM Z (zN (zT ?_)))))))))))))))
    obtain rfl := zJ hr
    exact ⟨_, rfl, zW 4 ⟨rfl, rfl, rfl, rfl, rfl, trivial⟩ Z Z Z (zL Z (zL (entsLow (fun _ => rfl) _) (zL (entsLow (fun _ => rfl) _) (zL Z Z))))⟩
  ·
   refine zo g1 hr fun hr => LW.exit (thn_e (thn_e (inBlk_self (zT ?_))))
   obtain rfl := zJ hr
   have hr := congrArg some (hb_x1 _ rfl)
   obtain rfl := zJ hr
   exact zW 4 ⟨Z, Z, trivial⟩ Z Z Z (zL Z (zL (entsLow (fun _ => rfl) _) (zL (entsLow (fun _ => rfl) _) (zL Z Z))))
 ·have hr := ho_v1
  clear hb_v1
  refine zT (LW.weak hw_v1 (zQ (zR (zS Z Z Z (zD Z Z Z vt1167 Z Z) (zS Z Z Z (LOp.store Z Z Z Z vt1167 Z Z Z Z) (zN (zT (LW.ret ?_))))))))
  obtain rfl := zJ hr
  refine fin_ret (.one (.cellAgg Z Z (by kernel_rfl) Z)) ?_
  exact ⟨rfl, rfl⟩
end Go.Mg
namespace Go.Proofs
def Tryz.sortVt_ren : Go.Shelf.Ren := ⟨fun | 6 => 196 | 15 => 219 | 14 => 218 | 28 => 234 | 29 => 235 | 20 => 226 | 21 => 227 | 22 => 228 | 23 => 229 | 24 => 230 | 25 => 231 | 26 => 232 | 27 => 233 | 46 => 240 | 47 => 241 | 48 => 242 | 49 => 243 | 50 => 244 | 57 => 249 | n => n, fun | 22 => 27 | 24 => 57 | 25 => 239 | 3 => 3 | 39 => 160 | 0 => 0 | 53 => 166 | 55 => 23 | 4 => 4 | 46 => 262 | 45 => 261 | 50 => 81 | 5 => 5 | 9 => 9 | 66 => 273 | 70 => 277 | 76 => 282 | 77 => 283 | n => n, fun | n => n⟩
theorem Tryz.sortVt : SlLaysF0.n6 Tryz.prog Tryz.sortVt_ren where
 mixed := by kernel_rfl
 f6 := ⟨ "slices.SortFunc[[]marigold/api.Vote,marigold/api.Vote]", by decide, Tryz.func196.trans (congrArg some (by kernel_rfl))⟩
 f14 := ⟨ "slices.pdqsortCmpFunc[marigold/api.Vote]", by decide, Tryz.func218.trans (congrArg some (by kernel_rfl))⟩
 f15 := Tryz.func219.trans (congrArg some (by kernel_rfl))
 f20 := ⟨ "slices.insertionSortCmpFunc[marigold/api.Vote]", by decide, Tryz.func226.trans (congrArg some (by kernel_rfl))⟩
 f21 := ⟨ "slices.heapSortCmpFunc[marigold/api.Vote]", by decide, Tryz.func227.trans (congrArg some (by kernel_rfl))⟩
 f22 := ⟨ "slices.breakPatternsCmpFunc[marigold/api.Vote]", by decide, Tryz.func228.trans (congrArg some (by kernel_rfl))⟩
 f23 := ⟨ "slices.choosePivotCmpFunc[marigold/api.Vote]", by decide, Tryz.func229.trans (congrArg some (by kernel_rfl))⟩
 f24 := ⟨ "slices.reverseRangeCmpFunc[marigold/api.Vote]", by decide, Tryz.func230.trans (congrArg some (by kernel_rfl))⟩
 f25 := ⟨ "slices.partialInsertionSortCmpFunc[marigold/api.Vote]", by decide, Tryz.func231.trans (congrArg some (by kernel_rfl))⟩
 f26 := ⟨ "slices.partitionEqualCmpFunc[marigold/api.Vote]", by decide, Tryz.func232.trans (congrArg some (by kernel_rfl))⟩
 f27 := ⟨ "slices.partitionCmpFunc[marigold/api.Vote]", by decide, Tryz.func233.trans (congrArg some (by kernel_rfl))⟩
 f28 := Tryz.func234.trans (congrArg some (by kernel_rfl))
 f29 := Tryz.func235.trans (congrArg some (by kernel_rfl))
 f46 := ⟨ "slices.siftDownCmpFunc[marigold/api.Vote]", by decide, Tryz.func240.trans (congrArg some (by kernel_rfl))⟩
 f47 := Tryz.func241.trans (congrArg some (by kernel_rfl))
 f48 := Tryz.func242.trans (congrArg some (by kernel_rfl))
 f49 := ⟨ "slices.medianAdjacentCmpFunc[marigold/api.Vote]", by decide, Tryz.func243.trans (congrArg some (by kernel_rfl))⟩
 f50 := ⟨ "slices.medianCmpFunc[marigold/api.Vote]", by decide, Tryz.func244.trans (congrArg some (by kernel_rfl))⟩
 f57 := ⟨ "slices.order2CmpFunc[marigold/api.Vote]", by decide, Tryz.func249.trans (congrArg some (by kernel_rfl))⟩
 t0 := Tryz.underlying0
 a0 := Tryz.isAgg0
 z0 := Tryz.sizeOf0
 v0 := Tryz.zeroValue0
 t3 := Tryz.underlying3
 a3 := Tryz.isAgg3
 z3 := Tryz.sizeOf3
 v3 := Tryz.zeroValue3
 t4 := Tryz.underlying4
 a4 := Tryz.isAgg4
 z4 := Tryz.sizeOf4
 v4 := Tryz.zeroValue4
 t5 := Tryz.underlying5
 a5 := Tryz.isAgg5
 z5 := Tryz.sizeOf5
 v5 := Tryz.zeroValue5
 t9 := Tryz.underlying9
 a9 := Tryz.isAgg9
 z9 := Tryz.sizeOf9
 v9 := Tryz.zeroValue9
 t22 := Tryz.underlying27
 a22 := Tryz.isAgg27
 z22 := Tryz.sizeOf27
 v22 := Tryz.zeroValue27
 t25 := Tryz.underlying239
 a25 := Tryz.isAgg239
 z25 := Tryz.sizeOf239
 v25 := Tryz.zeroValue239
 t39 := Tryz.underlying160
 a39 := Tryz.isAgg160
 z39 := Tryz.sizeOf160
 v39 := Tryz.zeroValue160
 t45 := Tryz.underlying261
 a45 := Tryz.isAgg261
 z45 := Tryz.sizeOf261
 v45 := Tryz.zeroValue261
 t46 := Tryz.underlying262
 a46 := Tryz.isAgg262
 z46 := Tryz.sizeOf262
 v46 := Tryz.zeroValue262
 t50 := Tryz.underlying81
 a50 := Tryz.isAgg81
 z50 := Tryz.sizeOf81
 v50 := Tryz.zeroValue81
 t53 := Tryz.underlying166
 a53 := Tryz.isAgg166
 z53 := Tryz.sizeOf166
 v53 := Tryz.zeroValue166
 t55 := Tryz.underlying23
 a55 := Tryz.isAgg23
 z55 := Tryz.sizeOf23
 v55 := Tryz.zeroValue23
 t66 := Tryz.underlying273
 a66 := Tryz.isAgg273
 z66 := Tryz.sizeOf273
 v66 := Tryz.zeroValue273
 t70 := Tryz.underlying277
 a70 := Tryz.isAgg277
 z70 := Tryz.sizeOf277
 v70 := Tryz.zeroValue277
 t76 := Tryz.underlying282
 a76 := Tryz.isAgg282
 z76 := Tryz.sizeOf282
 v76 := Tryz.zeroValue282
 t77 := Tryz.underlying283
 a77 := Tryz.isAgg283
 z77 := Tryz.sizeOf283
 v77 := Tryz.zeroValue283
def Tryz.cmpVt_ren : Go.Shelf.Ren := ⟨fun | 5 => 198 | 7 => 220 | n => n, fun | 22 => 3 | 3 => 3 | 4 => 4 | n => n, fun | n => n⟩
theorem Tryz.cmpVt : SlLaysC2.n5 Tryz.prog Tryz.cmpVt_ren where
 mixed := by kernel_rfl
 f5 := ⟨ "cmp.Compare[int]", by decide, Tryz.func198.trans (congrArg some (by kernel_rfl))⟩
 f7 := ⟨ "cmp.isNaN[int]", by decide, Tryz.func220.trans (congrArg some (by kernel_rfl))⟩
 t3 := Tryz.underlying3
 a3 := Tryz.isAgg3
 z3 := Tryz.sizeOf3
 v3 := Tryz.zeroValue3
 t4 := Tryz.underlying4
 a4 := Tryz.isAgg4
 z4 := Tryz.sizeOf4
 v4 := Tryz.zeroValue4
 t22 := Tryz.underlying3
 a22 := Tryz.isAgg3
 z22 := Tryz.sizeOf3
 v22 := Tryz.zeroValue3
end Go.Proofs
namespace Go.Mg
open Go.Shelf Go.Sort Go.Proofs
instance : Inhabited Vt := ⟨⟨0, 0, (0, 0)⟩⟩
def encV (v : Vt) : List Value := [.int .i64 v.From, .int .i64 v.Slot, .int .u64 v.Head.1, .int .u64 v.Head.2]
def encP (v : Vt) : List PV := [.int .i64 v.From, .int .i64 v.Slot, .int .u64 v.Head.1, .int .u64 v.Head.2]
theorem flat_votes : ∀ l : List Vt, flat (l.map vtP) = l.flatMap encP
 | [] => rfl
 | v :: r => by rw [List.map_cons, flat_cons, flat_votes r, List.flatMap_cons]; rfl
theorem flatMap_at {α β : Type} {f : α → List β} {k : Nat} (hf : ∀ x, (f x).length = k) : ∀ (l : List α) (q r : Nat) (x : α), l[q]? = some x → r < k → (l.flatMap f)[q * k + r]? = (f x)[r]?
 | [], q, r, x, h, _ => by simp at h
 | y :: s, 0, r, x, h, hr => by
  simp at h; subst h
  rw [List.flatMap_cons, Nat.zero_mul, Nat.zero_add, List.getElem?_append_left (by rw [hf]; exact hr)]
 | y :: s, q + 1, r, x, h, hr => by
  rw [List.flatMap_cons, List.getElem?_append_right (by rw [hf, Nat.succ_mul]; omega), hf, show (q + 1) * k + r - k = q * k + r by rw [Nat.succ_mul]; omega]
  exact flatMap_at hf s q r x (by simpa using h) hr
theorem vec_votes {μ : List Blk} {I : Nat → Prop} {w : World} {H : List LObj} {id : Nat} {l : List Vt} {B : Blk} (hs : St μ I w H) (hne : l ≠ []) (hH : H[id]? = some (.vec 4 (l.map vtP))) (hid : μ[id]? = some B) :
  ∃ b vs e, B = ⟨some b, l.length⟩ ∧ w.heap[b]? = some (.cells vs e (0, 0)) ∧ 4 * l.length ≤ vs.size ∧ (∀ q v, l[q]? = some v → (InKind .i64 v.From ∧ InKind .i64 v.Slot ∧ InKind .u64 v.Head.1 ∧ InKind .u64 v.Head.2) ∧ ∀ r, r < 4 → vs[4 * q + r]? = (encV v)[r]?) := by
 have hob := hs.objs id _ _ hH hid
 generalize hx : l.map vtP = xs at hob
 cases hob with
 | vecE => exact absurd (List.map_eq_nil_iff.1 hx) hne
 | @vec _ _ b vs e hb hl hne' hm h =>
  subst hx
  rw [List.length_map] at hl
  refine ⟨b, vs, e, by rw [List.length_map], hb, hl, fun q v hq => ?_⟩
  have hql := (List.getElem?_eq_some_iff.1 hq).1
  have key : ∀ r p, r < 4 → (encP v)[r]? = some p → ∃ u, vs[4 * q + r]? = some u ∧ Rep I w p u := fun r p hr hp => by
   have hi := flatMap_at (f := encP) (k := 4) (fun _ => rfl) l q r v hq hr
   rw [← flat_votes, Nat.mul_comm] at hi
   have hv : vs[4 * q + r]? = some (vs[4 * q + r]'(by omega)) := Array.getElem?_eq_getElem (by omega)
   exact ⟨_, hv, h _ p _ (hi.trans hp) hv⟩
  obtain ⟨u0, h0, r0⟩ := key 0 (.int .i64 v.From) (by omega) rfl
  obtain ⟨u1, h1, r1⟩ := key 1 (.int .i64 v.Slot) (by omega) rfl
  obtain ⟨u2, h2, r2⟩ := key 2 (.int .u64 v.Head.1) (by omega) rfl
  obtain ⟨u3, h3, r3⟩ := key 3 (.int .u64 v.Head.2) (by omega) rfl
  cases r0; cases r1; cases r2; cases r3
  refine ⟨⟨by assumption, by assumption, by assumption, by assumption⟩, fun r hr => ?_⟩
  match r, hr with
  | 0, _ => rw [h0]; rfl
  | 1, _ => rw [h1]; rfl
  | 2, _ => rw [h2]; rfl
  | 3, _ => rw [h3]; rfl
theorem idx4 {l : List Vt} {j : Nat} (hj : j < 4 * l.length) : ∃ v, l[j / 4]? = some v ∧ j % 4 < 4 ∧ j = 4 * (j / 4) + j % 4 := by
 have h : j / 4 < l.length := by omega
 exact ⟨l[j / 4], List.getElem?_eq_getElem h, by omega, by omega⟩
theorem flatK_at {l : List Vt} {j : Nat} (hj : j < 4 * l.length) {v : Vt} (hv : l[j / 4]? = some v) : (flatK encV 4 l.toArray)[j]! = (encV v)[j % 4]! := by
 rw [get_flatK _ _ _ _ (by simp; omega)]
 have h : (l.toArray)[j / 4]! = v := by
  rw [getElem!_def]
  simp [hv]
 rw [h]
theorem holdsK_votes {w : World} {l : List Vt} {b : Nat} {vs : Array Value} {e : TypeId} (hb : w.heap[b]? = some (.cells vs e (0, 0))) (hc : ∀ q v, l[q]? = some v → ∀ r, r < 4 → vs[4 * q + r]? = (encV v)[r]?) : HoldsK encV 4 w b 0 l.toArray := by
 intro j hj
 rw [size_flatK] at hj
 have hj' : j < 4 * l.length := by simp at hj; omega
 obtain ⟨v, hv, hr, he⟩ := idx4 hj'
 have h1 := hc _ v hv _ hr
 rw [← he] at h1
 have h2 : (encV v)[j % 4]? = some ((encV v)[j % 4]!) := by
  rw [getElem!_def]
  have : j % 4 < (encV v).length := hr
  rw [List.getElem?_eq_getElem this]
 rw [h2] at h1
 constructor
 ·rw [flatK_at hj' hv, Nat.zero_add]
  simp [World.cell?, hb, h1]
 ·simp [World.frozen?, hb]
theorem putCells_at {F vs : Array Value} {i : Nat} (hF : F.size ≤ vs.size) (hi : i < F.size) : (putCells (fun x => x) 0 F vs)[i]? = some (F[i]!) := by
 unfold putCells
 rw [Array.getElem?_mapIdx, Array.getElem?_eq_getElem (by omega)]
 simp [hi]
theorem encP_len : ∀ d : List Vt, (d.flatMap encP).length = 4 * d.length
 | [] => rfl
 | x :: r => by rw [List.flatMap_cons, List.length_append, encP_len r, List.length_cons]; simp [encP]; omega
theorem sorted_st {μ : List Blk} {I : Nat → Prop} {w : World} {H : List LObj} {id b n : Nat} {l d : List Vt} {vs : Array Value} {e : TypeId} {os : Array Obj} (hs : St μ I w H) (hid : μ[id]? = some ⟨some b, l.length⟩) (hb : w.heap[b]? = some (.cells vs e (0, 0))) (hsz : 4 * l.length ≤ vs.size)
  (hd : d.length = l.length) (hne : d ≠ []) (hk : ∀ v ∈ d, InKind .i64 v.From ∧ InKind .i64 v.Slot ∧ InKind .u64 v.Head.1 ∧ InKind .u64 v.Head.2) :
  St μ I (sortWorldK encV 4 w b 0 n d.toArray os) (H.set id (.vec 4 (d.map vtP))) ∧ Ext μ.length μ I w μ I (sortWorldK encV 4 w b 0 n d.toArray os) := by
 have hbl : b < w.heap.size := (Array.getElem?_eq_some_iff.1 hb).1
 have hFs : (flatK encV 4 d.toArray).size = 4 * d.length := by rw [size_flatK]; simp; omega
 have hsize : (sortWorldK encV 4 w b 0 n d.toArray os).heap.size = w.heap.size + os.size := by
  simp [sortWorldK, grow, putRowK, putRow, mapBlock, Go.Sort.ahead]
 have hoth : ∀ c, c < w.heap.size → c ≠ b → (sortWorldK encV 4 w b 0 n d.toArray os).heap[c]? = w.heap[c]? := fun c hc hcb => by
  simp only [sortWorldK, grow, putRowK, putRow, mapBlock, Go.Sort.ahead]
  rw [Array.getElem?_append_left (by simpa using hc), Array.getElem?_modify]
  rw [if_neg (fun e => hcb e.symm)]
 have hself : (sortWorldK encV 4 w b 0 n d.toArray os).heap[b]? = some (.cells (putCells (fun x => x) 0 (flatK encV 4 d.toArray) vs) e (0, 0)) := by
  simp only [sortWorldK, grow, putRowK, putRow, mapBlock, Go.Sort.ahead]
  rw [Array.getElem?_append_left (by simpa using hbl), Array.getElem?_modify]
  rw [if_pos rfl, hb]
  rfl
 have hF : (flatK encV 4 d.toArray).size ≤ vs.size := by omega
 refine hs.writeG hid hoth (by omega) Z Z Z (fun c e' f hc => ?_) fun hE => ?_
 ·rw [hb] at hc; cases hc
  exact ⟨_, hself, by simp [putCells]⟩
 ·rw [← hd]
  have hlen : d.length = (d.map vtP).length := by rw [List.length_map]
  rw [hlen]
  refine .vec hself (by rw [List.length_map]; simp [putCells]; omega) (fun h => hne (List.map_eq_nil_iff.1 h)) (fun x hx => ?_) fun i c u hc hu => ?_
  ·obtain ⟨v, -, rfl⟩ := List.mem_map.1 hx
   exact ⟨rfl, fun c hc => by simp [vtP, PV.cells] at hc; rcases hc with rfl | rfl | rfl | rfl <;> trivial⟩
  ·rw [flat_votes] at hc
   have hi : i < 4 * d.length := by
    have h1 := (List.getElem?_eq_some_iff.1 hc).1
    have h2 := encP_len d
    omega
   obtain ⟨v, hv, hr, he⟩ := idx4 hi
   have h3 := flatMap_at (f := encP) (k := 4) (fun _ => rfl) d _ _ v hv hr
   rw [Nat.mul_comm, ← he, hc] at h3
   rw [putCells_at hF (by omega), flatK_at hi hv] at hu
   obtain ⟨k1, k2, k3, k4⟩ := hk v (List.mem_of_getElem? hv)
   cases hu
   generalize i % 4 = r at hr h3 ⊢
   match r, hr with
   | 0, _ => cases h3; exact .int k1
   | 1, _ => cases h3; exact .int k2
   | 2, _ => cases h3; exact .int k3
   | 3, _ => cases h3; exact .int k4
open Go.Shelf Go.Sort Go.Proofs
theorem perm_list {l : List Vt} {d : Array Vt} (h : PermIn 0 l.toArray.size l.toArray d) : d.toList.Perm l := by
 have h1 := h.2.2
 have e1 : l.toArray.extract 0 l.toArray.size = l.toArray := Array.extract_size
 have e2 : d.extract 0 l.toArray.size = d := by rw [← h.1]; exact Array.extract_size
 rw [e1, e2] at h1
 simpa using h1
theorem rise_list {d : Array Vt} {n : Nat} {lt : Vt → Vt → Bool} (hlt : ∀ x y, lt x y = decide (x.From < y.From)) (hn : d.size = n) (h : SortedIn lt 0 n d) : RiseV d.toList := by
 unfold RiseV
 rw [List.pairwise_iff_getElem]
 intro i j hi hj hij
 have := h i j (Nat.zero_le _) hij (by simpa [hn] using hj)
 rw [hlt] at this
 have h1 : d[j]! = d.toList[j] := by rw [getElem!_pos d j (by simpa using hj)]; simp
 have h2 : d[i]! = d.toList[i] := by rw [getElem!_pos d i (by simpa using hi)]; simp
 rw [h1, h2] at this
 have := of_decide_eq_false this
 omega
theorem LC.sortVotes {P : Program} {F g : FuncId} {H : List LObj} {id : Nat} {l : List Vt} {lt : Vt → Vt → Bool} (hlt : ∀ x y, lt x y = decide (x.From < y.From))
  (hN : ∀ (p : Option Addr) (cap : Nat) (fv : Value) (w : World), Calls P F #[.slice p 0 cap, fv] w fun e w' => e = .returned (.tuple #[]) ∧ w' = w)
  (hS : ∀ (blk off cap : Nat) (d : Array Vt) (w : World), HoldsK encV 4 w blk off d → blk < w.heap.size → d.size < 4611686018427387904 → Calls P F #[.slice (some ⟨blk, off, none⟩) d.size cap, .func (.func g) #[] #[]] w fun e w' =>
   e = .returned (.tuple #[]) ∧ ∃ d' n os, PermIn 0 d.size d d' ∧ SortedIn lt 0 d.size d' ∧ w' = sortWorldK encV 4 w blk off n d' os)
  (hH : nth H id = some (.vec 4 (l.map vtP))) (hd : ∀ x ∈ l, ∀ y ∈ l, x.From = y.From → x = y) (hlen : l.length ≤ 1000000) :
  LC P F [.vec 4 id (l.map vtP).length 0 (l.map vtP).length, .fn g [] []] H (Is (.tup []) (H.set id (.vec 4 ((sortV l).map vtP)))) := by
 intro args w μ I hs ha
 rw [nth_eq] at hH
 obtain ⟨al⟩ := args
 match al, ha with
 | [v1, v2], ha =>
  obtain ⟨h1, h2, -⟩ := ha
  have hv2 : v2 = .func (.func g) #[] #[] := by
   cases h2 with
   | @fn _ _ _ fs cs hl hl' _ _ =>
    rw [Array.eq_empty_of_size_eq_zero hl, Array.eq_empty_of_size_eq_zero hl']
  subst hv2
  cases h1 with
  | @vec _ _ _ _ _ B _ hid h1 hn hf =>
  by_cases hne : l = []
  ·subst hne
   have hob := hs.objs id _ _ hH hid
   have hB : B = ⟨none, 0⟩ := by
    cases hob with
    | vecE => rfl
    | vec _ _ hne' _ _ => exact absurd rfl hne'
   subst hB
   rcases hf rfl with ⟨-, ⟨a, rfl⟩, -⟩ | ⟨b, cap, hb, -⟩
   ·refine (hN a 0 _ w).mono fun e w' he => ?_
    obtain ⟨rfl, rfl⟩ := he
    refine ⟨.tup [], _, _, μ, I, rfl, ⟨rfl, rfl⟩, ?_, .tup Z (fun i c v hc => by simp at hc), .refl _ _ _ _ (Nat.le_refl _)⟩
    have hil := (List.getElem?_eq_some_iff.1 hH).1
    have : H.set id (.vec 4 ((sortV []).map vtP)) = H := by
     apply List.ext_getElem?
     intro i
     rw [List.getElem?_set]
     split
     ·rename_i e; subst e; first | exact hH.symm | (rw [if_pos hil]; exact hH.symm)
     ·rfl
    rw [this]; exact hs
   ·cases hb
  ·obtain ⟨b, vs, e, rfl, hb, hsz, hcells⟩ := vec_votes hs hne hH hid
   have hll : (l.map vtP).length = l.length := List.length_map _
   have hl0 : l.length ≠ 0 := fun h => hne (List.length_eq_zero_iff.1 h)
   rcases hf hll with ⟨h0, -⟩ | ⟨b', cap, hb', rfl, hc1, hc2, -⟩
   ·omega
   ·cases hb'
    have hbl : b < w.heap.size := (Array.getElem?_eq_some_iff.1 hb).1
    have hmax : l.length < 4611686018427387904 := by omega
    have hcall := hS b 0 cap l.toArray w (holdsK_votes hb fun q v hq => (hcells q v hq).2) hbl (by simpa using hmax)
    have es : l.toArray.size = (l.map vtP).length := by simp
    rw [es] at hcall
    refine hcall.mono fun ex w' he => ?_
    obtain ⟨rfl, d', n, os, hp, hso, rfl⟩ := he
    rw [← es] at hp hso
    have hperm := perm_list hp
    have hds : d'.toList = sortV l := (sortV_of hperm.symm (rise_list hlt hp.1 hso) hd).symm
    have hd' : d' = (sortV l).toArray := by rw [← hds]
    subst hd'
    have hsl : (sortV l).length = l.length := (sortV_perm l).length_eq
    obtain ⟨s1, s2⟩ := sorted_st (n := n) (os := os) (d := sortV l) hs hid hb hsz hsl (fun h => hl0 (by rw [← hsl, h]; rfl)) fun v hv => by
     obtain ⟨q, hq⟩ := List.getElem?_of_mem ((sortV_perm l).mem_iff.1 hv)
     exact (hcells q v hq).1
    exact ⟨.tup [], _, _, μ, I, rfl, ⟨rfl, rfl⟩, s1, .tup Z (fun i c v hc => by simp at hc), s2⟩
end Go.Mg
namespace Go.Proofs
open Go.Shelf Go.RowKit Go.Lib Go.Sort Go.Mg
set_option maxHeartbeats 1000000 in
theorem Tryz.closV (x y : Vt) (W : World) : Calls Tryz.prog 197 #[.agg #[.int .i64 x.From, .int .i64 x.Slot, .int .u64 x.Head.1, .int .u64 x.Head.2], .agg #[.int .i64 y.From, .int .i64 y.Slot, .int .u64 y.Head.1, .int .u64 y.Head.2]] W fun e w' => e = .returned (.int .i64 (Lib.compareInt x.From y.From)) ∧ ∃ q os', w' = grow (W.drewN q) os' := by
 have hcon := fun W' => AnyG.cmp_Compare_int Tryz.cmpVt x.From y.From W'
 change ∀ W', Calls Tryz.prog 198 _ _ _ at hcon
 generalize Lib.compareInt x.From y.From = r at hcon ⊢
 go_enter Tryz.func197, Tryz.ntmps197
 go_wp2_with (go_at_call 198; refine (hcon _).mono ?_; rintro e w' ⟨rfl, rfl⟩)
 go_ret
 exact ⟨rfl, 0, _, by rw [alloc_eq_grow, alloc_eq_grow, grow_grow]; rfl⟩
theorem Tryz.ltV (x y : Vt) : ltOf (fun x y : Vt => Lib.compareInt x.From y.From) x y = decide (x.From < y.From) := by
 unfold ltOf Lib.compareInt
 by_cases h1 : x.From < y.From
 ·simp [h1]
 ·by_cases h2 : y.From < x.From <;> simp [h1, h2]
theorem Tryz.swoV : SWO (ltOf fun x y : Vt => Lib.compareInt x.From y.From) where
 irrefl x := by rw [Tryz.ltV]; simp
 trans x y z h1 h2 := by rw [Tryz.ltV] at *; simp at *; omega
 ntrans x y z h1 h2 := by rw [Tryz.ltV] at *; simp at *; omega
theorem Tryz.sortV_call {H H' : List LObj} {id : Nat} {l : List Vt} (hH : nth H id = some (.vec 4 (l.map vtP))) (hk : sortOk l = true) (hH' : setC H id (.vec 4 ((sortV l).map vtP)) = some H') :
  LC Tryz.prog 196 [.vec 4 id (l.map vtP).length 0 (l.map vtP).length, .fn 197 [] []] H (Is (.tup []) H') := by
 obtain ⟨e3, -⟩ := setC_eq hH'
 subst e3
 have hk := of_decide_eq_true hk
 refine LC.sortVotes Tryz.ltV (fun p cap fv w => AnyF.slices_SortFunc_none Tryz.sortVt p cap fv w) (fun blk off cap d w hH hb hs => ?_) hH hk.2 hk.1
 exact AnyQ.slices_SortFunc Tryz.sortVt 4 Tryz.isAgg57 Tryz.sizeOf57 encV (fun _ => rfl) (fun x v hv => by simp [encV] at hv; rcases hv with rfl | rfl | rfl | rfl <;> rfl) (fun x y => Lib.compareInt x.From y.From) Tryz.swoV 197 #[] blk off cap d w (enters_of Tryz.func197 (by kernel_rfl) Z) (fun _ _ _ _ x y => Tryz.closV x y _) hH hb hs
end Go.Proofs
namespace Go.Mg
open Go.Proofs
def FSorted (l : List Vt) : Option (List Vt) :=
 bif sortOk l then
  some (sortV l)
 else none
set_option maxRecDepth 100000 in
theorem cFSorted {l : List Vt} {r_ : List Vt} (hr : FSorted l = some r_) : LC Tryz.prog 165 [.vec 4 0 (l.map vtP).length 0 (l.map vtP).length] [.vec 4 (l.map vtP)] (Is (.vec 4 0 (r_.map vtP).length 0 (r_.map vtP).length) [.vec 4 (r_.map vtP)]) := by
 refine LC.start Tryz.func165 Z Z Z ?_
 unfold FSorted at hr
 refine zQ (zR (zM Z (zN (zT (zQ (zR (zM Z (zg hr fun q1 hr => zS Z Z Z (zC Z Z Z (by kernel_rfl) (Tryz.sortV_call Z q1 Z)) (zN (zT (zQ (zR (zM Z (zM Z (zN (zT (LW.ret ?_)))))))))))))))))
 obtain rfl := zJ hr
 refine fin_ret (.one (.tmp Z)) ?_
 exact ⟨by rw [List.length_map, List.length_map, (sortV_perm l).length_eq], rfl⟩
open Go.Proofs
structure FOf_L1 where
 out : List Vt
def FOf_s1 (slot : Int) (b : List (Du × ID) × List (Du × Bool)) (j_ : Nat) (d_ : FOf_L1) : Option FOf_L1 :=
 (b.1[j_]?).bind fun y1 =>
 (
  bif ((y1.1.frm == y1.1.frm) && ((y1.1.slot == slot) && true)) then
   some (!((findE b.2 y1.1).getD false))
  else
   some false
 ).bind fun v1 =>
 bif v1 then
  bif room d_.out.length [Vt.mk y1.1.frm slot y1.2].length 32 then
   some (FOf_L1.mk (d_.out ++ [Vt.mk y1.1.frm slot y1.2]))
  else none
 else
  some (FOf_L1.mk d_.out)
def FOf (slot : Int) (b : List (Du × ID) × List (Du × Bool)) (ord_ : List Nat) : Option (List Vt) :=
 (foldJ (FOf_s1 slot b) ord_ (FOf_L1.mk ([] : List Vt))).bind fun d_ =>
 (FSorted d_.out).bind fun v2 =>
 some v2
set_option maxRecDepth 100000 in
theorem cFOf {l : List Vt} {slot : Int} {b : List (Du × ID) × List (Du × Bool)} {r_ : List Vt} (hb : FBook l = some b) (hr : ∀ ord_ : List Nat, ord_.Perm (List.range b.1.length) → FOf slot b ord_ = some r_) : LC Tryz.prog 135 [.p (.slice 4 (l.map vtP)), .p (.int .i64 slot)] [] (Is (.vec 4 0 (r_.map vtP).length 0 (r_.map vtP).length) [.vec 4 (r_.map vtP)]) := by
 refine LC.start Tryz.func135 Z Z Z ?_
 unfold FOf at hr
 refine zQ (zR (zM Z (zN (zT (zQ (zR (zM Z (zN (zT (zQ (zR (zM Z (zS Z Z Z (zC Z Z Z (by kernel_rfl) (cFBook hb)) (zS Z Z Z (LOp.alloc Z zt1167 Z Z) (zS Z Z Z (LOp.store Z Z Z Z vt1167 Z Z Z Z) (zN (zT (zQ (zQ (zR (zS Z Z Z (zA Z Z ft1167_0) (zS Z Z Z (zD Z Z Z vt1164 Z Z) ?_))))))))))))))))))))))
 refine zS Z Z Z (LOp.rangeMap (es := (entsOf duP (fun v => .p (idP v)) b.1)) Z Z Z (lenC_ents _) (by kernel_rfl) Z Z) ?_
 refine zN (zT (LW.ent (Ent.lazy (t := 5) (m := 4) Z Z Z) ?_))
 refine LW.mapTail (D := FOf_L1) (G := fun d_ s_ => Seen (FOf_s1 slot b) b.1.length (FOf_L1.mk ([] : List Vt)) s_ d_ ∧ s_.Perm (List.range b.1.length)) (fun d_ s_ => [(4, .zs), (5, .vec 4 6 (d_.out.map vtP).length 0 (d_.out.map vtP).length)]) (fun d_ s_ => [.box [.map 1, .map 2], .map (entsOf duP (fun v => .p (idP v)) b.1), .map (entsOf duP (fun v => .p (.bool v)) b.2), .box [.map 1, .map 2], .box [.map 1, .map 2], .iter (.map 1) b.1.length s_, .vec 4 (d_.out.map vtP)]) ?_ (fun d_ s_ hG env_m H_m hw_m => ?_)
 ·refine LW.block ?_
  have hall : ∀ ord : List Nat, ord.Perm (List.range b.1.length) → ∃ z, foldJ (FOf_s1 slot b) ord (FOf_L1.mk ([] : List Vt)) = some z := fun ord ho => (zB (hr ord ho)).imp fun z h => h.1
  refine LW.mapLoop (step := (FOf_s1 slot b)) (n := b.1.length) (d0 := FOf_L1.mk ([] : List Vt)) (fun d_ s_ => [(1, .p (.int .i64 slot)), (4, .zs), (5, .vec 4 6 (d_.out.map vtP).length 0 (d_.out.map vtP).length), (6, .ptr 4 0), (13, .ptr 5 0)]) (fun d_ s_ => [.box [.map 1, .map 2], .map (entsOf duP (fun v => .p (idP v)) b.1), .map (entsOf duP (fun v => .p (.bool v)) b.2), .box [.map 1, .map 2], .box [.map 1, .map 2], .iter (.map 1) b.1.length s_, .vec 4 (d_.out.map vtP)]) hall (zW 7 ⟨rfl, rfl, rfl, rfl, rfl, trivial⟩ Z Z Z (zL Z (zL (entsLow (fun _ => rfl) _) (zL (entsLow (fun _ => rfl) _) (zL Z (zL Z (zL Z (zL Z Z)))))))) (fun d_ s_ hS => ?_)
  refine zQ (zR ?_)
  refine LOps.cons Z Z Z (LOp.nextMap (es := (entsOf duP (fun v => .p (idP v)) b.1)) Z Z Z Z (lenC_ents _)) ?_
  rintro x_ H_ (⟨ha_, rfl, rfl⟩ | ⟨j_, hj_, hs_, rfl, rfl⟩)
  ·
   refine zS Z Z Z (LOp.extract Z Z Z) (zN (zT (zQ (LW.condF Z (LW.exit (thn_e (thn_e (inBlk_self (zT ?_)))))))))
   exact ⟨d_, s_, hS.all ha_, zW 7 ⟨rfl, rfl, trivial⟩ Z Z Z (zL Z (zL (entsLow (fun _ => rfl) _) (zL (entsLow (fun _ => rfl) _) (zL Z (zL Z (zL Z (zL Z Z)))))))⟩
  ·
   obtain ⟨e_, hr0, -⟩ := hS.next hall hj_ hs_
   have hr := hr0
   unfold FOf_s1 at hr
   refine zS Z Z Z (LOp.extract Z Z Z) (zN (zT (zQ (LW.condT Z (LW.skip (zT (LW.block (zQ (zR (zb hr fun y1 h_y1 hr => ?_))))))))))
   refine zS Z Z Z (LOp.entryMap (es := (entsOf duP (fun v => .p (idP v)) b.1)) Z Z Z Z (lenC_ents _) (ents_get h_y1)) ?_
   refine zS Z Z Z (LOp.extract Z Z Z) (zS Z Z Z (LOp.extract Z Z Z) (zS Z Z Z (LOp.alloc Z zt1170 Z Z) (zS Z Z Z (LOp.alloc Z zt24 Z Z) (zS Z Z Z (LOp.store Z Z Z Z vt1170 Z Z Z Z) (zS Z Z Z (LOp.store Z Z Z Z vt24 Z Z Z Z) (zN (zT ?_)))))))
   obtain ⟨v1, hb_v1, ho_v1⟩ := zB hr
   clear hr
   refine LW.cut (E := [(1, .p (.int .i64 slot)), (4, .zs), (5, .vec 4 6 (d_.out.map vtP).length 0 (d_.out.map vtP).length), (6, .ptr 4 0), (7, .ptr 7 0), (8, .ptr 8 0), (13, .ptr 5 0), (31, .p (.bool v1))]) (O := [.box [.map 1, .map 2], .map (entsOf duP (fun v => .p (idP v)) b.1), .map (entsOf duP (fun v => .p (.bool v)) b.2), .box [.map 1, .map 2], .box [.map 1, .map 2], .iter (.map 1) b.1.length (s_ ++ [j_]), .vec 4 (d_.out.map vtP), .box [.p (.int .i64 y1.1.frm), .p (.int .i64 y1.1.slot)], .box [.p (.int .u64 y1.2.1), .p (.int .u64 y1.2.2)]]) ?_ ?_
   ·have hr := hb_v1
    refine zR (zS Z Z Z (zD Z Z Z vt1170 Z Z) (zS Z Z Z (zA Z Z ft1170_0) (zS Z Z Z (zD Z Z Z vt3 Z Z) (zM Z (zS Z Z Z (LOp.build Z bt1170 Z Z Z) (zS Z Z Z (LOp.eqlAgg Z Z Z Z Z eqt1170) (zM Z ?_)))))))
    refine LOps.cases 25 Z (fun g1 => ?_) (fun g1 => ?_)
    ·
     refine zi g1 hr fun hr => zV Z Z Z (gd g1 Z) Z (zA Z Z ft1167_1) (zV Z Z Z (gd g1 Z) Z (zD Z Z Z vt1165 Z Z) (zV Z Z Z (gd g1 Z) Z (zD Z Z Z vt1170 Z Z) ?_))
     refine zV Z Z Z (gd g1 Z) Z (LOp.getX (f := duP) (g := (fun v => .p (.bool v))) y1.1 false duKey Z Z Z Z mt1165 zl4 Z Z) ?_
     refine zV Z Z Z (gd g1 Z) Z (LOp.not Z Z) (zS Z Z Z (LOp.pickT Z (gdl g1 Z) Z) (zN (zT ?_)))
     obtain rfl := zJ hr
     exact zW 9 ⟨Z, Z, Z, Z, Z, Z, Z, Z, trivial⟩ Z Z Z (zL Z (zL (entsLow (fun _ => rfl) _) (zL (entsLow (fun _ => rfl) _) (zL Z (zL Z (zL Z (zL Z (zL Z (zL Z Z)))))))))
    ·
     refine zo g1 hr fun hr => zU Z Z Z (gd g1 Z) Z Z (zU Z Z Z (gd g1 Z) Z Z (zU Z Z Z (gd g1 Z) Z Z (zU Z Z Z (gd g1 Z) Z Z (zU Z Z Z (gd g1 Z) Z Z (zS Z Z Z (LOp.pickF Z (gdl g1 Z) Z) (zN (zT ?_)))))))
     obtain rfl := zJ hr
     exact zW 9 ⟨Z, Z, Z, Z, Z, Z, Z, Z, trivial⟩ Z Z Z (zL Z (zL (entsLow (fun _ => rfl) _) (zL (entsLow (fun _ => rfl) _) (zL Z (zL Z (zL Z (zL Z (zL Z (zL Z Z)))))))))
   ·have hr := ho_v1
    clear hb_v1
    refine zX Z (fun g2 => ?_) (fun g2 => ?_)
    ·
     refine zi g2 hr fun hr => zR (zM Z (zS Z Z Z (zA Z Z ft1170_0) (zS Z Z Z (zD Z Z Z vt3 Z Z) (zM Z (zS Z Z Z (zD Z Z Z vt24 Z Z) (zS Z Z Z (LOp.build Z bt82 Z Z Z) (zS Z Z Z (LOp.buildSlice Z st68 Z Z Z Z Z) (zg hr fun q1 hr => zS Z Z Z (LOp.appendX vtP d_.out [Vt.mk y1.1.frm slot y1.2] rfl Z Z Z Src.p Z st68 q1 Z) (zM Z (zN (inBlk_n (zT ?_))))))))))))
     obtain rfl := zJ hr
     exact ⟨j_, _, hj_, hs_, hr0, zW 7 ⟨rfl, rfl, rfl, rfl, rfl, trivial⟩ Z Z Z (zL Z (zL (entsLow (fun _ => rfl) _) (zL (entsLow (fun _ => rfl) _) (zL Z (zL Z (zL Z (zL Z Z)))))))⟩
    ·
     refine zo g2 hr fun hr => LW.skip (inBlk_n (zT ?_))
     obtain rfl := zJ hr
     exact ⟨j_, _, hj_, hs_, hr0, zW 7 ⟨rfl, rfl, rfl, rfl, rfl, trivial⟩ Z Z Z (zL Z (zL (entsLow (fun _ => rfl) _) (zL (entsLow (fun _ => rfl) _) (zL Z (zL Z (zL Z (zL Z Z)))))))⟩
 ·have hr := bindJ (hr s_ hG.2) hG.1.came
  refine zT (LW.weak hw_m (zQ (LW.ent (Ent.last (t := 5) (j := 0) (Hj := []) Z Z Z Z Z Z Z) (zR (zM Z (zb hr fun v2 h_v2 hr => zS Z Z Z (zC Z Z Z (by kernel_rfl) (cFSorted h_v2)) (zM Z (zN (zT (LW.ret ?_))))))))))
  obtain rfl := zJ hr
  refine fin_ret (.one (.tmp Z)) ?_
  exact ⟨rfl, rfl⟩
open Go.Proofs
theorem keys_set {α β : Type} [DecidableEq α] (k : α) (v : β) : ∀ m : List (α × β), (setE m k v).map Prod.fst = if k ∈ m.map Prod.fst then m.map Prod.fst else m.map Prod.fst ++ [k]
 | [] => by simp [setE]
 | (x, y) :: r => by
  have ih := keys_set k v r
  by_cases h : x = k
  ·subst h; simp [setE]
  ·have h' : ¬ k = x := fun e => h e.symm
   simp only [setE, if_neg h, List.map_cons, ih, List.mem_cons, h', false_or]
   split <;> rfl
theorem keys_nodup {α β : Type} [DecidableEq α] {m : List (α × β)} (k : α) (v : β) (h : (m.map Prod.fst).Nodup) : ((setE m k v).map Prod.fst).Nodup := by
 rw [keys_set]
 split
 ·exact h
 ·rename_i hk
  exact List.nodup_append.2 ⟨h, by simp, fun a ha b hb => by rw [List.mem_singleton] at hb; subst hb; exact fun e => hk (e ▸ ha)⟩
theorem keys_len {α β : Type} [DecidableEq α] (m : List (α × β)) (k : α) (v : β) : (setE m k v).length ≤ m.length + 1 := by
 have h := congrArg List.length (keys_set k v m)
 split at h <;> simp at h <;> omega
def duV (v : Vt) : Du := ⟨v.From, v.Slot⟩
def dblS (h : List (Du × ID)) (v : Vt) : Bool := match findE h (duV v) with
 | some w => decide (w ≠ v.Head)
 | none => false
def bookS (b : List (Du × ID) × List (Du × Bool)) (v : Vt) : List (Du × ID) × List (Du × Bool) := (setE b.1 (duV v) v.Head, if dblS b.1 v = true then setE b.2 (duV v) true else b.2)
def bookP (l : List Vt) : List (Du × ID) × List (Du × Bool) := l.foldl bookS ([], [])
theorem bookP_snoc (l : List Vt) (v : Vt) : bookP (l ++ [v]) = bookS (bookP l) v := by unfold bookP; rw [List.foldl_append]; rfl
theorem FBook_eq {l : List Vt} (hl : l.length ≤ 100000) : FBook l = some (bookP l) := by
 have e := count_loop (step := FBook_s1 l) (n := l.length) (fun k => FBook_L1.mk (k : Int) (bookP (l.take k)).1 (bookP (l.take k)).2) (FBook_L1.mk (l.length : Int) (bookP l).1 (bookP l).2) (fun k hk => by
  obtain ⟨y, hy, -⟩ := get_of hk
  have et : l.take (k + 1) = l.take k ++ [y] := by rw [List.take_add_one, hy]; rfl
  unfold FBook_s1
  simp only
  rw [decide_eq_true (show (k : Int) < (l.length : Int) by omega), ct, ix_nat hy, ob, et, bookP_snoc, wrap_succ (n := k) (by omega)]
  generalize bookP (l.take k) = b
  unfold bookS dblS duV
  cases hf : findE b.1 (Du.mk y.From y.Slot) with
  | none => simp only [Option.isSome_none, cf]; rfl
  | some w =>
   simp only [Option.isSome_some, ct, Option.getD_some, eqID]
   by_cases hw : w = y.Head
   ·rw [decide_eq_true hw, Bool.not_true, cf]; simp [hw]
   ·rw [decide_eq_false hw, Bool.not_false, ct]; simp [hw]) (by
  unfold FBook_s1
  simp only
  rw [decide_eq_false (show ¬ (l.length : Int) < (l.length : Int) by omega), cf, List.take_length]) (by omega)
 have e' : iter (FBook_s1 l) big (FBook_L1.mk 0 [] []) = _ := e
 unfold FBook
 rw [e', ob]
theorem book_keys (l : List Vt) : ((bookP l).1.map Prod.fst).Nodup ∧ (bookP l).1.length ≤ l.length := by
 have key : ∀ k, k ≤ l.length → ((bookP (l.take k)).1.map Prod.fst).Nodup ∧ (bookP (l.take k)).1.length ≤ k := by
  intro k
  induction k with
  | zero => intro _; simp [bookP]
  | succ k ih =>
   intro hk
   obtain ⟨y, hy, -⟩ := get_of (l := l) (n := k) (by omega)
   have et : l.take (k + 1) = l.take k ++ [y] := by rw [List.take_add_one, hy]; rfl
   obtain ⟨h1, h2⟩ := ih (by omega)
   rw [et, bookP_snoc]
   exact ⟨keys_nodup _ _ h1, Nat.le_trans (keys_len _ _ _) (by omega)⟩
 have := key l.length (Nat.le_refl _)
 rwa [List.take_length] at this
def keepE (d : List (Du × Bool)) (slot : Int) (e : Du × ID) : Option Vt := if e.1.slot = slot ∧ (findE d e.1).getD false = false then some ⟨e.1.frm, slot, e.2⟩ else none
def keepJ (b : List (Du × ID) × List (Du × Bool)) (slot : Int) (j : Nat) : Option Vt := (b.1[j]?).bind (keepE b.2 slot)
theorem FOf_fold {slot : Int} {b : List (Du × ID) × List (Du × Bool)} : ∀ (ord : List Nat) (out : List Vt), (∀ j ∈ ord, j < b.1.length) → out.length + ord.length ≤ 100000 → foldJ (FOf_s1 slot b) ord (FOf_L1.mk out) = some (FOf_L1.mk (out ++ ord.filterMap (keepJ b slot)))
 | [], out, _, _ => by simp [foldJ]
 | j :: r, out, hj, hl => by
  obtain ⟨e, he, -⟩ := get_of (hj j (.head _))
  have hl2 : out.length + r.length + 1 ≤ 100000 := by simp only [List.length_cons] at hl; omega
  have hs : FOf_s1 slot b j (FOf_L1.mk out) = some (FOf_L1.mk (out ++ (keepE b.2 slot e).toList)) := by
   unfold FOf_s1
   rw [he, ob]
   unfold keepE
   simp only
   rw [beq_self_eq_true, Bool.true_and, Bool.and_true]
   by_cases h1 : e.1.slot = slot
   ·rw [beq_iff_eq.2 h1, ct, ob]
    cases h2 : (findE b.2 e.1).getD false with
    | false =>
     rw [Bool.not_false, ct, room_ok (by simp only [List.length_singleton]; omega) (by omega), ct, if_pos ⟨h1, rfl⟩]; rfl
    | true => rw [Bool.not_true, cf, if_neg (by simp)]; simp
   ·rw [beq_eq_false_iff_ne.2 h1, cf, ob, cf, if_neg (fun h => h1 h.1)]; simp
  have hlen : (keepE b.2 slot e).toList.length ≤ 1 := by cases keepE b.2 slot e <;> simp
  unfold foldJ
  rw [hs]
  simp only
  rw [FOf_fold r _ (fun i hi => hj i (.tail _ hi)) (by rw [List.length_append]; omega)]
  have hk : keepJ b slot j = keepE b.2 slot e := by unfold keepJ; rw [he]; rfl
  rw [List.filterMap_cons, hk]
  cases keepE b.2 slot e <;> simp
theorem range_keep (b : List (Du × ID) × List (Du × Bool)) (slot : Int) : (List.range b.1.length).filterMap (keepJ b slot) = b.1.filterMap (keepE b.2 slot) := by
 have key : ∀ k, k ≤ b.1.length → (List.range k).filterMap (keepJ b slot) = (b.1.take k).filterMap (keepE b.2 slot) := by
  intro k
  induction k with
  | zero => intro _; rfl
  | succ k ih =>
   intro hk
   obtain ⟨y, hy, -⟩ := get_of (l := b.1) (n := k) (by omega)
   have et : b.1.take (k + 1) = b.1.take k ++ [y] := by rw [List.take_add_one, hy]; rfl
   rw [List.range_succ, List.filterMap_append, ih (by omega), et, List.filterMap_append]
   congr 1
   have hk2 : keepJ b slot k = keepE b.2 slot y := by unfold keepJ; rw [hy]; rfl
   rw [List.filterMap_cons, List.filterMap_cons, hk2]
   rfl
 have := key b.1.length (Nat.le_refl _)
 rwa [List.take_length] at this
def ofV (l : List Vt) (slot : Int) : List Vt := sortV ((bookP l).1.filterMap (keepE (bookP l).2 slot))
theorem keep_one {m : List (Du × ID)} {d : List (Du × Bool)} {slot : Int} (h : (m.map Prod.fst).Nodup) : ∀ x ∈ m.filterMap (keepE d slot), ∀ y ∈ m.filterMap (keepE d slot), x.From = y.From → x = y := by
 have hmem : ∀ x ∈ m.filterMap (keepE d slot), (⟨x.From, slot⟩, x.Head) ∈ m ∧ x.Slot = slot := by
  intro x hx
  obtain ⟨e, he, hk⟩ := List.mem_filterMap.1 hx
  unfold keepE at hk
  split at hk
  ·rename_i hc
   cases hk
   obtain ⟨⟨f, s⟩, id⟩ := e
   simp only at hc
   obtain ⟨rfl, -⟩ := hc
   exact ⟨he, rfl⟩
  ·cases hk
 intro x hx y hy hf
 obtain ⟨h1, h2⟩ := hmem x hx
 obtain ⟨h3, h4⟩ := hmem y hy
 rw [← hf] at h3
 have hh : x.Head = y.Head := by
  obtain ⟨i, hi⟩ := List.getElem?_of_mem h1
  obtain ⟨j, hj⟩ := List.getElem?_of_mem h3
  have hi' : (m.map Prod.fst)[i]? = some ⟨x.From, slot⟩ := by rw [List.getElem?_map, hi]; rfl
  have hj' : (m.map Prod.fst)[j]? = some ⟨x.From, slot⟩ := by rw [List.getElem?_map, hj]; rfl
  have := (List.getElem?_inj (List.getElem?_eq_some_iff.1 hi').1 h).1 (hi'.trans hj'.symm)
  subst this
  rw [hi] at hj
  exact congrArg Prod.snd (Option.some.inj hj)
 cases x; cases y
 simp only at hf h2 h4 hh
 subst hf h2 hh
 rw [h4]
theorem FOf_eq {l : List Vt} (hl : l.length ≤ 90000) (slot : Int) : ∀ ord : List Nat, ord.Perm (List.range (bookP l).1.length) → FOf slot (bookP l) ord = some (ofV l slot) := by
 intro ord ho
 obtain ⟨h1, h2⟩ := book_keys l
 have hlen := ho.length_eq
 rw [List.length_range] at hlen
 unfold FOf ofV
 have hp := ho.filterMap (keepJ (bookP l) slot)
 rw [range_keep] at hp
 have hk : sortOk (ord.filterMap (keepJ (bookP l) slot)) = true := decide_eq_true ⟨Nat.le_trans (List.length_filterMap_le _ _) (by omega), fun x hx y hy => keep_one h1 x (hp.mem_iff.1 hx) y (hp.mem_iff.1 hy)⟩
 rw [FOf_fold ord [] (fun j hj => List.mem_range.1 (ho.mem_iff.1 hj)) (by simp; omega), ob, List.nil_append]
 simp only
 unfold FSorted
 rw [hk, ct, sortV_one hp.symm (keep_one h1)]
 rfl
def FOfV (v : List Vt) (slot : Int) : Option (List Vt) := bif Nat.ble v.length 90000 then some (ofV v slot) else none
theorem cFOfV {v : List Vt} {slot : Int} {r_ : List Vt} (hr : FOfV v slot = some r_) : LC Tryz.prog 135 [.p (.slice 4 (v.map vtP)), .p (.int .i64 slot)] [] (Is (.vec 4 0 (r_.map vtP).length 0 (r_.map vtP).length) [.vec 4 (r_.map vtP)]) := by
 unfold FOfV at hr
 obtain ⟨q, hr⟩ := grd_get hr
 obtain rfl := Option.some.inj hr
 have hl := Nat.le_of_ble_eq_true q
 exact cFOf (FBook_eq (by omega)) (FOf_eq hl slot)
open Go.Proofs
structure F1103_L1 where
 t8 : Int
def F1103_s1 (s : List Int) (v : Int) (x1 : F1103_L1) : Option (F1103_L1 ⊕ (F1103_L1 ⊕ Int)) :=
 bif decide (x1.t8 < (s.length : Int)) then
  (ix s x1.t8).bind fun y1 =>
  bif v == y1 then
   some (.inr (.inr x1.t8))
  else
   some (.inl (F1103_L1.mk (IntKind.i64.wrap (x1.t8 + 1))))
 else
  some (.inr (.inl (F1103_L1.mk x1.t8)))
def F1103 (s : List Int) (v : Int) : Option Int :=
 (iter (F1103_s1 s v) big (F1103_L1.mk 0)).bind fun b_v1 => Sum.elim (fun _ =>
  some (-1)) some b_v1
set_option maxRecDepth 100000 in
theorem c1103 {s : List Int} {v : Int} {r_ : Int} (hr : F1103 s v = some r_) : LPure Tryz.prog 199 [.slice 1 (s.map i64P), .int .i64 v] [.int .i64 r_] := by
 refine LPure.start Tryz.func199 Z Z Z Z ?_
 unfold F1103 at hr
 refine zQ (zR (zM Z (zN (zT (zQ (zQ (zR (zM Z (zS Z Z Z (LOp.lenM Z Z (by kernel_rfl)) (zM Z (zN (zT ?_))))))))))))
 obtain ⟨b_v1, hb_v1, ho_v1⟩ := zB hr
 clear hr
 refine LW.tailB (b := b_v1) (E := fun v1 => [(4, .p (.int .i64 0))]) (O := fun v1 => []) ?_ (fun v1 e_v1 env_v1 H_v1 hw_v1 => ?_)
 ·refine LW.block ?_
  refine LW.iterB (E := fun x1 : F1103_L1 => [(0, .p (.slice 1 (s.map i64P))), (1, .p (.int .i64 v)), (4, .p (.int .i64 0)), (7, .p (.int .i64 (s.length : Int))), (8, .p (.int .i64 x1.t8))]) (O := fun x1 => []) hb_v1 (zW 0 ⟨rfl, rfl, rfl, rfl, rfl, trivial⟩ Z Z Z Z) (fun x1 z_x1 hr hb_x1 => ?_)
  unfold F1103_s1 at hr
  refine zQ (zR (zS Z Z Z (LOp.bin Z Z Z Z) (zN (zT (zQ ?_)))))
  refine zX Z (fun g1 => ?_) (fun g1 => ?_)
  ·
   refine zi g1 hr fun hr => LW.skip (zT (zQ (LW.block (zQ (zR (zM Z (zM Z (zN (zT (zQ (zR (zM Z (zM Z (zM Z (zb hr fun y1 h_y1 hr => zS Z Z Z (LOp.indexAddrX Z Z Z st1153 h_y1 Z) (zS Z Z Z (LOp.loadC Z Z Z vt3 Z Z) (zS Z Z Z (LOp.bin Z Z Z Z) (zN (zT ?_)))))))))))))))))))
   refine zX Z (fun g2 => ?_) (fun g2 => ?_)
   ·
    refine zi g2 hr fun hr => zQ (zR (zM Z (zM Z (zN (zT (LW.ret (inBlk_r (thn_r (thn_r (inBlk_r (thn_r (thn_r ?_))))))))))))
    obtain rfl := zJ hr
    have hr := congrArg some (hb_x1 _ rfl)
    obtain rfl := zJ hr
    have hr := sum_r ho_v1
    obtain rfl := zJ hr
    refine finP_ret (.one (.tmp Z)) ?_
    exact Conv.p
   ·
    refine zo g2 hr fun hr => LW.skip (inBlk_n (zT (zR (zS Z Z Z (LOp.bin Z Z Z Z) (zM Z (zN (zT ?_)))))))
    obtain rfl := zJ hr
    exact ⟨_, rfl, zW 0 ⟨rfl, rfl, rfl, rfl, rfl, trivial⟩ Z Z Z rfl⟩
  ·
   refine zo g1 hr fun hr => LW.exit (thn_e (thn_e (inBlk_self (zT ?_))))
   obtain rfl := zJ hr
   have hr := congrArg some (hb_x1 _ rfl)
   obtain rfl := zJ hr
   exact ⟨_, rfl, zW 0 ⟨rfl, trivial⟩ Z Z Z rfl⟩
 ·obtain rfl := e_v1
  have hr := sum_l ho_v1
  clear hb_v1
  refine zT (LW.weak hw_v1 (zQ (zR (zM Z (zN (zT (LW.ret ?_)))))))
  obtain rfl := zJ hr
  refine finP_ret (.one (.tmp Z)) ?_
  exact Conv.p
def F1089 (s : List Int) (v : Int) : Option Bool :=
 (F1103 s v).bind fun v1 =>
 some (decide (v1 ≥ 0))
set_option maxRecDepth 100000 in
theorem c1089 {s : List Int} {v : Int} {r_ : Bool} (hr : F1089 s v = some r_) : LPure Tryz.prog 166 [.slice 1 (s.map i64P), .int .i64 v] [.bool r_] := by
 refine LPure.start Tryz.func166 Z Z Z Z ?_
 unfold F1089 at hr
 refine zQ (zR (zM Z (zN (zT (zQ (zR (zM Z (zM Z (zb hr fun v1 h_v1 hr => zS Z Z Z (zC Z Z Z (by kernel_rfl) (LC.pure (c1103 h_v1) (.cons Conv.p (.cons Conv.p .nil)))) (zS Z Z Z (LOp.bin Z Z Z Z) (zM Z (zN (zT (LW.ret ?_))))))))))))))
 obtain rfl := zJ hr
 refine finP_ret (.one (.tmp Z)) ?_
 exact Conv.p
def F1076 (b : List Int) (v : Vt) : Option Bool :=
 (F1089 b v.From).bind fun v1 =>
 some (!v1)
set_option maxRecDepth 100000 in
theorem c1076 {b : List Int} {v : Vt} {r_ : Bool} (hr : F1076 b v = some r_) : LPure Tryz.prog 136 [.slice 1 (b.map i64P), vtP v] [.bool r_] := by
 refine LPure.start Tryz.func136 Z Z Z Z ?_
 unfold F1076 at hr
 refine zQ (zR (zS Z Z Z (LOp.box Z Z Z Z Z) (zM Z (zN (zT (zQ (zR (zM Z (zS Z Z Z (zA Z Z ft82_0) (zS Z Z Z (zD Z Z Z vt3 Z Z) (zb hr fun v1 h_v1 hr => zS Z Z Z (zC Z Z Z (by kernel_rfl) (LC.pure (c1089 h_v1) (.cons Conv.p (.cons Conv.p .nil)))) (zS Z Z Z (LOp.not Z Z) (zM Z (zN (zT (LW.ret ?_))))))))))))))))
 obtain rfl := zJ hr
 refine finP_ret (.one (.tmp Z)) ?_
 exact Conv.p
structure F158G_L1 where
 t8 : Int
def F158G_s1 (lV : List Vt) (kk : Nat) (cm : List Int) (x1 : F158G_L1) : Option (F158G_L1 ⊕ (F158G_L1 ⊕ Int)) :=
 bif decide (x1.t8 < (kk : Int)) then
  (ix (lV.take kk) x1.t8).bind fun y1 =>
  (F1076 cm y1).bind fun v2 =>
  bif v2 then
   some (.inr (.inr x1.t8))
  else
   some (.inl (F158G_L1.mk (IntKind.i64.wrap (x1.t8 + 1))))
 else
  some (.inr (.inl (F158G_L1.mk x1.t8)))
def F158G (lV : List Vt) (kk : Nat) (cm : List Int) : Option Int :=
 (iter (F158G_s1 lV kk cm) big (F158G_L1.mk 0)).bind fun b_v1 => Sum.elim (fun _ =>
  some (-1)) some b_v1
set_option maxRecDepth 100000 in
theorem cF158G {c : Cf} {lV : List Vt} {kk : Nat} {cm : List Int} {r_ : Int} (hr : F158G lV kk cm = some r_) : LC Tryz.prog 92 [.vec 4 1 (lV.map vtP).length 0 kk, .fn 136 [.p (.slice 1 (cm.map i64P))] []] [.box [.p (.slice 1 (c.W.map i64P)), .p (.int .u64 c.Seed), .p (.int .i64 c.Epoch), .p (.int .i64 c.Num), .p (.int .i64 c.Den)], .vec 4 (lV.map vtP)] (Is (.p (.int .i64 r_)) [.box [.p (.slice 1 (c.W.map i64P)), .p (.int .u64 c.Seed), .p (.int .i64 c.Epoch), .p (.int .i64 c.Num), .p (.int .i64 c.Den)], .vec 4 (lV.map vtP)]) := by
 refine LC.start Tryz.func92 Z Z Z ?_
 unfold F158G at hr
 refine zQ (zR (zM Z (zN (zT (zQ (zQ (zR (zM Z (zS Z Z Z (LOp.lenVP Z Z Z (by kernel_rfl)) (zM Z (zN (zT ?_))))))))))))
 obtain ⟨b_v1, hb_v1, ho_v1⟩ := zB hr
 clear hr
 refine LW.tailB (b := b_v1) (E := fun v1 => [(4, .p (.int .i64 0))]) (O := fun v1 => [.box [.p (.slice 1 (c.W.map i64P)), .p (.int .u64 c.Seed), .p (.int .i64 c.Epoch), .p (.int .i64 c.Num), .p (.int .i64 c.Den)], .vec 4 (lV.map vtP)]) ?_ (fun v1 e_v1 env_v1 H_v1 hw_v1 => ?_)
 ·refine LW.block ?_
  refine LW.iterB (E := fun x1 : F158G_L1 => [(0, .vec 4 1 (lV.map vtP).length 0 kk), (1, .fn 136 [.p (.slice 1 (cm.map i64P))] []), (4, .p (.int .i64 0)), (7, .p (.int .i64 (kk : Int))), (8, .p (.int .i64 x1.t8))]) (O := fun x1 => [.box [.p (.slice 1 (c.W.map i64P)), .p (.int .u64 c.Seed), .p (.int .i64 c.Epoch), .p (.int .i64 c.Num), .p (.int .i64 c.Den)], .vec 4 (lV.map vtP)]) hb_v1 (zW 2 ⟨rfl, rfl, rfl, rfl, rfl, trivial⟩ Z Z Z Z) (fun x1 z_x1 hr hb_x1 => ?_)
  unfold F158G_s1 at hr
  refine zQ (zR (zS Z Z Z (LOp.bin Z Z Z Z) (zN (zT (zQ ?_)))))
  refine zX Z (fun g1 => ?_) (fun g1 => ?_)
  ·
   refine zi g1 hr fun hr => LW.skip (zT (zQ (LW.block (zQ (zR (zM Z (zM Z (zN (zT (zQ (zR (zM Z (zM Z (zM Z (zb hr fun y1 h_y1 hr => zS Z Z Z (LOp.indexAddrVP Z Z Z Z st68 h_y1) (zS Z Z Z (LOp.loadVX Z Z Z vt82 (ix_take h_y1).1 Z Z Z Z) (zb hr fun v2 h_v2 hr => zS Z Z Z (zC Z Z Z (by kernel_rfl) (LC.pure (c1076 h_v2) (.cons Conv.p (.cons Conv.p .nil)))) (zN (zT ?_)))))))))))))))))))
   refine zX Z (fun g2 => ?_) (fun g2 => ?_)
   ·
    refine zi g2 hr fun hr => zQ (zR (zM Z (zM Z (zN (zT (LW.ret (inBlk_r (thn_r (thn_r (inBlk_r (thn_r (thn_r ?_))))))))))))
    obtain rfl := zJ hr
    have hr := congrArg some (hb_x1 _ rfl)
    obtain rfl := zJ hr
    have hr := sum_r ho_v1
    obtain rfl := zJ hr
    refine fin_ret (.one (.tmp Z)) ?_
    exact ⟨rfl, rfl⟩
   ·
    refine zo g2 hr fun hr => LW.skip (inBlk_n (zT (zR (zS Z Z Z (LOp.bin Z Z Z Z) (zM Z (zN (zT ?_)))))))
    obtain rfl := zJ hr
    exact ⟨_, rfl, zW 2 ⟨rfl, rfl, rfl, rfl, rfl, trivial⟩ Z Z Z rfl⟩
  ·
   refine zo g1 hr fun hr => LW.exit (thn_e (thn_e (inBlk_self (zT ?_))))
   obtain rfl := zJ hr
   have hr := congrArg some (hb_x1 _ rfl)
   obtain rfl := zJ hr
   exact ⟨_, rfl, zW 2 ⟨rfl, trivial⟩ Z Z Z rfl⟩
 ·obtain rfl := e_v1
  have hr := sum_l ho_v1
  clear hb_v1
  refine zT (LW.weak hw_v1 (zQ (zR (zM Z (zN (zT (LW.ret ?_)))))))
  obtain rfl := zJ hr
  refine fin_ret (.one (.tmp Z)) ?_
  exact ⟨rfl, rfl⟩
structure F138G_L1 where
 i : Int
 j : Int
 o1 : List Vt
def F138G_s1 (kk : Nat) (cm : List Int) (x1 : F138G_L1) : Option (F138G_L1 ⊕ F138G_L1) :=
 bif decide (x1.j < (kk : Int)) then
  (ix (x1.o1.take kk) x1.j).bind fun y1 =>
  (F1076 cm y1).bind fun v3 =>
  bif !v3 then
   (ix (x1.o1.take kk) x1.i).bind fun _ =>
   some (.inl (F138G_L1.mk (IntKind.i64.wrap (x1.i + 1)) (IntKind.i64.wrap (x1.j + 1)) (x1.o1.set x1.i.toNat y1)))
  else
   some (.inl (F138G_L1.mk x1.i (IntKind.i64.wrap (x1.j + 1)) x1.o1))
 else
  some (.inr (F138G_L1.mk x1.i x1.j x1.o1))
def F138G (lV : List Vt) (kk : Nat) (cm : List Int) : Option (Nat × List Vt) :=
 (F158G lV kk cm).bind fun v1 =>
 bif v1 == (-1) then
  some (kk, lV)
 else
  (iter (F138G_s1 kk cm) big (F138G_L1.mk v1 (IntKind.i64.wrap (v1 + 1)) lV)).bind fun v2 =>
  bif decide (0 ≤ v2.i ∧ v2.i ≤ (kk : Int)) then
   bif decide (v2.i.toNat + (kk - v2.i.toNat) ≤ v2.o1.length) then
    bif decide (0 ≤ v2.i ∧ v2.i ≤ (kk : Int)) then
     some (v2.i.toNat, clrL v2.o1 v2.i.toNat (kk - v2.i.toNat) (Vt.mk 0 0 (0, 0)))
    else none
   else none
  else none
set_option maxRecDepth 100000 in
theorem cF138G {c : Cf} {lV : List Vt} {kk : Nat} {cm : List Int} {r_ : Nat × List Vt} (hr : F138G lV kk cm = some r_) : LC Tryz.prog 137 [.vec 4 1 (lV.map vtP).length 0 kk, .fn 136 [.p (.slice 1 (cm.map i64P))] []] [.box [.p (.slice 1 (c.W.map i64P)), .p (.int .u64 c.Seed), .p (.int .i64 c.Epoch), .p (.int .i64 c.Num), .p (.int .i64 c.Den)], .vec 4 (lV.map vtP)] (Is (.vec 4 1 (r_.2.map vtP).length 0 r_.1) [.box [.p (.slice 1 (c.W.map i64P)), .p (.int .u64 c.Seed), .p (.int .i64 c.Epoch), .p (.int .i64 c.Num), .p (.int .i64 c.Den)], .vec 4 (r_.2.map vtP)]) := by
 refine LC.start Tryz.func137 Z Z Z ?_
 unfold F138G at hr
 refine zQ (zR (zM Z (zN (zT (zQ (zR (zM Z (zM Z (zb hr fun v1 h_v1 hr => zS Z Z Z (zC Z Z Z (by kernel_rfl) (cF158G h_v1)) (zM Z (zN (zT (zQ (zQ (zR (zM Z (zS Z Z Z (LOp.bin Z Z Z Z) (zN (zT ?_)))))))))))))))))))
 refine zX Z (fun g1 => ?_) (fun g1 => ?_)
 ·
  refine zi g1 hr fun hr => zQ (zR (zM Z (zM Z (zN (zT (LW.ret (thn_r ?_)))))))
  obtain rfl := zJ hr
  refine fin_ret (.one (.tmp Z)) ?_
  exact ⟨rfl, rfl⟩
 ·
  refine zo g1 hr fun hr => LW.skip (zT (zQ (zQ (zR (zM Z (zS Z Z Z (LOp.bin Z Z Z Z) (zM Z (zN (zT ?_)))))))))
  obtain ⟨v2, hb_v2, ho_v2⟩ := zB hr
  clear hr
  refine LW.tail (E := [(0, .vec 4 1 (v2.o1.map vtP).length 0 kk), (4, .zs), (5, .p (.int .i64 v2.i))]) (O := [.box [.p (.slice 1 (c.W.map i64P)), .p (.int .u64 c.Seed), .p (.int .i64 c.Epoch), .p (.int .i64 c.Num), .p (.int .i64 c.Den)], .vec 4 (v2.o1.map vtP)]) ?_ (fun env_v2 H_v2 hw_v2 => ?_)
  ·refine LW.block ?_
   refine LW.iterB (E := fun x1 : F138G_L1 => [(0, .vec 4 1 (x1.o1.map vtP).length 0 kk), (1, .fn 136 [.p (.slice 1 (cm.map i64P))] []), (4, .zs), (5, .p (.int .i64 x1.i)), (6, .p (.int .i64 x1.j))]) (O := fun x1 => [.box [.p (.slice 1 (c.W.map i64P)), .p (.int .u64 c.Seed), .p (.int .i64 c.Epoch), .p (.int .i64 c.Num), .p (.int .i64 c.Den)], .vec 4 (x1.o1.map vtP)]) hb_v2 (zW 2 ⟨rfl, rfl, rfl, rfl, rfl, trivial⟩ Z Z Z Z) (fun x1 z_x1 hr hb_x1 => ?_)
   unfold F138G_s1 at hr
   refine zQ (zQ (zR (zM Z (zM Z (zS Z Z Z (LOp.lenVP Z Z Z (by kernel_rfl)) (zS Z Z Z (LOp.bin Z Z Z Z) (zN (zT ?_))))))))
   refine zX Z (fun g2 => ?_) (fun g2 => ?_)
   ·
    refine zi g2 hr fun hr => LW.skip (zT (zQ (LW.block (zQ (zR (zM Z (zM Z (zb hr fun y1 h_y1 hr => zS Z Z Z (LOp.indexAddrVP Z Z Z Z st68 h_y1) (zS Z Z Z (LOp.loadVX Z Z Z vt82 (ix_take h_y1).1 Z Z Z Z) (zS Z Z Z (LOp.alloc Z zt82 Z Z) (zS Z Z Z (LOp.store Z Z Z Z vt82 Z Z Z Z) (zN (zT (zQ (zR (zM Z (zS Z Z Z (zD Z Z Z vt82 Z Z) (zb hr fun v3 h_v3 hr => zS Z Z Z (zC Z Z Z (by kernel_rfl) (LC.pure (c1076 h_v3) (.cons Conv.p (.cons Conv.p .nil)))) (zS Z Z Z (LOp.not Z Z) (zN ?_))))))))))))))))))))
    refine zT ?_
    refine zX Z (fun g3 => ?_) (fun g3 => ?_)
    ·
     refine zi g3 hr fun hr => zQ (zR (zM Z (zM Z (zS Z Z Z (zD Z Z Z vt82 Z Z) (zb hr fun y2 h_y2 hr => zS Z Z Z (LOp.indexAddrVP Z Z Z Z st68 h_y2) ?_)))))
     refine zS Z Z Z (LOp.storeVP (f := vtP) (l := x1.o1) y1 Z Z Z Z vt82 (fun _ => rfl) (ix_take h_y2).1 Z Z Z Z Z Z Z) ?_
     refine zN (zT (zR (zM Z (zS Z Z Z (LOp.bin Z Z Z Z) (zM Z (zN (inBlk_n (zT (zR (zM Z (zS Z Z Z (LOp.bin Z Z Z Z) (zM Z (zN (zT ?_))))))))))))))
     obtain rfl := zJ hr
     exact ⟨_, rfl, zW 2 ⟨(pset (rfl)), rfl, rfl, rfl, rfl, trivial⟩ Z Z Z rfl⟩
    ·
     refine zo g3 hr fun hr => LW.skip (inBlk_n (zT (zR (zM Z (zS Z Z Z (LOp.bin Z Z Z Z) (zM Z (zN (zT ?_))))))))
     obtain rfl := zJ hr
     exact ⟨_, rfl, zW 2 ⟨rfl, rfl, rfl, rfl, rfl, trivial⟩ Z Z Z rfl⟩
   ·
    refine zo g2 hr fun hr => LW.exit (thn_e (thn_e (inBlk_self (zT ?_))))
    obtain rfl := zJ hr
    have hr := congrArg some (hb_x1 _ rfl)
    obtain rfl := zJ hr
    exact zW 2 ⟨Z, Z, Z, trivial⟩ Z Z Z Z
  ·have hr := ho_v2
   clear hb_v2
   refine zT (LW.weak hw_v2 (zQ (zR (zM Z (zM Z (zg hr fun q1 hr => zS Z Z Z (LOp.sliceVLo Z Z Z Z st68 q1) (zg hr fun q2 hr => ?_)))))))
   refine zS Z Z Z (LOp.clearVP (f := vtP) (zs := [.int .i64 0, .int .i64 0, .int .u64 0, .int .u64 0]) (Vt.mk 0 0 (0, 0)) Z Z Z st68 (fun _ => rfl) (by kernel_rfl) Z q2 Z) ?_
   refine zN (zT (zQ (LW.ent (Ent.vlen (t := 0) (n' := ((clrL v2.o1 v2.i.toNat (kk - v2.i.toNat) (Vt.mk 0 0 (0, 0))).map vtP).length) Z (clr_len q2)) (zR (zM Z (zM Z (zg hr fun q3 hr => zS Z Z Z (LOp.sliceVHi Z Z Z Z st68 q3) (zM Z (zN (zT (LW.ret ?_)))))))))))
   obtain rfl := zJ hr
   refine fin_ret (.one (.tmp Z)) ?_
   exact ⟨rfl, rfl⟩
def F1064 (c : Cf) (v : List Vt) (slot : Int) : Option (List Vt) :=
 (FOfV v slot).bind fun v1 =>
 (F65 c slot).bind fun v2 =>
 (F138G v1 ((v1.map vtP).length) v2).bind fun v3 =>
 bif Nat.ble v3.1 v3.2.length then
  some (v3.2.take v3.1)
 else none
set_option maxRecDepth 100000 in
theorem c1064 {c : Cf} {v : List Vt} {slot : Int} {r_ : (List Vt)} (hr : F1064 c v slot = some r_) : LPure Tryz.prog 109 [cfP c, .slice 4 (v.map vtP), .int .i64 slot] [.slice 4 (r_.map vtP)] := by
 refine LPure.start Tryz.func109 Z Z Z Z ?_
 unfold F1064 at hr
 refine zQ (zR (zS Z Z Z (LOp.box Z Z Z Z Z) (zM Z (zN (zT (zQ (zR (zM Z (zM Z (zb hr fun v1 h_v1 hr => zS Z Z Z (LOp.callV (qs := [.p (.slice 4 (v.map vtP)), .p (.int .i64 slot)]) Z Z Z (by kernel_rfl) (cFOfV h_v1) (.consC Conv.p (.consC Conv.p .nil)) Z Z) (zM Z (zN (zT (zQ (zR (zS Z Z Z (zD Z Z Z vt55 Z Z) (zM Z (zb hr fun v2 h_v2 hr => zS Z Z Z (zC Z Z Z (by kernel_rfl) (LC.pure (c65 h_v2) (.cons Conv.p (.cons Conv.p .nil)))) (zS Z Z Z (LOp.makeFunc Z Z Z) (zM Z (zN ?_)))))))))))))))))))))
 refine zT (zQ (zR (zM Z (zM Z (zS Z Z Z (LOp.lenVM Z Z Z (by kernel_rfl)) (zM Z (zS Z Z Z (LOp.lenVM Z Z Z (by kernel_rfl)) (zS Z Z Z (LOp.sliceV3 Z Z Z Z Z st68) (zM Z (zb hr fun v3 h_v3 hr => zg hr fun q1 hr => zS Z Z Z (zC Z Z Z (by kernel_rfl) (cF138G h_v3)) (zM Z (zN (zT (zQ (zR (zM Z (zM Z (zN (zT (LW.ret ?_))))))))))))))))))))
 obtain rfl := zJ hr
 refine finP_ret (.one (.tmp Z)) ?_
 exact (Conv.vecTake Z q1)
def F1048 (c : Cf) (w : Vw) (slot : Int) : Option ID :=
 (F1064 c w.V slot).bind fun v1 =>
 (F81 c w.B v1).bind fun v2 =>
 some v2
set_option maxRecDepth 100000 in
theorem c1048 {c : Cf} {w : Vw} {slot : Int} {r_ : ID} (hr : F1048 c w slot = some r_) : LPure Tryz.prog 67 [cfP c, vwP w, .int .i64 slot] [idP r_] := by
 refine LPure.start Tryz.func67 Z Z Z Z ?_
 unfold F1048 at hr
 refine zQ (zR (zS Z Z Z (LOp.box Z Z Z Z Z) (zS Z Z Z (LOp.box Z Z Z Z Z) (zS Z Z Z (LOp.alloc Z zt24 Z Z) (zN (zT (zQ (LW.drawLast (m := 9) (by kernel_rfl) (by kernel_rfl) (by kernel_rfl) (zE Z Z Z (zD Z Z Z vt55 Z Z) (zE Z Z Z (zA Z Z ft75_0) (zE Z Z Z (zD Z Z Z vt27 Z Z) (zE Z Z Z (zD Z Z Z vt55 Z Z) (zE Z Z Z (zA Z Z ft75_1) (zE Z Z Z (zD Z Z Z vt68 Z Z) (zH Z (zb hr fun v1 h_v1 hr => zE Z Z Z (zC Z Z Z (by kernel_rfl) (LC.pure (c1064 h_v1) (.cons Conv.p (.cons Conv.p (.cons Conv.p .nil))))) (zb hr fun v2 h_v2 hr => zE Z Z Z (zC Z Z Z (by kernel_rfl) (LC.pure (c81 h_v2) (.cons Conv.p (.cons Conv.p (.cons Conv.p .nil))))) (LO.nil (zS Z Z Z (LOp.store Z Z Z Z vt24 Z Z Z Z) (zN (zT ?_)))))))))))))))))))))
 refine LW.ret ?_
 obtain rfl := zJ hr
 refine finP_ret (.one (.cellAgg Z Z (by kernel_rfl) Z)) ?_
 exact Conv.p
structure Wk where
 Node : Nd
 c : Cf
 slot : Int
 told : List Of
open Go.Proofs
def F3043 (no : Int) : Option Nd :=
 some (Nd.mk no 3 (Vw.mk [] []) (Vw.mk [] []) [] (Cu.mk (0, 0) 0 0) false)
set_option maxRecDepth 100000 in
theorem c3043 {no : Int} {r_ : Nd} (hr : F3043 no = some r_) : LPure Tryz.prog 43 [.int .i64 no] [ndP r_] := by
 refine LPure.start Tryz.func43 Z Z Z Z ?_
 unfold F3043 at hr
 refine zQ (zR (zS Z Z Z (LOp.alloc Z zt1071 Z Z) (zN (zT (zQ (zR (zM Z (zS Z Z Z (LOp.build Z bt1071 Z Z Z) (zS Z Z Z (LOp.store Z Z Z Z vt1071 Z Z Z Z) (zN (zT (LW.ret ?_))))))))))))
 obtain rfl := zJ hr
 refine finP_ret (.one (.cellAgg Z Z (by kernel_rfl) Z)) ?_
 exact (Conv.agg (.cons Conv.p (.cons Conv.p (.cons Conv.zs (.cons Conv.zs (.cons Conv.zs (.cons Conv.zs (.cons Conv.zs (.cons Conv.p (.cons Conv.p (.cons Conv.p (.cons Conv.p (.cons Conv.p .nil)))))))))))))
def F1030 (c : Cf) (n : Nd) : Option ID :=
 bif ((IntKind.i64.wrap (n.Tick - 1)).tmod 3) != 2 then
  (F1048 c n.V (IntKind.i64.wrap ((IntKind.i64.wrap ((IntKind.i64.wrap (n.Tick - 1)).tdiv 3)) - 1))).bind fun v1 =>
  some v1
 else
  (F1048 c n.V (IntKind.i64.wrap ((IntKind.i64.wrap (n.Tick - 1)).tdiv 3))).bind fun v2 =>
  some v2
set_option maxRecDepth 100000 in
theorem c1030 {c : Cf} {n : Nd} {r_ : ID} (hr : F1030 c n = some r_) : LPure Tryz.prog 25 [cfP c, ndP n] [idP r_] := by
 refine LPure.start Tryz.func25 Z Z Z Z ?_
 unfold F1030 at hr
 refine zQ (zR (zS Z Z Z (LOp.box Z Z Z Z Z) (zS Z Z Z (LOp.box Z Z Z Z Z) (zS Z Z Z (LOp.alloc Z zt24 Z Z) (zN (zT (zQ (zR (zS Z Z Z (zA Z Z ft1071_1) (zS Z Z Z (zD Z Z Z vt3 Z Z) (zS Z Z Z (LOp.bin Z Z Z Z) (zM Z (zN (zT (zQ (zR (zM Z (zS Z Z Z (LOp.quo Z Z Z (by decide)) (zM Z (zN (zT (zQ (zQ ?_)))))))))))))))))))))))
 refine zR (zM Z (zS Z Z Z (LOp.rem Z Z Z (by decide)) (zS Z Z Z (LOp.bin Z Z Z Z) (zN (zT ?_)))))
 refine zX Z (fun g1 => ?_) (fun g1 => ?_)
 ·
  refine zi g1 hr fun hr => zR (zM Z (zS Z Z Z (LOp.bin Z Z Z Z) (zM Z (zN (zT (zQ (zR (zS Z Z Z (zD Z Z Z vt55 Z Z) (zS Z Z Z (zA Z Z ft1071_2) (zS Z Z Z (zD Z Z Z vt75 Z Z) (zM Z (zb hr fun v1 h_v1 hr => zS Z Z Z (zC Z Z Z (by kernel_rfl) (LC.pure (c1048 h_v1) (.cons Conv.p (.cons Conv.p (.cons Conv.p .nil))))) (zS Z Z Z (LOp.store Z Z Z Z vt24 Z Z Z Z) (zN (zT (LW.ret ?_))))))))))))))))
  obtain rfl := zJ hr
  refine finP_ret (.one (.cellAgg Z Z (by kernel_rfl) Z)) ?_
  exact Conv.p
 ·
  refine zo g1 hr fun hr => LW.skip (zT (zQ (zR (zS Z Z Z (zD Z Z Z vt55 Z Z) (zS Z Z Z (zA Z Z ft1071_2) (zS Z Z Z (zD Z Z Z vt75 Z Z) (zM Z (zb hr fun v2 h_v2 hr => zS Z Z Z (zC Z Z Z (by kernel_rfl) (LC.pure (c1048 h_v2) (.cons Conv.p (.cons Conv.p (.cons Conv.p .nil))))) (zS Z Z Z (LOp.store Z Z Z Z vt24 Z Z Z Z) (zN (zT (LW.ret ?_))))))))))))
  obtain rfl := zJ hr
  refine finP_ret (.one (.cellAgg Z Z (by kernel_rfl) Z)) ?_
  exact Conv.p
def F3051 (v : Vw) : Option Vw :=
 bif room 0 v.B.length 40 then
  bif room 0 v.V.length 32 then
   some v
  else none
 else none
set_option maxRecDepth 100000 in
theorem c3051 {v : Vw} {r_ : Vw} (hr : F3051 v = some r_) : LPure Tryz.prog 51 [vwP v] [vwP r_] := by
 refine LPure.start Tryz.func51 Z Z Z Z ?_
 unfold F3051 at hr
 refine zQ (zR (zS Z Z Z (LOp.box Z Z Z Z Z) (zS Z Z Z (LOp.alloc Z zt75 Z Z) (zN (zT (zQ (LW.ent (Ent.slot Z) (LW.ent (Ent.slot Z) (LW.drawW (by kernel_rfl) (by kernel_rfl) ?_)))))))))
 refine zF (F := []) (s := none) Z Z Z (fun H _ => zA Z Z ft75_0) Z ?_
 refine zF Z Z Z (LAt.load Z Z Z vt27 Z Z) Z (zg hr fun q1 hr => ?_)
 refine zF Z Z Z (LAt.callV (id := 2) (qs := [.p (.slice 5 (v.B.map blkP))]) Z Z Z (by kernel_rfl) (c133V q1) (fun H => (.consC Conv.p .nil)) Z) Z ?_
 refine zF (F := []) (s := none) Z Z Z (fun H _ => zA Z Z ft75_1) Z ?_
 refine zF Z Z Z (LAt.load Z Z Z vt68 Z Z) Z (zg hr fun q2 hr => ?_)
 refine zF Z Z Z (LAt.callV (id := 3) (qs := [.p (.slice 4 (v.V.map vtP))]) Z Z Z (by kernel_rfl) (c134V q2) (fun H => (.consC Conv.p .nil)) Z) Z ?_
 refine zF (F := []) (s := none) Z Z Z (fun H _ => LOp.build Z bt75 Z Z Z) Z ?_
 refine zF Z Z Z (LAt.store Z Z Z Z vt75 Z Z Z) Z ?_
 refine LF.nil ⟨by kernel_rfl, ?_⟩
 refine zT (LW.ret ?_)
 obtain rfl := zJ hr
 refine finP_ret (.one (.cellAgg Z Z (by kernel_rfl) Z)) ?_
 exact (Conv.agg (.cons (Conv.vecAll Z Z Z) (.cons (Conv.vecAll Z Z Z) .nil)))
def F3052 (o : Of) : Option Of :=
 (F3051 o.V).bind fun v1 =>
 some (Of.mk o.Slot o.From o.B v1)
set_option maxRecDepth 100000 in
theorem c3052 {o : Of} {r_ : Of} (hr : F3052 o = some r_) : LPure Tryz.prog 52 [ofP o] [ofP r_] := by
 refine LPure.start Tryz.func52 Z Z Z Z ?_
 unfold F3052 at hr
 refine zQ (zR (zS Z Z Z (LOp.box Z Z Z Z Z) (zS Z Z Z (LOp.alloc Z zt1077 Z Z) (zN (zT (zQ (zR (zS Z Z Z (zA Z Z ft1077_3) (zS Z Z Z (zD Z Z Z vt75 Z Z) (zb hr fun v1 h_v1 hr => zS Z Z Z (zC Z Z Z (by kernel_rfl) (LC.pure (c3051 h_v1) (.cons Conv.p .nil))) (zS Z Z Z (zA Z Z ft1077_3) (zS Z Z Z (LOp.store Z Z Z Z vt75 Z Z Z Z) (zN (zT (zQ (zR (zS Z Z Z (zD Z Z Z vt1077 Z Z) (zS Z Z Z (LOp.store Z Z Z Z vt1077 Z Z Z Z) (zN (zT (LW.ret ?_)))))))))))))))))))))
 obtain rfl := zJ hr
 refine finP_ret (.one (.cellAgg Z Z (by kernel_rfl) Z)) ?_
 exact Conv.p
def F3098 (b : Bk) : Option Vw :=
 some (Vw.mk [b] [])
set_option maxRecDepth 100000 in
theorem c3098 {b : Bk} {r_ : Vw} (hr : F3098 b = some r_) : LPure Tryz.prog 98 [blkP b] [vwP r_] := by
 refine LPure.start Tryz.func98 Z Z Z Z ?_
 unfold F3098 at hr
 refine zQ (zR (zS Z Z Z (LOp.box Z Z Z Z Z) (zS Z Z Z (LOp.alloc Z zt75 Z Z) (zN (zT (zQ (zR (zS Z Z Z (zD Z Z Z vt42 Z Z) (zS Z Z Z (LOp.buildSlice Z st27 Z Z Z Z Z) (zS Z Z Z (LOp.build Z bt75 Z Z Z) (zS Z Z Z (LOp.store Z Z Z Z vt75 Z Z Z Z) (zN (zT (LW.ret ?_))))))))))))))
 obtain rfl := zJ hr
 refine finP_ret (.one (.cellAgg Z Z (by kernel_rfl) Z)) ?_
 exact (Conv.agg (.cons Conv.p (.cons Conv.zs .nil)))
open Go.Proofs
structure FEachA_L1 where
 t8 : Int
 o0 : Vw
structure FEachH_L1 where
 t8 : Int
 o2 : List ID
structure F3034_L1 where
 t12 : Int
 names : List (ID × Bool)
structure FIxn_L1 where
 t8 : Int
structure F3016_L1 where
 i : Int
def F3016_s1 (l : List Of) (most : Int) (x1 : F3016_L1) : Option (F3016_L1 ⊕ (F3016_L1 ⊕ Bool)) :=
 bif decide (x1.i < (l.length : Int)) then
  (ix l x1.i).bind fun y1 =>
  (F84 y1.V most).bind fun v2 =>
  bif !v2 then
   some (.inr (.inr false))
  else
   some (.inl (F3016_L1.mk (IntKind.i64.wrap (x1.i + 1))))
 else
  some (.inr (.inl (F3016_L1.mk x1.i)))
def F3016 (l : List Of) (most : Int) : Option Bool :=
 bif decide ((l.length : Int) > 10) then
  some false
 else
  (iter (F3016_s1 l most) big (F3016_L1.mk 0)).bind fun b_v1 => Sum.elim (fun _ =>
   some true) some b_v1
set_option maxRecDepth 100000 in
theorem c3016 {l : List Of} {most : Int} {r_ : Bool} (hr : F3016 l most = some r_) : LPure Tryz.prog 16 [.slice 9 (l.map ofP), .int .i64 most] [.bool r_] := by
 refine LPure.start Tryz.func16 Z Z Z Z ?_
 unfold F3016 at hr
 refine zQ (zR (zM Z (zN (zT (zQ (zQ (zR (zM Z (zS Z Z Z (LOp.lenM Z Z (by kernel_rfl)) (zS Z Z Z (LOp.bin Z Z Z Z) (zN (zT ?_))))))))))))
 refine zX Z (fun g1 => ?_) (fun g1 => ?_)
 ·
  refine zi g1 hr fun hr => zQ (zR (zM Z (zN (zT (LW.ret (thn_r ?_))))))
  obtain rfl := zJ hr
  refine finP_ret (.one (.tmp Z)) ?_
  exact Conv.p
 ·
  refine zo g1 hr fun hr => LW.skip (zT (zQ (zQ (zR (zM Z (zN (zT ?_)))))))
  obtain ⟨b_v1, hb_v1, ho_v1⟩ := zB hr
  clear hr
  refine LW.tailB (b := b_v1) (E := fun v1 => [(4, .p (.bool false))]) (O := fun v1 => []) ?_ (fun v1 e_v1 env_v1 H_v1 hw_v1 => ?_)
  ·refine LW.block ?_
   refine LW.iterB (E := fun x1 : F3016_L1 => [(0, .p (.slice 9 (l.map ofP))), (1, .p (.int .i64 most)), (4, .p (.bool false)), (5, .p (.int .i64 x1.i))]) (O := fun x1 => []) hb_v1 (zW 0 ⟨rfl, rfl, rfl, rfl, trivial⟩ Z Z Z Z) (fun x1 z_x1 hr hb_x1 => ?_)
   unfold F3016_s1 at hr
   refine zQ (zQ (zR (zM Z (zM Z (zS Z Z Z (LOp.lenM Z Z (by kernel_rfl)) (zS Z Z Z (LOp.bin Z Z Z Z) (zN (zT ?_))))))))
   refine zX Z (fun g2 => ?_) (fun g2 => ?_)
   ·
    refine zi g2 hr fun hr => LW.skip (zT (zQ (LW.block (zQ (zR (zM Z (zM Z (zb hr fun y1 h_y1 hr => zS Z Z Z (LOp.indexAddrX Z Z Z st1036 h_y1 Z) (zS Z Z Z (LOp.fieldAddrC Z Z ft1077_3 Z) (zS Z Z Z (LOp.loadC Z Z Z vt75 Z Z) (zM Z (zb hr fun v2 h_v2 hr => zS Z Z Z (zC Z Z Z (by kernel_rfl) (LC.pure (c84 h_v2) (.cons Conv.p (.cons Conv.p .nil)))) (zM Z (zN (zT (zQ (zR (zM Z (zS Z Z Z (LOp.not Z Z) (zN ?_))))))))))))))))))))
    refine zT ?_
    refine zX Z (fun g3 => ?_) (fun g3 => ?_)
    ·
     refine zi g3 hr fun hr => zQ (zR (zM Z (zN (zT (LW.ret (inBlk_r (thn_r (thn_r (inBlk_r (thn_r (thn_r ?_)))))))))))
     obtain rfl := zJ hr
     have hr := congrArg some (hb_x1 _ rfl)
     obtain rfl := zJ hr
     have hr := sum_r ho_v1
     obtain rfl := zJ hr
     refine finP_ret (.one (.tmp Z)) ?_
     exact Conv.p
    ·
     refine zo g3 hr fun hr => LW.skip (inBlk_n (zT (zR (zM Z (zS Z Z Z (LOp.bin Z Z Z Z) (zM Z (zN (zT ?_))))))))
     obtain rfl := zJ hr
     exact ⟨_, rfl, zW 0 ⟨rfl, rfl, rfl, rfl, trivial⟩ Z Z Z rfl⟩
   ·
    refine zo g2 hr fun hr => LW.exit (thn_e (thn_e (inBlk_self (zT ?_))))
    obtain rfl := zJ hr
    have hr := congrArg some (hb_x1 _ rfl)
    obtain rfl := zJ hr
    exact ⟨_, rfl, zW 0 ⟨rfl, trivial⟩ Z Z Z rfl⟩
  ·obtain rfl := e_v1
   have hr := sum_l ho_v1
   clear hb_v1
   refine zT (LW.weak hw_v1 (zQ (zR (zM Z (zN (zT (LW.ret ?_)))))))
   obtain rfl := zJ hr
   refine finP_ret (.one (.tmp Z)) ?_
   exact Conv.p
def F3014 (n : Nd) (most : Int) : Option Bool :=
 (F84 n.V most).bind fun v1 =>
 (F84 n.In most).bind fun v2 =>
 (F3016 n.O most).bind fun v3 =>
 bif v1 then
  bif v2 then
   some v3
  else
   some false
 else
  some false
set_option maxRecDepth 100000 in
theorem c3014 {n : Nd} {most : Int} {r_ : Bool} (hr : F3014 n most = some r_) : LPure Tryz.prog 14 [ndP n, .int .i64 most] [.bool r_] := by
 refine LPure.start Tryz.func14 Z Z Z Z ?_
 unfold F3014 at hr
 refine zQ (zR (zS Z Z Z (LOp.box Z Z Z Z Z) (zM Z (zN (zT (zQ (zR (zS Z Z Z (zA Z Z ft1071_2) (zS Z Z Z (zD Z Z Z vt75 Z Z) (zM Z (zb hr fun v1 h_v1 hr => zS Z Z Z (zC Z Z Z (by kernel_rfl) (LC.pure (c84 h_v1) (.cons Conv.p (.cons Conv.p .nil)))) (zM Z (zN (zT (zQ (zR (zS Z Z Z (zA Z Z ft1071_3) (zS Z Z Z (zD Z Z Z vt75 Z Z) (zM Z (zb hr fun v2 h_v2 hr => zS Z Z Z (zC Z Z Z (by kernel_rfl) (LC.pure (c84 h_v2) (.cons Conv.p (.cons Conv.p .nil)))) (zM Z ?_)))))))))))))))))))))
 refine zN (zT (zQ (zR (zS Z Z Z (zA Z Z ft1071_4) (zS Z Z Z (zD Z Z Z vt1036 Z Z) (zM Z (zb hr fun v3 h_v3 hr => zS Z Z Z (zC Z Z Z (by kernel_rfl) (LC.pure (c3016 h_v3) (.cons Conv.p (.cons Conv.p .nil)))) (zM Z (zN (zT (zQ (zR (zM Z (zM Z ?_))))))))))))))
 refine LOps.cases 21 Z (fun g1 => ?_) (fun g1 => ?_)
 ·
  refine zi g1 hr fun hr => zV Z Z Z (gd g1 Z) Z (LOp.move Z Z) (zS Z Z Z (LOp.pickT Z (gdl g1 Z) Z) (zM Z ?_))
  refine LOps.cases 24 Z (fun g2 => ?_) (fun g2 => ?_)
  ·
   refine zi g2 hr fun hr => zV Z Z Z (gd g2 Z) Z (LOp.move Z Z) (zS Z Z Z (LOp.pickT Z (gdl g2 Z) Z) (zM Z (zN (zT (LW.ret ?_)))))
   obtain rfl := zJ hr
   refine finP_ret (.one (.tmp Z)) ?_
   exact Conv.p
  ·
   refine zo g2 hr fun hr => zU Z Z Z (gd g2 Z) Z Z (zS Z Z Z (LOp.pickF Z (gdl g2 Z) Z) (zM Z (zN (zT (LW.ret ?_)))))
   obtain rfl := zJ hr
   refine finP_ret (.one (.tmp Z)) ?_
   exact Conv.p
 ·
  refine zo g1 hr fun hr => zU Z Z Z (gd g1 Z) Z Z (zS Z Z Z (LOp.pickF Z (gdl g1 Z) Z) (zM Z (zU Z Z Z Z Z Z (zS Z Z Z (LOp.pickF Z Z Z) (zM Z (zN (zT (LW.ret ?_))))))))
  obtain rfl := zJ hr
  refine finP_ret (.one (.tmp Z)) ?_
  exact Conv.p
structure F3030_L1 where
 i : Int
open Go.Proofs
def FGrow (n : Int) : Option (List Of) :=
 bif decide (n < 0) then
  none
 else
  bif decide ((IntKind.i64.wrap (n - (IntKind.i64.wrap (0 - 0)))) > 0) then
   bif mkOk (IntKind.i64.wrap (n - (IntKind.i64.wrap (0 - 0)))) 104 then
    bif decide (0 ≤ 0 ∧ 0 ≤ (((List.replicate (IntKind.i64.wrap (n - (IntKind.i64.wrap (0 - 0)))).toNat (Of.mk 0 0 (Bk.mk 0 0 (0, 0) 0) (Vw.mk [] []) : Of)).map ofP).length : Int)) then
     some (List.replicate (IntKind.i64.wrap (n - (IntKind.i64.wrap (0 - 0)))).toNat (Of.mk 0 0 (Bk.mk 0 0 (0, 0) 0) (Vw.mk [] []) : Of))
    else none
   else none
  else
   some []
set_option maxRecDepth 100000 in
theorem cFGrow {n : Int} {r_ : List Of} (hr : FGrow n = some r_) : LC Tryz.prog 125 [.zs, .p (.int .i64 n)] [] (Is (.vec 9 0 (r_.map ofP).length 0 0) [.vec 9 (r_.map ofP)]) := by
 refine LC.start Tryz.func125 Z Z Z ?_
 unfold FGrow at hr
 refine zQ (zR (zM Z (zN (zT (zQ (zQ (zR (zM Z (zS Z Z Z (LOp.bin Z Z Z Z) (zN (zT ?_)))))))))))
 refine zX Z (fun g1 => ?_) (fun g1 => ?_)
 ·
  have hr := zI g1 hr
  cases hr
 ·
  refine zo g1 hr fun hr => LW.skip (zT (zQ (zQ (zR (zM Z (zM Z (zS Z Z Z (LOp.capZ Z Z st1036) (zM Z (zS Z Z Z (LOp.lenZ Z Z (by kernel_rfl)) (zS Z Z Z (LOp.bin Z Z Z Z) (zS Z Z Z (LOp.bin Z Z Z Z) (zM Z (zN (zT (zQ (zR (zM Z (zS Z Z Z (LOp.bin Z Z Z Z) (zN (zT ?_))))))))))))))))))))
  refine zX Z (fun g2 => ?_) (fun g2 => ?_)
  ·
   refine zi g2 hr fun hr => zR (zM Z (zM Z (zS Z Z Z (LOp.capZ Z Z st1036) (zS Z Z Z (LOp.sliceZ0 Z Z Z st1036) (zM Z (zg hr fun q1 hr => ?_))))))
   refine zS Z Z Z (LOp.appendMake (cs := [.p (.int .i64 0), .p (.int .i64 0), .p (.int .i64 0), .p (.int .i64 0), .p (.int .u64 0), .p (.int .u64 0), .p (.int .u64 0), .zs, .zs]) (zs := [.int .i64 0, .int .i64 0, .int .i64 0, .int .i64 0, .int .u64 0, .int .u64 0, .int .u64 0, .slice 5 [], .slice 4 []]) ofP (Of.mk 0 0 (Bk.mk 0 0 (0, 0) 0) (Vw.mk [] [])) Z Z Z st1036 Tryz.underlying3 (fun _ => rfl) (by kernel_rfl) Z ⟨rfl, rfl, rfl, rfl, rfl, rfl, rfl, ⟨_, rfl⟩, ⟨_, rfl⟩, trivial⟩ q1 Z Z) ?_
   refine zM Z (zS Z Z Z (LOp.lenZ Z Z (by kernel_rfl)) (zg hr fun q2 hr => zS Z Z Z (LOp.sliceVHi Z Z Z Z st1036 q2) (zM Z (zN (zT (zQ (zR (zM Z (zM Z (zN (zT (LW.ret ?_))))))))))))
   obtain rfl := zJ hr
   refine fin_ret (.one (.tmp Z)) ?_
   exact ⟨rfl, rfl⟩
  ·
   refine zo g2 hr fun hr => LW.skip (zT (zQ (LW.ent (Ent.lazy (t := 0) (m := 9) Z Z Z) (zR (zM Z (zM Z (zN (zT (LW.ret ?_)))))))))
   obtain rfl := zJ hr
   refine fin_ret (.one (.tmp Z)) ?_
   exact ⟨rfl, rfl⟩
structure F3095_L1 where
 size : Int
 t11 : Int
structure F3095_L2 where
 newslice : Nat
 t27 : Int
 o0 : List Of
def F3095_s1 (slices : List (List Of)) (x1 : F3095_L1) : Option (F3095_L1 ⊕ F3095_L1) :=
 bif decide (x1.t11 < (slices.length : Int)) then
  (ix slices x1.t11).bind fun y1 =>
  bif decide ((IntKind.i64.wrap (x1.size + (y1.length : Int))) < 0) then
   none
  else
   some (.inl (F3095_L1.mk (IntKind.i64.wrap (x1.size + (y1.length : Int))) (IntKind.i64.wrap (x1.t11 + 1))))
 else
  some (.inr (F3095_L1.mk x1.size x1.t11))
def F3095_s2 (slices : List (List Of)) (x2 : F3095_L2) : Option (F3095_L2 ⊕ F3095_L2) :=
 bif decide (x2.t27 < (slices.length : Int)) then
  (ix slices x2.t27).bind fun y2 =>
  bif decide (x2.newslice + y2.length ≤ x2.o0.length) then
   some (.inl (F3095_L2.mk (x2.newslice + y2.length) (IntKind.i64.wrap (x2.t27 + 1)) (putL x2.o0 x2.newslice y2)))
  else none
 else
  some (.inr (F3095_L2.mk x2.newslice x2.t27 x2.o0))
def F3095 (slices : List (List Of)) : Option (List Of) :=
 (iter (F3095_s1 slices) big (F3095_L1.mk 0 0)).bind fun v1 =>
 (FGrow v1.size).bind fun v2 =>
 (iter (F3095_s2 slices) big (F3095_L2.mk 0 0 v2)).bind fun v3 =>
 bif Nat.ble v3.newslice v3.o0.length then
  some (v3.o0.take v3.newslice)
 else none
set_option maxRecDepth 100000 in
theorem c3095 {slices : List (List Of)} {r_ : (List Of)} (hr : F3095 slices = some r_) : LPure Tryz.prog 95 [.slice 1 (slices.map (slP 9 ofP))] [.slice 9 (r_.map ofP)] := by
 refine LPure.start Tryz.func95 Z Z Z Z ?_
 unfold F3095 at hr
 refine zQ (zR (zM Z (zN (zT (zQ (zR (zM Z (zN (zT (zQ (zQ (zR (zM Z (zS Z Z Z (LOp.lenM Z Z (by kernel_rfl)) (zM Z (zN (zT ?_)))))))))))))))))
 obtain ⟨v1, hb_v1, ho_v1⟩ := zB hr
 clear hr
 refine LW.tail (E := [(0, .p (.slice 1 (slices.map (slP 9 ofP)))), (2, .zs), (3, .p (.int .i64 v1.size))]) (O := []) ?_ (fun env_v1 H_v1 hw_v1 => ?_)
 ·refine LW.block ?_
  refine LW.iterB (E := fun x1 : F3095_L1 => [(0, .p (.slice 1 (slices.map (slP 9 ofP)))), (2, .zs), (3, .p (.int .i64 x1.size)), (9, .p (.slice 1 (slices.map (slP 9 ofP)))), (10, .p (.int .i64 (slices.length : Int))), (11, .p (.int .i64 x1.t11))]) (O := fun x1 => []) hb_v1 (zW 0 ⟨rfl, rfl, rfl, rfl, rfl, rfl, trivial⟩ Z Z Z Z) (fun x1 z_x1 hr hb_x1 => ?_)
  unfold F3095_s1 at hr
  refine zQ (zR (zS Z Z Z (LOp.bin Z Z Z Z) (zN (zT (zQ ?_)))))
  refine zX Z (fun g1 => ?_) (fun g1 => ?_)
  ·
   refine zi g1 hr fun hr => LW.skip (zT (zQ (LW.block (zQ (zR (zb hr fun y1 h_y1 hr => zS Z Z Z (LOp.indexAddrX Z Z Z st3151 h_y1 Z) (zS Z Z Z (LOp.loadC Z Z Z vt1036 Z Z) (zM Z (zN (zT (zQ (zR (zM Z (zM Z (zS Z Z Z (LOp.lenM Z Z (by kernel_rfl)) (zS Z Z Z (LOp.bin Z Z Z Z) (zM Z (zN (zT (zQ (zR ?_)))))))))))))))))))))
   refine zM Z (zS Z Z Z (LOp.bin Z Z Z Z) (zN (zT ?_)))
   refine zX Z (fun g2 => ?_) (fun g2 => ?_)
   ·
    have hr := zI g2 hr
    cases hr
   ·
    refine zo g2 hr fun hr => LW.skip (inBlk_n (zT (zR (zS Z Z Z (LOp.bin Z Z Z Z) (zM Z (zN (zT ?_)))))))
    obtain rfl := zJ hr
    exact ⟨_, rfl, zW 0 ⟨rfl, rfl, rfl, rfl, rfl, rfl, trivial⟩ Z Z Z rfl⟩
  ·
   refine zo g1 hr fun hr => LW.exit (thn_e (thn_e (inBlk_self (zT ?_))))
   obtain rfl := zJ hr
   have hr := congrArg some (hb_x1 _ rfl)
   obtain rfl := zJ hr
   exact zW 0 ⟨Z, Z, Z, trivial⟩ Z Z Z Z
 ·have hr := ho_v1
  clear hb_v1
  refine zT (LW.weak hw_v1 (zQ (zR (zM Z (zb hr fun v2 h_v2 hr => zS Z Z Z (zC Z Z Z (by kernel_rfl) (LC.frameX (x' := .vec 9 0 (v2.map ofP).length 0 0) (H' := [.vec 9 (v2.map ofP)]) (cFGrow h_v2) (.consZ (.consC Conv.p .nil)) Z Z Z)) (zM Z (zN (zT (zQ (zQ (zR (zM Z (zS Z Z Z (LOp.lenM Z Z (by kernel_rfl)) (zM Z (zN (zT ?_))))))))))))))))
  obtain ⟨v3, hb_v3, ho_v3⟩ := zB hr
  clear hr
  refine LW.tail (E := [(2, .zs), (6, .vec 9 0 (v3.o0.map ofP).length 0 v3.newslice)]) (O := [.vec 9 (v3.o0.map ofP)]) ?_ (fun env_v3 H_v3 hw_v3 => ?_)
  ·refine LW.block ?_
   refine LW.iterB (E := fun x2 : F3095_L2 => [(2, .zs), (6, .vec 9 0 (x2.o0.map ofP).length 0 x2.newslice), (25, .p (.slice 1 (slices.map (slP 9 ofP)))), (26, .p (.int .i64 (slices.length : Int))), (27, .p (.int .i64 x2.t27))]) (O := fun x2 => [.vec 9 (x2.o0.map ofP)]) hb_v3 (zW 1 ⟨rfl, rfl, rfl, rfl, rfl, trivial⟩ Z Z Z Z) (fun x2 z_x2 hr hb_x2 => ?_)
   unfold F3095_s2 at hr
   refine zQ (zR (zS Z Z Z (LOp.bin Z Z Z Z) (zN (zT (zQ ?_)))))
   refine zX Z (fun g3 => ?_) (fun g3 => ?_)
   ·
    refine zi g3 hr fun hr => LW.skip (zT (zQ (LW.block (zQ (zR (zb hr fun y2 h_y2 hr => zS Z Z Z (LOp.indexAddrX Z Z Z st3151 h_y2 Z) (zS Z Z Z (LOp.loadC Z Z Z vt1036 Z Z) (zM Z (zN (zT (zR (zM Z (zM Z (zg hr fun q1 hr => ?_))))))))))))))
    refine zS Z Z Z (LOp.appendP (f := ofP) Z Z Z (fun _ => rfl) Z Src.p Z st1036 q1 Z) ?_
    refine zM Z (zN (inBlk_n (zT (zR (zS Z Z Z (LOp.bin Z Z Z Z) (zM Z (zN (zT ?_))))))))
    obtain rfl := zJ hr
    exact ⟨_, rfl, zW 1 ⟨rfl, rfl, rfl, rfl, rfl, trivial⟩ Z Z Z rfl⟩
   ·
    refine zo g3 hr fun hr => LW.exit (thn_e (thn_e (inBlk_self (zT ?_))))
    obtain rfl := zJ hr
    have hr := congrArg some (hb_x2 _ rfl)
    obtain rfl := zJ hr
    exact zW 1 ⟨Z, Z, trivial⟩ Z Z Z Z
  ·have hr := ho_v3
   clear hb_v3
   refine zT (LW.weak hw_v3 (zQ (zR (zg hr fun q2 hr => zM Z (zM Z (zN (zT (LW.ret ?_))))))))
   obtain rfl := zJ hr
   refine finP_ret (.one (.tmp Z)) ?_
   exact (Conv.vecTake Z q2)
open Go.Proofs
def F1059 (x : Int) (y : Int) : Option (Int × Int) :=
 some (IntKind.u64.wrap ((IntKind.u64.wrap ((IntKind.u64.wrap ((x.fdiv (2 ^ (min (Int.toNat 32) IntKind.u64.bits))) * (y.fdiv (2 ^ (min (Int.toNat 32) IntKind.u64.bits))))) + ((IntKind.u64.wrap ((IntKind.u64.wrap ((x.fdiv (2 ^ (min (Int.toNat 32) IntKind.u64.bits))) * (bits .and .u64 y 4294967295))) + ((IntKind.u64.wrap ((bits .and .u64 x 4294967295) * (bits .and .u64 y 4294967295))).fdiv (2 ^ (min (Int.toNat 32) IntKind.u64.bits))))).fdiv (2 ^ (min (Int.toNat 32) IntKind.u64.bits))))) + ((IntKind.u64.wrap ((bits .and .u64 (IntKind.u64.wrap ((IntKind.u64.wrap ((x.fdiv (2 ^ (min (Int.toNat 32) IntKind.u64.bits))) * (bits .and .u64 y 4294967295))) + ((IntKind.u64.wrap ((bits .and .u64 x 4294967295) * (bits .and .u64 y 4294967295))).fdiv (2 ^ (min (Int.toNat 32) IntKind.u64.bits))))) 4294967295) + (IntKind.u64.wrap ((bits .and .u64 x 4294967295) * (y.fdiv (2 ^ (min (Int.toNat 32) IntKind.u64.bits))))))).fdiv (2 ^ (min (Int.toNat 32) IntKind.u64.bits)))), IntKind.u64.wrap (x * y))
set_option maxRecDepth 100000 in
theorem c1059 {x : Int} {y : Int} {r_ : Int × Int} (hr : F1059 x y = some r_) : LPure Tryz.prog 213 [.int .u64 x, .int .u64 y] [.int .u64 r_.1, .int .u64 r_.2] := by
 refine LPure.start Tryz.func213 Z Z Z Z ?_
 unfold F1059 at hr
 refine zQ (zR (zM Z (zM Z (zN (zT (zQ (zR (zM Z (zS Z Z Z (LOp.bin Z Z Z Z) (zM Z (zN (zT (zQ (zR (zM Z (zS Z Z Z (LOp.shr Z Z Z (by decide)) (zM Z (zN (zT (zQ (zR (zM Z (zS Z Z Z (LOp.bin Z Z Z Z) ?_)))))))))))))))))))))))
 refine zM Z (zN (zT (zQ (zR (zM Z (zS Z Z Z (LOp.shr Z Z Z (by decide)) (zM Z (zN (zT (zQ (zR (zM Z (zM Z (zS Z Z Z (LOp.bin Z Z Z Z) (zM Z (zN (zT (zQ (zR (zM Z (zM Z (zS Z Z Z (LOp.bin Z Z Z Z) (zM Z ?_)))))))))))))))))))))))
 refine zS Z Z Z (LOp.shr Z Z Z (by decide)) (zS Z Z Z (LOp.bin Z Z Z Z) (zM Z (zN (zT (zQ (zR (zM Z (zS Z Z Z (LOp.bin Z Z Z Z) (zM Z (zN (zT (zQ (zR (zM Z (zS Z Z Z (LOp.shr Z Z Z (by decide)) (zM Z (zN (zT (zQ (zR (zM Z (zM Z (zM Z ?_)))))))))))))))))))))))
 refine zS Z Z Z (LOp.bin Z Z Z Z) (zS Z Z Z (LOp.bin Z Z Z Z) (zM Z (zN (zT (zQ (zR (zM Z (zM Z (zS Z Z Z (LOp.bin Z Z Z Z) (zM Z (zS Z Z Z (LOp.bin Z Z Z Z) (zM Z (zS Z Z Z (LOp.shr Z Z Z (by decide)) (zS Z Z Z (LOp.bin Z Z Z Z) (zM Z (zN (zT (zQ (zR (zM Z (zM Z (zS Z Z Z (LOp.bin Z Z Z Z) (zM Z ?_)))))))))))))))))))))))
 refine zN (zT (LW.ret ?_))
 obtain rfl := zJ hr
 refine finP_ret (.two (.tmp Z) (.tmp Z)) ?_
 exact ⟨_, rfl, (.cons Conv.p (.cons Conv.p .nil))⟩
def F1043 (a : Int) (b : Int) : Option ID :=
 (F1059 (IntKind.u64.wrap (a)) (IntKind.u64.wrap (b))).bind fun v1 =>
 some v1
set_option maxRecDepth 100000 in
theorem c1043 {a : Int} {b : Int} {r_ : ID} (hr : F1043 a b = some r_) : LPure Tryz.prog 192 [.int .i64 a, .int .i64 b] [idP r_] := by
 refine LPure.start Tryz.func192 Z Z Z Z ?_
 unfold F1043 at hr
 refine zQ (zR (zS Z Z Z (LOp.alloc Z zt1108 Z Z) (zN (zT (zQ (zR (zM Z (zS Z Z Z (LOp.convert (k' := .u64) Z Z (by kernel_rfl)) (zM Z (zS Z Z Z (LOp.convert (k' := .u64) Z Z (by kernel_rfl)) (zb hr fun v1 h_v1 hr => zS Z Z Z (zC Z Z Z (by kernel_rfl) (LC.pure (c1059 h_v1) (.cons Conv.p (.cons Conv.p .nil)))) (zM Z (zS Z Z Z (LOp.extract Z Z Z) (zS Z Z Z (LOp.extract Z Z Z) (zM Z (zM Z (zN (zT (zQ (zR (zM Z (zM Z ?_))))))))))))))))))))))
 refine zS Z Z Z (LOp.build Z bt1108 Z Z Z) (zS Z Z Z (LOp.store Z Z Z Z vt1108 Z Z Z Z) (zN (zT (LW.ret ?_))))
 obtain rfl := zJ hr
 refine finP_ret (.one (.cellAgg Z Z (by kernel_rfl) Z)) ?_
 exact Conv.p
def F1058 (n : Int) : Option Bool :=
 bif decide (n ≥ 0) then
  some (decide (n ≤ 4611686018427387904))
 else
  some false
set_option maxRecDepth 100000 in
theorem c1058 {n : Int} {r_ : Bool} (hr : F1058 n = some r_) : LPure Tryz.prog 212 [.int .i64 n] [.bool r_] := by
 refine LPure.start Tryz.func212 Z Z Z Z ?_
 unfold F1058 at hr
 refine zQ (zR (zM Z (zN (zT (zQ (zR (zM Z (zS Z Z Z (LOp.bin Z Z Z Z) (zM Z ?_)))))))))
 refine LOps.cases 5 Z (fun g1 => ?_) (fun g1 => ?_)
 ·
  refine zi g1 hr fun hr => zV Z Z Z (gd g1 Z) Z (LOp.move Z Z) (zV Z Z Z (gd g1 Z) Z (LOp.bin Z Z Z Z) (zS Z Z Z (LOp.pickT Z (gdl g1 Z) Z) (zM Z (zN (zT (LW.ret ?_))))))
  obtain rfl := zJ hr
  refine finP_ret (.one (.tmp Z)) ?_
  exact Conv.p
 ·
  refine zo g1 hr fun hr => zU Z Z Z (gd g1 Z) Z Z (zU Z Z Z (gd g1 Z) Z Z (zS Z Z Z (LOp.pickF Z (gdl g1 Z) Z) (zM Z (zN (zT (LW.ret ?_))))))
  obtain rfl := zJ hr
  refine finP_ret (.one (.tmp Z)) ?_
  exact Conv.p
def F1057 (n : Int) : Option Bool :=
 (F1058 n).bind fun v1 =>
 some (!v1)
set_option maxRecDepth 100000 in
theorem c1057 {n : Int} {r_ : Bool} (hr : F1057 n = some r_) : LPure Tryz.prog 211 [.int .i64 n] [.bool r_] := by
 refine LPure.start Tryz.func211 Z Z Z Z ?_
 unfold F1057 at hr
 refine zQ (zR (zM Z (zN (zT (zQ (zR (zM Z (zb hr fun v1 h_v1 hr => zS Z Z Z (zC Z Z Z (by kernel_rfl) (LC.pure (c1058 h_v1) (.cons Conv.p .nil))) (zS Z Z Z (LOp.not Z Z) (zM Z (zN (zT (LW.ret ?_)))))))))))))
 obtain rfl := zJ hr
 refine finP_ret (.one (.tmp Z)) ?_
 exact Conv.p
structure FIxf_L1 where
 t8 : Int
def FIxf_s1 (s : List Int) (x1 : FIxf_L1) : Option (FIxf_L1 ⊕ (FIxf_L1 ⊕ Int)) :=
 bif decide (x1.t8 < (s.length : Int)) then
  (ix s x1.t8).bind fun y1 =>
  (F1057 y1).bind fun v2 =>
  bif v2 then
   some (.inr (.inr x1.t8))
  else
   some (.inl (FIxf_L1.mk (IntKind.i64.wrap (x1.t8 + 1))))
 else
  some (.inr (.inl (FIxf_L1.mk x1.t8)))
def FIxf (s : List Int) : Option Int :=
 (iter (FIxf_s1 s) big (FIxf_L1.mk 0)).bind fun b_v1 => Sum.elim (fun _ =>
  some (-1)) some b_v1
set_option maxRecDepth 100000 in
theorem cFIxf {s : List Int} {r_ : Int} (hr : FIxf s = some r_) : LC Tryz.prog 221 [.p (.slice 1 (s.map i64P)), .fn 211 [] []] [] (Is (.p (.int .i64 r_)) []) := by
 refine LC.start Tryz.func221 Z Z Z ?_
 unfold FIxf at hr
 refine zQ (zR (zM Z (zN (zT (zQ (zQ (zR (zM Z (zS Z Z Z (LOp.lenM Z Z (by kernel_rfl)) (zM Z (zN (zT ?_))))))))))))
 obtain ⟨b_v1, hb_v1, ho_v1⟩ := zB hr
 clear hr
 refine LW.tailB (b := b_v1) (E := fun v1 => [(4, .p (.int .i64 0))]) (O := fun v1 => []) ?_ (fun v1 e_v1 env_v1 H_v1 hw_v1 => ?_)
 ·refine LW.block ?_
  refine LW.iterB (E := fun x1 : FIxf_L1 => [(0, .p (.slice 1 (s.map i64P))), (1, .fn 211 [] []), (4, .p (.int .i64 0)), (7, .p (.int .i64 (s.length : Int))), (8, .p (.int .i64 x1.t8))]) (O := fun x1 => []) hb_v1 (zW 0 ⟨rfl, rfl, rfl, rfl, rfl, trivial⟩ Z Z Z Z) (fun x1 z_x1 hr hb_x1 => ?_)
  unfold FIxf_s1 at hr
  refine zQ (zR (zS Z Z Z (LOp.bin Z Z Z Z) (zN (zT (zQ ?_)))))
  refine zX Z (fun g1 => ?_) (fun g1 => ?_)
  ·
   refine zi g1 hr fun hr => LW.skip (zT (zQ (LW.block (zQ (zR (zM Z (zM Z (zN (zT (zQ (zR (zM Z (zM Z (zM Z (zb hr fun y1 h_y1 hr => zS Z Z Z (LOp.indexAddrX Z Z Z st49 h_y1 Z) (zS Z Z Z (LOp.loadC Z Z Z vt3 Z Z) (zb hr fun v2 h_v2 hr => zS Z Z Z (zC Z Z Z (by kernel_rfl) (LC.pure (c1057 h_v2) (.cons Conv.p .nil))) (zN (zT ?_)))))))))))))))))))
   refine zX Z (fun g2 => ?_) (fun g2 => ?_)
   ·
    refine zi g2 hr fun hr => zQ (zR (zM Z (zM Z (zN (zT (LW.ret (inBlk_r (thn_r (thn_r (inBlk_r (thn_r (thn_r ?_))))))))))))
    obtain rfl := zJ hr
    have hr := congrArg some (hb_x1 _ rfl)
    obtain rfl := zJ hr
    have hr := sum_r ho_v1
    obtain rfl := zJ hr
    refine fin_ret (.one (.tmp Z)) ?_
    exact ⟨rfl, rfl⟩
   ·
    refine zo g2 hr fun hr => LW.skip (inBlk_n (zT (zR (zS Z Z Z (LOp.bin Z Z Z Z) (zM Z (zN (zT ?_)))))))
    obtain rfl := zJ hr
    exact ⟨_, rfl, zW 0 ⟨rfl, rfl, rfl, rfl, rfl, trivial⟩ Z Z Z rfl⟩
  ·
   refine zo g1 hr fun hr => LW.exit (thn_e (thn_e (inBlk_self (zT ?_))))
   obtain rfl := zJ hr
   have hr := congrArg some (hb_x1 _ rfl)
   obtain rfl := zJ hr
   exact ⟨_, rfl, zW 0 ⟨rfl, trivial⟩ Z Z Z rfl⟩
 ·obtain rfl := e_v1
  have hr := sum_l ho_v1
  clear hb_v1
  refine zT (LW.weak hw_v1 (zQ (zR (zM Z (zN (zT (LW.ret ?_)))))))
  obtain rfl := zJ hr
  refine fin_ret (.one (.tmp Z)) ?_
  exact ⟨rfl, rfl⟩
def FCf (s : List Int) : Option Bool :=
 (FIxf s).bind fun v1 =>
 some (decide (v1 ≥ 0))
set_option maxRecDepth 100000 in
theorem cFCf {s : List Int} {r_ : Bool} (hr : FCf s = some r_) : LC Tryz.prog 210 [.p (.slice 1 (s.map i64P)), .fn 211 [] []] [] (Is (.p (.bool r_)) []) := by
 refine LC.start Tryz.func210 Z Z Z ?_
 unfold FCf at hr
 refine zQ (zR (zM Z (zN (zT (zQ (zR (zM Z (zM Z (zb hr fun v1 h_v1 hr => zS Z Z Z (zC Z Z Z (by kernel_rfl) (cFIxf h_v1)) (zS Z Z Z (LOp.bin Z Z Z Z) (zM Z (zN (zT (LW.ret ?_))))))))))))))
 obtain rfl := zJ hr
 refine fin_ret (.one (.tmp Z)) ?_
 exact ⟨rfl, rfl⟩
def F1042 (l : List Int) : Option Bool :=
 (FCf l).bind fun v1 =>
 some (!v1)
set_option maxRecDepth 100000 in
theorem c1042 {l : List Int} {r_ : Bool} (hr : F1042 l = some r_) : LPure Tryz.prog 191 [.slice 1 (l.map i64P)] [.bool r_] := by
 refine LPure.start Tryz.func191 Z Z Z Z ?_
 unfold F1042 at hr
 refine zQ (zR (zM Z (zN (zT (zQ (zR (zM Z (zb hr fun v1 h_v1 hr => zS Z Z Z (zC Z Z Z (by kernel_rfl) (cFCf h_v1)) (zS Z Z Z (LOp.not Z Z) (zM Z (zN (zT (LW.ret ?_)))))))))))))
 obtain rfl := zJ hr
 refine finP_ret (.one (.tmp Z)) ?_
 exact Conv.p
def F1026 (a : Int) (b : Int) (c : Int) (d : Int) : Option Bool :=
 (F1042 [a, b, c, d]).bind fun v1 =>
 bif !v1 then
  some false
 else
  (F1043 a b).bind fun v2 =>
  (F1043 c d).bind fun v3 =>
  bif !((v2.1 == v3.1) && ((v2.2 == v3.2) && true)) then
   (F151 [v2.1, v2.2] [v3.1, v3.2]).bind fun v4 =>
   some (decide (v4 > 0))
  else
   some false
set_option maxRecDepth 100000 in
theorem c1026 {a : Int} {b : Int} {c : Int} {d : Int} {r_ : Bool} (hr : F1026 a b c d = some r_) : LPure Tryz.prog 160 [.int .i64 a, .int .i64 b, .int .i64 c, .int .i64 d] [.bool r_] := by
 refine LPure.start Tryz.func160 Z Z Z Z ?_
 unfold F1026 at hr
 refine zQ (zR (zM Z (zN (zT (zQ (zQ (zR (zM Z (zM Z (zM Z (zM Z (zS Z Z Z (LOp.buildSlice Z st49 Z Z Z Z Z) (zb hr fun v1 h_v1 hr => zS Z Z Z (zC Z Z Z (by kernel_rfl) (LC.pure (c1042 h_v1) (.cons Conv.p .nil))) (zS Z Z Z (LOp.not Z Z) (zN (zT ?_))))))))))))))))
 refine zX Z (fun g1 => ?_) (fun g1 => ?_)
 ·
  refine zi g1 hr fun hr => zQ (zR (zM Z (zN (zT (LW.ret (thn_r ?_))))))
  obtain rfl := zJ hr
  refine finP_ret (.one (.tmp Z)) ?_
  exact Conv.p
 ·
  refine zo g1 hr fun hr => LW.skip (zT (zQ (zR (zM Z (zM Z (zb hr fun v2 h_v2 hr => zS Z Z Z (zC Z Z Z (by kernel_rfl) (LC.pure (c1043 h_v2) (.cons Conv.p (.cons Conv.p .nil)))) (zM Z (zM Z (zb hr fun v3 h_v3 hr => zS Z Z Z (zC Z Z Z (by kernel_rfl) (LC.pure (c1043 h_v3) (.cons Conv.p (.cons Conv.p .nil)))) (zS Z Z Z (LOp.alloc Z zt1108 Z Z) (zS Z Z Z (LOp.alloc Z zt1108 Z Z) (zS Z Z Z (LOp.store Z Z Z Z vt1108 Z Z Z Z) (zS Z Z Z (LOp.store Z Z Z Z vt1108 Z Z Z Z) (zN (zT (zQ (LW.draw (by kernel_rfl) (by kernel_rfl) (zE Z Z Z (zD Z Z Z vt1108 Z Z) (zE Z Z Z (zD Z Z Z vt1108 Z Z) (zE Z Z Z (LOp.neqAgg Z Z Z Z Z eqt1108) ?_))))))))))))))))))))
  refine zH Z ?_
  refine LO.cases 27 Z (fun (g2 : (!((v2.1 == v3.1) && ((v2.2 == v3.2) && true))) = true) => ?_) (fun (g2 : (!((v2.1 == v3.1) && ((v2.2 == v3.2) && true))) = false) => ?_)
  ·
   refine zi g2 hr fun hr => LO.gd Z Z Z (gd g2 Z) Z (LOp.sliceBox Z Z at1108 Z Z Z) (LO.gd Z Z Z (gd g2 Z) Z (LOp.sliceBox Z Z at1108 Z Z Z) (zb hr fun v4 h_v4 hr => LO.gd Z Z Z (gd g2 Z) Z (zC Z Z Z (by kernel_rfl) (LC.lend (c151 h_v4) (.cons (Conv.boxSlice Z Z Z Z) (.cons (Conv.boxSlice Z Z Z Z) .nil)) Z)) (LO.gd Z Z Z (gd g2 Z) Z (LOp.bin Z Z Z Z) (zE Z Z Z (LOp.pickT Z (gdl g2 Z) Z) (zH Z (LO.nil (zT (LW.ret ?_))))))))
   obtain rfl := zJ hr
   refine finP_ret (.one (.tmp Z)) ?_
   exact Conv.p
  ·
   refine zo g2 hr fun hr => LO.sk Z Z Z (gd g2 Z) Z Z (LO.sk Z Z Z (gd g2 Z) Z Z (LO.sk Z Z Z (gd g2 Z) Z Z (LO.sk Z Z Z (gd g2 Z) Z Z (zE Z Z Z (LOp.pickF Z (gdl g2 Z) Z) (zH Z (LO.nil (zT (LW.ret ?_))))))))
   obtain rfl := zJ hr
   refine finP_ret (.one (.tmp Z)) ?_
   exact Conv.p
open Go.Proofs
def FQof (c : Cf) (w : Vw) (slot : Int) : Option (List Vt × Int) :=
 (F1064 c w.V slot).bind fun v1 =>
 (F65 c slot).bind fun v2 =>
 (F70 c v2).bind fun v3 =>
 some (v1, v3)
set_option maxRecDepth 100000 in
theorem cFQof {c : Cf} {w : Vw} {slot : Int} {r_ : List Vt × Int} (hr : FQof c w slot = some r_) : LC Tryz.prog 127 [.p (cfP c), .p (vwP w), .p (.int .i64 slot)] [] (Is (.agg [.fn 157 [] [.ptr 0 0, .ptr 1 0, .ptr 3 0], .fn 159 [] [.ptr 0 0, .ptr 4 0]]) [.box [.p (.slice 1 (c.W.map i64P)), .p (.int .u64 c.Seed), .p (.int .i64 c.Epoch), .p (.int .i64 c.Num), .p (.int .i64 c.Den)], .box [.p (.slice 5 (w.B.map blkP)), .p (.slice 4 (w.V.map vtP))], .box [.fn 157 [] [.ptr 0 0, .ptr 1 0, .ptr 3 0], .fn 159 [] [.ptr 0 0, .ptr 4 0]], .box [.p (.slice 4 (r_.1.map vtP))], .box [.p (.int .i64 r_.2)]]) := by
 refine LC.start Tryz.func127 Z Z Z ?_
 unfold FQof at hr
 refine zQ (zR (zS Z Z Z (LOp.box Z Z Z Z Z) (zS Z Z Z (LOp.box Z Z Z Z Z) (zS Z Z Z (LOp.alloc Z zt3157 Z Z) (zN (zT (zQ (LW.ent (Ent.slot Z) (LW.ent (Ent.slot Z) (LW.drawW (by kernel_rfl) (by kernel_rfl) (zF Z Z Z (LAt.load Z Z Z vt55 Z Z) Z ?_)))))))))))
 refine zF (F := []) (s := none) Z Z Z (fun H _ => zA Z Z ft75_1) Z ?_
 refine zF Z Z Z (LAt.load Z Z Z vt68 Z Z) Z (zK Z (zb hr fun v1 h_v1 hr => ?_))
 refine zF (F := []) (s := none) Z Z Z (fun H _ => zC Z Z Z (by kernel_rfl) (LC.pure (c1064 h_v1) (.cons Conv.p (.cons Conv.p (.cons Conv.p .nil))))) Z ?_
 refine zF Z Z Z (LAt.load Z Z Z vt55 Z Z) Z (zF Z Z Z (LAt.load Z Z Z vt55 Z Z) Z (zK Z (zb hr fun v2 h_v2 hr => ?_)))
 refine zF (F := []) (s := none) Z Z Z (fun H _ => zC Z Z Z (by kernel_rfl) (LC.pure (c65 h_v2) (.cons Conv.p (.cons Conv.p .nil)))) Z ?_
 obtain ⟨v3, h_v3, hr⟩ := zB hr
 refine zF (F := []) (s := none) Z Z Z (fun H _ => zC Z Z Z (by kernel_rfl) (LC.pure (c70 h_v3) (.cons Conv.p (.cons Conv.p .nil)))) Z ?_
 refine zF Z Z Z (LAt.alloc Z zt68 (id := 3) Z) Z (zF Z Z Z (LAt.alloc Z zt3 (id := 4) Z) Z (zF Z Z Z (LAt.store Z Z Z Z vt68 Z Z Z) Z (zF Z Z Z (LAt.store Z Z Z Z vt3 Z Z Z) Z ?_)))
 refine LF.nil ⟨by kernel_rfl, ?_⟩
 refine zT (zQ (zR (zS Z Z Z (LOp.makeFunc Z Z Z) (zS Z Z Z (LOp.makeFunc Z Z Z) (zS Z Z Z (LOp.build Z bt3157 Z Z Z) (zS Z Z Z (LOp.store Z Z Z Z vt3157 Z Z Z Z) (zN (zT (LW.ret ?_)))))))))
 obtain rfl := zJ hr
 refine fin_ret (.one (.cellAgg Z Z (by kernel_rfl) Z)) ?_
 exact ⟨rfl, rfl⟩
theorem fFQof {c : Cf} {w : Vw} {slot : Int} {r_ : List Vt × Int} (hr : FQof c w slot = some r_) : LFree Tryz.prog 127 [cfP c, vwP w, .int .i64 slot] (.agg [.fn 157 [] [.cptr [.slice 1 (c.W.map i64P), .int .u64 c.Seed, .int .i64 c.Epoch, .int .i64 c.Num, .int .i64 c.Den], .cptr [.slice 5 (w.B.map blkP), .slice 4 (w.V.map vtP)], .cptr [.slice 4 (r_.1.map vtP)]], .fn 159 [] [.cptr [.slice 1 (c.W.map i64P), .int .u64 c.Seed, .int .i64 c.Epoch, .int .i64 c.Num, .int .i64 c.Den], .cptr [.int .i64 r_.2]]]) :=
 LFree.ofLC rfl (cFQof hr) (FreeTo.agg ⟨FreeTo.fn trivial ⟨FreeTo.ptr rfl rfl rfl, FreeTo.ptr rfl rfl rfl, FreeTo.ptr rfl rfl rfl, trivial⟩, FreeTo.fn trivial ⟨FreeTo.ptr rfl rfl rfl, FreeTo.ptr rfl rfl rfl, trivial⟩, trivial⟩)
def FQon (id : ID) (c : Cf) (w : Vw) (v : List Vt) : Option Int :=
 (F121 c w.B v id).bind fun v1 =>
 some v1
set_option maxRecDepth 100000 in
theorem cFQon {id : ID} {c : Cf} {w : Vw} {v : List Vt} {r_ : Int} (hr : FQon id c w v = some r_) : LC Tryz.prog 157 [.p (idP id), .cptr [.slice 1 (c.W.map i64P), .int .u64 c.Seed, .int .i64 c.Epoch, .int .i64 c.Num, .int .i64 c.Den], .cptr [.slice 5 (w.B.map blkP), .slice 4 (w.V.map vtP)], .cptr [.slice 4 (v.map vtP)]] [] (Is (.p (.int .i64 r_)) []) := by
 refine LC.start Tryz.func157 Z Z Z ?_
 unfold FQon at hr
 refine zQ (zR (zS Z Z Z (LOp.box Z Z Z Z Z) (zM Z (zN (zT (zQ (zR (zS Z Z Z (LOp.loadC Z Z Z vt55 Z Z) (zS Z Z Z (LOp.fieldAddrC Z Z ft75_0 Z) (zS Z Z Z (LOp.loadC Z Z Z vt27 Z Z) (zS Z Z Z (LOp.loadC Z Z Z vt68 Z Z) (zS Z Z Z (zD Z Z Z vt24 Z Z) (zb hr fun v1 h_v1 hr => zS Z Z Z (zC Z Z Z (by kernel_rfl) (LC.pure (c121 h_v1) (.cons Conv.p (.cons Conv.p (.cons Conv.p (.cons Conv.p .nil)))))) (zM Z (zN (zT (LW.ret ?_)))))))))))))))))
 obtain rfl := zJ hr
 refine fin_retW (env' := [(5, .p (.int .i64 v1))]) (H' := []) (zW 0 ⟨rfl, trivial⟩ Z Z Z Z) (.one (.tmp Z)) ?_
 exact ⟨rfl, rfl⟩
def FQsure (n : Int) (c : Cf) (al : Int) : Option Bool :=
 (F1026 (IntKind.i64.wrap (2 * n)) c.Den al (IntKind.i64.wrap (c.Den + (IntKind.i64.wrap (2 * c.Num))))).bind fun v1 =>
 some v1
set_option maxRecDepth 100000 in
theorem cFQsure {n : Int} {c : Cf} {al : Int} {r_ : Bool} (hr : FQsure n c al = some r_) : LC Tryz.prog 159 [.p (.int .i64 n), .cptr [.slice 1 (c.W.map i64P), .int .u64 c.Seed, .int .i64 c.Epoch, .int .i64 c.Num, .int .i64 c.Den], .cptr [.int .i64 al]] [] (Is (.p (.bool r_)) []) := by
 refine LC.start Tryz.func159 Z Z Z ?_
 unfold FQsure at hr
 refine zQ (zR (zM Z (zN (zT (zQ (zR (zM Z (zS Z Z Z (LOp.bin Z Z Z Z) (zS Z Z Z (LOp.fieldAddrC Z Z ft55_4 Z) (zS Z Z Z (LOp.loadC Z Z Z vt3 Z Z) (zS Z Z Z (LOp.loadC Z Z Z vt3 Z Z) (zS Z Z Z (LOp.fieldAddrC Z Z ft55_4 Z) (zS Z Z Z (LOp.loadC Z Z Z vt3 Z Z) (zS Z Z Z (LOp.fieldAddrC Z Z ft55_3 Z) (zS Z Z Z (LOp.loadC Z Z Z vt3 Z Z) (zS Z Z Z (LOp.bin Z Z Z Z) (zS Z Z Z (LOp.bin Z Z Z Z) (zb hr fun v1 h_v1 hr => zS Z Z Z (zC Z Z Z (by kernel_rfl) (LC.pure (c1026 h_v1) (.cons Conv.p (.cons Conv.p (.cons Conv.p (.cons Conv.p .nil)))))) (zM Z (zN (zT (LW.ret ?_))))))))))))))))))))))
 obtain rfl := zJ hr
 refine fin_ret (.one (.tmp Z)) ?_
 exact ⟨rfl, rfl⟩
structure FTop_L1 where
 l : List ID
 v : List Vt
 al : Int
def FTop_s1 (c : Cf) (w : Vw) (x1 : FTop_L1) : Option (FTop_L1 ⊕ (ID × Bool)) :=
 bif decide ((x1.l.length : Int) < 2) then
  some (.inr ((0, 0), false))
 else
  (ix x1.l 0).bind fun y1 =>
  (FQon y1 c w x1.v).bind fun v2 =>
  (FQsure v2 c x1.al).bind fun v3 =>
  bif v3 then
   (ix x1.l 0).bind fun y2 =>
   some (.inr (y2, true))
  else
   bif inL x1.l 1 x1.l.length then
    some (.inl (FTop_L1.mk (x1.l.drop (1 : Int).toNat) x1.v x1.al))
   else none
def F3099 (c : Cf) (w : Vw) (slot : Int) (head : ID) : Option (ID × Bool) :=
 (FQof c w slot).bind fun v1 =>
 bif few w.B then
  iter (FTop_s1 c w) big (FTop_L1.mk (chainOf w.B head) v1.1 v1.2)
 else none
set_option maxRecDepth 100000 in
theorem c3099 {c : Cf} {w : Vw} {slot : Int} {head : ID} {r_ : ID × Bool} (hr : F3099 c w slot head = some r_) : LPure Tryz.prog 99 [cfP c, vwP w, .int .i64 slot, idP head] [idP r_.1, .bool r_.2] := by
 refine LPure.start Tryz.func99 Z Z Z Z ?_
 unfold F3099 at hr
 refine zQ (zR (zS Z Z Z (LOp.box Z Z Z Z Z) (zS Z Z Z (LOp.box Z Z Z Z Z) (zS Z Z Z (LOp.box Z Z Z Z Z) (zS Z Z Z (LOp.alloc Z zt24 Z Z) (zM Z (zN (zT ?_))))))))
 refine LW.iterG (step := FTop_s1 c w) (N := big) (b := r_) (E := fun x1 : FTop_L1 => [(8, .ptr 3 0), (9, .p (.bool false)), (10, .ptr 4 0), (11, .p (.slice 2 (x1.l.map idP)))]) (O := fun x1 => [.box [.p (.slice 1 (c.W.map i64P)), .p (.int .u64 c.Seed), .p (.int .i64 c.Epoch), .p (.int .i64 c.Num), .p (.int .i64 c.Den)], .box [.p (.slice 5 (w.B.map blkP)), .p (.slice 4 (w.V.map vtP))], .box [.p (.int .u64 head.1), .p (.int .u64 head.2)], .box [.p (.int .u64 0), .p (.int .u64 0)], .box [.fn 157 [] [.cptr [.slice 1 (c.W.map i64P), .int .u64 c.Seed, .int .i64 c.Epoch, .int .i64 c.Num, .int .i64 c.Den], .cptr [.slice 5 (w.B.map blkP), .slice 4 (w.V.map vtP)], .cptr [.slice 4 (x1.v.map vtP)]], .fn 159 [] [.cptr [.slice 1 (c.W.map i64P), .int .u64 c.Seed, .int .i64 c.Epoch, .int .i64 c.Num, .int .i64 c.Den], .cptr [.int .i64 x1.al]]]]) Z ?_ (fun x1 z_x1 hr hb_x1 => ?_)
 ·
  refine LW.ent (Ent.slot Z) (LW.drawW (by kernel_rfl) (by kernel_rfl) (zF Z Z Z (LAt.load Z Z Z vt55 Z Z) Z (zF Z Z Z (LAt.load Z Z Z vt75 Z Z) Z (zK Z (zb hr fun v1 h_v1 hr => ?_)))))
  refine zF (F := []) (s := none) Z Z Z (fun H _ => zC Z Z Z (by kernel_rfl) (LC.free (fFQof h_v1) (.cons Conv.p (.cons Conv.p (.cons Conv.p .nil))))) Z ?_
  refine zF (F := []) (s := none) Z Z Z (fun H _ => zA Z Z ft75_0) Z ?_
  refine zF Z Z Z (LAt.load Z Z Z vt27 Z Z) Z (zF Z Z Z (LAt.load Z Z Z vt24 Z Z) Z (zg hr fun q1 hr => ?_))
  refine zF (F := []) (s := none) Z Z Z (fun H _ => zC Z Z Z (by kernel_rfl) (LC.pure (c39 (l := w.B) (id := head) (few_le q1)) (.cons Conv.p (.cons Conv.p .nil)))) Z ?_
  refine zF Z Z Z (LAt.alloc Z zt3157 (id := 4) Z) Z (zF Z Z Z (LAt.store Z Z Z Z vt3157 Z Z Z) Z (zK Z ?_))
  refine LF.nil ⟨by kernel_rfl, ?_⟩
  refine zT ?_
  exact ⟨_, hr, zW 5 ⟨rfl, rfl, rfl, rfl, trivial⟩ Z Z Z rfl⟩
 ·
  unfold FTop_s1 at hr
  refine zQ (zQ (zR (zM Z (zS Z Z Z (LOp.lenM Z Z (by kernel_rfl)) (zS Z Z Z (LOp.bin Z Z Z Z) (zN (zT ?_)))))))
  refine zX Z (fun g1 => ?_) (fun g1 => ?_)
  ·
   refine zi g1 hr fun hr => zQ (zR (zS Z Z Z (LOp.build Z bt24 Z Z Z) (zS Z Z Z (LOp.store Z Z Z Z vt24 Z Z Z Z) (zM Z (zN (zT (LW.ret (thn_r (jmp_r ?_)))))))))
   obtain rfl := zJ hr
   have hr := congrArg some (hb_x1 _ rfl)
   obtain rfl := zJ hr
   refine finP_ret (.two (.cellAgg Z Z (by kernel_rfl) Z) (.tmp Z)) ?_
   exact ⟨_, rfl, (.cons Conv.p (.cons Conv.p .nil))⟩
  ·
   refine zo g1 hr fun hr => LW.skip (zT (zQ (zQ (LW.draw (by kernel_rfl) (by kernel_rfl) (zE Z Z Z (zA Z Z ft3157_1) (zE Z Z Z (zD Z Z Z vt131 Z Z) (zE Z Z Z (zA Z Z ft3157_0) (zE Z Z Z (zD Z Z Z vt3155 Z Z) (zH Z (zb hr fun y1 h_y1 hr => zE Z Z Z (LOp.indexAddrX Z Z Z st31 h_y1 Z) (zE Z Z Z (LOp.loadC Z Z Z vt24 Z Z) (zb hr fun v2 h_v2 hr => zE Z Z Z (zC Z Z Z (by kernel_rfl) (LC.pre (cFQon h_v2) Z Z Z)) (zb hr fun v3 h_v3 hr => zE Z Z Z (zC Z Z Z (by kernel_rfl) (LC.pre (cFQsure h_v3) Z Z Z)) (LO.nil (zT ?_)))))))))))))))
   refine zX Z (fun g2 => ?_) (fun g2 => ?_)
   ·
    refine zi g2 hr fun hr => zQ (zR (zM Z (zb hr fun y2 h_y2 hr => zS Z Z Z (LOp.indexAddrX Z Z Z st31 h_y2 Z) (zS Z Z Z (LOp.loadC Z Z Z vt24 Z Z) (zS Z Z Z (LOp.store Z Z Z Z vt24 Z Z Z Z) (zM Z (zN (zT (LW.ret (thn_r (jmp_r ?_)))))))))))
    obtain rfl := zJ hr
    have hr := congrArg some (hb_x1 _ rfl)
    obtain rfl := zJ hr
    refine finP_ret (.two (.cellAgg Z Z (by kernel_rfl) Z) (.tmp Z)) ?_
    exact ⟨_, rfl, (.cons Conv.p (.cons Conv.p .nil))⟩
   ·
    refine zo g2 hr fun hr => LW.skip (zT (zQ (zR (zM Z (zg hr fun q2 hr => zS Z Z Z (LOp.sliceLo Z Z Z st31 q2) (zM Z (zN (zT (LW.goto (jmp_g ?_))))))))))
    obtain rfl := zJ hr
    exact ⟨_, rfl, zW 5 ⟨rfl, rfl, rfl, rfl, trivial⟩ Z Z Z rfl⟩
open Go.Proofs
def F131 (v : Vt) (sm : List (ID × Int)) : Option Bool :=
 bif !((findE sm v.Head).isSome) then
  some true
 else
  some (decide (((findE sm v.Head).getD 0) > v.Slot))
set_option maxRecDepth 100000 in
theorem cF131 {v : Vt} {w : Vw} {sm : List (ID × Int)} {hm : List (Vt × Bool)} {r_ : Bool} (hr : F131 v sm = some r_) : LC Tryz.prog 49 [.p (vtP v), .ptr 9 0] [.dead, .box [.p (.slice 5 (w.B.map blkP)), .p (.slice 4 (w.V.map vtP))], .dead, .dead, .dead, .dead, .map (entsOf idP (fun v => .p (.int .i64 v)) sm), .map (entsOf vtP (fun v => .p (.bool v)) hm), .box [.vec 5 4 (w.B.map blkP).length 0 (w.B.map blkP).length, .vec 4 5 (w.V.map vtP).length 0 (w.V.map vtP).length, .map 6, .map 7, .p (.int .i64 0), .p (.bool false)], .box [.ptr 8 0]] (Is (.p (.bool r_)) [.dead, .box [.p (.slice 5 (w.B.map blkP)), .p (.slice 4 (w.V.map vtP))], .dead, .dead, .dead, .dead, .map (entsOf idP (fun v => .p (.int .i64 v)) sm), .map (entsOf vtP (fun v => .p (.bool v)) hm), .box [.vec 5 4 (w.B.map blkP).length 0 (w.B.map blkP).length, .vec 4 5 (w.V.map vtP).length 0 (w.V.map vtP).length, .map 6, .map 7, .p (.int .i64 0), .p (.bool false)], .box [.ptr 8 0]]) := by
 refine LC.start Tryz.func49 Z Z Z ?_
 unfold F131 at hr
 refine zQ (zR (zS Z Z Z (LOp.box Z Z Z Z Z) (zM Z (zN (zT (zQ (LW.draw (by kernel_rfl) (by kernel_rfl) (zE Z Z Z (zD Z Z Z vt145 Z Z) (zE Z Z Z (LOp.nilCheck Z Z) (zE Z Z Z (zA Z Z ft149_1) (zE Z Z Z (zD Z Z Z vt91 Z Z) (zE Z Z Z (zA Z Z ft82_2) (zE Z Z Z (zD Z Z Z vt24 Z Z) ?_)))))))))))))
 refine zE Z Z Z (LOp.getX (f := idP) (g := (fun v => .p (.int .i64 v))) v.Head 0 idKey Z Z Z Z mt91 zl3 Z Z) ?_
 refine zH Z (zE Z Z Z (LOp.extract Z Z Z) (zE Z Z Z (LOp.extract Z Z Z) (zH Z (zH Z (LO.nil (zT (zQ (zR (zM Z (zS Z Z Z (LOp.not Z Z) (zM Z ?_)))))))))))
 refine LOps.cases 18 Z (fun g1 => ?_) (fun g1 => ?_)
 ·
  refine zi g1 hr fun hr => zU Z Z Z (gd g1 Z) Z Z (zU Z Z Z (gd g1 Z) Z Z (zU Z Z Z (gd g1 Z) Z Z (zU Z Z Z (gd g1 Z) Z Z (zS Z Z Z (LOp.pickT Z (gdl g1 Z) Z) (zM Z (zN (zT (LW.ret ?_))))))))
  obtain rfl := zJ hr
  refine fin_retW (env' := [(3, .p (.bool true))]) (H' := [.dead, .box [.p (.slice 5 (w.B.map blkP)), .p (.slice 4 (w.V.map vtP))], .dead, .dead, .dead, .dead, .map (entsOf idP (fun v => .p (.int .i64 v)) sm), .map (entsOf vtP (fun v => .p (.bool v)) hm), .box [.vec 5 4 (w.B.map blkP).length 0 (w.B.map blkP).length, .vec 4 5 (w.V.map vtP).length 0 (w.V.map vtP).length, .map 6, .map 7, .p (.int .i64 0), .p (.bool false)], .box [.ptr 8 0]]) (zW 10 ⟨rfl, trivial⟩ Z Z Z (zL Z (zL Z (zL Z (zL Z (zL Z (zL Z (zL (entsLow (fun _ => rfl) _) (zL (entsLow (fun _ => rfl) _) (zL Z (zL Z Z))))))))))) (.one (.tmp Z)) ?_
  exact ⟨rfl, rfl⟩
 ·
  refine zo g1 hr fun hr => zV Z Z Z (gd g1 Z) Z (LOp.move Z Z) (zV Z Z Z (gd g1 Z) Z (zA Z Z ft82_1) (zV Z Z Z (gd g1 Z) Z (zD Z Z Z vt3 Z Z) (zV Z Z Z (gd g1 Z) Z (LOp.bin Z Z Z Z) (zS Z Z Z (LOp.pickF Z (gdl g1 Z) Z) (zM Z (zN (zT (LW.ret ?_))))))))
  obtain rfl := zJ hr
  refine fin_retW (env' := [(3, .p (.bool (decide (((findE sm v.Head).getD 0) > v.Slot))))]) (H' := [.dead, .box [.p (.slice 5 (w.B.map blkP)), .p (.slice 4 (w.V.map vtP))], .dead, .dead, .dead, .dead, .map (entsOf idP (fun v => .p (.int .i64 v)) sm), .map (entsOf vtP (fun v => .p (.bool v)) hm), .box [.vec 5 4 (w.B.map blkP).length 0 (w.B.map blkP).length, .vec 4 5 (w.V.map vtP).length 0 (w.V.map vtP).length, .map 6, .map 7, .p (.int .i64 0), .p (.bool false)], .box [.ptr 8 0]]) (zW 10 ⟨rfl, trivial⟩ Z Z Z (zL Z (zL Z (zL Z (zL Z (zL Z (zL Z (zL (entsLow (fun _ => rfl) _) (zL (entsLow (fun _ => rfl) _) (zL Z (zL Z Z))))))))))) (.one (.tmp Z)) ?_
  exact ⟨rfl, rfl⟩
structure F158M_L1 where
 t8 : Int
def F158M_s1 (l : List Vt) (sm : List (ID × Int)) (x1 : F158M_L1) : Option (F158M_L1 ⊕ (F158M_L1 ⊕ Int)) :=
 bif decide (x1.t8 < (l.length : Int)) then
  (ix l x1.t8).bind fun y1 =>
  (F131 y1 sm).bind fun v2 =>
  bif v2 then
   some (.inr (.inr x1.t8))
  else
   some (.inl (F158M_L1.mk (IntKind.i64.wrap (x1.t8 + 1))))
 else
  some (.inr (.inl (F158M_L1.mk x1.t8)))
def F158M (l : List Vt) (sm : List (ID × Int)) : Option Int :=
 (iter (F158M_s1 l sm) big (F158M_L1.mk 0)).bind fun b_v1 => Sum.elim (fun _ =>
  some (-1)) some b_v1
set_option maxRecDepth 100000 in
theorem cF158M {l : List Vt} {w : Vw} {sm : List (ID × Int)} {hm : List (Vt × Bool)} {r_ : Int} (hr : F158M l sm = some r_) : LC Tryz.prog 92 [.p (.slice 4 (l.map vtP)), .fn 49 [] [.ptr 9 0]] [.dead, .box [.p (.slice 5 (w.B.map blkP)), .p (.slice 4 (w.V.map vtP))], .dead, .dead, .dead, .dead, .map (entsOf idP (fun v => .p (.int .i64 v)) sm), .map (entsOf vtP (fun v => .p (.bool v)) hm), .box [.vec 5 4 (w.B.map blkP).length 0 (w.B.map blkP).length, .vec 4 5 (w.V.map vtP).length 0 (w.V.map vtP).length, .map 6, .map 7, .p (.int .i64 0), .p (.bool false)], .box [.ptr 8 0]] (Is (.p (.int .i64 r_)) [.dead, .box [.p (.slice 5 (w.B.map blkP)), .p (.slice 4 (w.V.map vtP))], .dead, .dead, .dead, .dead, .map (entsOf idP (fun v => .p (.int .i64 v)) sm), .map (entsOf vtP (fun v => .p (.bool v)) hm), .box [.vec 5 4 (w.B.map blkP).length 0 (w.B.map blkP).length, .vec 4 5 (w.V.map vtP).length 0 (w.V.map vtP).length, .map 6, .map 7, .p (.int .i64 0), .p (.bool false)], .box [.ptr 8 0]]) := by
 refine LC.start Tryz.func92 Z Z Z ?_
 unfold F158M at hr
 refine zQ (zR (zM Z (zN (zT (zQ (zQ (zR (zM Z (zS Z Z Z (LOp.lenM Z Z (by kernel_rfl)) (zM Z (zN (zT ?_))))))))))))
 obtain ⟨b_v1, hb_v1, ho_v1⟩ := zB hr
 clear hr
 refine LW.tailB (b := b_v1) (E := fun v1 => [(4, .p (.int .i64 0))]) (O := fun v1 => [.dead, .box [.p (.slice 5 (w.B.map blkP)), .p (.slice 4 (w.V.map vtP))], .dead, .dead, .dead, .dead, .map (entsOf idP (fun v => .p (.int .i64 v)) sm), .map (entsOf vtP (fun v => .p (.bool v)) hm), .box [.vec 5 4 (w.B.map blkP).length 0 (w.B.map blkP).length, .vec 4 5 (w.V.map vtP).length 0 (w.V.map vtP).length, .map 6, .map 7, .p (.int .i64 0), .p (.bool false)], .box [.ptr 8 0]]) ?_ (fun v1 e_v1 env_v1 H_v1 hw_v1 => ?_)
 ·refine LW.block ?_
  refine LW.iterB (E := fun x1 : F158M_L1 => [(0, .p (.slice 4 (l.map vtP))), (1, .fn 49 [] [.ptr 9 0]), (4, .p (.int .i64 0)), (7, .p (.int .i64 (l.length : Int))), (8, .p (.int .i64 x1.t8))]) (O := fun x1 => [.dead, .box [.p (.slice 5 (w.B.map blkP)), .p (.slice 4 (w.V.map vtP))], .dead, .dead, .dead, .dead, .map (entsOf idP (fun v => .p (.int .i64 v)) sm), .map (entsOf vtP (fun v => .p (.bool v)) hm), .box [.vec 5 4 (w.B.map blkP).length 0 (w.B.map blkP).length, .vec 4 5 (w.V.map vtP).length 0 (w.V.map vtP).length, .map 6, .map 7, .p (.int .i64 0), .p (.bool false)], .box [.ptr 8 0]]) hb_v1 (zW 10 ⟨rfl, rfl, rfl, rfl, rfl, trivial⟩ Z Z Z (zL Z (zL Z (zL Z (zL Z (zL Z (zL Z (zL (entsLow (fun _ => rfl) _) (zL (entsLow (fun _ => rfl) _) (zL Z (zL Z Z))))))))))) (fun x1 z_x1 hr hb_x1 => ?_)
  unfold F158M_s1 at hr
  refine zQ (zR (zS Z Z Z (LOp.bin Z Z Z Z) (zN (zT (zQ ?_)))))
  refine zX Z (fun g1 => ?_) (fun g1 => ?_)
  ·
   refine zi g1 hr fun hr => LW.skip (zT (zQ (LW.block (zQ (zR (zM Z (zM Z (zN (zT (zQ (zR (zM Z (zM Z (zM Z (zb hr fun y1 h_y1 hr => zS Z Z Z (LOp.indexAddrX Z Z Z st68 h_y1 Z) (zS Z Z Z (LOp.loadC Z Z Z vt82 Z Z) (zb hr fun v2 h_v2 hr => zS Z Z Z (zC Z Z Z (by kernel_rfl) (cF131 h_v2)) (zN (zT ?_)))))))))))))))))))
   refine zX Z (fun g2 => ?_) (fun g2 => ?_)
   ·
    refine zi g2 hr fun hr => zQ (zR (zM Z (zM Z (zN (zT (LW.ret (inBlk_r (thn_r (thn_r (inBlk_r (thn_r (thn_r ?_))))))))))))
    obtain rfl := zJ hr
    have hr := congrArg some (hb_x1 _ rfl)
    obtain rfl := zJ hr
    have hr := sum_r ho_v1
    obtain rfl := zJ hr
    refine fin_ret (.one (.tmp Z)) ?_
    exact ⟨rfl, rfl⟩
   ·
    refine zo g2 hr fun hr => LW.skip (inBlk_n (zT (zR (zS Z Z Z (LOp.bin Z Z Z Z) (zM Z (zN (zT ?_)))))))
    obtain rfl := zJ hr
    exact ⟨_, rfl, zW 10 ⟨rfl, rfl, rfl, rfl, rfl, trivial⟩ Z Z Z (zL Z (zL Z (zL Z (zL Z (zL Z (zL Z (zL (entsLow (fun _ => rfl) _) (zL (entsLow (fun _ => rfl) _) (zL Z (zL Z Z))))))))))⟩
  ·
   refine zo g1 hr fun hr => LW.exit (thn_e (thn_e (inBlk_self (zT ?_))))
   obtain rfl := zJ hr
   have hr := congrArg some (hb_x1 _ rfl)
   obtain rfl := zJ hr
   exact ⟨_, rfl, zW 10 ⟨rfl, trivial⟩ Z Z Z (zL Z (zL Z (zL Z (zL Z (zL Z (zL Z (zL (entsLow (fun _ => rfl) _) (zL (entsLow (fun _ => rfl) _) (zL Z (zL Z Z))))))))))⟩
 ·obtain rfl := e_v1
  have hr := sum_l ho_v1
  clear hb_v1
  refine zT (LW.weak hw_v1 (zQ (zR (zM Z (zN (zT (LW.ret ?_)))))))
  obtain rfl := zJ hr
  refine fin_ret (.one (.tmp Z)) ?_
  exact ⟨rfl, rfl⟩
def F132 (l : List Vt) (sm : List (ID × Int)) : Option Bool :=
 (F158M l sm).bind fun v1 =>
 some (decide (v1 ≥ 0))
set_option maxRecDepth 100000 in
theorem cF132 {l : List Vt} {w : Vw} {sm : List (ID × Int)} {hm : List (Vt × Bool)} {r_ : Bool} (hr : F132 l sm = some r_) : LC Tryz.prog 50 [.p (.slice 4 (l.map vtP)), .fn 49 [] [.ptr 9 0]] [.dead, .box [.p (.slice 5 (w.B.map blkP)), .p (.slice 4 (w.V.map vtP))], .dead, .dead, .dead, .dead, .map (entsOf idP (fun v => .p (.int .i64 v)) sm), .map (entsOf vtP (fun v => .p (.bool v)) hm), .box [.vec 5 4 (w.B.map blkP).length 0 (w.B.map blkP).length, .vec 4 5 (w.V.map vtP).length 0 (w.V.map vtP).length, .map 6, .map 7, .p (.int .i64 0), .p (.bool false)], .box [.ptr 8 0]] (Is (.p (.bool r_)) [.dead, .box [.p (.slice 5 (w.B.map blkP)), .p (.slice 4 (w.V.map vtP))], .dead, .dead, .dead, .dead, .map (entsOf idP (fun v => .p (.int .i64 v)) sm), .map (entsOf vtP (fun v => .p (.bool v)) hm), .box [.vec 5 4 (w.B.map blkP).length 0 (w.B.map blkP).length, .vec 4 5 (w.V.map vtP).length 0 (w.V.map vtP).length, .map 6, .map 7, .p (.int .i64 0), .p (.bool false)], .box [.ptr 8 0]]) := by
 refine LC.start Tryz.func50 Z Z Z ?_
 unfold F132 at hr
 refine zQ (zR (zM Z (zN (zT (zQ (zR (zM Z (zM Z (zb hr fun v1 h_v1 hr => zS Z Z Z (zC Z Z Z (by kernel_rfl) (cF158M h_v1)) (zS Z Z Z (LOp.bin Z Z Z Z) (zM Z (zN (zT (LW.ret ?_))))))))))))))
 obtain rfl := zJ hr
 refine fin_ret (.one (.tmp Z)) ?_
 exact ⟨rfl, rfl⟩
def F89 (c : Cf) (w : Vw) : Option Bool :=
 (
  (F64 c).bind fun v2 =>
  bif !v2 then
   some true
  else
   (F52 w.B).bind fun v3 =>
   bif !v3 then
    some true
   else
    bif decide ((w.B.length : Int) > 60) then
     some true
    else
     some (decide ((w.V.length : Int) > 240))
 ).bind fun v1 =>
 bif v1 then
  some false
 else
  (F85 c w).bind fun v4 =>
  (
   bif (v4.B.length : Int) != (w.B.length : Int) then
    some true
   else
    some ((v4.V.length : Int) != (w.V.length : Int))
  ).bind fun v5 =>
  bif v5 then
   some false
  else
   (F130 w 0).bind fun v6 =>
   bif fewE v6.2 then
    bif (v6.2.length : Int) == (w.V.length : Int) then
     (F132 w.V v6.1).bind fun v7 =>
     some (!v7)
    else
     some false
   else none
set_option maxRecDepth 100000 in
theorem c89 {c : Cf} {w : Vw} {r_ : Bool} (hr : F89 c w = some r_) : LPure Tryz.prog 17 [cfP c, vwP w] [.bool r_] := by
 refine LPure.start Tryz.func17 Z Z Z Z ?_
 unfold F89 at hr
 refine zQ (zR (zS Z Z Z (LOp.box Z Z Z Z Z) (zS Z Z Z (LOp.box Z Z Z Z Z) (zM Z (zN (zT (zQ ?_)))))))
 obtain ⟨v1, hb_v1, ho_v1⟩ := zB hr
 clear hr
 refine LW.cut (E := [(2, .ptr 0 0), (3, .ptr 1 0), (4, .p (.bool false)), (28, .p (.bool v1))]) (O := [.box [.p (.slice 1 (c.W.map i64P)), .p (.int .u64 c.Seed), .p (.int .i64 c.Epoch), .p (.int .i64 c.Num), .p (.int .i64 c.Den)], .box [.p (.slice 5 (w.B.map blkP)), .p (.slice 4 (w.V.map vtP))]]) ?_ ?_
 ·have hr := hb_v1
  refine zR (zS Z Z Z (zD Z Z Z vt55 Z Z) (zb hr fun v2 h_v2 hr => zS Z Z Z (zC Z Z Z (by kernel_rfl) (LC.pure (c64 h_v2) (.cons Conv.p .nil))) (zS Z Z Z (LOp.not Z Z) (zM Z ?_))))
  refine LOps.cases 11 Z (fun g1 => ?_) (fun g1 => ?_)
  ·
   refine zi g1 hr fun hr => zU Z Z Z (gd g1 Z) Z Z (zU Z Z Z (gd g1 Z) Z Z (zU Z Z Z (gd g1 Z) Z Z (zU Z Z Z (gd g1 Z) Z Z (zS Z Z Z (LOp.pickT Z (gdl g1 Z) Z) (zM Z (zU Z Z Z Z Z Z (zU Z Z Z Z Z Z (zU Z Z Z Z Z Z (zU Z Z Z Z Z Z (zS Z Z Z (LOp.pickT Z Z Z) (zM Z (zU Z Z Z Z Z Z (zU Z Z Z Z Z Z (zU Z Z Z Z Z Z (zU Z Z Z Z Z Z (zS Z Z Z (LOp.pickT Z Z Z) (zN (zT ?_))))))))))))))))))
   obtain rfl := zJ hr
   exact zW 2 ⟨Z, Z, Z, Z, trivial⟩ Z Z Z Z
  ·
   refine zo g1 hr fun hr => zV Z Z Z (gd g1 Z) Z (zA Z Z ft75_0) (zV Z Z Z (gd g1 Z) Z (zD Z Z Z vt27 Z Z) (zb hr fun v3 h_v3 hr => zV Z Z Z (gd g1 Z) Z (zC Z Z Z (by kernel_rfl) (LC.pure (c52 h_v3) (.cons Conv.p .nil))) (zV Z Z Z (gd g1 Z) Z (LOp.not Z Z) (zS Z Z Z (LOp.pickF Z (gdl g1 Z) Z) (zM Z ?_)))))
   refine LOps.cases 17 Z (fun g2 => ?_) (fun g2 => ?_)
   ·
    refine zi g2 hr fun hr => zU Z Z Z (gd g2 Z) Z Z (zU Z Z Z (gd g2 Z) Z Z (zU Z Z Z (gd g2 Z) Z Z (zU Z Z Z (gd g2 Z) Z Z (zS Z Z Z (LOp.pickT Z (gdl g2 Z) Z) (zM Z (zU Z Z Z Z Z Z (zU Z Z Z Z Z Z (zU Z Z Z Z Z Z (zU Z Z Z Z Z Z (zS Z Z Z (LOp.pickT Z Z Z) (zN (zT ?_))))))))))))
    obtain rfl := zJ hr
    exact zW 2 ⟨Z, Z, Z, Z, trivial⟩ Z Z Z Z
   ·
    refine zo g2 hr fun hr => zV Z Z Z (gd g2 Z) Z (zA Z Z ft75_0) (zV Z Z Z (gd g2 Z) Z (zD Z Z Z vt27 Z Z) (zV Z Z Z (gd g2 Z) Z (LOp.lenM Z Z (by kernel_rfl)) (zV Z Z Z (gd g2 Z) Z (LOp.bin Z Z Z Z) (zS Z Z Z (LOp.pickF Z (gdl g2 Z) Z) (zM Z ?_)))))
    refine LOps.cases 23 Z (fun g3 => ?_) (fun g3 => ?_)
    ·
     refine zi g3 hr fun hr => zU Z Z Z (gd g3 Z) Z Z (zU Z Z Z (gd g3 Z) Z Z (zU Z Z Z (gd g3 Z) Z Z (zU Z Z Z (gd g3 Z) Z Z (zS Z Z Z (LOp.pickT Z (gdl g3 Z) Z) (zN (zT ?_))))))
     obtain rfl := zJ hr
     exact zW 2 ⟨Z, Z, Z, Z, trivial⟩ Z Z Z Z
    ·
     refine zo g3 hr fun hr => zV Z Z Z (gd g3 Z) Z (zA Z Z ft75_1) (zV Z Z Z (gd g3 Z) Z (zD Z Z Z vt68 Z Z) (zV Z Z Z (gd g3 Z) Z (LOp.lenM Z Z (by kernel_rfl)) (zV Z Z Z (gd g3 Z) Z (LOp.bin Z Z Z Z) (zS Z Z Z (LOp.pickF Z (gdl g3 Z) Z) (zN (zT ?_))))))
     obtain rfl := zJ hr
     exact zW 2 ⟨Z, Z, Z, Z, trivial⟩ Z Z Z Z
 ·have hr := ho_v1
  clear hb_v1
  refine zX Z (fun g4 => ?_) (fun g4 => ?_)
  ·
   refine zi g4 hr fun hr => zQ (zR (zM Z (zN (zT (LW.ret (thn_r ?_))))))
   obtain rfl := zJ hr
   refine finP_ret (.one (.tmp Z)) ?_
   exact Conv.p
  ·
   refine zo g4 hr fun hr => LW.skip (zT (zQ (zR (zS Z Z Z (zD Z Z Z vt55 Z Z) (zS Z Z Z (zD Z Z Z vt75 Z Z) (zb hr fun v4 h_v4 hr => zS Z Z Z (zC Z Z Z (by kernel_rfl) (LC.pure (c85 h_v4) (.cons Conv.p (.cons Conv.p .nil)))) (zS Z Z Z (LOp.alloc Z zt75 Z Z) (zS Z Z Z (LOp.store Z Z Z Z vt75 Z Z Z Z) (zN (zT (zQ ?_)))))))))))
   obtain ⟨v5, hb_v5, ho_v5⟩ := zB hr
   clear hr
   refine LW.cut (E := [(3, .ptr 1 0), (4, .p (.bool false)), (47, .p (.bool v5))]) (O := [.box [.p (.slice 1 (c.W.map i64P)), .p (.int .u64 c.Seed), .p (.int .i64 c.Epoch), .p (.int .i64 c.Num), .p (.int .i64 c.Den)], .box [.p (.slice 5 (w.B.map blkP)), .p (.slice 4 (w.V.map vtP))], .box [.p (.slice 5 (v4.B.map blkP)), .p (.slice 4 (v4.V.map vtP))]]) ?_ ?_
   ·have hr := hb_v5
    refine zR (zS Z Z Z (zA Z Z ft75_0) (zS Z Z Z (zD Z Z Z vt27 Z Z) (zS Z Z Z (LOp.lenM Z Z (by kernel_rfl)) (zS Z Z Z (zA Z Z ft75_0) (zS Z Z Z (zD Z Z Z vt27 Z Z) (zS Z Z Z (LOp.lenM Z Z (by kernel_rfl)) (zS Z Z Z (LOp.bin Z Z Z Z) (zM Z ?_))))))))
    refine LOps.cases 39 Z (fun g5 => ?_) (fun g5 => ?_)
    ·
     refine zi g5 hr fun hr => zU Z Z Z (gd g5 Z) Z Z (zU Z Z Z (gd g5 Z) Z Z (zU Z Z Z (gd g5 Z) Z Z (zU Z Z Z (gd g5 Z) Z Z (zU Z Z Z (gd g5 Z) Z Z (zU Z Z Z (gd g5 Z) Z Z (zU Z Z Z (gd g5 Z) Z Z (zS Z Z Z (LOp.pickT Z (gdl g5 Z) Z) (zN (zT ?_)))))))))
     obtain rfl := zJ hr
     exact zW 3 ⟨Z, Z, Z, trivial⟩ Z Z Z Z
    ·
     refine zo g5 hr fun hr => zV Z Z Z (gd g5 Z) Z (zA Z Z ft75_1) (zV Z Z Z (gd g5 Z) Z (zD Z Z Z vt68 Z Z) (zV Z Z Z (gd g5 Z) Z (LOp.lenM Z Z (by kernel_rfl)) (zV Z Z Z (gd g5 Z) Z (zA Z Z ft75_1) (zV Z Z Z (gd g5 Z) Z (zD Z Z Z vt68 Z Z) (zV Z Z Z (gd g5 Z) Z (LOp.lenM Z Z (by kernel_rfl)) (zV Z Z Z (gd g5 Z) Z (LOp.bin Z Z Z Z) (zS Z Z Z (LOp.pickF Z (gdl g5 Z) Z) (zN (zT ?_)))))))))
     obtain rfl := zJ hr
     exact zW 3 ⟨Z, Z, Z, trivial⟩ Z Z Z Z
   ·have hr := ho_v5
    clear hb_v5
    refine zX Z (fun g6 => ?_) (fun g6 => ?_)
    ·
     refine zi g6 hr fun hr => zQ (zR (zM Z (zN (zT (LW.ret (thn_r ?_))))))
     obtain rfl := zJ hr
     refine finP_ret (.one (.tmp Z)) ?_
     exact Conv.p
    ·
     refine zo g6 hr fun hr => LW.skip (zT (zQ (zR (zS Z Z Z (zD Z Z Z vt75 Z Z) (zb hr fun v6 h_v6 hr => ?_)))))
     refine zS Z Z Z (zC Z Z Z (by kernel_rfl) (LC.frameX (x' := .ptr 8 0) (H' := [.box [.p (.slice 1 (c.W.map i64P)), .p (.int .u64 c.Seed), .p (.int .i64 c.Epoch), .p (.int .i64 c.Num), .p (.int .i64 c.Den)], .box [.p (.slice 5 (w.B.map blkP)), .p (.slice 4 (w.V.map vtP))], .box [.p (.slice 5 (v4.B.map blkP)), .p (.slice 4 (v4.V.map vtP))], .box [.p (.slice 5 (w.B.map blkP)), .p (.slice 4 (w.V.map vtP))], .vec 5 (w.B.map blkP), .vec 4 (w.V.map vtP), .map (entsOf idP (fun v => .p (.int .i64 v)) v6.1), .map (entsOf vtP (fun v => .p (.bool v)) v6.2), .box [.vec 5 4 (w.B.map blkP).length 0 (w.B.map blkP).length, .vec 4 5 (w.V.map vtP).length 0 (w.V.map vtP).length, .map 6, .map 7, .p (.int .i64 0), .p (.bool false)]]) (cF130 h_v6) (.consC Conv.p (.consC Conv.p .nil)) Z Z (by simp only [List.map_cons, List.map_nil, List.cons_append, List.nil_append, LObj.shift, LV.shifts, LV.shift, entsShI, entsShB] <;> rfl))) ?_
     refine zS Z Z Z (LOp.alloc Z zt145 Z Z) (zS Z Z Z (LOp.store Z Z Z Z vt145 Z Z Z Z) (zN (zT (zQ (LW.ent (Ent.kill (i := 0) Z) (LW.ent (Ent.kill (i := 2) Z) (LW.ent (Ent.kill (i := 3) Z) (LW.ent (Ent.kill (i := 4) Z) (LW.ent (Ent.kill (i := 5) Z) (zR (zS Z Z Z (LOp.makeFunc Z Z Z) (zM Z (zN (zT (zQ (LW.draw (by kernel_rfl) (by kernel_rfl) (zE Z Z Z (zD Z Z Z vt145 Z Z) (zE Z Z Z (LOp.nilCheck Z Z) (zE Z Z Z (zA Z Z ft149_2) (zE Z Z Z (zD Z Z Z vt147 Z Z) (zg hr fun q1 hr => zE Z Z Z (LOp.lenMapX Z Z Z (by kernel_rfl) q1) (zE Z Z Z (zA Z Z ft75_1) ?_))))))))))))))))))))))
     refine zE Z Z Z (zD Z Z Z vt68 Z Z) (zE Z Z Z (LOp.lenM Z Z (by kernel_rfl)) (zE Z Z Z (LOp.bin Z Z Z Z) (zH Z ?_)))
     refine LO.cases 60 Z (fun (g7 : ((v6.2.length : Int) == (w.V.length : Int)) = true) => ?_) (fun (g7 : ((v6.2.length : Int) == (w.V.length : Int)) = false) => ?_)
     ·
      refine zi g7 hr fun hr => LO.gd Z Z Z (gd g7 Z) Z (zA Z Z ft75_1) (LO.gd Z Z Z (gd g7 Z) Z (zD Z Z Z vt68 Z Z) (LO.gd Z Z Z (gd g7 Z) Z (LOp.move Z Z) (zb hr fun v7 h_v7 hr => LO.gd Z Z Z (gd g7 Z) Z (zC Z Z Z (by kernel_rfl) (cF132 h_v7)) (LO.gd Z Z Z (gd g7 Z) Z (LOp.not Z Z) (zE Z Z Z (LOp.pickT Z (gdl g7 Z) Z) (zH Z (LO.nil (zT (LW.ret ?_)))))))))
      obtain rfl := zJ hr
      refine finP_ret (.one (.tmp Z)) ?_
      exact Conv.p
     ·
      refine zo g7 hr fun hr => LO.sk Z Z Z (gd g7 Z) Z Z (LO.sk Z Z Z (gd g7 Z) Z Z (LO.sk Z Z Z (gd g7 Z) Z Z (LO.sk Z Z Z (gd g7 Z) Z Z (LO.sk Z Z Z (gd g7 Z) Z Z (zE Z Z Z (LOp.pickF Z (gdl g7 Z) Z) (zH Z (LO.nil (zT (LW.ret ?_)))))))))
      obtain rfl := zJ hr
      refine finP_ret (.one (.tmp Z)) ?_
      exact Conv.p
open Go.Proofs
structure F90_L1 where
 n : Int
 o6 : List Bk
 o7 : List Vt
 o8 : List (ID × Int)
 o9 : List (Vt × Bool)
 x_5 : Bool
 o14 : List Bk
 o15 : List Vt
 left_0 : Nat
 left_1 : Nat
def F90_s1 (slot : Int) (x1 : F90_L1) : Option (F90_L1 ⊕ F90_L1) :=
 bif x1.n != (IntKind.i64.wrap ((x1.o6.length : Int) + (x1.o7.length : Int))) then
  (F137 x1.o14 x1.left_0 x1.o6 x1.o8 slot x1.x_5).bind fun v5 =>
  (F138 x1.o15 x1.left_1 x1.o7 v5.2.2.2.1 x1.o9 slot v5.2.2.2.2).bind fun v6 =>
  some (.inl (F90_L1.mk (IntKind.i64.wrap ((x1.o6.length : Int) + (x1.o7.length : Int))) v5.2.2.1 v6.2.2.1 v5.2.2.2.1 v6.2.2.2.1 v6.2.2.2.2 v5.2.1 v6.2.1 v5.1 v6.1))
 else
  some (.inr (F90_L1.mk x1.n x1.o6 x1.o7 x1.o8 x1.o9 x1.x_5 x1.o14 x1.o15 x1.left_0 x1.left_1))
def F90 (c : Cf) (w : Vw) (v_in : Vw) (slot : Int) : Option (Vw × Vw × Bool) :=
 (F130 w slot).bind fun v1 =>
 (F89 c w).bind fun v2 =>
 bif !v2 then
  bif room 0 v_in.B.length 40 then
   bif room 0 v_in.V.length 32 then
    some (w, v_in, false)
   else none
  else none
 else
  (F85V c v_in).bind fun v3 =>
  (iter (F90_s1 slot) big (F90_L1.mk (-1) w.B w.V v1.1 v1.2 false v3.1 v3.2 ((v3.1.map blkP).length) ((v3.2.map vtP).length))).bind fun v4 =>
  bif Nat.ble v4.left_0 v4.o14.length then
   bif Nat.ble v4.left_1 v4.o15.length then
    some (Vw.mk v4.o6 v4.o7, Vw.mk (v4.o14.take v4.left_0) (v4.o15.take v4.left_1), v4.x_5)
   else none
  else none
set_option maxRecDepth 100000 in
theorem c90 {c : Cf} {w : Vw} {v_in : Vw} {slot : Int} {r_ : Vw × Vw × Bool} (hr : F90 c w v_in slot = some r_) : LPure Tryz.prog 126 [cfP c, vwP w, vwP v_in, .int .i64 slot] [vwP r_.1, vwP r_.2.1, .bool r_.2.2] := by
 refine LPure.start Tryz.func126 Z Z Z Z ?_
 unfold F90 at hr
 refine zQ (zR (zS Z Z Z (LOp.box Z Z Z Z Z) (zS Z Z Z (LOp.box Z Z Z Z Z) (zS Z Z Z (LOp.box Z Z Z Z Z) (zS Z Z Z (LOp.alloc Z zt75 Z Z) (zS Z Z Z (LOp.alloc Z zt75 Z Z) (zM Z (zN (zT (zQ (zR (zS Z Z Z (zD Z Z Z vt75 Z Z) (zM Z (zb hr fun v1 h_v1 hr => ?_))))))))))))))
 refine zS Z Z Z (zC Z Z Z (by kernel_rfl) (LC.frameX (x' := .ptr 10 0) (H' := [.box [.p (.slice 1 (c.W.map i64P)), .p (.int .u64 c.Seed), .p (.int .i64 c.Epoch), .p (.int .i64 c.Num), .p (.int .i64 c.Den)], .box [.p (.slice 5 (w.B.map blkP)), .p (.slice 4 (w.V.map vtP))], .box [.p (.slice 5 (v_in.B.map blkP)), .p (.slice 4 (v_in.V.map vtP))], .box [.zs, .zs], .box [.zs, .zs], .box [.p (.slice 5 (w.B.map blkP)), .p (.slice 4 (w.V.map vtP))], .vec 5 (w.B.map blkP), .vec 4 (w.V.map vtP), .map (entsOf idP (fun v => .p (.int .i64 v)) v1.1), .map (entsOf vtP (fun v => .p (.bool v)) v1.2), .box [.vec 5 6 (w.B.map blkP).length 0 (w.B.map blkP).length, .vec 4 7 (w.V.map vtP).length 0 (w.V.map vtP).length, .map 8, .map 9, .p (.int .i64 slot), .p (.bool false)]]) (cF130 h_v1) (.consC Conv.p (.consC Conv.p .nil)) Z Z (by simp only [List.map_cons, List.map_nil, List.cons_append, List.nil_append, LObj.shift, LV.shifts, LV.shift, entsShI, entsShB] <;> rfl))) ?_
 refine zM Z (zN (zT (zQ (zQ (zR (zS Z Z Z (zD Z Z Z vt55 Z Z) (zS Z Z Z (zD Z Z Z vt75 Z Z) (zb hr fun v2 h_v2 hr => zS Z Z Z (zC Z Z Z (by kernel_rfl) (LC.pure (c89 h_v2) (.cons Conv.p (.cons Conv.p .nil)))) (zS Z Z Z (LOp.not Z Z) (zN (zT ?_)))))))))))
 refine zX Z (fun g1 => ?_) (fun g1 => ?_)
 ·
  refine zi g1 hr fun hr => zQ (LW.ent (Ent.slot Z) (LW.ent (Ent.slot Z) (LW.drawW (by kernel_rfl) (by kernel_rfl) (zK Z ?_))))
  refine zF (F := []) (s := none) Z Z Z (fun H _ => LOp.nilCheck Z Z) Z ?_
  refine zF (F := []) (s := none) Z Z Z (fun H _ => zA Z Z ft149_0) Z ?_
  refine zF Z Z Z (LAt.load Z Z Z vt75 Z Z) Z ?_
  refine zF (F := []) (s := none) Z Z Z (fun H _ => zA Z Z ft75_0) Z ?_
  refine zF Z Z Z (LAt.load Z Z Z vt27 Z Z) Z (zg hr fun q1 hr => ?_)
  refine zF Z Z Z (LAt.callV (id := 11) (qs := [.p (.slice 5 (v_in.B.map blkP))]) Z Z Z (by kernel_rfl) (c133V q1) (fun H => (.consC Conv.p .nil)) Z) Z ?_
  refine zF (F := []) (s := none) Z Z Z (fun H _ => zA Z Z ft75_1) Z ?_
  refine zF Z Z Z (LAt.load Z Z Z vt68 Z Z) Z (zg hr fun q2 hr => ?_)
  refine zF Z Z Z (LAt.callV (id := 12) (qs := [.p (.slice 4 (v_in.V.map vtP))]) Z Z Z (by kernel_rfl) (c134V q2) (fun H => (.consC Conv.p .nil)) Z) Z ?_
  refine zF (F := []) (s := none) Z Z Z (fun H _ => LOp.build Z bt75 Z Z Z) Z ?_
  refine zF Z Z Z (LAt.store Z Z Z Z vt75 Z Z Z) Z (zF Z Z Z (LAt.store Z Z Z Z vt75 Z Z Z) Z (zK Z ?_))
  refine LF.nil ⟨by kernel_rfl, ?_⟩
  refine zT (LW.ret (thn_r ?_))
  obtain rfl := zJ hr
  refine finP_ret (.three (.cellAgg Z Z (by kernel_rfl) Z) (.cellAgg Z Z (by kernel_rfl) Z) (.tmp Z)) ?_
  exact ⟨_, rfl, (.cons (Conv.agg (.cons (Conv.vecAll Z Z Z) (.cons (Conv.vecAll Z Z Z) .nil))) (.cons (Conv.agg (.cons (Conv.vecAll Z Z Z) (.cons (Conv.vecAll Z Z Z) .nil))) (.cons Conv.p .nil)))⟩
 ·
  refine zo g1 hr fun hr => LW.skip (zT (zQ (zR (zM Z (zS Z Z Z (LOp.makeFunc Z Z Z) (zM Z (zS Z Z Z (LOp.makeFunc Z Z Z) (zM Z (zM Z (zN (zT (zQ (zR (zS Z Z Z (zD Z Z Z vt55 Z Z) (zS Z Z Z (zD Z Z Z vt75 Z Z) (zb hr fun v3 h_v3 hr => ?_))))))))))))))))
  refine zS Z Z Z (zC Z Z Z (by kernel_rfl) (LC.frameX (x' := .agg [.vec 5 14 (v3.1.map blkP).length 0 (v3.1.map blkP).length, .vec 4 15 (v3.2.map vtP).length 0 (v3.2.map vtP).length]) (H' := [.box [.p (.slice 1 (c.W.map i64P)), .p (.int .u64 c.Seed), .p (.int .i64 c.Epoch), .p (.int .i64 c.Num), .p (.int .i64 c.Den)], .box [.p (.slice 5 (w.B.map blkP)), .p (.slice 4 (w.V.map vtP))], .box [.p (.slice 5 (v_in.B.map blkP)), .p (.slice 4 (v_in.V.map vtP))], .box [.zs, .zs], .box [.zs, .zs], .box [.p (.slice 5 (w.B.map blkP)), .p (.slice 4 (w.V.map vtP))], .vec 5 (w.B.map blkP), .vec 4 (w.V.map vtP), .map (entsOf idP (fun v => .p (.int .i64 v)) v1.1), .map (entsOf vtP (fun v => .p (.bool v)) v1.2), .box [.vec 5 6 (w.B.map blkP).length 0 (w.B.map blkP).length, .vec 4 7 (w.V.map vtP).length 0 (w.V.map vtP).length, .map 8, .map 9, .p (.int .i64 slot), .p (.bool false)], .box [.p (.slice 1 (c.W.map i64P)), .p (.int .u64 c.Seed), .p (.int .i64 c.Epoch), .p (.int .i64 c.Num), .p (.int .i64 c.Den)], .box [.p (.slice 5 (v_in.B.map blkP)), .p (.slice 4 (v_in.V.map vtP))], .box [.vec 5 14 (v3.1.map blkP).length 0 (v3.1.map blkP).length, .vec 4 15 (v3.2.map vtP).length 0 (v3.2.map vtP).length], .vec 5 (v3.1.map blkP), .vec 4 (v3.2.map vtP)]) (cF85V h_v3) (.consC Conv.p (.consC Conv.p .nil)) Z Z (by simp only [List.map_cons, List.map_nil, List.cons_append, List.nil_append, LObj.shift, LV.shifts, LV.shift] <;> rfl))) ?_
  refine zS Z Z Z (LOp.alloc Z zt75 Z Z) (zS Z Z Z (LOp.store Z Z Z Z vt75 Z Z Z Z) (zN (zT (zQ (zQ (LW.ent (Ent.kill (i := 0) Z) (LW.ent (Ent.kill (i := 1) Z) (LW.ent (Ent.kill (i := 2) Z) (LW.ent (Ent.kill (i := 5) Z) (LW.ent (Ent.kill (i := 11) Z) (LW.ent (Ent.kill (i := 12) Z) (LW.ent (Ent.kill (i := 13) Z) (zR (zM Z (zN (zT ?_))))))))))))))))
  obtain ⟨v4, hb_v4, ho_v4⟩ := zB hr
  clear hr
  refine LW.tail (E := [(8, .ptr 3 0), (9, .ptr 4 0), (10, .p (.bool false)), (11, .ptr 10 0), (14, .ptr 16 0)]) (O := [.dead, .dead, .dead, .box [.zs, .zs], .box [.zs, .zs], .dead, .vec 5 (v4.o6.map blkP), .vec 4 (v4.o7.map vtP), .map (entsOf idP (fun v => .p (.int .i64 v)) v4.o8), .map (entsOf vtP (fun v => .p (.bool v)) v4.o9), .box [.vec 5 6 (v4.o6.map blkP).length 0 (v4.o6.map blkP).length, .vec 4 7 (v4.o7.map vtP).length 0 (v4.o7.map vtP).length, .map 8, .map 9, .p (.int .i64 slot), .p (.bool v4.x_5)], .dead, .dead, .dead, .vec 5 (v4.o14.map blkP), .vec 4 (v4.o15.map vtP), .box [.vec 5 14 (v4.o14.map blkP).length 0 v4.left_0, .vec 4 15 (v4.o15.map vtP).length 0 v4.left_1]]) ?_ (fun env_v4 H_v4 hw_v4 => ?_)
  ·refine LW.block ?_
   refine LW.iterB (E := fun x1 : F90_L1 => [(8, .ptr 3 0), (9, .ptr 4 0), (10, .p (.bool false)), (11, .ptr 10 0), (12, .fn 153 [.ptr 10 0] []), (13, .fn 154 [.ptr 10 0] []), (14, .ptr 16 0), (15, .p (.int .i64 x1.n))]) (O := fun x1 => [.dead, .dead, .dead, .box [.zs, .zs], .box [.zs, .zs], .dead, .vec 5 (x1.o6.map blkP), .vec 4 (x1.o7.map vtP), .map (entsOf idP (fun v => .p (.int .i64 v)) x1.o8), .map (entsOf vtP (fun v => .p (.bool v)) x1.o9), .box [.vec 5 6 (x1.o6.map blkP).length 0 (x1.o6.map blkP).length, .vec 4 7 (x1.o7.map vtP).length 0 (x1.o7.map vtP).length, .map 8, .map 9, .p (.int .i64 slot), .p (.bool x1.x_5)], .dead, .dead, .dead, .vec 5 (x1.o14.map blkP), .vec 4 (x1.o15.map vtP), .box [.vec 5 14 (x1.o14.map blkP).length 0 x1.left_0, .vec 4 15 (x1.o15.map vtP).length 0 x1.left_1]]) hb_v4 (zW 17 ⟨rfl, rfl, rfl, rfl, rfl, rfl, rfl, rfl, trivial⟩ Z Z Z (zL Z (zL Z (zL Z (zL Z (zL Z (zL Z (zL Z (zL Z (zL (entsLow (fun _ => rfl) _) (zL (entsLow (fun _ => rfl) _) (zL Z (zL Z (zL Z (zL Z (zL Z (zL Z (zL Z Z)))))))))))))))))) (fun x1 z_x1 hr hb_x1 => ?_)
   unfold F90_s1 at hr
   refine zQ (zQ (LW.draw (by kernel_rfl) (by kernel_rfl) (zH Z (zH Z (zE Z Z Z (LOp.nilCheck Z Z) (zE Z Z Z (zA Z Z ft149_0) (zE Z Z Z (zA Z Z ft75_0) (zE Z Z Z (zD Z Z Z vt27 Z Z) (zE Z Z Z (LOp.lenVM Z Z Z (by kernel_rfl)) (zH Z (zE Z Z Z (LOp.nilCheck Z Z) (zE Z Z Z (zA Z Z ft149_0) (zE Z Z Z (zA Z Z ft75_1) (zE Z Z Z (zD Z Z Z vt68 Z Z) (zE Z Z Z (LOp.lenVM Z Z Z (by kernel_rfl)) (zE Z Z Z (LOp.bin Z Z Z Z) (zE Z Z Z (LOp.bin Z Z Z Z) (LO.nil (zT ?_)))))))))))))))))))
   refine zX Z (fun g2 => ?_) (fun g2 => ?_)
   ·
    refine zi g2 hr fun hr => LW.skip (zT (LW.block (zQ (LW.draw (by kernel_rfl) (by kernel_rfl) (zH Z (zE Z Z Z (LOp.nilCheck Z Z) (zE Z Z Z (zA Z Z ft149_0) (zE Z Z Z (zA Z Z ft75_0) (zE Z Z Z (zD Z Z Z vt27 Z Z) (zE Z Z Z (LOp.lenVM Z Z Z (by kernel_rfl)) (zH Z (zE Z Z Z (LOp.nilCheck Z Z) (zE Z Z Z (zA Z Z ft149_0) (zE Z Z Z (zA Z Z ft75_1) (zE Z Z Z (zD Z Z Z vt68 Z Z) (zE Z Z Z (LOp.lenVM Z Z Z (by kernel_rfl)) (zE Z Z Z (LOp.bin Z Z Z Z) (zH Z (LO.nil (zT (zQ (zR ?_))))))))))))))))))))))
    refine zS Z Z Z (zA Z Z ft75_0) (zS Z Z Z (zD Z Z Z vt27 Z Z) (zM Z (zb hr fun v5 h_v5 hr => zS Z Z Z (zC Z Z Z (by kernel_rfl) (cF137 h_v5)) (zS Z Z Z (zA Z Z ft75_0) (zS Z Z Z (LOp.store Z Z Z Z vt27 Z Z Z Z) (zN (zT (zR (zS Z Z Z (zA Z Z ft75_1) (zS Z Z Z (zD Z Z Z vt68 Z Z) (zM Z (zb hr fun v6 h_v6 hr => zS Z Z Z (zC Z Z Z (by kernel_rfl) (cF138 h_v6)) (zS Z Z Z (zA Z Z ft75_1) (zS Z Z Z (LOp.store Z Z Z Z vt68 Z Z Z Z) (zN (inBlk_n (zT ?_)))))))))))))))))
    obtain rfl := zJ hr
    exact ⟨_, rfl, zW 17 ⟨rfl, rfl, rfl, rfl, rfl, rfl, rfl, rfl, trivial⟩ Z Z Z (zL Z (zL Z (zL Z (zL Z (zL Z (zL Z (zL Z (zL Z (zL (entsLow (fun _ => rfl) _) (zL (entsLow (fun _ => rfl) _) (zL Z (zL Z (zL Z (zL Z (zL Z (zL Z (zL Z Z)))))))))))))))))⟩
   ·
    refine zo g2 hr fun hr => LW.exit (thn_e (thn_e (inBlk_self (zT ?_))))
    obtain rfl := zJ hr
    have hr := congrArg some (hb_x1 _ rfl)
    obtain rfl := zJ hr
    exact zW 17 ⟨Z, Z, Z, Z, Z, trivial⟩ Z Z Z (zL Z (zL Z (zL Z (zL Z (zL Z (zL Z (zL Z (zL Z (zL (entsLow (fun _ => rfl) _) (zL (entsLow (fun _ => rfl) _) (zL Z (zL Z (zL Z (zL Z (zL Z (zL Z (zL Z Z)))))))))))))))))
  ·have hr := ho_v4
   clear hb_v4
   refine zT (LW.weak hw_v4 (zQ (LW.drawW (by kernel_rfl) (by kernel_rfl) (zK Z ?_))))
   refine zF (F := []) (s := none) Z Z Z (fun H _ => LOp.nilCheck Z Z) Z ?_
   refine zF (F := []) (s := none) Z Z Z (fun H _ => zA Z Z ft149_0) Z ?_
   refine zF Z Z Z (LAt.load Z Z Z vt75 Z Z) Z (zg hr fun q3 hr => zg hr fun q4 hr => zF Z Z Z (LAt.load Z Z Z vt75 Z Z) Z (zK Z ?_))
   refine zF (F := []) (s := none) Z Z Z (fun H _ => LOp.nilCheck Z Z) Z ?_
   refine zF (F := []) (s := none) Z Z Z (fun H _ => zA Z Z ft149_4) Z ?_
   refine zF Z Z Z (LAt.load Z Z Z vt4 Z Z) Z (zF Z Z Z (LAt.store Z Z Z Z vt75 Z Z Z) Z (zF Z Z Z (LAt.store Z Z Z Z vt75 Z Z Z) Z (zK Z ?_)))
   refine LF.nil ⟨by kernel_rfl, ?_⟩
   refine zT (LW.ret ?_)
   obtain rfl := zJ hr
   refine finP_ret (.three (.cellAgg Z Z (by kernel_rfl) Z) (.cellAgg Z Z (by kernel_rfl) Z) (.tmp Z)) ?_
   exact ⟨_, rfl, (.cons (Conv.agg (.cons (Conv.vecAll Z Z Z) (.cons (Conv.vecAll Z Z Z) .nil))) (.cons (Conv.agg (.cons (Conv.vecTake Z q3) (.cons (Conv.vecTake Z q4) .nil))) (.cons Conv.p .nil)))⟩
end Go.Mg
