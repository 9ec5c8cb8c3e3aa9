/- Plain laws of views: lists of blocks and votes, and what may be at all. Laws of trees. TreeKids, TreeMore: plain. view.May. Plain laws of views: which views may be. view.Take. Plain laws of views: what is taken. Plain laws of views: what is taken, as the program does it. Plain laws of views: votes that are taken, as the program does it. Plain laws of views: view.Take. Plain laws of views: what holds of what is taken. Laws of views. The laws of views' example. Laws of views. Laws of views: ViewOnly, ViewJoin. Laws of views. Laws of views. Laws of views: ViewMay, ViewKeeps. Plain laws of views: what is counted, as a set. The votes of a committee, and the head by them, plain. Products of numbers. Parts of a committee. Products compared, plain. Plain laws of committees in parts. Chains and heads by what blocks there are, whatever their order. Conditions: none. -/
import Derived.Test.YtbjmcafamkdokaaGreatX6
import Derived.Test.YtbjmcafamkdokaaGreatX5
import Derived.Test.YtbjmcafamkdokaaGreatX3
set_option maxRecDepth 100000
set_option linter.unusedSimpArgs false
set_option linter.unusedVariables false
namespace Go.Mg
def cv {R : Type} (f : Nat → Option R) : Nat → Nat → Option R
 | _, 0 => none
 | k, d + 1 => match f k with
  | some r => some r
  | none => cv f (k + 1) d
theorem fI {R : Type} {f : Nat → Option R} : ∀ {d k : Nat}, cv f k d = none ↔ ∀ j, k ≤ j → j < k + d → f j = none
 | 0, k => ⟨fun _ j h1 h2 => by omega, fun _ => rfl⟩
 | d + 1, k => by
  unfold cv
  cases h : f k with
  | some r => exact ⟨fun h => (by cases h), fun h2 => (by rw [h2 k (Nat.le_refl _) (by omega)] at h; cases h)⟩
  | none =>
   rw [fI (k := k + 1)];refine ⟨fun h2 j h3 h4 => ?_, fun h2 j h3 h4 => h2 j (by omega) (by omega)⟩;by_cases e : j = k
   ·subst e; exact h
   ·exact h2 j (by omega) (by omega)
theorem dI {R : Type} {f : Nat → Option R} {r : R} : ∀ {d k : Nat}, cv f k d = some r → ∃ j, k ≤ j ∧ j < k + d ∧ f j = some r ∧ ∀ i, k ≤ i → i < j → f i = none
 | 0, k, h => by cases h
 | d + 1, k, h => by
  unfold cv at h
  cases hk : f k with
  | some q =>
   rw [hk] at h;cases h;exact ⟨k, Nat.le_refl _, by omega, hk, fun i h1 h2 => by omega⟩
  | none =>
   rw [hk] at h;obtain ⟨j, h1, h2, h3, h4⟩ := dI h;refine ⟨j, by omega, by omega, h3, fun i h5 h6 => ?_⟩;by_cases e : i = k
   ·subst e; exact hk
   ·exact h4 i (by omega) h6
def lQ {S R : Type} (s : S) : Option R → S ⊕ R
 | some r => .inr r
 | none => .inl s
theorem eN {S R : Type} {step : S → Option (S ⊕ (S ⊕ R))} {n : Nat} (mk : Nat → S) (f : Nat → Option R) (hs : ∀ j, j < n → step (mk j) = match f j with | some r => some (.inr (.inr r)) | none => some (.inl (mk (j + 1))))
  (he : step (mk n) = some (.inr (.inl (mk n)))) (hn : n < 4000000000000000000) : iter step bD (mk 0) = some (lQ (mk n) (cv f 0 n)) := by
 have key : ∀ (d k q : Nat), k + d = n → d < q → iter step q (mk k) = some (lQ (mk n) (cv f k d)) := by
  intro d
  induction d with
  | zero =>
   intro k q hk hq;obtain ⟨q, rfl⟩ : ∃ p, q = p + 1 := ⟨q - 1, by omega⟩
   obtain rfl : k = n := by omega
   exact eh he
  | succ d ih =>
   intro k q hk hq;obtain ⟨q, rfl⟩ : ∃ p, q = p + 1 := ⟨q - 1, by omega⟩;have h1 := hs k (by omega);unfold cv
   cases hf : f k with
   | some r =>
    rw [hf] at h1;exact eh h1
   | none =>
    rw [hf] at h1;rw [lF h1];exact ih (k + 1) q (by omega) (by omega)
 exact key n 0 bD (by omega) (dy hn)
def fe {α : Type} [DecidableEq α] (l : List α) (v : α) (j : Nat) : Option Int := if l[j]? = some v then some (j : Int) else none
theorem kK {α : Type} [DecidableEq α] {l : List α} {v : α} : (cv (fe l v) 0 l.length).isSome = decide (v ∈ l) := by
 cases h : cv (fe l v) 0 l.length with
 | none =>
  rw [fI] at h;refine (decide_eq_false fun hm => ?_).symm;obtain ⟨j, hj⟩ := List.getElem?_of_mem hm;have := h j (Nat.zero_le _) (by have := (List.getElem?_eq_some_iff.1 hj).1; omega);unfold fe at this;rw [if_pos hj] at this;cases this
 | some r =>
  obtain ⟨j, -, -, h3, -⟩ := dI h;refine (decide_eq_true ?_).symm;unfold fe at h3;split at h3
  ·rename_i e; exact List.mem_of_getElem? e
  ·cases h3
theorem qS {α : Type} [DecidableEq α] {l : List α} {v : α} {n : Nat} {r : Int} (h : cv (fe l v) 0 n = some r) : 0 ≤ r := by
 obtain ⟨j, -, -, h3, -⟩ := dI h;unfold fe at h3;split at h3
 ·cases h3; omega
 ·cases h3
theorem yb {l : List Bk} (hl : l.length ≤ 100000) (v : Bk) : Aa l v = some (decide (v ∈ l)) := by
 have e := eN (step := ln l v) (n := l.length) (fun k => ft.mk (k : Int)) (fe l v) (fun j hj => by
  obtain ⟨y, hy, -⟩ := aE hj;unfold ln fe;simp only;rw [decide_eq_true (show (j : Int) < (l.length : Int) by omega), ct, aH hy, ob, LB, aj (n := j) (by omega), hy];by_cases h : v = y
  ·rw [decide_eq_true h, ct, if_pos (by rw [h])]
  ·rw [decide_eq_false h, cf, if_neg (fun e => h (Option.some.inj e).symm)]) (by
  unfold ln;simp only
  rw [decide_eq_false (show ¬ (l.length : Int) < (l.length : Int) by omega), cf]) (by omega)
 unfold Aa EL;rw [← kK];have e' : iter (ln l v) bD (ft.mk 0) = some (lQ (ft.mk (l.length : Int)) (cv (fe l v) 0 l.length)) := e;rw [e', ob]
 cases h : cv (fe l v) 0 l.length with
 | none => rw [lQ, sl, ob]; rfl
 | some r => rw [lQ, sr, ob, decide_eq_true (qS h)]; rfl
theorem yc {l : List Vt} (hl : l.length ≤ 100000) (v : Vt) : Ab l v = some (decide (v ∈ l)) := by
 have e := eN (step := lp l v) (n := l.length) (fun k => fu.mk (k : Int)) (fe l v) (fun j hj => by
  obtain ⟨y, hy, -⟩ := aE hj;unfold lp fe;simp only;rw [decide_eq_true (show (j : Int) < (l.length : Int) by omega), ct, aH hy, ob, LD, aj (n := j) (by omega), hy];by_cases h : v = y
  ·rw [decide_eq_true h, ct, if_pos (by rw [h])]
  ·rw [decide_eq_false h, cf, if_neg (fun e => h (Option.some.inj e).symm)]) (by
  unfold lp;simp only
  rw [decide_eq_false (show ¬ (l.length : Int) < (l.length : Int) by omega), cf]) (by omega)
 unfold Ab EM;rw [← kK];have e' : iter (lp l v) bD (fu.mk 0) = some (lQ (fu.mk (l.length : Int)) (cv (fe l v) 0 l.length)) := e;rw [e', ob]
 cases h : cv (fe l v) 0 l.length with
 | none => rw [lQ, sl, ob]; rfl
 | some r => rw [lQ, sr, ob, decide_eq_true (qS h)]; rfl
section
variable {α : Type} [DecidableEq α]
def cP (a : List α) : List α → List α
 | [] => a
 | x :: r => cP (if x ∈ a then a else a ++ [x]) r
theorem mJ (x : α) : ∀ (b a : List α), cP a (b ++ [x]) = if x ∈ cP a b then cP a b else cP a b ++ [x]
 | [], _ => rfl
 | _ :: r, _ => mJ x r _
theorem fr (x : α) : ∀ (b a : List α), x ∈ cP a b ↔ x ∈ a ∨ x ∈ b
 | [], a => by simp [cP]
 | y :: r, a => by
  unfold cP;rw [fr x r];by_cases h : y ∈ a
  ·rw [if_pos h, List.mem_cons];exact ⟨fun h2 => h2.elim .inl (fun h3 => .inr (.inr h3)), fun h2 => h2.elim .inl fun h3 => h3.elim (fun e => .inl (e ▸ h)) .inr⟩
  ·rw [if_neg h, List.mem_append, List.mem_singleton, List.mem_cons, or_assoc]
theorem db : ∀ (b a : List α), (cP a b).length ≤ a.length + b.length
 | [], a => by simp [cP]
 | y :: r, a => by
  unfold cP;have := db r (if y ∈ a then a else a ++ [y])
  have h2 : (if y ∈ a then a else a ++ [y]).length ≤ a.length + 1 := by split <;> simp
  simp only [List.length_cons]; omega
theorem fR : ∀ {b a : List α}, a.Nodup → (cP a b).Nodup
 | [], _, h => h
 | y :: r, a, h => by
  unfold cP;refine fR ?_;split
  ·exact h
  ·rename_i hn;rw [List.nodup_append];exact ⟨h, by simp, fun x hx z hz => by rw [List.mem_singleton] at hz; subst hz; exact fun e => hn (e ▸ hx)⟩
end
theorem ED {a b : List Bk} (h : a.length + b.length ≤ 90000) : BP a b = some (cP a b) := by
 unfold BP;rw [aL (by omega) (by omega), ct]
 have e := az (step := li b) (n := b.length) (fun k => eu.mk (k : Int) (cP a (b.take k))) (eu.mk (b.length : Int) (cP a b)) (fun k hk => by
  obtain ⟨y, hy, -⟩ := aE hk;have hlen := db (b.take k) a;rw [List.length_take] at hlen;unfold li;simp only;rw [decide_eq_true (show (k : Int) < (b.length : Int) by omega), ct, aH hy, ob, yb (by omega), ob, aY hy, mJ, aj (n := k) (by omega)];by_cases hm : y ∈ cP a (b.take k)
  ·rw [decide_eq_true hm, Bool.not_true, cf, if_pos hm]
  ·rw [decide_eq_false hm, Bool.not_false, ct, aL (by simp only [List.length_singleton]; omega) (by omega), ct, if_neg hm]) (by
  unfold li;simp only
  rw [decide_eq_false (show ¬ (b.length : Int) < (b.length : Int) by omega), cf, List.take_length]) (by omega)
 have e' : iter (li b) bD (eu.mk 0 a) = some (eu.mk (b.length : Int) (cP a b)) := e;rw [e', ob]
theorem EE {a b : List Vt} (h : a.length + b.length ≤ 90000) : BQ a b = some (cP a b) := by
 unfold BQ;rw [aL (by omega) (by omega), ct]
 have e := az (step := lj b) (n := b.length) (fun k => ew.mk (k : Int) (cP a (b.take k))) (ew.mk (b.length : Int) (cP a b)) (fun k hk => by
  obtain ⟨y, hy, -⟩ := aE hk;have hlen := db (b.take k) a;rw [List.length_take] at hlen;unfold lj;simp only;rw [decide_eq_true (show (k : Int) < (b.length : Int) by omega), ct, aH hy, ob, yc (by omega), ob, aY hy, mJ, aj (n := k) (by omega)];by_cases hm : y ∈ cP a (b.take k)
  ·rw [decide_eq_true hm, Bool.not_true, cf, if_pos hm]
  ·rw [decide_eq_false hm, Bool.not_false, ct, aL (by simp only [List.length_singleton]; omega) (by omega), ct, if_neg hm]) (by
  unfold lj;simp only
  rw [decide_eq_false (show ¬ (b.length : Int) < (b.length : Int) by omega), cf, List.take_length]) (by omega)
 have e' : iter (lj b) bD (ew.mk 0 a) = some (ew.mk (b.length : Int) (cP a b)) := e;rw [e', ob]
def aT (a b : Vw) : Vw := ⟨cP a.B b.B, cP a.V b.V⟩
theorem iD {a b : Vw} (h1 : a.B.length + b.B.length ≤ 90000) (h2 : a.V.length + b.V.length ≤ 90000) : yi a b = some (aT a b) := by
 unfold yi;rw [ED h1, ob, EE h2, ob]; rfl
def mayB (c : Cf) (b : Bk) : Bool := decide (0 ≤ mA c b.Slot ∧ mA c b.Slot = b.From ∧ nm b ≠ (0, 0))
def mayV (c : Cf) (v : Vt) : Bool := decide (v.From ∈ fT c v.Slot)
theorem GM (c : Cf) (b : Bk) : Ip c b = some (mayB c b) := by
 unfold Ip mayB;rw [tk, ob];by_cases h1 : mA c b.Slot ≥ 0
 ·rw [decide_eq_true h1, ct];by_cases h2 : mA c b.Slot = b.From
  ·rw [show (mA c b.Slot == b.From) = true by simp [h2], ct, JG];by_cases h3 : nm b = (0, 0)
   ·rw [decide_eq_true h3, Bool.not_true, decide_eq_false fun h => h.2.2 h3]
   ·rw [decide_eq_false h3, Bool.not_false, decide_eq_true ⟨h1, h2, h3⟩]
  ·rw [show (mA c b.Slot == b.From) = false by simp [h2], cf, decide_eq_false fun h => h2 h.2.1]
 ·rw [decide_eq_false h1, cf, decide_eq_false fun h => h1 h.1]
theorem GN (c : Cf) (v : Vt) : Iq c v = some (mayV c v) := by
 unfold Iq mayV;rw [Ci, ob]
theorem bP {α : Type} {p : α → Bool} {l : List α} {n : Nat} {y : α} (hy : l[n]? = some y) : (l.take (n + 1)).filter p = (l.take n).filter p ++ bif p y then [y] else [] := by
 rw [aY hy, List.filter_append];cases h : p y <;> simp [h]
theorem dv {α : Type} {p : α → Bool} {l : List α} (n : Nat) : ((l.take n).filter p).length ≤ n :=
 Nat.le_trans (List.length_filter_le _ _) (by rw [List.length_take]; omega)
theorem x4 {c : Cf} {l : List Bk} (hl : l.length ≤ 100000) : zY c l = some (l.filter (mayB c)) := by
 unfold zY
 have e := az (step := lb c l) (n := l.length) (fun k => ep.mk (k : Int) ((l.take k).filter (mayB c))) (ep.mk (l.length : Int) (l.filter (mayB c))) (fun k hk => by
  obtain ⟨y, hy, -⟩ := aE hk;have hlen := dv (p := mayB c) (l := l) k;unfold lb;simp only;rw [decide_eq_true (show (k : Int) < (l.length : Int) by omega), ct, aH hy, ob, GM, ob, bP hy, aj (n := k) (by omega)]
  cases mayB c y with
  | true => rw [ct, aL (by simp only [List.length_singleton]; omega) (by omega), ct, ct]
  | false => rw [cf, cf, List.append_nil]) (by
  unfold lb;simp only
  rw [decide_eq_false (show ¬ (l.length : Int) < (l.length : Int) by omega), cf, List.take_length]) (by omega)
 have e' : iter (lb c l) bD (ep.mk 0 []) = some (ep.mk (l.length : Int) (l.filter (mayB c))) := e;rw [e', ob]
theorem x5 {c : Cf} {l : List Vt} (hl : l.length ≤ 100000) : zZ c l = some (l.filter (mayV c)) := by
 unfold zZ
 have e := az (step := lc c l) (n := l.length) (fun k => er.mk (k : Int) ((l.take k).filter (mayV c))) (er.mk (l.length : Int) (l.filter (mayV c))) (fun k hk => by
  obtain ⟨y, hy, -⟩ := aE hk;have hlen := dv (p := mayV c) (l := l) k;unfold lc;simp only;rw [decide_eq_true (show (k : Int) < (l.length : Int) by omega), ct, aH hy, ob, GN, ob, bP hy, aj (n := k) (by omega)]
  cases mayV c y with
  | true => rw [ct, aL (by simp only [List.length_singleton]; omega) (by omega), ct, ct]
  | false => rw [cf, cf, List.append_nil]) (by
  unfold lc;simp only
  rw [decide_eq_false (show ¬ (l.length : Int) < (l.length : Int) by omega), cf, List.take_length]) (by omega)
 have e' : iter (lc c l) bD (er.mk 0 []) = some (er.mk (l.length : Int) (l.filter (mayV c))) := e;rw [e', ob]
def a7 (c : Cf) (w : Vw) : Vw := ⟨w.B.filter (mayB c), w.V.filter (mayV c)⟩
theorem Cl {c : Cf} {w : Vw} (h1 : w.B.length ≤ 100000) (h2 : w.V.length ≤ 100000) : HX c w = some (a7 c w) := by
 unfold HX;rw [x4 h1, ob, x5 h2, ob]; rfl
theorem EO {c : Cf} {w : Vw} (h1 : w.B.length ≤ 100000) (h2 : w.V.length ≤ 100000) : Ck c w = some ((a7 c w).B, (a7 c w).V) := by
 unfold Ck;rw [x4 h1, ob, x5 h2, ob]; rfl
open Go.Proofs
theorem vY {l : List Bk} {m : List (ID × Int)} (h : places l = some m) : ((0, 0) :: l.map nm).Nodup := by
 rw [List.nodup_cons];refine ⟨fun hm => ?_, ?_⟩
 ·obtain ⟨b, hb, e⟩ := List.mem_map.1 hm;obtain ⟨i, hi⟩ := List.getElem?_of_mem hb;have h1 := (aG h).names i b (List.getElem?_eq_some_iff.1 hi).1 hi;rw [e, (aG h).zero] at h1;cases h1
 ·rw [List.Nodup, List.pairwise_iff_getElem];intro i j hi hj hij e;simp only [List.length_map] at hi hj;have h1 := (aG h).names i l[i] hi (List.getElem?_eq_getElem hi);have h2 := (aG h).names j l[j] hj (List.getElem?_eq_getElem hj);rw [List.getElem_map, List.getElem_map] at e;rw [e, h2] at h1;cases h1;omega
def AS (l : List Bk) (n : Nat) : Prop := ∃ y p, l[n]? = some y ∧ af (pN l n) y.Parent = some p ∧ ¬ y.Slot ≤ b8 l p ∧ af (pN l n) (nm y) = none
theorem Dh {l : List Bk} : ∀ (r n : Nat), l.length - n = r → n ≤ l.length → ((ej l (l.drop n) n (pN l n)).isSome = true ↔ ∀ i, n ≤ i → i < l.length → AS l i)
 | 0, n, hr, hn => by
  have : n = l.length := by omega
  subst this;rw [List.drop_length];exact ⟨fun _ i h1 h2 => by omega, fun _ => rfl⟩
 | r + 1, n, hr, hn => by
  obtain ⟨y, hy, -⟩ := aE (l := l) (n := n) (by omega);have ih := Dh (l := l) r (n + 1) (by omega) (by omega)
  have e : pN l (n + 1) = pN l n ++ [(nm y, (n : Int))] := by simp only [pN, hy]
  rw [e] at ih;rw [eM hy];constructor
  ·intro h i h1 h2
   cases hp : af (pN l n) y.Parent with
   | none => rw [hp] at h; cases h
   | some p =>
    rw [hp] at h;simp only at h;by_cases hs : y.Slot ≤ b8 l p
    ·rw [if_pos hs] at h; cases h
    ·rw [if_neg hs] at h
     cases hq : af (pN l n) (nm y) with
     | some q => rw [hq] at h; cases h
     | none =>
      rw [hq] at h;by_cases hin : i = n
      ·subst hin; exact ⟨y, p, hy, hp, hs, hq⟩
      ·exact ih.1 h i (by omega) h2
  ·intro h;obtain ⟨y', p, hy', hp, hs, hq⟩ := h n (Nat.le_refl _) (by omega);rw [hy] at hy'; cases hy';rw [hp]; simp only;rw [if_neg hs, hq];exact ih.2 fun i h1 h2 => h i (by omega) h2
theorem tT {l : List Bk} : (places l).isSome = true ↔ ∀ i, i < l.length → AS l i := by
 have := Dh (l := l) l.length 0 (by omega) (Nat.zero_le _);rw [show (places l) = ej l (l.drop 0) 0 (pN l 0) from rfl, this];exact ⟨fun h i hi => h i (Nat.zero_le _) hi, fun h i _ hi => h i hi⟩
theorem mt {l m : List Bk} : ∀ n, (∀ i, i < n → l[i]? = m[i]?) → pN l n = pN m n
 | 0, _ => rfl
 | n + 1, h => by
  simp only [pN, h n (by omega), mt n fun i hi => h i (by omega)]
theorem pi {l m : List Bk} {n : Nat} (h : ∀ i, i ≤ n → l[i]? = m[i]?) (ho : AS l n) (hn : n < l.length) : AS m n := by
 obtain ⟨y, p, h1, h2, h3, h4⟩ := ho;have e := mt n fun i hi => h i (by omega);refine ⟨y, p, by rw [← h n (Nat.le_refl _)]; exact h1, by rw [← e]; exact h2, ?_, by rw [← e]; exact h4⟩
 have hp : p = -1 ∨ 0 ≤ p ∧ p < n := by
  rw [vT _ n (by omega)] at h2;split at h2
  ·cases h2; exact .inl rfl
  ·split at h2
   ·rename_i hi;obtain ⟨j, b, g1, g2, -⟩ := Ds hi;cases h2;exact .inr ⟨by omega, by omega⟩
   ·cases h2
 rcases hp with rfl | ⟨h5, h6⟩
 ·simpa [b8] using h3
 ·have : b8 m p = b8 l p := by
   simp only [b8, h p.toNat (by omega)]
  rw [this]; exact h3
theorem vV {l : List Bk} {k : Nat} (h : (places l).isSome = true) (hk : k ≤ l.length) : (places (l.take k)).isSome = true := by
 rw [tT] at h ⊢;intro i hi;simp only [List.length_take] at hi;refine pi (fun j hj => ?_) (h i (by omega)) (by omega);rw [List.getElem?_take_of_lt (by omega)]
def yy (l : List Bk) (b : Bk) : Bool := (iB l b.Parent).2 && decide (b.Slot > (iB l b.Parent).1) && !decide (nm b = (0, 0)) && decide (oh l (nm b) < 0)
theorem Dw {l : List Bk} {m : List (ID × Int)} {b : Bk} (h : places l = some m) : (places (l ++ [b])).isSome = yy l b := by
 have hl : ∀ i, i < l.length → AS l i := tT.1 (by rw [h]; rfl)
 have hpre : ∀ i, i < l.length → l[i]? = (l ++ [b])[i]? := fun i hi => by rw [List.getElem?_append_left hi]
 have hm : pN (l ++ [b]) l.length = m := by rw [← mt l.length hpre, ← A1 h]
 have hb : (l ++ [b])[l.length]? = some b := by simp
 have hslot : ∀ p i, af m p = some i → b8 (l ++ [b]) i = b8 l i := by
  intro p i hf;rcases vP h hf with ⟨rfl, -⟩ | ⟨c, h0, h1, h2, -⟩
  ·rfl
  ·have : ¬ i = -1 := by omega
   simp only [b8, if_neg this, ← hpre i.toNat (by omega)]
 have key : (places (l ++ [b])).isSome = true ↔ AS (l ++ [b]) l.length := by
  rw [tT];constructor
  ·intro h1; exact h1 l.length (by simp)
  ·intro h1 i hi;simp only [List.length_append, List.length_singleton] at hi;by_cases e : i = l.length
   ·subst e; exact h1
   ·exact pi (fun j hj => hpre j (by omega)) (hl i (by omega)) (by omega)
 rw [Bool.eq_iff_iff, key];constructor
 ·rintro ⟨y, p, h1, h2, h3, h4⟩;rw [hb] at h1; cases h1;rw [hm] at h2 h4;rw [hslot _ _ h2] at h3
  have hz : ¬ nm b = (0, 0) := fun e => by rw [e, (aG h).zero] at h4; cases h4
  have g1 : iB l b.Parent = (b8 l p, true) := by simp only [iB, h, h2]
  have g2 : oh l (nm b) = -1 := by simp only [oh, h, h4]; rfl
  unfold yy;rw [g1, g2, decide_eq_true (show b.Slot > b8 l p by omega), decide_eq_false hz]; rfl
 ·intro hf;unfold yy at hf;simp only [Bool.and_eq_true, Bool.not_eq_true', decide_eq_true_eq, decide_eq_false_iff_not] at hf;obtain ⟨⟨⟨h1, h2⟩, h3⟩, h4⟩ := hf
  cases hp : af m b.Parent with
  | none => simp only [iB, h, hp] at h1; cases h1
  | some p =>
   simp only [iB, h, hp] at h2;refine ⟨b, p, hb, by rw [hm]; exact hp, by rw [hslot _ _ hp]; omega, ?_⟩;rw [hm];rcases Option.eq_none_or_eq_some (af m (nm b)) with h5 | ⟨i, h5⟩
   ·exact h5
   ·exfalso;simp only [oh, h, h5, Option.getD_some] at h4;rcases vP h h5 with ⟨-, e⟩ | ⟨c, h0, -⟩
    ·exact h3 e
    ·omega
open Go.Proofs
def BI (v : Vt) (sm : List (ID × Int)) : Option Bool :=
 bif !((af sm v.Head).isSome) then
  some true
 else
  some (decide (((af sm v.Head).getD 0) > v.Slot))
theorem Jn {v : Vt} {w : Vw} {sm : List (ID × Int)} {hm : List (Vt × Bool)} {r_ : Bool} (hr : BI v sm = some r_) : LC Tryz.prog 189 [.p (aI v), .ptr 9 0] [.dead, .box (dm w), .dead, .dead, .dead, .dead, (mQ sm), (mR hm), .box [(jB 4 w.B), (jV 5 w.V), .map 6, .map 7, (iQ 0), (bQ false)], .box [.ptr 8 0]] (Is (bQ r_) [.dead, .box (dm w), .dead, .dead, .dead, .dead, (mQ sm), (mR hm), .box [(jB 4 w.B), (jV 5 w.V), .map 6, .map 7, (iQ 0), (bQ false)], .box [.ptr 8 0]]) := by
 refine dk Tryz.func189 Z Z Z ?_;unfold BI at hr;refine zQ (zR (yS Z (bZ Z Z Z Z Z) (zM Z (zN (zT (zQ (LW.draw2 (by kernel_rfl) (by kernel_rfl) (yE Z (zD Z Z Z D6 Z Z) (yE Z (zn Z Z) (yE Z (zA Z Z lE) (yE Z (zD Z Z Z Bo Z Z) (yE Z (zA Z Z mi) (yE Z (zD Z Z Z aR Z Z) ?_)))))))))))));refine yE Z (ab.getX (f := bF) (g := (fun v => (iQ v))) v.Head 0 dJ Z Z Z Z kq FM Z Z) ?_;refine zH Z (yE Z (eZ Z Z Z) (yE Z (eZ Z Z Z) (zH Z (zH Z (LO.nil (zT (zQ (zR (zM Z (yS Z (ab.not Z Z) (zM Z ?_)))))))))));refine zc 18 Z (fun g1 => ?_) (fun g1 => ?_)
 ·
  refine zi g1 hr fun hr => yU Z (gd g1 Z) Z (yU Z (gd g1 Z) Z (yU Z (gd g1 Z) Z (yU Z (gd g1 Z) Z (yS Z (eo Z (bI g1 Z) Z) (zM Z (zN (zT (zr ?_))))))));obtain rfl := zJ hr;refine a8 (env' := [(3, (bQ true))]) (H' := [.dead, .box (dm w), .dead, .dead, .dead, .dead, (mQ sm), (mR hm), .box [(jB 4 w.B), (jV 5 w.V), .map 6, .map 7, (iQ 0), (bQ false)], .box [.ptr 8 0]]) (zW 10 ⟨rfl, trivial⟩ Z Z Z (zL Z (zL Z (zL Z (zL Z (zL Z (zL Z (zL (ae (fun _ => rfl) _) (zL (ae (fun _ => rfl) _) (zL Z (zL Z Z))))))))))) (.one (.tmp Z)) ?_;exact ⟨rfl, rfl⟩
 ·
  refine zo g1 hr fun hr => yV Z (gd g1 Z) (zm Z Z) (yV Z (gd g1 Z) (zA Z Z qQ) (yV Z (gd g1 Z) (zD Z Z Z bA Z Z) (yV Z (gd g1 Z) (ax Z Z Z Z) (yS Z (dc Z (bI g1 Z) Z) (zM Z (zN (zT (zr ?_))))))));obtain rfl := zJ hr;refine a8 (env' := [(3, .p (.bool (decide (((af sm v.Head).getD 0) > v.Slot))))]) (H' := [.dead, .box (dm w), .dead, .dead, .dead, .dead, (mQ sm), (mR hm), .box [(jB 4 w.B), (jV 5 w.V), .map 6, .map 7, (iQ 0), (bQ false)], .box [.ptr 8 0]]) (zW 10 ⟨rfl, trivial⟩ Z Z Z (zL Z (zL Z (zL Z (zL Z (zL Z (zL Z (zL (ae (fun _ => rfl) _) (zL (ae (fun _ => rfl) _) (zL Z (zL Z Z))))))))))) (.one (.tmp Z)) ?_;exact ⟨rfl, rfl⟩
structure d6 where
 t8 : Int
def iP (l : List Vt) (sm : List (ID × Int)) (x1 : d6) : Option (d6 ⊕ (d6 ⊕ Int)) :=
 bif decide (x1.t8 < (l.length : Int)) then
  (ix l x1.t8).bind fun y1 =>
  (BI y1 sm).bind fun v2 =>
  bif v2 then
   some (.inr (.inr x1.t8))
  else
   some (.inl (d6.mk (IntKind.i64.wrap (x1.t8 + 1))))
 else
  some (.inr (.inl (d6.mk x1.t8)))
def x9 (l : List Vt) (sm : List (ID × Int)) : Option Int :=
 (iter (iP l sm) bD (d6.mk 0)).bind fun b_v1 => Sum.elim (fun _ =>
  some (-1)) some b_v1
theorem Hk {l : List Vt} {w : Vw} {sm : List (ID × Int)} {hm : List (Vt × Bool)} {r_ : Int} (hr : x9 l sm = some r_) : LC Tryz.prog 170 [(kV l), .fn 189 [] [.ptr 9 0]] [.dead, .box (dm w), .dead, .dead, .dead, .dead, (mQ sm), (mR hm), .box [(jB 4 w.B), (jV 5 w.V), .map 6, .map 7, (iQ 0), (bQ false)], .box [.ptr 8 0]] (Is (iQ r_) [.dead, .box (dm w), .dead, .dead, .dead, .dead, (mQ sm), (mR hm), .box [(jB 4 w.B), (jV 5 w.V), .map 6, .map 7, (iQ 0), (bQ false)], .box [.ptr 8 0]]) := by
 refine dk Tryz.func170 Z Z Z ?_;unfold x9 at hr;refine zQ (zR (zM Z (zN (zT (zQ (zQ (zR (zM Z (yS Z (dY Z Z (by kernel_rfl)) (zM Z (zN (zT ?_))))))))))));obtain ⟨b_v1, hb_v1, ho_v1⟩ := zB hr;clear hr;refine LW.tailB (b := b_v1) (E := fun v1 => [(4, (iQ 0))]) (O := fun v1 => [.dead, .box (dm w), .dead, .dead, .dead, .dead, (mQ sm), (mR hm), .box [(jB 4 w.B), (jV 5 w.V), .map 6, .map 7, (iQ 0), (bQ false)], .box [.ptr 8 0]]) ?_ (fun v1 e_v1 env_v1 H_v1 hw_v1 => ?_)
 ·refine LW.block ?_;refine LW.iterB (E := fun x1 : d6 => [(0, (kV l)), (1, .fn 189 [] [.ptr 9 0]), (4, (iQ 0)), (7, .p (.int .i64 (l.length : Int))), (8, (iQ x1.t8))]) (O := fun x1 => [.dead, .box (dm w), .dead, .dead, .dead, .dead, (mQ sm), (mR hm), .box [(jB 4 w.B), (jV 5 w.V), .map 6, .map 7, (iQ 0), (bQ false)], .box [.ptr 8 0]]) hb_v1 (zW 10 ⟨rfl, rfl, rfl, rfl, rfl, trivial⟩ Z Z Z (zL Z (zL Z (zL Z (zL Z (zL Z (zL Z (zL (ae (fun _ => rfl) _) (zL (ae (fun _ => rfl) _) (zL Z (zL Z Z))))))))))) (fun x1 z_x1 hr hb_x1 => ?_);unfold iP at hr;refine zQ (zR (yS Z (ax Z Z Z Z) (zN (zT (zQ ?_)))));refine zX Z (fun g1 => ?_) (fun g1 => ?_)
  ·
   refine zi g1 hr fun hr => zk (zT (zQ (zl (zQ (zR (zM Z (zM Z (zN (zT (zQ (zR (zM Z (zM Z (zM Z (zb hr fun y1 h_y1 hr => yS Z (zx Z Z Z dM h_y1 Z) (yS Z (eA Z Z Z cT Z Z) (zb hr fun v2 h_v2 hr => yS Z (zC Z Z Z (by kernel_rfl) (Jn h_v2)) (zN (zT ?_)))))))))))))))))));refine zX Z (fun g2 => ?_) (fun g2 => ?_)
   ·
    refine zi g2 hr fun hr => zQ (zR (zM Z (zM Z (zN (zT (zr (aD (am (am (aD (am (am ?_))))))))))));obtain rfl := zJ hr;have hr := congrArg some (hb_x1 _ rfl);obtain rfl := zJ hr;have hr := ff ho_v1;obtain rfl := zJ hr;exact ap (.one (.tmp Z)) (⟨rfl, rfl⟩)
   ·
    refine zo g2 hr fun hr => zk (ai (zT (zR (yS Z (ax Z Z Z Z) (zM Z (zN (zT ?_)))))));obtain rfl := zJ hr;exact ⟨_, rfl, zW 10 ⟨rfl, rfl, rfl, rfl, rfl, trivial⟩ Z Z Z (zL Z (zL Z (zL Z (zL Z (zL Z (zL Z (zL (ae (fun _ => rfl) _) (zL (ae (fun _ => rfl) _) (zL Z (zL Z Z))))))))))⟩
  ·
   refine zo g1 hr fun hr => zq (ao (ao (zy (zT ?_))));obtain rfl := zJ hr;have hr := congrArg some (hb_x1 _ rfl);obtain rfl := zJ hr;exact ⟨_, rfl, zW 10 ⟨rfl, trivial⟩ Z Z Z (zL Z (zL Z (zL Z (zL Z (zL Z (zL Z (zL (ae (fun _ => rfl) _) (zL (ae (fun _ => rfl) _) (zL Z (zL Z Z))))))))))⟩
 ·obtain rfl := e_v1;have hr := hZ ho_v1;clear hb_v1;refine zT (LW.weak hw_v1 (zQ (zR (zM Z (zN (zT (zr ?_)))))));obtain rfl := zJ hr;exact ap (.one (.tmp Z)) (⟨rfl, rfl⟩)
def BJ (l : List Vt) (sm : List (ID × Int)) : Option Bool :=
 (x9 l sm).bind fun v1 =>
 some (decide (v1 ≥ 0))
theorem Jo {l : List Vt} {w : Vw} {sm : List (ID × Int)} {hm : List (Vt × Bool)} {r_ : Bool} (hr : BJ l sm = some r_) : LC Tryz.prog 190 [(kV l), .fn 189 [] [.ptr 9 0]] [.dead, .box (dm w), .dead, .dead, .dead, .dead, (mQ sm), (mR hm), .box [(jB 4 w.B), (jV 5 w.V), .map 6, .map 7, (iQ 0), (bQ false)], .box [.ptr 8 0]] (Is (bQ r_) [.dead, .box (dm w), .dead, .dead, .dead, .dead, (mQ sm), (mR hm), .box [(jB 4 w.B), (jV 5 w.V), .map 6, .map 7, (iQ 0), (bQ false)], .box [.ptr 8 0]]) := by
 refine dk Tryz.func190 Z Z Z ?_;unfold BJ at hr;refine zQ (zR (zM Z (zN (zT (zQ (zR (zM Z (zM Z (zb hr fun v1 h_v1 hr => yS Z (zC Z Z Z (by kernel_rfl) (Hk h_v1)) (yS Z (ax Z Z Z Z) (zM Z (zN (zT (zr ?_))))))))))))));obtain rfl := zJ hr;exact ap (.one (.tmp Z)) (⟨rfl, rfl⟩)
def Ir (c : Cf) (w : Vw) : Option Bool :=
 (
  (yh c).bind fun v2 =>
  bif !v2 then
   some true
  else
   (HV w.B).bind fun v3 =>
   bif !v3 then
    some true
   else
    bif decide ((w.B.length : Int) > 60) then
     some true
    else
     some (decide ((w.V.length : Int) > 240))
 ).bind fun v1 =>
 bif v1 then
  some false
 else
  (HX c w).bind fun v4 =>
  (
   bif (v4.B.length : Int) != (w.B.length : Int) then
    some true
   else
    some ((v4.V.length : Int) != (w.V.length : Int))
  ).bind fun v5 =>
  bif v5 then
   some false
  else
   (z6 w 0).bind fun v6 =>
   bif qA v6.2 then
    bif (v6.2.length : Int) == (w.V.length : Int) then
     (BJ w.V v6.1).bind fun v7 =>
     some (!v7)
    else
     some false
   else none
theorem Md {c : Cf} {w : Vw} {r_ : Bool} (hr : Ir c w = some r_) : aw Tryz.prog 178 [jC c, mO w] [.bool r_] := by
 refine zh Tryz.func178 Z Z Z Z ?_;unfold Ir at hr;refine zQ (zR (yS Z (bZ Z Z Z Z Z) (yS Z (bZ Z Z Z Z Z) (zM Z (zN (zT (zQ ?_)))))));obtain ⟨v1, hb_v1, ho_v1⟩ := zB hr;clear hr;refine LW.cut (E := [(2, .ptr 0 0), (3, .ptr 1 0), (4, (bQ false)), (28, (bQ v1))]) (O := [.box (bE c), .box (dm w)]) ?_ ?_
 ·have hr := hb_v1;refine zR (yS Z (zD Z Z Z bv Z Z) (zb hr fun v2 h_v2 hr => yS Z (zC Z Z Z (by kernel_rfl) (zp (Ga h_v2) (.cons zv .nil))) (yS Z (ab.not Z Z) (zM Z ?_))));refine zc 11 Z (fun g1 => ?_) (fun g1 => ?_)
  ·
   refine zi g1 hr fun hr => yU Z (gd g1 Z) Z (yU Z (gd g1 Z) Z (yU Z (gd g1 Z) Z (yU Z (gd g1 Z) Z (yS Z (eo Z (bI g1 Z) Z) (zM Z (yU Z Z Z (yU Z Z Z (yU Z Z Z (yU Z Z Z (yS Z (eo Z Z Z) (zM Z (yU Z Z Z (yU Z Z Z (yU Z Z Z (yU Z Z Z (yS Z (eo Z Z Z) (zN (zT ?_))))))))))))))))));obtain rfl := zJ hr;exact zW 2 ⟨Z, Z, Z, Z, trivial⟩ Z Z Z Z
  ·
   refine zo g1 hr fun hr => yV Z (gd g1 Z) (zA Z Z bz) (yV Z (gd g1 Z) (zD Z Z Z dC Z Z) (zb hr fun v3 h_v3 hr => yV Z (gd g1 Z) (zC Z Z Z (by kernel_rfl) (zp (LT h_v3) (.cons zv .nil))) (yV Z (gd g1 Z) (ab.not Z Z) (yS Z (dc Z (bI g1 Z) Z) (zM Z ?_)))));refine zc 17 Z (fun g2 => ?_) (fun g2 => ?_)
   ·
    refine zi g2 hr fun hr => yU Z (gd g2 Z) Z (yU Z (gd g2 Z) Z (yU Z (gd g2 Z) Z (yU Z (gd g2 Z) Z (yS Z (eo Z (bI g2 Z) Z) (zM Z (yU Z Z Z (yU Z Z Z (yU Z Z Z (yU Z Z Z (yS Z (eo Z Z Z) (zN (zT ?_))))))))))));obtain rfl := zJ hr;exact zW 2 ⟨Z, Z, Z, Z, trivial⟩ Z Z Z Z
   ·
    refine zo g2 hr fun hr => yV Z (gd g2 Z) (zA Z Z bz) (yV Z (gd g2 Z) (zD Z Z Z dC Z Z) (yV Z (gd g2 Z) (dY Z Z (by kernel_rfl)) (yV Z (gd g2 Z) (ax Z Z Z Z) (yS Z (dc Z (bI g2 Z) Z) (zM Z ?_)))));refine zc 23 Z (fun g3 => ?_) (fun g3 => ?_)
    ·
     refine zi g3 hr fun hr => yU Z (gd g3 Z) Z (yU Z (gd g3 Z) Z (yU Z (gd g3 Z) Z (yU Z (gd g3 Z) Z (yS Z (eo Z (bI g3 Z) Z) (zN (zT ?_))))));obtain rfl := zJ hr;exact zW 2 ⟨Z, Z, Z, Z, trivial⟩ Z Z Z Z
    ·
     refine zo g3 hr fun hr => yV Z (gd g3 Z) (zA Z Z b7) (yV Z (gd g3 Z) (zD Z Z Z eS Z Z) (yV Z (gd g3 Z) (dY Z Z (by kernel_rfl)) (yV Z (gd g3 Z) (ax Z Z Z Z) (yS Z (dc Z (bI g3 Z) Z) (zN (zT ?_))))));obtain rfl := zJ hr;exact zW 2 ⟨Z, Z, Z, Z, trivial⟩ Z Z Z Z
 ·have hr := ho_v1;clear hb_v1;refine zX Z (fun g4 => ?_) (fun g4 => ?_)
  ·
   refine zi g4 hr fun hr => zQ (zR (zM Z (zN (zT (zr (am ?_))))));obtain rfl := zJ hr;exact zf (.one (.tmp Z)) zv
  ·
   refine zo g4 hr fun hr => zk (zT (zQ (zR (yS Z (zD Z Z Z bv Z Z) (yS Z (zD Z Z Z aS Z Z) (zb hr fun v4 h_v4 hr => yS Z (zC Z Z Z (by kernel_rfl) (zp (LX h_v4) (.cons zv (.cons zv .nil)))) (yS Z (ze Z ii Z Z) (yS Z (zs Z Z Z Z aS Z Z Z Z) (zN (zT (zQ ?_)))))))))));obtain ⟨v5, hb_v5, ho_v5⟩ := zB hr;clear hr;refine LW.cut (E := [(3, .ptr 1 0), (4, (bQ false)), (47, (bQ v5))]) (O := [.box (bE c), .box (dm w), .box (dm v4)]) ?_ ?_
   ·have hr := hb_v5;refine zR (yS Z (zA Z Z bz) (yS Z (zD Z Z Z dC Z Z) (yS Z (dY Z Z (by kernel_rfl)) (yS Z (zA Z Z bz) (yS Z (zD Z Z Z dC Z Z) (yS Z (dY Z Z (by kernel_rfl)) (yS Z (ax Z Z Z Z) (zM Z ?_))))))));refine zc 39 Z (fun g5 => ?_) (fun g5 => ?_)
    ·
     refine zi g5 hr fun hr => yU Z (gd g5 Z) Z (yU Z (gd g5 Z) Z (yU Z (gd g5 Z) Z (yU Z (gd g5 Z) Z (yU Z (gd g5 Z) Z (yU Z (gd g5 Z) Z (yU Z (gd g5 Z) Z (yS Z (eo Z (bI g5 Z) Z) (zN (zT ?_)))))))));obtain rfl := zJ hr;exact zW 3 ⟨Z, Z, Z, trivial⟩ Z Z Z Z
    ·
     refine zo g5 hr fun hr => yV Z (gd g5 Z) (zA Z Z b7) (yV Z (gd g5 Z) (zD Z Z Z eS Z Z) (yV Z (gd g5 Z) (dY Z Z (by kernel_rfl)) (yV Z (gd g5 Z) (zA Z Z b7) (yV Z (gd g5 Z) (zD Z Z Z eS Z Z) (yV Z (gd g5 Z) (dY Z Z (by kernel_rfl)) (yV Z (gd g5 Z) (ax Z Z Z Z) (yS Z (dc Z (bI g5 Z) Z) (zN (zT ?_)))))))));obtain rfl := zJ hr;exact zW 3 ⟨Z, Z, Z, trivial⟩ Z Z Z Z
   ·have hr := ho_v5;clear hb_v5;refine zX Z (fun g6 => ?_) (fun g6 => ?_)
    ·
     refine zi g6 hr fun hr => zQ (zR (zM Z (zN (zT (zr (am ?_))))));obtain rfl := zJ hr;exact zf (.one (.tmp Z)) zv
    ·
     refine zo g6 hr fun hr => zk (zT (zQ (zR (yS Z (zD Z Z Z aS Z Z) (zb hr fun v6 h_v6 hr => yS Z (zC Z Z Z (by kernel_rfl) (LC.frameX (x' := .ptr 8 0) (H' := [.box (bE c), .box (dm w), .box (dm v4), .box (dm w), .vec 5 (w.B.map ay), .vec 4 (w.V.map aI), (mQ v6.1), (mR v6.2), .box [(jB 4 w.B), (jV 5 w.V), .map 6, .map 7, (iQ 0), (bQ false)]]) (Gd h_v6) (.consC zv (.consC zv .nil)) Z Z (by simp only [List.map_cons, List.map_nil, List.cons_append, List.nil_append, aa.shift, LV.shifts, LV.shift, yx, yw] <;> rfl))) (yS Z (ze Z KG Z Z) (yS Z (zs Z Z Z Z D6 Z Z Z Z) (zN (zT (zQ (LW.ent (bL.kill (i := 0) Z) (LW.ent (bL.kill (i := 2) Z) (LW.ent (bL.kill (i := 3) Z) (LW.ent (bL.kill (i := 4) Z) (LW.ent (bL.kill (i := 5) Z) (zR (yS Z (ab.makeFunc Z Z Z) (zM Z (zN (zT (zQ ?_)))))))))))))))))))));refine LW.draw2 (by kernel_rfl) (by kernel_rfl) (yE Z (zD Z Z Z D6 Z Z) (yE Z (zn Z Z) (yE Z (zA Z Z pI) (yE Z (zD Z Z Z y9 Z Z) (zg hr fun q1 hr => yE Z (ab.lenMapX Z Z Z (by kernel_rfl) q1) (yE Z (zA Z Z b7) (yE Z (zD Z Z Z eS Z Z) (yE Z (dY Z Z (by kernel_rfl)) (yE Z (ax Z Z Z Z) (zH Z ?_))))))))));refine LO.cases 60 Z (fun (g7 : ((v6.2.length : Int) == (w.V.length : Int)) = true) => ?_) (fun (g7 : ((v6.2.length : Int) == (w.V.length : Int)) = false) => ?_)
     ·
      refine zi g7 hr fun hr => LO.gd Z Z Z (gd g7 Z) Z (zA Z Z b7) (LO.gd Z Z Z (gd g7 Z) Z (zD Z Z Z eS Z Z) (LO.gd Z Z Z (gd g7 Z) Z (zm Z Z) (zb hr fun v7 h_v7 hr => LO.gd Z Z Z (gd g7 Z) Z (zC Z Z Z (by kernel_rfl) (Jo h_v7)) (LO.gd Z Z Z (gd g7 Z) Z (ab.not Z Z) (yE Z (eo Z (bI g7 Z) Z) (zH Z (LO.nil (zT (zr ?_)))))))));obtain rfl := zJ hr;exact zf (.one (.tmp Z)) zv
     ·
      refine zo g7 hr fun hr => LO.sk Z Z Z (gd g7 Z) Z Z (LO.sk Z Z Z (gd g7 Z) Z Z (LO.sk Z Z Z (gd g7 Z) Z Z (LO.sk Z Z Z (gd g7 Z) Z Z (LO.sk Z Z Z (gd g7 Z) Z Z (yE Z (dc Z (bI g7 Z) Z) (zH Z (LO.nil (zT (zr ?_)))))))));obtain rfl := zJ hr;exact zf (.one (.tmp Z)) zv
def aX (B : List Bk) (id : ID) : Option Int := if id = (0, 0) then some 0 else (B.find? fun b => decide (nm b = id)).map Bk.Slot
theorem xE (B : List Bk) : aX B (0, 0) = some 0 := by unfold aX; rw [if_pos rfl]
theorem ri (B : List Bk) (b : Bk) (id : ID) : aX (B ++ [b]) id = (aX B id).or (if nm b = id then some b.Slot else none) := by
 unfold aX;by_cases h : id = (0, 0)
 ·rw [if_pos h, if_pos h]; rfl
 ·rw [if_neg h, if_neg h, List.find?_append]
  cases B.find? fun b => decide (nm b = id) with
  | some x => rfl
  | none =>
   by_cases h2 : nm b = id
   ·simp [h2]
   ·simp [h2]
theorem hY {B : List Bk} {id : ID} {s : Int} (h : aX B id = some s) (t : List Bk) : aX (B ++ t) id = some s := by
 unfold aX at h ⊢;by_cases h0 : id = (0, 0)
 ·rw [if_pos h0] at h ⊢; exact h
 ·rw [if_neg h0] at h ⊢;rw [List.find?_append]
  cases hf : B.find? fun b => decide (nm b = id) with
  | some x => rw [hf] at h; exact h
  | none => rw [hf] at h; cases h
theorem oO {B : List Bk} {id : ID} {s : Int} (h : aX B id = some s) : (id = (0, 0) ∧ s = 0) ∨ (id ≠ (0, 0) ∧ ∃ b ∈ B, nm b = id ∧ b.Slot = s) := by
 unfold aX at h;by_cases h0 : id = (0, 0)
 ·rw [if_pos h0] at h; cases h; exact .inl ⟨h0, rfl⟩
 ·rw [if_neg h0] at h
  cases hf : B.find? fun b => decide (nm b = id) with
  | none => rw [hf] at h; cases h
  | some x =>
   rw [hf] at h;cases h;exact .inr ⟨h0, x, List.mem_of_find?_eq_some hf, (by simpa using List.find?_some hf), rfl⟩
theorem rj {B : List Bk} {b : Bk} (h : b ∈ B) : ∃ s, aX B (nm b) = some s := by
 unfold aX;by_cases h0 : nm b = (0, 0)
 ·rw [if_pos h0]; exact ⟨_, rfl⟩
 ·rw [if_neg h0]
  cases hf : B.find? fun q => decide (nm q = nm b) with
  | some x => exact ⟨_, rfl⟩
  | none =>
   rw [List.find?_eq_none] at hf;have := hf b h;simp at this
def aJ (B : List Bk) : Prop := (places B).isSome = true
theorem Bl : aJ [] := rfl
theorem nF {l : List Bk} {m : List (ID × Int)} (h : places l = some m) (id : ID) : aX l id = (af m id).map (b8 l) := by
 have hI := aG h;unfold aX;by_cases h0 : id = (0, 0)
 ·rw [if_pos h0, h0, hI.zero]; simp [b8]
 ·rw [if_neg h0]
  cases hf : af m id with
  | none =>
   cases hq : l.find? fun b => decide (nm b = id) with
   | none => rfl
   | some b =>
    exfalso;have hb := List.mem_of_find?_eq_some hq
    have hn : nm b = id := by simpa using List.find?_some hq
    obtain ⟨i, hi⟩ := List.getElem?_of_mem hb;have := hI.names i b (List.getElem?_eq_some_iff.1 hi).1 hi;rw [hn, hf] at this; cases this
  | some i =>
   rcases hI.known _ _ hf with ⟨-, h1⟩ | ⟨b, p, h1, h2, h3, h4, -⟩
   ·exact absurd h1 h0
   ·cases hq : l.find? fun b => decide (nm b = id) with
    | none =>
     rw [List.find?_eq_none] at hq;have := hq b (List.mem_of_getElem? h3);simp [h4] at this
    | some b' =>
     have hb := List.mem_of_find?_eq_some hq
     have hn : nm b' = id := by simpa using List.find?_some hq
     obtain ⟨j, hj⟩ := List.getElem?_of_mem hb;have := hI.names j b' (List.getElem?_eq_some_iff.1 hj).1 hj;rw [hn, hf] at this;cases this;simp [b8, hj, show ¬ (j : Int) = -1 by omega]
theorem Bc {l : List Bk} {m : List (ID × Int)} (h : places l = some m) (id : ID) : iB l id = match aX l id with | some s => (s, true) | none => (0, false) := by
 rw [nF h];unfold iB;rw [h];simp only;cases af m id <;> rfl
theorem C4 {l : List Bk} {m : List (ID × Int)} (h : places l = some m) (id : ID) : (¬ id = (0, 0) ∧ oh l id < 0) ↔ aX l id = none := by
 rw [nF h];unfold oh;rw [h];simp only
 cases hf : af m id with
 | none =>
  refine ⟨fun _ => rfl, fun _ => ⟨fun e => ?_, by simp⟩⟩;rw [e, (aG h).zero] at hf; cases hf
 | some i =>
  refine ⟨fun h1 => ?_, fun h1 => by cases h1⟩;rcases (aG h).known _ _ hf with ⟨-, h2⟩ | ⟨_, _, h2, -⟩
  ·exact absurd h2 h1.1
  ·have := h1.2; simp at this; omega
theorem j2 {B : List Bk} {b : Bk} : aJ (B ++ [b]) ↔ aJ B ∧ (∃ s, aX B b.Parent = some s ∧ s < b.Slot) ∧ aX B (nm b) = none := by
 have key : ∀ {m}, places B = some m → (aJ (B ++ [b]) ↔ (∃ s, aX B b.Parent = some s ∧ s < b.Slot) ∧ aX B (nm b) = none) := by
  intro m hm;unfold aJ;rw [Dw hm, ← C4 hm];unfold yy;rw [Bc hm]
  cases aX B b.Parent with
  | none => simp
  | some s => simp [and_assoc]
 cases hm : places B with
 | some m =>
  rw [key hm];exact ⟨fun h => ⟨by unfold aJ; rw [hm]; rfl, h⟩, fun h => h.2⟩
 | none =>
  have hno : ¬ aJ B := by unfold aJ; rw [hm]; simp
  refine ⟨fun h => absurd ?_ hno, fun h => absurd h.1 hno⟩;have := vV (k := B.length) h (by simp)
  rwa [List.take_left' rfl] at this
theorem mH {B : List Bk} (h : aJ B) (k : Nat) : aJ (B.take k) := by
 by_cases hk : k ≤ B.length
 ·exact vV h hk
 ·rw [List.take_of_length_le (by omega)]; exact h
theorem k6 {B : List Bk} (h : aJ B) : ((0, 0) :: B.map nm).Nodup := by
 obtain ⟨m, hm⟩ := Option.isSome_iff_exists.1 h;exact vY hm
theorem rz {B : List Bk} (h : aJ B) {b : Bk} (hb : b ∈ B) : aX B (nm b) = some b.Slot := by
 obtain ⟨s, hs⟩ := rj hb;have hn := k6 h;rw [List.nodup_cons] at hn;rcases oO hs with ⟨h0, -⟩ | ⟨-, b', hb', he, hs'⟩
 ·exact absurd (h0 ▸ List.mem_map.2 ⟨b, hb, rfl⟩) hn.1
 ·have : b' = b := by
   obtain ⟨i, hi⟩ := List.getElem?_of_mem hb;obtain ⟨j, hj⟩ := List.getElem?_of_mem hb'
   have hi' : (B.map nm)[i]? = some (nm b) := by rw [List.getElem?_map, hi]; rfl
   have hj' : (B.map nm)[j]? = some (nm b) := by rw [List.getElem?_map, hj, ← he]; rfl
   have := (List.getElem?_inj (List.getElem?_eq_some_iff.1 hi').1 hn.2).1 (hi'.trans hj'.symm);subst this;rw [hi] at hj; exact (Option.some.inj hj).symm
  rw [hs, ← hs', this]
theorem ud {B : List Bk} (h : aJ B) {b : Bk} (hb : b ∈ B) : ∃ s, aX B b.Parent = some s ∧ s < b.Slot := by
 obtain ⟨i, hi⟩ := List.getElem?_of_mem hb;have hil := (List.getElem?_eq_some_iff.1 hi).1;have ht := mH h (i + 1);rw [aY hi, j2] at ht;obtain ⟨s, h1, h2⟩ := ht.2.1;refine ⟨s, ?_, h2⟩;have := hY h1 (B.drop i)
 rwa [List.take_append_drop] at this
def wv : List Bk → List (ID × Int) → List (ID × Int)
 | [], m => m
 | b :: r, m => wv r (aO m (nm b) b.Slot)
def mC (B : List Bk) : List (ID × Int) := wv B [((0, 0), 0)]
def vI : List Vt → List (Vt × Bool) → List (Vt × Bool)
 | [], m => m
 | v :: r, m => vI r (aO m v true)
def ko (V : List Vt) : List (Vt × Bool) := vI V []
theorem sV (b : Bk) : ∀ (B : List Bk) (m), wv (B ++ [b]) m = aO (wv B m) (nm b) b.Slot
 | [], _ => rfl
 | _ :: r, _ => sV b r _
theorem sC (v : Vt) : ∀ (V : List Vt) (m), vI (V ++ [v]) m = aO (vI V m) v true
 | [], _ => rfl
 | _ :: r, _ => sC v r _
theorem sX (B : List Bk) (b : Bk) : mC (B ++ [b]) = aO (mC B) (nm b) b.Slot := sV b B _
theorem sE (V : List Vt) (v : Vt) : ko (V ++ [v]) = aO (ko V) v true := sC v V _
theorem nE {α β : Type} [DecidableEq α] (m : List (α × β)) (k : α) (v : β) : (aO m k v).length = if (af m k).isSome then m.length else m.length + 1 := by
 induction m with
 | nil => simp [aO, af]
 | cons p r ih =>
  obtain ⟨a, b⟩ := p;by_cases h : a = k
  ·simp [aO, af, h]
  ·cases hf : af r k <;> simp [aO, af, h, hf] at ih ⊢ <;> exact ih
theorem DR (B : List Bk) : (mC B).length ≤ B.length + 1 := by
 unfold mC
 have : ∀ (B : List Bk) (m : List (ID × Int)), (wv B m).length ≤ B.length + m.length := by
  intro B
  induction B with
  | nil => intro m; simp [wv]
  | cons b r ih =>
   intro m;have h1 := ih (aO m (nm b) b.Slot);have h2 := nE m (nm b) b.Slot;unfold wv;simp only [List.length_cons];split at h2 <;> omega
 have := this B [((0, 0), 0)];simpa using this
theorem sW {B : List Bk} (h : aJ B) : ∀ id, af (mC B) id = aX B id := by
 have key : ∀ k, k ≤ B.length → ∀ id, af (mC (B.take k)) id = aX (B.take k) id := by
  intro k
  induction k with
  | zero =>
   intro _ id;simp only [List.take_zero];unfold mC wv aX af af;by_cases e : id = (0, 0)
   ·simp [e]
   ·simp [e, Ne.symm e]
  | succ k ih =>
   intro hk id;obtain ⟨b, hb, -⟩ := aE (l := B) (n := k) (by omega);have hv := mH h (k + 1);rw [aY hb] at hv ⊢;rw [j2] at hv;rw [sX, cg, ri, ih (by omega)];by_cases e : nm b = id
   ·rw [if_pos e, if_pos e, ← e, hv.2.2]; rfl
   ·rw [if_neg e, if_neg e]; cases aX (B.take k) id <;> rfl
 have := key B.length (Nat.le_refl _)
 rwa [List.take_length] at this
theorem sD (V : List Vt) (v : Vt) : af (ko V) v = if v ∈ V then some true else none := by
 have : ∀ (V : List Vt) (m : List (Vt × Bool)), af (vI V m) v = if v ∈ V then some true else af m v := by
  intro V
  induction V with
  | nil => intro m; simp [vI]
  | cons x r ih =>
   intro m;unfold vI;rw [ih, cg];by_cases h : v ∈ r
   ·simp [h]
   ·by_cases h2 : x = v
    ·simp [h2]
    ·simp [h, h2, Ne.symm h2]
 rw [ko, this]; rfl
theorem vJ (V : List Vt) : (ko V).length ≤ V.length ∧ ((ko V).length = V.length ↔ V.Nodup) := by
 have key : ∀ k, k ≤ V.length → (ko (V.take k)).length ≤ k ∧ ((ko (V.take k)).length = k ↔ (V.take k).Nodup) := by
  intro k
  induction k with
  | zero => intro _; simp [ko, vI]
  | succ k ih =>
   intro hk;obtain ⟨v, hv, -⟩ := aE (l := V) (n := k) (by omega);obtain ⟨h1, h2⟩ := ih (by omega);rw [aY hv, sE, nE, sD, List.nodup_append];by_cases hm : v ∈ V.take k
   ·rw [if_pos hm];refine ⟨by simp; omega, ⟨fun e => by simp at e; omega, fun h => absurd Z (h.2.2 v hm v (by simp))⟩⟩
   ·rw [if_neg hm];refine ⟨by simp; omega, ⟨fun e => ⟨h2.1 (by simp at e; omega), by simp, fun a ha b hb => by rw [List.mem_singleton] at hb; subst hb; exact fun q => hm (q ▸ ha)⟩, fun h => ?_⟩⟩;have := h2.2 h.1;simp; omega
 have := key V.length (Nat.le_refl _)
 rwa [List.take_length] at this
theorem x6 {w : Vw} {u : Int} (h1 : w.B.length ≤ 90000) (h2 : w.V.length ≤ 90000) : z6 w u = some (mC w.B, ko w.V) := by
 unfold z6;rw [aL (by omega) (by omega), ct, aL (by omega) (by omega), ct]
 have e1 := az (step := ld w) (n := w.B.length) (fun k => eU.mk (k : Int) (mC (w.B.take k))) (eU.mk (w.B.length : Int) (mC w.B)) (fun k hk => by
  obtain ⟨y, hy, -⟩ := aE hk;unfold ld;simp only
  rw [decide_eq_true (show (k : Int) < (w.B.length : Int) by omega), ct, aH hy, ob, aY hy, sX, aj (n := k) (by omega)]) (by
  unfold ld;simp only
  rw [decide_eq_false (show ¬ (w.B.length : Int) < (w.B.length : Int) by omega), cf, List.take_length]) (by omega)
 have e1' : iter (ld w) bD (eU.mk 0 (aO [] (0, 0) 0)) = some (eU.mk (w.B.length : Int) (mC w.B)) := e1
 have e2 := az (step := lf w) (n := w.V.length) (fun k => eV.mk (k : Int) (ko (w.V.take k))) (eV.mk (w.V.length : Int) (ko w.V)) (fun k hk => by
  obtain ⟨y, hy, -⟩ := aE hk;unfold lf;simp only
  rw [decide_eq_true (show (k : Int) < (w.V.length : Int) by omega), ct, aH hy, ob, aY hy, sE, aj (n := k) (by omega)]) (by
  unfold lf;simp only
  rw [decide_eq_false (show ¬ (w.V.length : Int) < (w.V.length : Int) by omega), cf, List.take_length]) (by omega)
 have e2' : iter (lf w) bD (eV.mk 0 []) = some (eV.mk (w.V.length : Int) (ko w.V)) := e2;rw [e1', ob, e2', ob]
def forB (B : List Bk) (v : Vt) : Prop := ∃ s, aX B v.Head = some s ∧ s ≤ v.Slot
def u7 (sm : List (ID × Int)) (v : Vt) : Bool := match af sm v.Head with
 | none => true
 | some s => decide (s > v.Slot)
theorem Ex (v : Vt) (sm : List (ID × Int)) : BI v sm = some (u7 sm v) := by
 unfold BI u7
 cases af sm v.Head with
 | none => rfl
 | some s => rfl
def ss (sm : List (ID × Int)) (l : List Vt) (j : Nat) : Option Int := match l[j]? with
 | some v => if u7 sm v = true then some (j : Int) else none
 | none => none
theorem Ey {l : List Vt} (hl : l.length ≤ 90000) (sm : List (ID × Int)) : BJ l sm = some (l.any (u7 sm)) := by
 have e := eN (step := iP l sm) (n := l.length) (fun k => d6.mk (k : Int)) (ss sm l) (fun j hj => by
  obtain ⟨y, hy, -⟩ := aE hj;unfold iP ss;simp only;rw [decide_eq_true (show (j : Int) < (l.length : Int) by omega), ct, aH hy, ob, Ex, ob, aj (n := j) (by omega), hy];simp only
  cases u7 sm y with
  | true => rw [ct, if_pos rfl]
  | false => rw [cf, if_neg (by simp)]) (by
  unfold iP;simp only
  rw [decide_eq_false (show ¬ (l.length : Int) < (l.length : Int) by omega), cf]) (by omega)
 unfold BJ x9;have e' : iter (iP l sm) bD (d6.mk 0) = some (lQ (d6.mk (l.length : Int)) (cv (ss sm l) 0 l.length)) := e;rw [e', ob]
 cases h : cv (ss sm l) 0 l.length with
 | none =>
  rw [lQ, sl, ob];rw [fI] at h;congr 1;rw [show decide ((-1 : Int) ≥ 0) = false from rfl];symm;rw [List.any_eq_false];intro v hv;obtain ⟨j, hj⟩ := List.getElem?_of_mem hv;have := h j (Nat.zero_le _) (by have := (List.getElem?_eq_some_iff.1 hj).1; omega);unfold ss at this;rw [hj] at this;simp only at this;intro hb;rw [if_pos hb] at this; cases this
 | some r =>
  obtain ⟨j, -, -, h3, -⟩ := dI h;unfold ss at h3;split at h3
  ·rename_i v hv;split at h3
   ·rename_i hb;cases h3;rw [lQ, sr, ob, decide_eq_true (show (j : Int) ≥ 0 by omega)];congr 1;symm;rw [List.any_eq_true];exact ⟨v, List.mem_of_getElem? hv, hb⟩
   ·cases h3
  ·cases h3
structure ec (c : Cf) (w : Vw) : Prop where
 conf : cH c
 valid : aJ w.B
 lenB : w.B.length ≤ 60
 lenV : w.V.length ≤ 240
 mayB : ∀ b ∈ w.B, mayB c b = true
 mayV : ∀ v ∈ w.V, mayV c v = true
 nodup : w.V.Nodup
 forB : ∀ v ∈ w.V, forB w.B v
open Classical in
theorem GO {c : Cf} {w : Vw} (h1 : w.B.length ≤ 1000) (h2 : w.V.length ≤ 1000) : Ir c w = some (decide (ec c w)) := by
 have hno : ∀ h : ¬ ec c w, decide (ec c w) = false := fun h => decide_eq_false h;unfold Ir;rw [ky, ob];by_cases c1 : cH c
 ·rw [decide_eq_true c1, Bool.not_true, cf, Ch, ob];by_cases c2 : aJ w.B
  ·rw [show (places w.B).isSome = true from c2, Bool.not_true, cf];by_cases c3 : w.B.length ≤ 60
   ·rw [decide_eq_false (show ¬ (w.B.length : Int) > 60 by omega), cf, ob];by_cases c4 : w.V.length ≤ 240
    ·rw [decide_eq_false (show ¬ (w.V.length : Int) > 240 by omega), cf, Cl (by omega) (by omega), ob]
     have hfB : (a7 c w).B.length = w.B.length ↔ ∀ b ∈ w.B, mayB c b = true := by unfold a7; exact List.length_filter_eq_length_iff
     have hfV : (a7 c w).V.length = w.V.length ↔ ∀ v ∈ w.V, mayV c v = true := by unfold a7; exact List.length_filter_eq_length_iff
     by_cases c5 : ∀ b ∈ w.B, mayB c b = true
     ·rw [show (((a7 c w).B.length : Int) != (w.B.length : Int)) = false by rw [hfB.2 c5]; simp, cf, ob];by_cases c6 : ∀ v ∈ w.V, mayV c v = true
      ·have hm := vJ w.V;rw [show (((a7 c w).V.length : Int) != (w.V.length : Int)) = false by rw [hfV.2 c6]; simp, cf, x6 (by omega) (by omega), ob, show qA (ko w.V) = true from decide_eq_true (by omega), ct];by_cases c7 : w.V.Nodup
       ·rw [show (((ko w.V).length : Int) == (w.V.length : Int)) = true by rw [hm.2.2 c7]; simp, ct, Ey (by omega), ob];congr 1
        have hbad : ∀ v, u7 (mC w.B) v = false ↔ Go.Mg.forB w.B v := by
         intro v;unfold u7 Go.Mg.forB;rw [sW c2]
         cases aX w.B v.Head with
         | none => simp
         | some s => simp
        cases ha : w.V.any (u7 (mC w.B)) with
        | true =>
         obtain ⟨v, hv, hb⟩ := List.any_eq_true.1 ha;symm;refine hno fun h => ?_;have := (hbad v).2 (h.forB v hv);rw [hb] at this; cases this
        | false =>
         rw [List.any_eq_false] at ha;symm;exact decide_eq_true ⟨c1, c2, c3, c4, c5, c6, c7, fun v hv => (hbad v).1 (by have := ha v hv; simpa using this)⟩
       ·rw [show (((ko w.V).length : Int) == (w.V.length : Int)) = false by
         rw [beq_eq_false_iff_ne]; intro e; exact c7 (hm.2.1 (by omega)), cf, hno fun h => c7 h.nodup]
      ·rw [show (((a7 c w).V.length : Int) != (w.V.length : Int)) = true by
        rw [bne_iff_ne]; intro e; exact c6 (hfV.1 (by omega)), ct, hno fun h => c6 h.mayV]
     ·rw [show (((a7 c w).B.length : Int) != (w.B.length : Int)) = true by
       rw [bne_iff_ne]; intro e; exact c5 (hfB.1 (by omega)), ct, ob, ct, hno fun h => c5 h.mayB]
    ·rw [decide_eq_true (show (w.V.length : Int) > 240 by omega), ct, hno fun h => c4 h.lenV]
   ·rw [decide_eq_true (show (w.B.length : Int) > 60 by omega), ct, ob, ct, hno fun h => c3 h.lenB]
  ·rw [show (places w.B).isSome = false from by unfold aJ at c2; simpa using c2, Bool.not_false, ct, ob, ct, hno fun h => c2 h.valid]
 ·rw [decide_eq_false c1, Bool.not_false, ct, ob, ct, hno fun h => c1 h.conf]
open Go.Proofs
structure fi where
 n : Int
 o6 : List Bk
 o7 : List Vt
 o8 : List (ID × Int)
 o9 : List (Vt × Bool)
 x_5 : Bool
 o14 : List Bk
 o15 : List Vt
 left_0 : Nat
 left_1 : Nat
def l6 (slot : Int) (x1 : fi) : Option (fi ⊕ fi) :=
 bif x1.n != (IntKind.i64.wrap ((x1.o6.length : Int) + (x1.o7.length : Int))) then
  (BM x1.o14 x1.left_0 x1.o6 x1.o8 slot x1.x_5).bind fun v5 =>
  (BN x1.o15 x1.left_1 x1.o7 v5.2.2.2.1 x1.o9 slot v5.2.2.2.2).bind fun v6 =>
  some (.inl (fi.mk (IntKind.i64.wrap ((x1.o6.length : Int) + (x1.o7.length : Int))) v5.2.2.1 v6.2.2.1 v5.2.2.2.1 v6.2.2.2.1 v6.2.2.2.2 v5.2.1 v6.2.1 v5.1 v6.1))
 else
  some (.inr (fi.mk x1.n x1.o6 x1.o7 x1.o8 x1.o9 x1.x_5 x1.o14 x1.o15 x1.left_0 x1.left_1))
def It (c : Cf) (w : Vw) (v_in : Vw) (slot : Int) : Option (Vw × Vw × Bool) :=
 (z6 w slot).bind fun v1 =>
 (Ir c w).bind fun v2 =>
 bif !v2 then
  bif room 0 v_in.B.length 40 then
   bif room 0 v_in.V.length 32 then
    some (w, v_in, false)
   else none
  else none
 else
  (Ck c v_in).bind fun v3 =>
  (iter (l6 slot) bD (fi.mk (-1) w.B w.V v1.1 v1.2 false v3.1 v3.2 ((v3.1.map ay).length) ((v3.2.map aI).length))).bind fun v4 =>
  bif Nat.ble v4.left_0 v4.o14.length then
   bif Nat.ble v4.left_1 v4.o15.length then
    some (Vw.mk v4.o6 v4.o7, Vw.mk (v4.o14.take v4.left_0) (v4.o15.take v4.left_1), v4.x_5)
   else none
  else none
theorem Me {c : Cf} {w : Vw} {v_in : Vw} {slot : Int} {r_ : Vw × Vw × Bool} (hr : It c w v_in slot = some r_) : aw Tryz.prog 164 [jC c, mO w, mO v_in, .int .i64 slot] [mO r_.1, mO r_.2.1, .bool r_.2.2] := by
 refine zh Tryz.func164 Z Z Z Z ?_;unfold It at hr;refine zQ (zR (yS Z (bZ Z Z Z Z Z) (yS Z (bZ Z Z Z Z Z) (yS Z (bZ Z Z Z Z Z) (yS Z (ze Z ii Z Z) (yS Z (ze Z ii Z Z) (zM Z (zN (zT (zQ (zR (yS Z (zD Z Z Z aS Z Z) (zM Z (zb hr fun v1 h_v1 hr => yS Z (zC Z Z Z (by kernel_rfl) (LC.frameX (x' := .ptr 10 0) (H' := [.box (bE c), .box (dm w), .box (dm v_in), .box [.zs, .zs], .box [.zs, .zs], .box (dm w), .vec 5 (w.B.map ay), .vec 4 (w.V.map aI), (mQ v1.1), (mR v1.2), .box [(jB 6 w.B), (jV 7 w.V), .map 8, .map 9, (iQ slot), (bQ false)]]) (Gd h_v1) (.consC zv (.consC zv .nil)) Z Z (by simp only [List.map_cons, List.map_nil, List.cons_append, List.nil_append, aa.shift, LV.shifts, LV.shift, yx, yw] <;> rfl))) (zM Z (zN (zT (zQ (zQ (zR (yS Z (zD Z Z Z bv Z Z) (yS Z (zD Z Z Z aS Z Z) ?_))))))))))))))))))))));refine zb hr fun v2 h_v2 hr => yS Z (zC Z Z Z (by kernel_rfl) (zp (Md h_v2) (.cons zv (.cons zv .nil)))) (yS Z (ab.not Z Z) (zN (zT ?_)));refine zX Z (fun g1 => ?_) (fun g1 => ?_)
 ·
  refine zi g1 hr fun hr => zQ (LW.ent (bL.slot Z) (LW.ent (bL.slot Z) (LW.drawW (by kernel_rfl) (by kernel_rfl) (zK Z ?_))));refine yF (F := []) (s := none) Z (fun H _ => zn Z Z) Z ?_;refine yF (F := []) (s := none) Z (fun H _ => zA Z Z ez) Z ?_;refine yF Z (zd Z Z Z aS Z Z) Z ?_;refine yF (F := []) (s := none) Z (fun H _ => zA Z Z bz) Z ?_;refine yF Z (zd Z Z Z dC Z Z) Z (zg hr fun q1 hr => ?_);refine yF Z (bH.callV (id := 11) (qs := [(kB v_in.B)]) Z Z Z (by kernel_rfl) (u9 q1) (fun H => (.consC zv .nil)) Z) Z ?_;refine yF (F := []) (s := none) Z (fun H _ => zA Z Z b7) Z ?_;refine yF Z (zd Z Z Z eS Z Z) Z (zg hr fun q2 hr => ?_);refine yF Z (bH.callV (id := 12) (qs := [(kV v_in.V)]) Z Z Z (by kernel_rfl) (va q2) (fun H => (.consC zv .nil)) Z) Z ?_;refine yF (F := []) (s := none) Z (fun H _ => ab.build Z oa Z Z Z) Z ?_;refine yF Z (zt Z Z Z Z aS Z Z Z) Z (yF Z (zt Z Z Z Z aS Z Z Z) Z (zK Z ?_));refine LF.nil ⟨by kernel_rfl, ?_⟩;refine zT (zr (am ?_));obtain rfl := zJ hr;exact zf (.three (.cellAgg Z Z (by kernel_rfl) Z) (.cellAgg Z Z (by kernel_rfl) Z) (.tmp Z)) (⟨_, rfl, (.cons (Conv.agg (.cons (Conv.vecAll Z Z Z) (.cons (Conv.vecAll Z Z Z) .nil))) (.cons (Conv.agg (.cons (Conv.vecAll Z Z Z) (.cons (Conv.vecAll Z Z Z) .nil))) (.cons zv .nil)))⟩)
 ·
  refine zo g1 hr fun hr => zk (zT (zQ (zR (zM Z (yS Z (ab.makeFunc Z Z Z) (zM Z (yS Z (ab.makeFunc Z Z Z) (zM Z (zM Z (zN (zT (zQ (zR (yS Z (zD Z Z Z bv Z Z) (yS Z (zD Z Z Z aS Z Z) (zb hr fun v3 h_v3 hr => ?_))))))))))))))));refine yS Z (zC Z Z Z (by kernel_rfl) (LC.frameX (x' := .agg [(jB 14 v3.1), (jV 15 v3.2)]) (H' := [.box (bE c), .box (dm w), .box (dm v_in), .box [.zs, .zs], .box [.zs, .zs], .box (dm w), .vec 5 (w.B.map ay), .vec 4 (w.V.map aI), (mQ v1.1), (mR v1.2), .box [(jB 6 w.B), (jV 7 w.V), .map 8, .map 9, (iQ slot), (bQ false)], .box (bE c), .box (dm v_in), .box [(jB 14 v3.1), (jV 15 v3.2)], .vec 5 (v3.1.map ay), .vec 4 (v3.2.map aI)]) (Jv h_v3) (.consC zv (.consC zv .nil)) Z Z (by simp only [List.map_cons, List.map_nil, List.cons_append, List.nil_append, aa.shift, LV.shifts, LV.shift] <;> rfl))) ?_;refine yS Z (ze Z ii Z Z) (yS Z (zs Z Z Z Z aS Z Z Z Z) (zN (zT (zQ (zQ (LW.ent (bL.kill (i := 0) Z) (LW.ent (bL.kill (i := 1) Z) (LW.ent (bL.kill (i := 2) Z) (LW.ent (bL.kill (i := 5) Z) (LW.ent (bL.kill (i := 11) Z) (LW.ent (bL.kill (i := 12) Z) (LW.ent (bL.kill (i := 13) Z) (zR (zM Z (zN (zT ?_))))))))))))))));obtain ⟨v4, hb_v4, ho_v4⟩ := zB hr;clear hr;refine LW.tail (E := [(8, .ptr 3 0), (9, .ptr 4 0), (10, (bQ false)), (11, .ptr 10 0), (14, .ptr 16 0)]) (O := [.dead, .dead, .dead, .box [.zs, .zs], .box [.zs, .zs], .dead, .vec 5 (v4.o6.map ay), .vec 4 (v4.o7.map aI), (mQ v4.o8), (mR v4.o9), .box [(jB 6 v4.o6), (jV 7 v4.o7), .map 8, .map 9, (iQ slot), (bQ v4.x_5)], .dead, .dead, .dead, .vec 5 (v4.o14.map ay), .vec 4 (v4.o15.map aI), .box [.vec 5 14 (v4.o14.map ay).length 0 v4.left_0, .vec 4 15 (v4.o15.map aI).length 0 v4.left_1]]) ?_ (fun env_v4 H_v4 hw_v4 => ?_)
  ·refine LW.block ?_;refine LW.iterB (E := fun x1 : fi => [(8, .ptr 3 0), (9, .ptr 4 0), (10, (bQ false)), (11, .ptr 10 0), (12, .fn 179 [.ptr 10 0] []), (13, .fn 180 [.ptr 10 0] []), (14, .ptr 16 0), (15, (iQ x1.n))]) (O := fun x1 => [.dead, .dead, .dead, .box [.zs, .zs], .box [.zs, .zs], .dead, .vec 5 (x1.o6.map ay), .vec 4 (x1.o7.map aI), (mQ x1.o8), (mR x1.o9), .box [(jB 6 x1.o6), (jV 7 x1.o7), .map 8, .map 9, (iQ slot), (bQ x1.x_5)], .dead, .dead, .dead, .vec 5 (x1.o14.map ay), .vec 4 (x1.o15.map aI), .box [.vec 5 14 (x1.o14.map ay).length 0 x1.left_0, .vec 4 15 (x1.o15.map aI).length 0 x1.left_1]]) hb_v4 (zW 17 ⟨rfl, rfl, rfl, rfl, rfl, rfl, rfl, rfl, trivial⟩ Z Z Z (zL Z (zL Z (zL Z (zL Z (zL Z (zL Z (zL Z (zL Z (zL (ae (fun _ => rfl) _) (zL (ae (fun _ => rfl) _) (zL Z (zL Z (zL Z (zL Z (zL Z (zL Z (zL Z Z)))))))))))))))))) (fun x1 z_x1 hr hb_x1 => ?_);unfold l6 at hr;refine zQ (zQ (LW.draw2 (by kernel_rfl) (by kernel_rfl) (zH Z (zH Z (yE Z (zn Z Z) (yE Z (zA Z Z ez) (yE Z (zA Z Z bz) (yE Z (zD Z Z Z dC Z Z) (yE Z (ab.lenVM Z Z Z (by kernel_rfl)) (zH Z (yE Z (zn Z Z) (yE Z (zA Z Z ez) (yE Z (zA Z Z b7) (yE Z (zD Z Z Z eS Z Z) (yE Z (ab.lenVM Z Z Z (by kernel_rfl)) (yE Z (ax Z Z Z Z) (yE Z (ax Z Z Z Z) (LO.nil (zT ?_)))))))))))))))))));refine zX Z (fun g2 => ?_) (fun g2 => ?_)
   ·
    refine zi g2 hr fun hr => zk (zT (zl (zQ (LW.draw2 (by kernel_rfl) (by kernel_rfl) (zH Z (yE Z (zn Z Z) (yE Z (zA Z Z ez) (yE Z (zA Z Z bz) (yE Z (zD Z Z Z dC Z Z) (yE Z (ab.lenVM Z Z Z (by kernel_rfl)) (zH Z (yE Z (zn Z Z) (yE Z (zA Z Z ez) (yE Z (zA Z Z b7) (yE Z (zD Z Z Z eS Z Z) (yE Z (ab.lenVM Z Z Z (by kernel_rfl)) (yE Z (ax Z Z Z Z) (zH Z (LO.nil (zT (zQ (zR ?_))))))))))))))))))))));refine yS Z (zA Z Z bz) (yS Z (zD Z Z Z dC Z Z) (zM Z (zb hr fun v5 h_v5 hr => yS Z (zC Z Z Z (by kernel_rfl) (Jp h_v5)) (yS Z (zA Z Z bz) (yS Z (zs Z Z Z Z dC Z Z Z Z) (zN (zT (zR (yS Z (zA Z Z b7) (yS Z (zD Z Z Z eS Z Z) (zM Z (zb hr fun v6 h_v6 hr => yS Z (zC Z Z Z (by kernel_rfl) (Jq h_v6)) (yS Z (zA Z Z b7) (yS Z (zs Z Z Z Z eS Z Z Z Z) (zN (ai (zT ?_)))))))))))))))));obtain rfl := zJ hr;exact ⟨_, rfl, zW 17 ⟨rfl, rfl, rfl, rfl, rfl, rfl, rfl, rfl, trivial⟩ Z Z Z (zL Z (zL Z (zL Z (zL Z (zL Z (zL Z (zL Z (zL Z (zL (ae (fun _ => rfl) _) (zL (ae (fun _ => rfl) _) (zL Z (zL Z (zL Z (zL Z (zL Z (zL Z (zL Z Z)))))))))))))))))⟩
   ·
    refine zo g2 hr fun hr => zq (ao (ao (zy (zT ?_))));obtain rfl := zJ hr;have hr := congrArg some (hb_x1 _ rfl);obtain rfl := zJ hr;exact zW 17 ⟨Z, Z, Z, Z, Z, trivial⟩ Z Z Z (zL Z (zL Z (zL Z (zL Z (zL Z (zL Z (zL Z (zL Z (zL (ae (fun _ => rfl) _) (zL (ae (fun _ => rfl) _) (zL Z (zL Z (zL Z (zL Z (zL Z (zL Z (zL Z Z)))))))))))))))))
  ·have hr := ho_v4;clear hb_v4;refine zT (LW.weak hw_v4 (zQ (LW.drawW (by kernel_rfl) (by kernel_rfl) (zK Z ?_))));refine yF (F := []) (s := none) Z (fun H _ => zn Z Z) Z ?_;refine yF (F := []) (s := none) Z (fun H _ => zA Z Z ez) Z ?_;refine yF Z (zd Z Z Z aS Z Z) Z (zg hr fun q3 hr => zg hr fun q4 hr => yF Z (zd Z Z Z aS Z Z) Z (zK Z ?_));refine yF (F := []) (s := none) Z (fun H _ => zn Z Z) Z ?_;refine yF (F := []) (s := none) Z (fun H _ => zA Z Z pJ) Z ?_;refine yF Z (zd Z Z Z Br Z Z) Z (yF Z (zt Z Z Z Z aS Z Z Z) Z (yF Z (zt Z Z Z Z aS Z Z Z) Z (zK Z ?_)));refine LF.nil ⟨by kernel_rfl, ?_⟩;refine zT (zr ?_);obtain rfl := zJ hr;exact zf (.three (.cellAgg Z Z (by kernel_rfl) Z) (.cellAgg Z Z (by kernel_rfl) Z) (.tmp Z)) (⟨_, rfl, (.cons (Conv.agg (.cons (Conv.vecAll Z Z Z) (.cons (Conv.vecAll Z Z Z) .nil))) (.cons (Conv.agg (.cons (Conv.vecTake Z q3) (.cons (Conv.vecTake Z q4) .nil))) (.cons zv .nil)))⟩)
def cx (B : List Bk) (b : Bk) : Bool := (aX B (nm b)).isSome || (match aX B b.Parent with | some s => decide (s ≥ b.Slot) | none => false)
def eP (B : List Bk) (upto : Int) (b : Bk) : Bool := match aX B b.Parent with | some _ => decide (b.Slot > upto) | none => true
def bn (upto : Int) (B : List Bk) (full : Bool) (b : Bk) : Bool × List Bk × Bool :=
 if cx B b then (true, B, full) else if eP B upto b then (false, B, full) else if B.length < 60 then (true, B ++ [b], full) else (false, B, true)
def cL (B : List Bk) (V : List Vt) (v : Vt) : Bool := decide (v ∈ V) || (match aX B v.Head with | some s => decide (s > v.Slot) | none => false)
def fg (B : List Bk) (upto : Int) (v : Vt) : Bool := match aX B v.Head with | some _ => decide (v.Slot > upto) | none => true
def bp (upto : Int) (B : List Bk) (V : List Vt) (full : Bool) (v : Vt) : Bool × List Vt × Bool :=
 if cL B V v then (true, V, full) else if fg B upto v then (false, V, full) else if V.length < 240 then (true, V ++ [v], full) else (false, V, true)
def E1 (B : List Bk) (sm : List (ID × Int)) : Prop := ∀ id, af sm id = aX B id
def GT (V : List Vt) (hm : List (Vt × Bool)) : Prop := ∀ v, af hm v = if v ∈ V then some true else none
theorem ya (n most : Int) (full : Bool) : z8 n most full = some (decide (n < most), if n < most then full else true) := by
 unfold z8
 cases full with
 | true => rw [ct]; by_cases h : n < most <;> simp [h]
 | false =>
  rw [cf];by_cases h : n < most
  ·rw [if_pos h, decide_eq_false (show ¬ n ≥ most by omega)]
  ·rw [if_neg h, decide_eq_true (show n ≥ most by omega)]
theorem Ez {b : Bk} {B : List Bk} {sm : List (ID × Int)} {upto : Int} {full : Bool} (hs : E1 B sm) (hB : B.length ≤ 1000) (hl : sm.length ≤ 900000) :
  ∃ sm', wM b B sm upto full = some ((bn upto B full b).1, (bn upto B full b).2.1, sm', (bn upto B full b).2.2) ∧ E1 (bn upto B full b).2.1 sm' ∧ sm'.length ≤ sm.length + ((bn upto B full b).2.1.length - B.length) := by
 unfold wM;rw [hs, hs]
 cases hn : aX B (nm b) with
 | some q =>
  have e : bn upto B full b = (true, B, full) := by simp [bn, cx, hn]
  rw [e];refine ⟨sm, ?_, hs, by simp⟩;rw [Option.isSome_some, ct, ob, ct]
 | none =>
  rw [Option.isSome_none, cf]
  cases hp : aX B b.Parent with
  | none =>
   have e : bn upto B full b = (false, B, full) := by simp [bn, cx, eP, hn, hp]
   rw [e];refine ⟨sm, ?_, hs, by simp⟩;rw [Option.isSome_none, cf, ob, cf, Bool.not_false, ct, ob, ct]
  | some s =>
   rw [Option.isSome_some, ct, ob, Option.getD_some];by_cases h1 : s ≥ b.Slot
   ·have e : bn upto B full b = (true, B, full) := by simp [bn, cx, hn, hp, h1]
    rw [e];refine ⟨sm, ?_, hs, by simp⟩;rw [decide_eq_true h1, ct]
   ·rw [decide_eq_false h1, cf, Bool.not_true, cf];by_cases h2 : b.Slot > upto
    ·have e : bn upto B full b = (false, B, full) := by simp [bn, cx, eP, hn, hp, h1, h2]
     rw [e];refine ⟨sm, ?_, hs, by simp⟩;rw [decide_eq_true h2, ct, ob, ct]
    ·rw [decide_eq_false h2, cf, ya, ob, ob];by_cases h3 : B.length < 60
     ·have e : bn upto B full b = (true, B ++ [b], full) := by simp [bn, cx, eP, hn, hp, h1, h2, h3]
      rw [e];refine ⟨aO sm (nm b) b.Slot, ?_, fun id => ?_, ?_⟩
      ·rw [decide_eq_true (show (B.length : Int) < 60 by omega), Bool.not_true, cf, aL (by simp only [List.length_singleton]; omega) (by omega), ct, show qA sm = true from decide_eq_true (by omega), ct, if_pos (show (B.length : Int) < 60 by omega)]
      ·rw [cg, ri, hs];by_cases e : nm b = id
       ·rw [if_pos e, if_pos e, ← e, hn]; rfl
       ·rw [if_neg e, if_neg e]; cases aX B id <;> rfl
      ·rw [nE, List.length_append, List.length_singleton]; split <;> omega
     ·have e : bn upto B full b = (false, B, true) := by simp [bn, cx, eP, hn, hp, h1, h2, h3]
      rw [e];refine ⟨sm, ?_, hs, by simp⟩;rw [decide_eq_false (show ¬ (B.length : Int) < 60 by omega), Bool.not_false, ct, if_neg (show ¬ (B.length : Int) < 60 by omega)]
theorem EA {v : Vt} {B : List Bk} {V : List Vt} {sm : List (ID × Int)} {hm : List (Vt × Bool)} {upto : Int} {full : Bool} (hs : E1 B sm) (hh : GT V hm) (hV : V.length ≤ 1000) (hl : hm.length ≤ 900000) :
  ∃ hm', wN v V sm hm upto full = some ((bp upto B V full v).1, (bp upto B V full v).2.1, hm', (bp upto B V full v).2.2) ∧ GT (bp upto B V full v).2.1 hm' ∧ hm'.length ≤ hm.length + ((bp upto B V full v).2.1.length - V.length) := by
 unfold wN;rw [hs, hh];by_cases hn : v ∈ V
 ·have e : bp upto B V full v = (true, V, full) := by simp [bp, cL, hn]
  rw [e];refine ⟨hm, ?_, hh, by simp⟩;rw [if_pos hn, Option.getD_some, ct, ob, ct]
 ·rw [if_neg hn, Option.getD_none, cf]
  cases hp : aX B v.Head with
  | none =>
   have e : bp upto B V full v = (false, V, full) := by simp [bp, cL, fg, hn, hp]
   rw [e];refine ⟨hm, ?_, hh, by simp⟩;rw [Option.isSome_none, cf, ob, cf, Bool.not_false, ct, ob, ct]
  | some s =>
   rw [Option.isSome_some, ct, ob, Option.getD_some];by_cases h1 : s > v.Slot
   ·have e : bp upto B V full v = (true, V, full) := by simp [bp, cL, hn, hp, h1]
    rw [e];refine ⟨hm, ?_, hh, by simp⟩;rw [decide_eq_true h1, ct]
   ·rw [decide_eq_false h1, cf, Bool.not_true, cf];by_cases h2 : v.Slot > upto
    ·have e : bp upto B V full v = (false, V, full) := by simp [bp, cL, fg, hn, hp, h1, h2]
     rw [e];refine ⟨hm, ?_, hh, by simp⟩;rw [decide_eq_true h2, ct, ob, ct]
    ·rw [decide_eq_false h2, cf, ya, ob, ob];by_cases h3 : V.length < 240
     ·have e : bp upto B V full v = (true, V ++ [v], full) := by simp [bp, cL, fg, hn, hp, h1, h2, h3]
      rw [e];refine ⟨aO hm v true, ?_, fun id => ?_, ?_⟩
      ·rw [decide_eq_true (show (V.length : Int) < 240 by omega), Bool.not_true, cf, aL (by simp only [List.length_singleton]; omega) (by omega), ct, show qA hm = true from decide_eq_true (by omega), ct, if_pos (show (V.length : Int) < 240 by omega)]
      ·rw [cg, hh];by_cases e : v = id
       ·subst e; simp
       ·simp [e, Ne.symm e]
      ·rw [nE, List.length_append, List.length_singleton]; split <;> omega
     ·have e : bp upto B V full v = (false, V, true) := by simp [bp, cL, fg, hn, hp, h1, h2, h3]
      rw [e];refine ⟨hm, ?_, hh, by simp⟩;rw [decide_eq_false (show ¬ (V.length : Int) < 240 by omega), Bool.not_false, ct, if_neg (show ¬ (V.length : Int) < 240 by omega)]
section
variable {α : Type}
def bg (step : List α → Bool → α → Bool × List α × Bool) : List α → Bool → List α → List α × List α × Bool
 | B, f, [] => ([], B, f)
 | B, f, b :: r => (if (step B f b).1 then (bg step (step B f b).2.1 (step B f b).2.2 r).1 else b :: (bg step (step B f b).2.1 (step B f b).2.2 r).1, (bg step (step B f b).2.1 (step B f b).2.2 r).2)
variable {step : List α → Bool → α → Bool × List α × Bool}
theorem gV (b : α) : ∀ (l B : List α) (f : Bool), bg step B f (l ++ [b]) =
  (if (step (bg step B f l).2.1 (bg step B f l).2.2 b).1 then (bg step B f l).1 else (bg step B f l).1 ++ [b], (step (bg step B f l).2.1 (bg step B f l).2.2 b).2)
 | [], B, f => by
  simp only [List.nil_append, bg];rfl
 | x :: r, B, f => by
  simp only [List.cons_append, bg, gV b r];split <;> split <;> simp_all
theorem oA : ∀ (l B : List α) (f : Bool), (bg step B f l).1.length ≤ l.length
 | [], B, f => by simp [bg]
 | x :: r, B, f => by
  have := oA r (step B f x).2.1 (step B f x).2.2;simp only [bg];split
  ·simp only [List.length_cons]; omega
  ·simp only [List.length_cons]; omega
theorem eD (h : ∀ B f b, B.length ≤ (step B f b).2.1.length ∧ (step B f b).2.1.length ≤ B.length + 1) : ∀ (l B : List α) (f : Bool), B.length ≤ (bg step B f l).2.1.length ∧ (bg step B f l).2.1.length ≤ B.length + l.length
 | [], B, f => by simp [bg]
 | x :: r, B, f => by
  have h1 := h B f x;have h2 := eD h r (step B f x).2.1 (step B f x).2.2;simp only [bg, List.length_cons];omega
end
def bl (upto : Int) : List Bk → Bool → List Bk → List Bk × List Bk × Bool := bg (bn upto)
def bX (upto : Int) (B : List Bk) : List Vt → Bool → List Vt → List Vt × List Vt × Bool := bg (bp upto B)
theorem jY (upto : Int) (B : List Bk) (f : Bool) (b : Bk) : B.length ≤ (bn upto B f b).2.1.length ∧ (bn upto B f b).2.1.length ≤ B.length + 1 := by
 unfold bn; split <;> (try split) <;> (try split) <;> simp
theorem jZ (upto : Int) (B : List Bk) (V : List Vt) (f : Bool) (v : Vt) : V.length ≤ (bp upto B V f v).2.1.length ∧ (bp upto B V f v).2.1.length ≤ V.length + 1 := by
 unfold bp; split <;> (try split) <;> (try split) <;> simp
structure wW (B : List Bk) (sm : List (ID × Int)) : Prop where
 find : E1 B sm
 len : sm.length ≤ B.length + 1
structure Bp (V : List Vt) (hm : List (Vt × Bool)) : Prop where
 find : GT V hm
 len : hm.length ≤ V.length
theorem BK {b : Bk} {B : List Bk} {sm : List (ID × Int)} {upto : Int} {full : Bool} (hs : wW B sm) (hB : B.length ≤ 1000) :
  ∃ sm', wM b B sm upto full = some ((bn upto B full b).1, (bn upto B full b).2.1, sm', (bn upto B full b).2.2) ∧ wW (bn upto B full b).2.1 sm' := by
 obtain ⟨sm', h1, h2, h3⟩ := Ez (b := b) (upto := upto) (full := full) hs.find hB (by have := hs.len; omega);have hg := jY upto B full b;exact ⟨sm', h1, h2, by have := hs.len; omega⟩
theorem BL {v : Vt} {B : List Bk} {V : List Vt} {sm : List (ID × Int)} {hm : List (Vt × Bool)} {upto : Int} {full : Bool} (hs : wW B sm) (hh : Bp V hm) (hV : V.length ≤ 1000) :
  ∃ hm', wN v V sm hm upto full = some ((bp upto B V full v).1, (bp upto B V full v).2.1, hm', (bp upto B V full v).2.2) ∧ Bp (bp upto B V full v).2.1 hm' := by
 obtain ⟨hm', h1, h2, h3⟩ := EA (v := v) (upto := upto) (full := full) hs.find hh.find hV (by have := hh.len; omega);have hg := jZ upto B V full v;exact ⟨hm', h1, h2, by have := hh.len; omega⟩
theorem fQ {α : Type} {l : List α} {j : Nat} {y : α} (h : l[j]? = some y) : l.take (j + 1) = l.take j ++ [y] := aY h
theorem EK {lB l B : List Bk} {kk : Nat} {sm : List (ID × Int)} {upto : Int} {full : Bool} (hl : lB.take kk = l) (hk : l.length = kk) (hs : wW B sm) (hB : B.length + kk ≤ 900) :
  ∃ i B' sm' f', BW lB kk B sm upto full = some (i, B', sm', f') ∧ wW B' sm' ∧ ((i = -1 ∧ bl upto B full l = (l, B', f')) ∨ ∃ j : Nat, i = j ∧ j < kk ∧ bl upto B full (l.take (j + 1)) = (l.take j, B', f')) := by
 unfold BW
 have key := cN (step := lm lB kk upto) (fun x => ∃ j : Nat, j ≤ kk ∧ x.t8 = j ∧ bl upto B full (l.take j) = (l.take j, x.o6, x.o10_5) ∧ wW x.o6 x.o8) (fun x => kk - x.t8.toNat)
  (fun b => (∃ x, b = .inl x ∧ bl upto B full l = (l, x.o6, x.o10_5) ∧ wW x.o6 x.o8) ∨ ∃ (j : Nat) (B' : List Bk) (sm' : List (ID × Int)) (f' : Bool), b = .inr ((j : Int), B', sm', f') ∧ j < kk ∧ bl upto B full (l.take (j + 1)) = (l.take j, B', f') ∧ wW B' sm') (by
   rintro ⟨t, B1, sm1, f1⟩ ⟨j, hj, h1, h2, h3⟩;simp only at h1 h2 h3;subst h1;by_cases hlt : j < kk
   ·obtain ⟨y, hy, -⟩ := aE (l := l) (n := j) (by omega);have hgr := eD (step := bn upto) (jY upto) (l.take j) B full;have h2' : bg (bn upto) B full (l.take j) = (l.take j, B1, f1) := h2;rw [h2'] at hgr;simp only at hgr;rw [List.length_take] at hgr;obtain ⟨sm', e, hr⟩ := BK (b := y) (upto := upto) (full := f1) h3 (by omega)
    have hsn : bl upto B full (l.take (j + 1)) = (if (bn upto B1 f1 y).1 then l.take j else l.take j ++ [y], (bn upto B1 f1 y).2) := by
     rw [fQ hy];unfold bl;rw [gV, h2']
    generalize bn upto B1 f1 y = q at e hr hsn;obtain ⟨g, B2, f2⟩ := q;simp only at e hr hsn
    have hstep : lm lB kk upto ⟨(j : Int), B1, sm1, f1⟩ = bif g then some (.inr (.inr ((j : Int), B2, sm', f2))) else some (.inl ⟨((j + 1 : Nat) : Int), B2, sm', f2⟩) := by
     unfold lm;simp only;rw [decide_eq_true (show (j : Int) < (kk : Int) by omega), ct, hl, aH hy, ob, e, ob, aj (n := j) (by omega)]
    cases g with
    | true =>
     right;rw [ct] at hstep;rw [if_pos rfl] at hsn;exact ⟨_, hstep, .inr ⟨j, B2, sm', f2, rfl, hlt, hsn, hr⟩⟩
    | false =>
     left;rw [cf] at hstep;rw [if_neg (by simp)] at hsn;refine ⟨_, hstep, ⟨j + 1, hlt, rfl, ?_, hr⟩, by simp only; omega⟩;rw [hsn, fQ hy]
   ·right
    obtain rfl : j = kk := by omega
    refine ⟨.inl ⟨(j : Int), B1, sm1, f1⟩, ?_, .inl ⟨_, rfl, ?_, h3⟩⟩
    ·unfold lm;simp only;rw [decide_eq_false (show ¬ (j : Int) < (j : Int) by omega), cf]
    ·rw [List.take_of_length_le (by omega)] at h2; exact h2) (n := bD) (x := ⟨0, B, sm, full⟩) ⟨0, by omega, rfl, by simp [bl, bg], hs⟩ (dy (by simp only; omega))
 obtain ⟨b, e, ⟨x, rfl, h1, h2⟩ | ⟨j, B', sm', f', rfl, h0, h1, h2⟩⟩ := key
 ·exact ⟨-1, x.o6, x.o8, x.o10_5, by rw [e, ob, sl], h2, .inl ⟨rfl, h1⟩⟩
 ·exact ⟨j, B', sm', f', by rw [e, ob, sr], h2, .inr ⟨j, rfl, h0, h1⟩⟩
structure rJ {α : Type} (lB : List α) (k : Nat) (l : List α) : Prop where
 take : lB.take k = l
 le : k ≤ lB.length
theorem rJ.len {α : Type} {lB l : List α} {k : Nat} (h : rJ lB k l) : l.length = k := by
 rw [← h.take, List.length_take]; have := h.le; omega
theorem tB {α : Type} {a l : List α} {i kk : Nat} {z : α} (hi : i ≤ kk) (hk : kk ≤ a.length) (h : a.take i = l) : rJ (iF a i (kk - i) z) i l := by
 have hlen := qv (l := a) (off := i) (k := kk - i) (z := z) (by omega);refine ⟨?_, by omega⟩;unfold iF;rw [List.append_assoc, List.take_left' (by rw [List.length_take]; omega), h]
structure Mv {α : Type} (l a : List α) (i j : Nat) (left : List α) : Prop where
 ij : i < j
 jl : j ≤ l.length
 len : l.length ≤ a.length
 left : a.take i = left
 rest : ∀ q, j ≤ q → q < l.length → a[q]? = l[q]?
theorem Mv.next_gone {α : Type} {l a : List α} {i j : Nat} {left : List α} (h : Mv l a i j left) (hj : j < l.length) : Mv l a i (j + 1) left :=
 ⟨by have := h.ij; omega, hj, h.len, h.left, fun q h1 h2 => h.rest q (by omega) h2⟩
theorem Mv.next_stay {α : Type} {l a : List α} {i j : Nat} {left : List α} {y : α} (h : Mv l a i j left) (hj : j < l.length) (_ : l[j]? = some y) : Mv l (a.set i y) (i + 1) (j + 1) (left ++ [y]) := by
 have h1 := h.ij;have h2 := h.len;refine ⟨by omega, hj, by rw [List.length_set]; exact h2, ?_, fun q h3 h4 => ?_⟩
 ·have hi : (a.set i y)[i]? = some y := by rw [List.getElem?_set]; simp; omega
  rw [fQ hi, List.take_set_of_le (Nat.le_refl _), h.left]
 ·rw [List.getElem?_set, if_neg (by omega)];exact h.rest q (by omega) h4
theorem EB {lB l B : List Bk} {kk : Nat} {sm : List (ID × Int)} {upto : Int} {full : Bool} (hl : rJ lB kk l) (hs : wW B sm) (hB : B.length + kk ≤ 900) :
  ∃ k' lB' sm', BM lB kk B sm upto full = some (k', lB', (bl upto B full l).2.1, sm', (bl upto B full l).2.2) ∧ wW (bl upto B full l).2.1 sm' ∧ rJ lB' k' (bl upto B full l).1 := by
 have hk := hl.len;obtain ⟨i, B0, sm0, f0, e0, hr0, h0⟩ := EK (upto := upto) (full := full) hl.take hk hs hB;unfold BM;rw [e0, ob];rcases h0 with ⟨rfl, hp⟩ | ⟨j0, rfl, hj0, hp⟩
 ·rw [hp];refine ⟨kk, lB, sm0, ?_, hr0, hl⟩;simp only;rw [show ((-1 : Int) == -1) = true from rfl, ct]
 ·simp only;rw [show ((j0 : Int) == -1) = false by rw [beq_eq_false_iff_ne]; omega, cf, aj (n := j0) (by omega)]
  have key := cN (step := lg kk upto) (fun x => ∃ (i j : Nat), x.i = i ∧ x.j = j ∧ wW x.o6 x.o8 ∧ (bl upto B full (l.take j)).2 = (x.o6, x.o10_5) ∧ Mv l x.o14 i j (bl upto B full (l.take j)).1) (fun x => kk - x.j.toNat)
   (fun x => ∃ i : Nat, x.i = i ∧ i ≤ kk ∧ wW x.o6 x.o8 ∧ (bl upto B full l).2 = (x.o6, x.o10_5) ∧ x.o14.take i = (bl upto B full l).1 ∧ kk ≤ x.o14.length) (by
   rintro ⟨i', j', B1, sm1, f1, a⟩ ⟨i, j, h1, h2, h3, h4, h5⟩;simp only at h1 h2 h3 h4 h5;subst h1 h2;have hij := h5.ij;have hjl := h5.jl;have hal := h5.len;by_cases hlt : j < kk
   ·left;obtain ⟨y, hy, -⟩ := aE (l := l) (n := j) (by omega)
    have hya : (a.take kk)[j]? = some y := by rw [List.getElem?_take_of_lt hlt, h5.rest j (Nat.le_refl _) (by omega), hy]
    obtain ⟨z, hz, -⟩ := aE (l := a.take kk) (n := i) (by rw [List.length_take]; omega);have hgr := eD (step := bn upto) (jY upto) (l.take j) B full;have h4' : (bg (bn upto) B full (l.take j)).2 = (B1, f1) := h4;rw [h4'] at hgr;simp only at hgr;rw [List.length_take] at hgr;obtain ⟨sm', e, hr⟩ := BK (b := y) (upto := upto) (full := f1) h3 (by omega)
    have hsn : bl upto B full (l.take (j + 1)) = (if (bn upto B1 f1 y).1 then (bl upto B full (l.take j)).1 else (bl upto B full (l.take j)).1 ++ [y], (bn upto B1 f1 y).2) := by
     rw [fQ hy];unfold bl;rw [gV, h4']
    generalize bn upto B1 f1 y = q at e hr hsn;obtain ⟨g, B2, f2⟩ := q;simp only at e hr hsn
    have hstep : lg kk upto ⟨(i : Int), (j : Int), B1, sm1, f1, a⟩ = bif !g then some (.inl ⟨((i + 1 : Nat) : Int), ((j + 1 : Nat) : Int), B2, sm', f2, a.set i y⟩) else some (.inl ⟨(i : Int), ((j + 1 : Nat) : Int), B2, sm', f2, a⟩) := by
     unfold lg;simp only;rw [decide_eq_true (show (j : Int) < (kk : Int) by omega), ct, aH hya, ob, e, ob, aH hz, ob, aj (n := j) (by omega), aj (n := i) (by omega), Int.toNat_natCast]
    cases g with
    | true =>
     rw [Bool.not_true, cf] at hstep;rw [if_pos rfl] at hsn;refine ⟨_, hstep, ⟨i, j + 1, rfl, rfl, hr, by rw [hsn], ?_⟩, by simp only; omega⟩;rw [hsn];exact h5.next_gone (by omega)
    | false =>
     rw [Bool.not_false, ct] at hstep;rw [if_neg (by simp)] at hsn;refine ⟨_, hstep, ⟨i + 1, j + 1, rfl, rfl, hr, by rw [hsn], ?_⟩, by simp only; omega⟩;rw [hsn];exact h5.next_stay (by omega) hy
   ·right
    have hjk : j = kk := by omega
    have htl : l.take j = l := List.take_of_length_le (by omega);rw [htl] at h4 h5;refine ⟨⟨(i : Int), (j : Int), B1, sm1, f1, a⟩, ?_, i, rfl, by omega, h3, h4, h5.left, by show kk ≤ a.length; omega⟩;unfold lg;simp only
    rw [decide_eq_false (show ¬ (j : Int) < (kk : Int) by omega), cf]) (n := bD) (x := ⟨(j0 : Int), ((j0 + 1 : Nat) : Int), B0, sm0, f0, lB⟩)
   ⟨j0, j0 + 1, rfl, rfl, hr0, by rw [hp], by
    rw [hp];refine ⟨by omega, by omega, by have := hl.le; simp only; omega, ?_, fun q h1 h2 => ?_⟩
    ·show lB.take j0 = l.take j0;rw [← hl.take, List.take_take, Nat.min_eq_left (by omega)]
    ·rw [← hl.take, List.getElem?_take_of_lt (by omega)]⟩ (dy (by simp only; omega))
  obtain ⟨x, ex, i, hi, hik, hr, h1, h2, h3⟩ := key;generalize bl upto B full l = p at h1 h2 ⊢;obtain ⟨pl, pB, pf⟩ := p;simp only at h1 h2 ⊢;rw [ex, ob, hi, decide_eq_true (show 0 ≤ (i : Int) ∧ (i : Int) ≤ (kk : Int) by omega), ct, Int.toNat_natCast, decide_eq_true (show i + (kk - i) ≤ x.o14.length by omega), ct, ct];cases h1;exact ⟨i, iF x.o14 i (kk - i) ⟨0, 0, (0, 0), 0⟩, x.o8, rfl, hr, tB hik h3 h2⟩
theorem EJ {lV l V : List Vt} {kk : Nat} {BB : List Bk} {sm0 : List (ID × Int)} {hm : List (Vt × Bool)} {upto : Int} {full : Bool} (hl : lV.take kk = l) (hk : l.length = kk) (hsm : wW BB sm0) (hs : Bp V hm) (hB : V.length + kk ≤ 900) :
  ∃ i V' hm' f', BU lV kk V sm0 hm upto full = some (i, V', hm', f') ∧ Bp V' hm' ∧ ((i = -1 ∧ bX upto BB V full l = (l, V', f')) ∨ ∃ j : Nat, i = j ∧ j < kk ∧ bX upto BB V full (l.take (j + 1)) = (l.take j, V', f')) := by
 unfold BU
 have key := cN (step := ll lV kk sm0 upto) (fun x => ∃ j : Nat, j ≤ kk ∧ x.t8 = j ∧ bX upto BB V full (l.take j) = (l.take j, x.o7, x.o10_5) ∧ Bp x.o7 x.o9) (fun x => kk - x.t8.toNat)
  (fun b => (∃ x, b = .inl x ∧ bX upto BB V full l = (l, x.o7, x.o10_5) ∧ Bp x.o7 x.o9) ∨ ∃ (j : Nat) (V' : List Vt) (hm' : List (Vt × Bool)) (f' : Bool), b = .inr ((j : Int), V', hm', f') ∧ j < kk ∧ bX upto BB V full (l.take (j + 1)) = (l.take j, V', f') ∧ Bp V' hm') (by
   rintro ⟨t, V1, hm1, f1⟩ ⟨j, hj, h1, h2, h3⟩;simp only at h1 h2 h3;subst h1;by_cases hlt : j < kk
   ·obtain ⟨y, hy, -⟩ := aE (l := l) (n := j) (by omega);have hgr := eD (step := bp upto BB) (jZ upto BB) (l.take j) V full;have h2' : bg (bp upto BB) V full (l.take j) = (l.take j, V1, f1) := h2;rw [h2'] at hgr;simp only at hgr;rw [List.length_take] at hgr;obtain ⟨hm', e, hr⟩ := BL (v := y) (upto := upto) (full := f1) hsm h3 (by omega)
    have hsn : bX upto BB V full (l.take (j + 1)) = (if (bp upto BB V1 f1 y).1 then l.take j else l.take j ++ [y], (bp upto BB V1 f1 y).2) := by
     rw [fQ hy];unfold bX;rw [gV, h2']
    generalize bp upto BB V1 f1 y = q at e hr hsn;obtain ⟨g, V2, f2⟩ := q;simp only at e hr hsn
    have hstep : ll lV kk sm0 upto ⟨(j : Int), V1, hm1, f1⟩ = bif g then some (.inr (.inr ((j : Int), V2, hm', f2))) else some (.inl ⟨((j + 1 : Nat) : Int), V2, hm', f2⟩) := by
     unfold ll;simp only;rw [decide_eq_true (show (j : Int) < (kk : Int) by omega), ct, hl, aH hy, ob, e, ob, aj (n := j) (by omega)]
    cases g with
    | true =>
     right;rw [ct] at hstep;rw [if_pos rfl] at hsn;exact ⟨_, hstep, .inr ⟨j, V2, hm', f2, rfl, hlt, hsn, hr⟩⟩
    | false =>
     left;rw [cf] at hstep;rw [if_neg (by simp)] at hsn;refine ⟨_, hstep, ⟨j + 1, hlt, rfl, ?_, hr⟩, by simp only; omega⟩;rw [hsn, fQ hy]
   ·right
    obtain rfl : j = kk := by omega
    refine ⟨.inl ⟨(j : Int), V1, hm1, f1⟩, ?_, .inl ⟨_, rfl, ?_, h3⟩⟩
    ·unfold ll;simp only;rw [decide_eq_false (show ¬ (j : Int) < (j : Int) by omega), cf]
    ·rw [List.take_of_length_le (by omega)] at h2; exact h2) (n := bD) (x := ⟨0, V, hm, full⟩) ⟨0, by omega, rfl, by simp [bX, bg], hs⟩ (dy (by simp only; omega))
 obtain ⟨b, e, ⟨x, rfl, h1, h2⟩ | ⟨j, V', hm', f', rfl, h0, h1, h2⟩⟩ := key
 ·exact ⟨-1, x.o7, x.o9, x.o10_5, by rw [e, ob, sl], h2, .inl ⟨rfl, h1⟩⟩
 ·exact ⟨j, V', hm', f', by rw [e, ob, sr], h2, .inr ⟨j, rfl, h0, h1⟩⟩
theorem EC {lV l V : List Vt} {kk : Nat} {BB : List Bk} {sm0 : List (ID × Int)} {hm : List (Vt × Bool)} {upto : Int} {full : Bool} (hl : rJ lV kk l) (hsm : wW BB sm0) (hs : Bp V hm) (hB : V.length + kk ≤ 900) :
  ∃ k' lV' hm', BN lV kk V sm0 hm upto full = some (k', lV', (bX upto BB V full l).2.1, hm', (bX upto BB V full l).2.2) ∧ Bp (bX upto BB V full l).2.1 hm' ∧ rJ lV' k' (bX upto BB V full l).1 := by
 have hk := hl.len;obtain ⟨i, V0, hm0, f0, e0, hr0, h0⟩ := EJ (upto := upto) (full := full) hl.take hk hsm hs hB;unfold BN;rw [e0, ob];rcases h0 with ⟨rfl, hp⟩ | ⟨j0, rfl, hj0, hp⟩
 ·rw [hp];refine ⟨kk, lV, hm0, ?_, hr0, hl⟩;simp only;rw [show ((-1 : Int) == -1) = true from rfl, ct]
 ·simp only;rw [show ((j0 : Int) == -1) = false by rw [beq_eq_false_iff_ne]; omega, cf, aj (n := j0) (by omega)]
  have key := cN (step := lh kk sm0 upto) (fun x => ∃ (i j : Nat), x.i = i ∧ x.j = j ∧ Bp x.o7 x.o9 ∧ (bX upto BB V full (l.take j)).2 = (x.o7, x.o10_5) ∧ Mv l x.o15 i j (bX upto BB V full (l.take j)).1) (fun x => kk - x.j.toNat)
   (fun x => ∃ i : Nat, x.i = i ∧ i ≤ kk ∧ Bp x.o7 x.o9 ∧ (bX upto BB V full l).2 = (x.o7, x.o10_5) ∧ x.o15.take i = (bX upto BB V full l).1 ∧ kk ≤ x.o15.length) (by
   rintro ⟨i', j', V1, hm1, f1, a⟩ ⟨i, j, h1, h2, h3, h4, h5⟩;simp only at h1 h2 h3 h4 h5;subst h1 h2;have hij := h5.ij;have hjl := h5.jl;have hal := h5.len;by_cases hlt : j < kk
   ·left;obtain ⟨y, hy, -⟩ := aE (l := l) (n := j) (by omega)
    have hya : (a.take kk)[j]? = some y := by rw [List.getElem?_take_of_lt hlt, h5.rest j (Nat.le_refl _) (by omega), hy]
    obtain ⟨z, hz, -⟩ := aE (l := a.take kk) (n := i) (by rw [List.length_take]; omega);have hgr := eD (step := bp upto BB) (jZ upto BB) (l.take j) V full;have h4' : (bg (bp upto BB) V full (l.take j)).2 = (V1, f1) := h4;rw [h4'] at hgr;simp only at hgr;rw [List.length_take] at hgr;obtain ⟨hm', e, hr⟩ := BL (v := y) (upto := upto) (full := f1) hsm h3 (by omega)
    have hsn : bX upto BB V full (l.take (j + 1)) = (if (bp upto BB V1 f1 y).1 then (bX upto BB V full (l.take j)).1 else (bX upto BB V full (l.take j)).1 ++ [y], (bp upto BB V1 f1 y).2) := by
     rw [fQ hy];unfold bX;rw [gV, h4']
    generalize bp upto BB V1 f1 y = q at e hr hsn;obtain ⟨g, V2, f2⟩ := q;simp only at e hr hsn
    have hstep : lh kk sm0 upto ⟨(i : Int), (j : Int), V1, hm1, f1, a⟩ = bif !g then some (.inl ⟨((i + 1 : Nat) : Int), ((j + 1 : Nat) : Int), V2, hm', f2, a.set i y⟩) else some (.inl ⟨(i : Int), ((j + 1 : Nat) : Int), V2, hm', f2, a⟩) := by
     unfold lh;simp only;rw [decide_eq_true (show (j : Int) < (kk : Int) by omega), ct, aH hya, ob, e, ob, aH hz, ob, aj (n := j) (by omega), aj (n := i) (by omega), Int.toNat_natCast]
    cases g with
    | true =>
     rw [Bool.not_true, cf] at hstep;rw [if_pos rfl] at hsn;refine ⟨_, hstep, ⟨i, j + 1, rfl, rfl, hr, by rw [hsn], ?_⟩, by simp only; omega⟩;rw [hsn];exact h5.next_gone (by omega)
    | false =>
     rw [Bool.not_false, ct] at hstep;rw [if_neg (by simp)] at hsn;refine ⟨_, hstep, ⟨i + 1, j + 1, rfl, rfl, hr, by rw [hsn], ?_⟩, by simp only; omega⟩;rw [hsn];exact h5.next_stay (by omega) hy
   ·right
    have hjk : j = kk := by omega
    have htl : l.take j = l := List.take_of_length_le (by omega);rw [htl] at h4 h5;refine ⟨⟨(i : Int), (j : Int), V1, hm1, f1, a⟩, ?_, i, rfl, by omega, h3, h4, h5.left, by show kk ≤ a.length; omega⟩;unfold lh;simp only
    rw [decide_eq_false (show ¬ (j : Int) < (kk : Int) by omega), cf]) (n := bD) (x := ⟨(j0 : Int), ((j0 + 1 : Nat) : Int), V0, hm0, f0, lV⟩)
   ⟨j0, j0 + 1, rfl, rfl, hr0, by rw [hp], by
    rw [hp];refine ⟨by omega, by omega, by have := hl.le; simp only; omega, ?_, fun q h1 h2 => ?_⟩
    ·show lV.take j0 = l.take j0;rw [← hl.take, List.take_take, Nat.min_eq_left (by omega)]
    ·rw [← hl.take, List.getElem?_take_of_lt (by omega)]⟩ (dy (by simp only; omega))
  obtain ⟨x, ex, i, hi, hik, hr, h1, h2, h3⟩ := key;generalize bX upto BB V full l = p at h1 h2 ⊢;obtain ⟨pl, pV, pf⟩ := p;simp only at h1 h2 ⊢;rw [ex, ob, hi, decide_eq_true (show 0 ≤ (i : Int) ∧ (i : Int) ≤ (kk : Int) by omega), ct, Int.toNat_natCast, decide_eq_true (show i + (kk - i) ≤ x.o15.length by omega), ct, ct];cases h1;exact ⟨i, iF x.o15 i (kk - i) ⟨0, 0, (0, 0)⟩, x.o9, rfl, hr, tB hik h3 h2⟩
structure rH where
 B : List Bk
 V : List Vt
 full : Bool
 lB : List Bk
 lV : List Vt
def c9 (upto : Int) (s : rH) : rH :=
 ⟨(bl upto s.B s.full s.lB).2.1, (bX upto (bl upto s.B s.full s.lB).2.1 s.V (bl upto s.B s.full s.lB).2.2 s.lV).2.1, (bX upto (bl upto s.B s.full s.lB).2.1 s.V (bl upto s.B s.full s.lB).2.2 s.lV).2.2,
  (bl upto s.B s.full s.lB).1, (bX upto (bl upto s.B s.full s.lB).2.1 s.V (bl upto s.B s.full s.lB).2.2 s.lV).1⟩
def da (s : rH) : Nat := s.B.length + s.V.length
def rq (upto : Int) : Nat → rH → rH
 | 0, s => s
 | n + 1, s => if da (c9 upto s) = da s then c9 upto s else rq upto n (c9 upto s)
def lZ (upto : Int) (s : rH) : rH := rq upto 1000 s
open Classical in
noncomputable def aB (c : Cf) (w inp : Vw) (slot : Int) : Vw × Vw × Bool :=
 if ec c w then (⟨(lZ slot ⟨w.B, w.V, false, (a7 c inp).B, (a7 c inp).V⟩).B, (lZ slot ⟨w.B, w.V, false, (a7 c inp).B, (a7 c inp).V⟩).V⟩, ⟨(lZ slot ⟨w.B, w.V, false, (a7 c inp).B, (a7 c inp).V⟩).lB, (lZ slot ⟨w.B, w.V, false, (a7 c inp).B, (a7 c inp).V⟩).lV⟩, (lZ slot ⟨w.B, w.V, false, (a7 c inp).B, (a7 c inp).V⟩).full)
 else (w, inp, false)
def nQ (s : rH) : Prop := s.B.length ≤ 60 ∧ s.V.length ≤ 240
theorem xH {upto : Int} {B : List Bk} {f : Bool} {b : Bk} (h : B.length ≤ 60) : (bn upto B f b).2.1.length ≤ 60 := by
 unfold bn; split <;> (try split) <;> (try split) <;> simp <;> omega
theorem xI {upto : Int} {B : List Bk} {V : List Vt} {f : Bool} {v : Vt} (h : V.length ≤ 240) : (bp upto B V f v).2.1.length ≤ 240 := by
 unfold bp; split <;> (try split) <;> (try split) <;> simp <;> omega
theorem oz {α : Type} {step : List α → Bool → α → Bool × List α × Bool} {Q : List α → Prop} (h : ∀ B f b, Q B → Q (step B f b).2.1) : ∀ (l B : List α) (f : Bool), Q B → Q (bg step B f l).2.1
 | [], B, f, hB => by simpa only [bg] using hB
 | x :: r, B, f, hB => by
  have := oz h r (step B f x).2.1 (step B f x).2.2 (h B f x hB);simpa only [bg] using this
theorem xv {upto : Int} {l B : List Bk} {f : Bool} (h : B.length ≤ 60) : (bl upto B f l).2.1.length ≤ 60 := oz (step := bn upto) (Q := fun B => B.length ≤ 60) (fun _ _ _ h => xH h) l B f h
theorem xw {upto : Int} {BB : List Bk} {l V : List Vt} {f : Bool} (h : V.length ≤ 240) : (bX upto BB V f l).2.1.length ≤ 240 := oz (step := bp upto BB) (Q := fun V => V.length ≤ 240) (fun _ _ _ h => xI h) l V f h
theorem tX {upto : Int} {s : rH} (h : nQ s) : nQ (c9 upto s) := ⟨xv h.1, xw h.2⟩
theorem wo (upto : Int) (s : rH) : (c9 upto s).lB.length ≤ s.lB.length ∧ (c9 upto s).lV.length ≤ s.lV.length := ⟨oA _ _ _, oA _ _ _⟩
theorem kX (upto : Int) (s : rH) : s.B.length ≤ (c9 upto s).B.length ∧ s.V.length ≤ (c9 upto s).V.length :=
 ⟨(eD (jY upto) _ _ _).1, (eD (jZ upto _) _ _ _).1⟩
structure An (s : rH) (x : fi) : Prop where
 o6 : x.o6 = s.B
 o7 : x.o7 = s.V
 full : x.x_5 = s.full
 sm : wW s.B x.o8
 hm : Bp s.V x.o9
 lB : rJ x.o14 x.left_0 s.lB
 lV : rJ x.o15 x.left_1 s.lV
theorem Ae {upto : Int} {s : rH} {x : fi} (h : An s x) (hb : nQ s) (hl1 : s.lB.length ≤ 800) (hl2 : s.lV.length ≤ 600) (hn : x.n ≠ (da s : Int)) : ∃ y, l6 upto x = some (.inl y) ∧ An (c9 upto s) y ∧ y.n = (da s : Int) := by
 obtain ⟨n, o6, o7, o8, o9, f, o14, o15, k0, k1⟩ := x;obtain ⟨e6, e7, ef, hsm, hhm, hlB, hlV⟩ := h;simp only at e6 e7 ef hsm hhm hlB hlV hn;subst e6 e7 ef;have hb1 := hb.1;have hb2 := hb.2;obtain ⟨k', lB', sm', e1, r1, p1⟩ := EB (upto := upto) (full := s.full) hlB hsm (by have := hlB.len; omega);unfold c9;generalize bl upto s.B s.full s.lB = p at e1 r1 p1 ⊢;obtain ⟨pl, pB, pf⟩ := p;simp only at e1 r1 p1 ⊢;obtain ⟨k2, lV', hm', e2, r2, p2⟩ := EC (upto := upto) (full := pf) hlV r1 hhm (by have := hlV.len; omega);generalize bX upto pB s.V pf s.lV = q at e2 r2 p2 ⊢;obtain ⟨ql, qV, qf⟩ := q;simp only at e2 r2 p2 ⊢
 have hw : IntKind.i64.wrap ((s.B.length : Int) + (s.V.length : Int)) = (da s : Int) := by
  unfold da; rw [cA (by omega) (by omega)]; omega
 refine ⟨fi.mk (da s : Int) pB qV sm' hm' qf lB' lV' k' k2, ?_, ⟨rfl, rfl, rfl, r1, r2, p1, p2⟩, rfl⟩;unfold l6;simp only;rw [hw, show (n != (da s : Int)) = true by rw [bne_iff_ne]; exact hn, ct, e1, ob];simp only;rw [e2, ob]
theorem uP {upto : Int} : ∀ (m : Nat) (s : rH) (x : fi) (q : Nat), An s x → nQ s → s.lB.length ≤ 800 → s.lV.length ≤ 600 → x.n ≠ (da s : Int) → 300 < m + da s → m < q →
  ∃ y, iter (l6 upto) (q + 1) x = some y ∧ An (rq upto m s) y
 | 0, s, x, q, _, hb, _, _, _, hm, _ => by
  have h1 := hb.1;have h2 := hb.2;unfold da at hm;omega
 | m + 1, s, x, q, h, hb, hl1, hl2, hn, hm, hq => by
  obtain ⟨y, e, hr, hy⟩ := Ae h hb hl1 hl2 hn;have hg := kX upto s;have hlen := wo upto s;have hb' := tX (upto := upto) hb;obtain ⟨q, rfl⟩ : ∃ p, q = p + 1 := ⟨q - 1, by omega⟩;rw [lF e];unfold rq;by_cases hs : da (c9 upto s) = da s
  ·rw [if_pos hs];refine ⟨y, eh ?_, hr⟩
   have hw : IntKind.i64.wrap ((y.o6.length : Int) + (y.o7.length : Int)) = (da s : Int) := by
    rw [hr.o6, hr.o7, ← hs];have h1 := hb'.1;have h2 := hb'.2;unfold da; rw [cA (by omega) (by omega)]; omega
   unfold l6;rw [hw, hy, show (((da s : Nat) : Int) != (da s : Int)) = false by simp, cf, ← hy]
  ·rw [if_neg hs];exact uP m (c9 upto s) y q hr hb' (by omega) (by omega) (by rw [hy]; omega) (by unfold da at *; omega) (by omega)
open Classical in
theorem GP {c : Cf} {w inp : Vw} {slot : Int} (h1 : w.B.length ≤ 1000) (h2 : w.V.length ≤ 1000) (h3 : inp.B.length ≤ 800) (h4 : inp.V.length ≤ 600) : It c w inp slot = some (aB c w inp slot) := by
 unfold It aB;rw [x6 (by omega) (by omega), ob, GO h1 h2, ob];by_cases hm : ec c w
 ·rw [decide_eq_true hm, Bool.not_true, cf, if_pos hm, EO (by omega) (by omega), ob];simp only;have hfB : (a7 c inp).B.length ≤ inp.B.length := List.length_filter_le _ _;have hfV : (a7 c inp).V.length ≤ inp.V.length := List.length_filter_le _ _
  have hr : An ⟨w.B, w.V, false, (a7 c inp).B, (a7 c inp).V⟩ (fi.mk (-1) w.B w.V (mC w.B) (ko w.V) false (a7 c inp).B (a7 c inp).V ((a7 c inp).B.map ay).length ((a7 c inp).V.map aI).length) :=
   ⟨rfl, rfl, rfl, ⟨sW hm.valid, DR w.B⟩, ⟨sD w.V, (vJ w.V).1⟩, ⟨by simp, by simp⟩, ⟨by simp, by simp⟩⟩
  have hbel : nQ ⟨w.B, w.V, false, (a7 c inp).B, (a7 c inp).V⟩ := ⟨hm.lenB, hm.lenV⟩;generalize a7 c inp = o at *;obtain ⟨y, e, hy⟩ := uP (upto := slot) 1000 _ _ 4611686018427387903 hr hbel (by simp only; omega) (by simp only; omega) (by simp only; omega) (by omega) (by omega);have e' : iter (l6 slot) bD (fi.mk (-1) w.B w.V (mC w.B) (ko w.V) false o.B o.V (o.B.map ay).length (o.V.map aI).length) = some y := e;rw [e', ob];change An (lZ slot _) y at hy;generalize lZ slot ⟨w.B, w.V, false, o.B, o.V⟩ = s at hy ⊢;rw [Nat.ble_eq_true_of_le hy.lB.le, ct, Nat.ble_eq_true_of_le hy.lV.le, ct, hy.o6, hy.o7, hy.full, hy.lB.take, hy.lV.take]
 ·rw [decide_eq_false hm, Bool.not_false, ct, if_neg hm, aL (by omega) (by omega), ct, aL (by omega) (by omega), ct]
theorem qR {B : List Bk} {b : Bk} (h : cx B b = true) (t : List Bk) : cx (B ++ t) b = true := by
 unfold cx at h ⊢;rw [Bool.or_eq_true] at h ⊢;rcases h with h | h
 ·left;obtain ⟨s, hs⟩ := Option.isSome_iff_exists.1 h;rw [hY hs]; rfl
 ·right
  cases hp : aX B b.Parent with
  | none => rw [hp] at h; cases h
  | some s => rw [hp] at h; rw [hY hp]; exact h
theorem mj {B : List Bk} {V : List Vt} {v : Vt} (h : cL B V v = true) (t : List Bk) (u : List Vt) : cL (B ++ t) (V ++ u) v = true := by
 unfold cL at h ⊢;rw [Bool.or_eq_true] at h ⊢;rcases h with h | h
 ·left;exact decide_eq_true (List.mem_append_left _ (of_decide_eq_true h))
 ·right
  cases hp : aX B v.Head with
  | none => rw [hp] at h; cases h
  | some s => rw [hp] at h; rw [hY hp]; exact h
theorem xe {B : List Bk} {b : Bk} (h : b ∈ B) : cx B b = true := by
 obtain ⟨s, hs⟩ := rj h;unfold cx; rw [hs]; rfl
theorem xf {B : List Bk} {V : List Vt} {v : Vt} (h : v ∈ V) : cL B V v = true := by
 unfold cL; rw [decide_eq_true h]; rfl
theorem mE (upto : Int) (B : List Bk) (f : Bool) (b : Bk) :
  (cx B b = true ∧ bn upto B f b = (true, B, f)) ∨ (cx B b = false ∧ eP B upto b = true ∧ bn upto B f b = (false, B, f)) ∨
  (cx B b = false ∧ eP B upto b = false ∧ B.length < 60 ∧ bn upto B f b = (true, B ++ [b], f)) ∨ (cx B b = false ∧ eP B upto b = false ∧ 60 ≤ B.length ∧ bn upto B f b = (false, B, true)) := by
 unfold bn
 cases h1 : cx B b with
 | true => exact .inl ⟨rfl, by rw [if_pos rfl]⟩
 | false =>
  right;rw [if_neg (by simp)]
  cases h2 : eP B upto b with
  | true => exact .inl ⟨rfl, rfl, by rw [if_pos rfl]⟩
  | false =>
   right;rw [if_neg (by simp)];by_cases h3 : B.length < 60
   ·exact .inl ⟨rfl, rfl, h3, by rw [if_pos h3]⟩
   ·exact .inr ⟨rfl, rfl, by omega, by rw [if_neg h3]⟩
theorem mF (upto : Int) (B : List Bk) (V : List Vt) (f : Bool) (v : Vt) :
  (cL B V v = true ∧ bp upto B V f v = (true, V, f)) ∨ (cL B V v = false ∧ fg B upto v = true ∧ bp upto B V f v = (false, V, f)) ∨
  (cL B V v = false ∧ fg B upto v = false ∧ V.length < 240 ∧ bp upto B V f v = (true, V ++ [v], f)) ∨ (cL B V v = false ∧ fg B upto v = false ∧ 240 ≤ V.length ∧ bp upto B V f v = (false, V, true)) := by
 unfold bp
 cases h1 : cL B V v with
 | true => exact .inl ⟨rfl, by rw [if_pos rfl]⟩
 | false =>
  right;rw [if_neg (by simp)]
  cases h2 : fg B upto v with
  | true => exact .inl ⟨rfl, rfl, by rw [if_pos rfl]⟩
  | false =>
   right;rw [if_neg (by simp)];by_cases h3 : V.length < 240
   ·exact .inl ⟨rfl, rfl, h3, by rw [if_pos h3]⟩
   ·exact .inr ⟨rfl, rfl, by omega, by rw [if_neg h3]⟩
section
variable {α : Type} {step : List α → Bool → α → Bool × List α × Bool}
theorem jj {Q : List α → Bool → Prop} : ∀ {l B : List α} {f : Bool}, (∀ B f b, b ∈ l → Q B f → Q (step B f b).2.1 (step B f b).2.2) → Q B f → Q (bg step B f l).2.1 (bg step B f l).2.2
 | [], B, f, _, hB => by simpa only [bg] using hB
 | x :: r, B, f, h, hB => by
  have := jj (l := r) (fun B f b hb => h B f b (.tail _ hb)) (h B f x (.head _) hB);simpa only [bg] using this
theorem oB : ∀ (l B : List α) (f : Bool), (bg step B f l).1.Sublist l
 | [], B, f => by simp [bg]
 | x :: r, B, f => by
  have := oB r (step B f x).2.1 (step B f x).2.2;simp only [bg];split
  ·exact this.cons x
  ·exact this.cons_cons x
theorem mz {G : List α → α → Prop} (hs : ∀ B f b, (step B f b).1 = true → G (step B f b).2.1 b) (hm : ∀ B f b c, G B c → G (step B f b).2.1 c) : ∀ (l B : List α) (f : Bool) (b : α), b ∈ l → b ∈ (bg step B f l).1 ∨ G (bg step B f l).2.1 b
 | x :: r, B, f, b, hb => by
  have hkeep : ∀ (r B : List α) (f : Bool) (c : α), G B c → G (bg step B f r).2.1 c := fun r B f c hc => jj (Q := fun B _ => G B c) (fun B f b _ hB => hm B f b c hB) hc;simp only [bg];rcases List.mem_cons.1 hb with e | hb
  ·subst e
   cases h : (step B f b).1 with
   | true => exact .inr (hkeep _ _ _ _ (hs B f b h))
   | false => left; rw [if_neg (by simp)]; exact .head _
  ·rcases mz hs hm r (step B f x).2.1 (step B f x).2.2 b hb with h | h
   ·left;split
    ·exact h
    ·exact .tail _ h
   ·exact .inr h
end
section
variable {α : Type} {g w : List α → α → Bool} {cap : Nat}
def gb (g w : List α → α → Bool) (cap : Nat) (B : List α) (f : Bool) (b : α) : Bool × List α × Bool :=
 if g B b then (true, B, f) else if w B b then (false, B, f) else if B.length < cap then (true, B ++ [b], f) else (false, B, true)
def mG (g w : List α → α → Bool) (B : List α) (f : Bool) (l : List α) : List α × List α × Bool := (l.filter fun b => !g B b, B, f || l.any fun b => !g B b && !w B b)
theorem rp : ∀ {l B : List α} {f : Bool}, (∀ b ∈ l, g B b = false → w B b = false → cap ≤ B.length) → bg (gb g w cap) B f l = mG g w B f l
 | [], B, f, _ => by simp [bg, mG]
 | x :: r, B, f, h => by
  have ih := fun f => rp (l := r) (f := f) (B := B) fun b hb => h b (.tail _ hb);unfold mG at ih ⊢;simp only [bg]
  cases h1 : g B x with
  | true =>
   have e : gb g w cap B f x = (true, B, f) := by unfold gb; rw [h1, if_pos rfl]
   rw [e];simp [ih, h1]
  | false =>
   cases h2 : w B x with
   | true =>
    have e : gb g w cap B f x = (false, B, f) := by unfold gb; rw [h1, if_neg (by simp), h2, if_pos rfl]
    rw [e];simp [ih, h1, h2]
   | false =>
    have e : gb g w cap B f x = (false, B, true) := by
     unfold gb; rw [h1, if_neg (by simp), h2, if_neg (by simp), if_neg];have := h x (.head _) h1 h2;omega
    rw [e];simp [ih, h1, h2]
theorem sZ (B : List α) (f : Bool) (b : α) : ∃ t, (gb g w cap B f b).2.1 = B ++ t := by
 unfold gb;split
 ·exact ⟨[], by simp⟩
 ·split
  ·exact ⟨[], by simp⟩
  ·split
   ·exact ⟨[b], rfl⟩
   ·exact ⟨[], by simp⟩
theorem AV (l B : List α) (f : Bool) : ∃ u, (bg (gb g w cap) B f l).2.1 = B ++ u :=
 jj (Q := fun C _ => ∃ u, C = B ++ u) (fun C f b _ ⟨u, hu⟩ => by
  obtain ⟨t, ht⟩ := sZ (g := g) (w := w) (cap := cap) C f b
  exact ⟨u ++ t, by rw [ht, hu, List.append_assoc]⟩) ⟨[], by simp⟩
theorem rn : ∀ {l B : List α} {f : Bool}, (bg (gb g w cap) B f l).2.1.length = B.length → ∀ b ∈ l, g B b = false → w B b = false → cap ≤ B.length
 | x :: r, B, f, h, b, hb, h1, h2 => by
  simp only [bg] at h;obtain ⟨t, ht⟩ := sZ (g := g) (w := w) (cap := cap) B f x;obtain ⟨u, hu⟩ := AV (g := g) (w := w) (cap := cap) r (gb g w cap B f x).2.1 (gb g w cap B f x).2.2
  have hB : (gb g w cap B f x).2.1 = B := by
   rw [hu, ht, List.length_append, List.length_append] at h;have : t = [] := List.length_eq_zero_iff.1 (by omega);rw [ht, this, List.append_nil]
  rcases List.mem_cons.1 hb with e | hb
  ·subst e;refine Classical.byContradiction fun hc => ?_
   have e : gb g w cap B f b = (true, B ++ [b], f) := by
    unfold gb; rw [h1, if_neg (by simp), h2, if_neg (by simp), if_pos (by omega)]
   rw [e] at hB;have := congrArg List.length hB;simp at this
  ·rw [hB] at h;exact rn h b hb h1 h2
end
structure rI (w o : Vw) (upto : Int) (s : rH) : Prop where
 preB : ∃ t, s.B = w.B ++ t ∧ ∀ b ∈ t, b ∈ o.B ∧ b.Slot ≤ upto
 preV : ∃ t, s.V = w.V ++ t ∧ ∀ v ∈ t, v ∈ o.V ∧ v.Slot ≤ upto
 valid : aJ s.B
 nodup : s.V.Nodup
 forB : ∀ v ∈ s.V, forB s.B v
 below : nQ s
 subB : s.lB.Sublist o.B
 subV : s.lV.Sublist o.V
 allB : ∀ b ∈ o.B, b ∈ s.lB ∨ cx s.B b = true
 allV : ∀ v ∈ o.V, v ∈ s.lV ∨ cL s.B s.V v = true
theorem xO {B : List Bk} {upto : Int} {b : Bk} (h1 : cx B b = false) (h2 : eP B upto b = false) : (∃ s, aX B b.Parent = some s ∧ s < b.Slot) ∧ aX B (nm b) = none ∧ b.Slot ≤ upto := by
 unfold cx at h1;unfold eP at h2;rw [Bool.or_eq_false_iff] at h1
 have hn : aX B (nm b) = none := by
  cases h : aX B (nm b) with
  | none => rfl
  | some s => rw [h] at h1; cases h1.1
 cases hp : aX B b.Parent with
 | none => rw [hp] at h2; cases h2
 | some s =>
  rw [hp] at h1 h2;have a1 := of_decide_eq_false h1.2;have a2 := of_decide_eq_false h2;exact ⟨⟨s, rfl, by omega⟩, hn, by omega⟩
theorem wD {B : List Bk} {V : List Vt} {upto : Int} {v : Vt} (h1 : cL B V v = false) (h2 : fg B upto v = false) : forB B v ∧ v ∉ V ∧ v.Slot ≤ upto := by
 unfold cL at h1;unfold fg at h2;rw [Bool.or_eq_false_iff] at h1;have hn := of_decide_eq_false h1.1
 cases hp : aX B v.Head with
 | none => rw [hp] at h2; cases h2
 | some s =>
  rw [hp] at h1 h2;have a1 := of_decide_eq_false h1.2;have a2 := of_decide_eq_false h2;exact ⟨⟨s, hp, by omega⟩, hn, by omega⟩
theorem AC {B : List Bk} {v : Vt} (h : forB B v) (t : List Bk) : forB (B ++ t) v := by
 obtain ⟨s, h1, h2⟩ := h;exact ⟨s, hY h1 t, h2⟩
theorem AT {w o : Vw} {upto : Int} {s : rH} (h : rI w o upto s) : rI w o upto ⟨(bl upto s.B s.full s.lB).2.1, s.V, (bl upto s.B s.full s.lB).2.2, (bl upto s.B s.full s.lB).1, s.lV⟩ := by
 have key : ∃ u, (bl upto s.B s.full s.lB).2.1 = s.B ++ u ∧ (∀ b ∈ u, b ∈ o.B ∧ b.Slot ≤ upto) ∧ aJ (s.B ++ u) ∧ (s.B ++ u).length ≤ 60 := by
  have := jj (step := bn upto) (l := s.lB) (B := s.B) (f := s.full) (Q := fun C _ => ∃ u, C = s.B ++ u ∧ (∀ b ∈ u, b ∈ o.B ∧ b.Slot ≤ upto) ∧ aJ (s.B ++ u) ∧ (s.B ++ u).length ≤ 60)
   (fun C f b hb ⟨u, hu, h1, h2, h3⟩ => by
    subst hu;rcases mE upto (s.B ++ u) f b with ⟨-, e⟩ | ⟨-, -, e⟩ | ⟨a1, a2, a3, e⟩ | ⟨-, -, -, e⟩
    ·rw [e]; exact ⟨u, rfl, h1, h2, h3⟩
    ·rw [e]; exact ⟨u, rfl, h1, h2, h3⟩
    ·rw [e];obtain ⟨k1, k2, k3⟩ := xO a1 a2;refine ⟨u ++ [b], by simp, fun c hc => ?_, ?_, ?_⟩
     ·rcases List.mem_append.1 hc with hc | hc
      ·exact h1 c hc
      ·rw [List.mem_singleton] at hc; subst hc;exact ⟨h.subB.subset hb, k3⟩
     ·rw [← List.append_assoc]; exact j2.2 ⟨h2, k1, k2⟩
     ·rw [← List.append_assoc, List.length_append, List.length_singleton]; omega
    ·rw [e]; exact ⟨u, rfl, h1, h2, h3⟩)
   ⟨[], by simp, by simp, by simpa using h.valid, by simpa using h.below.1⟩
  exact this
 obtain ⟨u, hu, h1, h2, h3⟩ := key
 have hgone : ∀ b ∈ s.lB, b ∈ (bl upto s.B s.full s.lB).1 ∨ cx (bl upto s.B s.full s.lB).2.1 b = true :=
  mz (step := bn upto) (G := fun B b => cx B b = true) (fun B f b hb => by
   rcases mE upto B f b with ⟨a, e⟩ | ⟨-, -, e⟩ | ⟨-, -, -, e⟩ | ⟨-, -, -, e⟩ <;> rw [e] at hb ⊢
   ·exact a
   ·cases hb
   ·exact xe (by simp)
   ·cases hb) (fun B f b c hc => by
   rcases mE upto B f b with ⟨a, e⟩ | ⟨-, -, e⟩ | ⟨-, -, -, e⟩ | ⟨-, -, -, e⟩ <;> rw [e]
   ·exact hc
   ·exact hc
   ·exact qR hc _
   ·exact hc) s.lB s.B s.full
 obtain ⟨t, ht, ht2⟩ := h.preB
 refine ⟨⟨t ++ u, by simp only; rw [hu, ht, List.append_assoc], fun b hb => (List.mem_append.1 hb).elim (ht2 b) (h1 b)⟩, h.preV, by simp only [hu]; exact h2, h.nodup, fun v hv => ?_, ⟨by simp only [hu]; exact h3, h.below.2⟩,
  (oB s.lB s.B s.full).trans h.subB, h.subV, fun b hb => ?_, fun v hv => ?_⟩
 ·simp only [hu]; exact AC (h.forB v hv) u
 ·rcases h.allB b hb with h5 | h5
  ·exact hgone b h5
  ·right; simp only [hu]; exact qR h5 u
 ·rcases h.allV v hv with h5 | h5
  ·exact .inl h5
  ·right;simp only [hu];have := mj h5 u []
   rwa [List.append_nil] at this
theorem AU {w o : Vw} {upto : Int} {s : rH} (h : rI w o upto s) : rI w o upto ⟨s.B, (bX upto s.B s.V s.full s.lV).2.1, (bX upto s.B s.V s.full s.lV).2.2, s.lB, (bX upto s.B s.V s.full s.lV).1⟩ := by
 have key : ∃ u, (bX upto s.B s.V s.full s.lV).2.1 = s.V ++ u ∧ (∀ v ∈ u, v ∈ o.V ∧ v.Slot ≤ upto) ∧ (s.V ++ u).Nodup ∧ (∀ v ∈ s.V ++ u, Go.Mg.forB s.B v) ∧ (s.V ++ u).length ≤ 240 := by
  have := jj (step := bp upto s.B) (l := s.lV) (B := s.V) (f := s.full) (Q := fun C _ => ∃ u, C = s.V ++ u ∧ (∀ v ∈ u, v ∈ o.V ∧ v.Slot ≤ upto) ∧ (s.V ++ u).Nodup ∧ (∀ v ∈ s.V ++ u, Go.Mg.forB s.B v) ∧ (s.V ++ u).length ≤ 240)
   (fun C f v hv ⟨u, hu, h1, h2, h4, h3⟩ => by
    subst hu;rcases mF upto s.B (s.V ++ u) f v with ⟨-, e⟩ | ⟨-, -, e⟩ | ⟨a1, a2, a3, e⟩ | ⟨-, -, -, e⟩
    ·rw [e]; exact ⟨u, rfl, h1, h2, h4, h3⟩
    ·rw [e]; exact ⟨u, rfl, h1, h2, h4, h3⟩
    ·rw [e];obtain ⟨k1, k2, k3⟩ := wD a1 a2;refine ⟨u ++ [v], by simp, fun c hc => ?_, ?_, fun c hc => ?_, ?_⟩
     ·rcases List.mem_append.1 hc with hc | hc
      ·exact h1 c hc
      ·rw [List.mem_singleton] at hc; subst hc;exact ⟨h.subV.subset hv, k3⟩
     ·rw [← List.append_assoc, List.nodup_append];exact ⟨h2, by simp, fun a ha b hb => by rw [List.mem_singleton] at hb; subst hb; exact fun q => k2 (q ▸ ha)⟩
     ·rw [← List.append_assoc] at hc;rcases List.mem_append.1 hc with hc | hc
      ·exact h4 c hc
      ·rw [List.mem_singleton] at hc; subst hc; exact k1
     ·rw [← List.append_assoc, List.length_append, List.length_singleton]; omega
    ·rw [e]; exact ⟨u, rfl, h1, h2, h4, h3⟩)
   ⟨[], by simp, by simp, by simpa using h.nodup, by simpa using h.forB, by simpa using h.below.2⟩
  exact this
 obtain ⟨u, hu, h1, h2, h4, h3⟩ := key
 have hgone : ∀ v ∈ s.lV, v ∈ (bX upto s.B s.V s.full s.lV).1 ∨ cL s.B (bX upto s.B s.V s.full s.lV).2.1 v = true :=
  mz (step := bp upto s.B) (G := fun V v => cL s.B V v = true) (fun V f v hb => by
   rcases mF upto s.B V f v with ⟨a, e⟩ | ⟨-, -, e⟩ | ⟨-, -, -, e⟩ | ⟨-, -, -, e⟩ <;> rw [e] at hb ⊢
   ·exact a
   ·cases hb
   ·exact xf (by simp)
   ·cases hb) (fun V f v c hc => by
   rcases mF upto s.B V f v with ⟨a, e⟩ | ⟨-, -, e⟩ | ⟨-, -, -, e⟩ | ⟨-, -, -, e⟩ <;> rw [e]
   ·exact hc
   ·exact hc
   ·have := mj hc [] [v]; rwa [List.append_nil] at this
   ·exact hc) s.lV s.V s.full
 obtain ⟨t, ht, ht2⟩ := h.preV
 refine ⟨h.preB, ⟨t ++ u, by simp only; rw [hu, ht, List.append_assoc], fun b hb => (List.mem_append.1 hb).elim (ht2 b) (h1 b)⟩, h.valid, by simp only [hu]; exact h2, fun v hv => ?_, ⟨h.below.1, by simp only [hu]; exact h3⟩,
  h.subB, (oB s.lV s.V s.full).trans h.subV, h.allB, fun v hv => ?_⟩
 ·simp only [hu] at hv; exact h4 v hv
 ·rcases h.allV v hv with h5 | h5
  ·exact hgone v h5
  ·right;simp only [hu];have := mj h5 [] u
   rwa [List.append_nil] at this
theorem xC {w o : Vw} {upto : Int} {s : rH} (h : rI w o upto s) : rI w o upto (c9 upto s) := AU (AT h)
structure GH (upto : Int) (s : rH) : Prop where
 B : ∀ b ∈ s.lB, cx s.B b = false ∧ (eP s.B upto b = true ∨ 60 ≤ s.B.length ∧ s.full = true)
 V : ∀ v ∈ s.lV, cL s.B s.V v = false ∧ (fg s.B upto v = true ∨ 240 ≤ s.V.length ∧ s.full = true)
theorem xB {upto : Int} {s : rH} (h : da (c9 upto s) = da s) : GH upto (c9 upto s) := by
 have hg := kX upto s
 have hB : (bl upto s.B s.full s.lB).2.1.length = s.B.length := by unfold da at h; have : (c9 upto s).B = (bl upto s.B s.full s.lB).2.1 := rfl; rw [← this]; omega
 have h1 : ∀ b ∈ s.lB, cx s.B b = false → eP s.B upto b = false → 60 ≤ s.B.length := rn (g := cx) (w := fun B b => eP B upto b) (cap := 60) (f := s.full) hB;have e1 : bl upto s.B s.full s.lB = mG cx (fun B b => eP B upto b) s.B s.full s.lB := rp h1
 have hV : (bX upto s.B s.V (bl upto s.B s.full s.lB).2.2 s.lV).2.1.length = s.V.length := by
  have : (c9 upto s).V = (bX upto (bl upto s.B s.full s.lB).2.1 s.V (bl upto s.B s.full s.lB).2.2 s.lV).2.1 := rfl
  have e2 : (bl upto s.B s.full s.lB).2.1 = s.B := by rw [e1]; rfl
  rw [e2] at this;rw [← this];unfold da at h; omega
 have h2 : ∀ v ∈ s.lV, cL s.B s.V v = false → fg s.B upto v = false → 240 ≤ s.V.length := rn (g := cL s.B) (w := fun _ v => fg s.B upto v) (cap := 240) (f := (bl upto s.B s.full s.lB).2.2) hV;unfold c9;rw [e1];unfold mG;simp only;have e2 : bX upto s.B s.V (s.full || s.lB.any fun b => !cx s.B b && !eP s.B upto b) s.lV = mG (cL s.B) (fun _ v => fg s.B upto v) s.V (s.full || s.lB.any fun b => !cx s.B b && !eP s.B upto b) s.lV := rp h2;rw [e2];unfold mG;refine ⟨fun b hb => ?_, fun v hv => ?_⟩
 ·simp only [List.mem_filter, Bool.not_eq_true'] at hb;refine ⟨hb.2, ?_⟩
  cases hw : eP s.B upto b with
  | true => exact .inl rfl
  | false =>
   right;refine ⟨h1 b hb.1 hb.2 hw, ?_⟩;simp only [Bool.or_eq_true];exact .inl (.inr (List.any_eq_true.2 ⟨b, hb.1, by simp [hb.2, hw]⟩))
 ·simp only [List.mem_filter, Bool.not_eq_true'] at hv;refine ⟨hv.2, ?_⟩
  cases hw : fg s.B upto v with
  | true => exact .inl rfl
  | false =>
   right;refine ⟨h2 v hv.1 hv.2 hw, ?_⟩;simp only [Bool.or_eq_true];exact .inr (List.any_eq_true.2 ⟨v, hv.1, by simp [hv.2, hw]⟩)
theorem ta {w o : Vw} {upto : Int} : ∀ (m : Nat) (s : rH), rI w o upto s → 300 < m + da s → rI w o upto (rq upto m s) ∧ GH upto (rq upto m s)
 | 0, s, h, hm => by
  have h1 := h.below.1;have h2 := h.below.2;unfold da at hm;omega
 | m + 1, s, h, hm => by
  have hr := xC h;have hg := kX upto s;unfold rq;by_cases hs : da (c9 upto s) = da s
  ·rw [if_pos hs]; exact ⟨hr, xB hs⟩
  ·rw [if_neg hs];exact ta m (c9 upto s) hr (by unfold da at *; omega)
theorem AJ {c : Cf} {w o : Vw} {upto : Int} (h : ec c w) : rI w o upto ⟨w.B, w.V, false, o.B, o.V⟩ :=
 ⟨⟨[], by simp, by simp⟩, ⟨[], by simp, by simp⟩, h.valid, h.nodup, h.forB, ⟨h.lenB, h.lenV⟩, List.Sublist.refl _, List.Sublist.refl _, fun _ h => .inl h, fun _ h => .inl h⟩
theorem DV {c : Cf} {w o : Vw} {upto : Int} (h : ec c w) : rI w o upto (lZ upto ⟨w.B, w.V, false, o.B, o.V⟩) ∧ GH upto (lZ upto ⟨w.B, w.V, false, o.B, o.V⟩) :=
 ta 1000 _ (AJ h) (by omega)
structure GW (c : Cf) (w inp : Vw) (upto : Int) (r : Vw × Vw × Bool) : Prop where
 may : ec c r.1
 preB : ∃ t, r.1.B = w.B ++ t ∧ ∀ b ∈ t, b ∈ (a7 c inp).B ∧ b.Slot ≤ upto
 preV : ∃ t, r.1.V = w.V ++ t ∧ ∀ v ∈ t, v ∈ (a7 c inp).V ∧ v.Slot ≤ upto
 subB : r.2.1.B.Sublist (a7 c inp).B
 subV : r.2.1.V.Sublist (a7 c inp).V
 allB : ∀ b ∈ (a7 c inp).B, b ∈ r.2.1.B ∨ cx r.1.B b = true
 allV : ∀ v ∈ (a7 c inp).V, v ∈ r.2.1.V ∨ cL r.1.B r.1.V v = true
 endB : ∀ b ∈ r.2.1.B, cx r.1.B b = false ∧ (eP r.1.B upto b = true ∨ 60 ≤ r.1.B.length ∧ r.2.2 = true)
 endV : ∀ v ∈ r.2.1.V, cL r.1.B r.1.V v = false ∧ (fg r.1.B upto v = true ∨ 240 ≤ r.1.V.length ∧ r.2.2 = true)
theorem rQ {c : Cf} {w : Vw} (h : ec c w) (inp : Vw) (upto : Int) : GW c w inp upto (aB c w inp upto) := by
 unfold aB;rw [if_pos h];have hmB : ∀ b ∈ (a7 c inp).B, mayB c b = true := fun b hb => (List.mem_filter.1 hb).2;have hmV : ∀ v ∈ (a7 c inp).V, mayV c v = true := fun b hb => (List.mem_filter.1 hb).2;have := DV (o := a7 c inp) (upto := upto) h;obtain ⟨hi, he⟩ := this;generalize lZ upto ⟨w.B, w.V, false, (a7 c inp).B, (a7 c inp).V⟩ = s at hi he ⊢;obtain ⟨t, ht, ht2⟩ := hi.preB;obtain ⟨u, hu, hu2⟩ := hi.preV;refine ⟨⟨h.conf, hi.valid, hi.below.1, hi.below.2, fun b hb => ?_, fun v hv => ?_, hi.nodup, hi.forB⟩, ⟨t, ht, ht2⟩, ⟨u, hu, hu2⟩, hi.subB, hi.subV, hi.allB, hi.allV, he.B, he.V⟩
 ·simp only [ht] at hb;rcases List.mem_append.1 hb with hb | hb
  ·exact h.mayB b hb
  ·exact hmB b (ht2 b hb).1
 ·simp only [hu] at hv;rcases List.mem_append.1 hv with hv | hv
  ·exact h.mayV v hv
  ·exact hmV v (hu2 v hv).1
open Go.Proofs
open Go.Proofs
theorem DI (c : Cf) (w : Vw) : (a7 c w).B.length ≤ w.B.length ∧ (a7 c w).V.length ≤ w.V.length := ⟨List.length_filter_le _ _, List.length_filter_le _ _⟩
open Go.Proofs
open Go.Proofs
theorem DZ {c : Cf} {w inp : Vw} {upto : Int} {r : Vw × Vw × Bool} (h : GW c w inp upto r) : w.B.length ≤ r.1.B.length ∧ w.V.length ≤ r.1.V.length ∧ r.2.1.B.length ≤ inp.B.length ∧ r.2.1.V.length ≤ inp.V.length := by
 obtain ⟨t, ht, -⟩ := h.preB;obtain ⟨u, hu, -⟩ := h.preV;exact ⟨by rw [ht]; simp, by rw [hu]; simp, (h.subB.trans List.filter_sublist).length_le, (h.subV.trans List.filter_sublist).length_le⟩
theorem Bg {c : Cf} {w inp : Vw} {upto : Int} {r : Vw × Vw × Bool} (h : GW c w inp upto r) : r.1.B.take w.B.length = w.B ∧ r.1.V.take w.V.length = w.V := by
 obtain ⟨t, ht, -⟩ := h.preB;obtain ⟨u, hu, -⟩ := h.preV;rw [ht, hu];exact ⟨List.take_left' rfl, List.take_left' rfl⟩
theorem dS {α : Type} [DecidableEq α] : ∀ {l L : List α}, l.Nodup → (∀ x ∈ l, x ∈ L) → l.length ≤ L.length
 | [], _, _, _ => Nat.zero_le _
 | x :: r, L, h, hs => by
  rw [List.nodup_cons] at h;have hx := hs x (.head _);have h1 := dS (L := L.erase x) h.2 fun y hy => (List.mem_erase_of_ne (show y ≠ x from fun e => h.1 (by rw [← e]; exact hy))).2 (hs y (.tail _ hy));have h2 := List.length_erase_of_mem hx;have h3 := List.length_pos_of_mem hx;simp only [List.length_cons]; omega
theorem oN {B : List Bk} (h : aJ B) {id : ID} {s : Int} : aX B id = some s ↔ (id = (0, 0) ∧ s = 0) ∨ ∃ b ∈ B, nm b = id ∧ b.Slot = s := by
 constructor
 ·intro h1;rcases oO h1 with h2 | ⟨-, h2⟩
  ·exact .inl h2
  ·exact .inr h2
 ·rintro (⟨h1, h2⟩ | ⟨b, h1, h2, h3⟩)
  ·subst h1 h2; unfold aX; rw [if_pos rfl]
  ·rw [← h2, ← h3]; exact rz h h1
theorem sT {B C : List Bk} (h : aJ B) (h2 : aJ C) (hs : ∀ b ∈ B, b ∈ C) {id : ID} {s : Int} (hq : aX B id = some s) : aX C id = some s := by
 rw [oN h] at hq;rw [oN h2];rcases hq with hq | ⟨b, h1, h3⟩
 ·exact .inl hq
 ·exact .inr ⟨b, hs b h1, h3⟩
inductive CB (base o : List Bk) (upto : Int) : Bk → Prop
 | base {b : Bk} : b ∈ base → CB base o upto b
 | root {b : Bk} : b ∈ o → b.Slot ≤ upto → b.Parent = (0, 0) → 0 < b.Slot → CB base o upto b
 | step {b p : Bk} : b ∈ o → b.Slot ≤ upto → CB base o upto p → nm p = b.Parent → p.Slot < b.Slot → CB base o upto b
theorem CB.mono {base base' o o' : List Bk} {upto upto' : Int} (h1 : ∀ b ∈ base, CB base' o' upto' b) (h2 : ∀ b ∈ o, b ∈ o') (h3 : upto ≤ upto') {b : Bk} (h : CB base o upto b) : CB base' o' upto' b := by
 induction h with
 | base h => exact h1 _ h
 | root a1 a2 a3 a4 => exact .root (h2 _ a1) (Int.le_trans a2 h3) a3 a4
 | step a1 a2 _ a4 a5 ih => exact .step (h2 _ a1) (Int.le_trans a2 h3) ih a4 a5
structure Rm (U : Vw) : Prop where
 inj : ∀ a ∈ U.B, ∀ b ∈ U.B, nm a = nm b → a = b
 B : U.B.length < 60
 V : U.V.length < 240
theorem BC {l : List Int} (hl : l.length ≤ 100000) (v : Int) : uz l v = some (decide (v ∈ l)) := by
 have e := eN (step := iM l v) (n := l.length) (fun k => d5.mk (k : Int)) (fe l v) (fun j hj => by
  obtain ⟨y, hy, -⟩ := aE hj;unfold iM fe;simp only;rw [decide_eq_true (show (j : Int) < (l.length : Int) by omega), ct, aH hy, ob, aj (n := j) (by omega), hy];by_cases h : v = y
  ·rw [beq_iff_eq.2 h, ct, if_pos (by rw [h])]
  ·rw [beq_eq_false_iff_ne.2 h, cf, if_neg (fun e => h (Option.some.inj e).symm)]) (by
  unfold iM;simp only
  rw [decide_eq_false (show ¬ (l.length : Int) < (l.length : Int) by omega), cf]) (by omega)
 unfold uz xX;rw [← kK];have e' : iter (iM l v) bD (d5.mk 0) = some (lQ (d5.mk (l.length : Int)) (cv (fe l v) 0 l.length)) := e;rw [e', ob]
 cases h : cv (fe l v) 0 l.length with
 | none => rw [lQ, sl, ob]; rfl
 | some r => rw [lQ, sr, ob, decide_eq_true (qS h)]; rfl
def vK (cm : List Int) (v : Vt) : Bool := decide (v.From ∈ cm)
theorem uy {cm : List Int} (hl : cm.length ≤ 100000) (v : Vt) : rY cm v = some (!vK cm v) := by
 unfold rY;rw [BC hl, ob];rfl
theorem BV {l : List Vt} {cm : List Int} (hc : cm.length ≤ 100000) (hl : l.length ≤ 100000) :
  ∃ i, uF l l.length cm = some i ∧ ((i = -1 ∧ l.filter (vK cm) = l) ∨ ∃ j : Nat, i = j ∧ j < l.length ∧ (l.take (j + 1)).filter (vK cm) = l.take j) := by
 unfold uF
 have key := cN (step := iO l l.length cm) (fun x => ∃ j : Nat, j ≤ l.length ∧ x.t8 = j ∧ (l.take j).filter (vK cm) = l.take j) (fun x => l.length - x.t8.toNat)
  (fun b => (∃ x, b = .inl x ∧ l.filter (vK cm) = l) ∨ ∃ j : Nat, b = .inr (j : Int) ∧ j < l.length ∧ (l.take (j + 1)).filter (vK cm) = l.take j) (by
   rintro ⟨t⟩ ⟨j, hj, h1, h2⟩;simp only at h1 h2;subst h1;by_cases hlt : j < l.length
   ·obtain ⟨y, hy, -⟩ := aE hlt;have hsn := bP (p := vK cm) hy
    have hstep : iO l l.length cm ⟨(j : Int)⟩ = bif !vK cm y then some (.inr (.inr (j : Int))) else some (.inl ⟨((j + 1 : Nat) : Int)⟩) := by
     unfold iO;simp only;rw [decide_eq_true (show (j : Int) < (l.length : Int) by omega), ct, List.take_length, aH hy, ob, uy hc, ob, aj (n := j) (by omega)]
    rw [h2] at hsn
    cases hp : vK cm y with
    | true =>
     rw [hp, Bool.not_true, cf] at hstep;rw [hp, ct] at hsn;exact .inl ⟨_, hstep, ⟨j + 1, by omega, rfl, by rw [hsn, fQ hy]⟩, by simp only; omega⟩
    | false =>
     rw [hp, Bool.not_false, ct] at hstep;rw [hp, cf, List.append_nil] at hsn;exact .inr ⟨_, hstep, .inr ⟨j, rfl, hlt, hsn⟩⟩
   ·right
    obtain rfl : j = l.length := by omega
    refine ⟨.inl ⟨(l.length : Int)⟩, ?_, .inl ⟨_, rfl, ?_⟩⟩
    ·unfold iO;simp only;rw [decide_eq_false (show ¬ (l.length : Int) < (l.length : Int) by omega), cf]
    ·rw [List.take_length] at h2; exact h2) (n := bD) (x := ⟨0⟩) ⟨0, by omega, rfl, by simp⟩ (dy (by simp only; omega))
 obtain ⟨b, e, ⟨x, rfl, h1⟩ | ⟨j, rfl, h0, h1⟩⟩ := key
 ·exact ⟨-1, by rw [e, ob, sl], .inl ⟨rfl, h1⟩⟩
 ·exact ⟨j, by rw [e, ob, sr], .inr ⟨j, rfl, h0, h1⟩⟩
theorem BO {l : List Vt} {cm : List Int} (hc : cm.length ≤ 100000) (hl : l.length ≤ 100000) : ∃ k' l', uC l l.length cm = some (k', l') ∧ rJ l' k' (l.filter (vK cm)) := by
 obtain ⟨i, e0, h0⟩ := BV hc hl;unfold uC;rw [e0, ob];rcases h0 with ⟨rfl, hp⟩ | ⟨j0, rfl, hj0, hp⟩
 ·rw [hp, show ((-1 : Int) == -1) = true from rfl, ct];exact ⟨_, _, rfl, List.take_length, Nat.le_refl _⟩
 ·rw [show ((j0 : Int) == -1) = false by rw [beq_eq_false_iff_ne]; omega, cf, aj (n := j0) (by omega)]
  have key := cN (step := iN l.length cm) (fun x => ∃ (i j : Nat), x.i = i ∧ x.j = j ∧ Mv l x.o1 i j ((l.take j).filter (vK cm))) (fun x => l.length - x.j.toNat)
   (fun x => ∃ i : Nat, x.i = i ∧ i ≤ l.length ∧ x.o1.take i = l.filter (vK cm) ∧ l.length ≤ x.o1.length) (by
   rintro ⟨i', j', a⟩ ⟨i, j, h1, h2, h5⟩;simp only at h1 h2 h5;subst h1 h2;have hij := h5.ij;have hjl := h5.jl;have hal := h5.len;by_cases hlt : j < l.length
   ·left;obtain ⟨y, hy, -⟩ := aE hlt
    have hya : (a.take l.length)[j]? = some y := by rw [List.getElem?_take_of_lt hlt, h5.rest j (Nat.le_refl _) (by omega), hy]
    obtain ⟨z, hz, -⟩ := aE (l := a.take l.length) (n := i) (by rw [List.length_take]; omega);have hsn := bP (p := vK cm) hy
    have hstep : iN l.length cm ⟨(i : Int), (j : Int), a⟩ = bif vK cm y then some (.inl ⟨((i + 1 : Nat) : Int), ((j + 1 : Nat) : Int), a.set i y⟩) else some (.inl ⟨(i : Int), ((j + 1 : Nat) : Int), a⟩) := by
     unfold iN;simp only;rw [decide_eq_true (show (j : Int) < (l.length : Int) by omega), ct, aH hya, ob, uy hc, ob, aH hz, ob, aj (n := j) (by omega), aj (n := i) (by omega), Int.toNat_natCast, Bool.not_not]
    cases hp : vK cm y with
    | false =>
     rw [hp, cf] at hstep;rw [hp, cf, List.append_nil] at hsn;refine ⟨_, hstep, ⟨i, j + 1, rfl, rfl, ?_⟩, by simp only; omega⟩;rw [hsn];exact h5.next_gone (by omega)
    | true =>
     rw [hp, ct] at hstep;rw [hp, ct] at hsn;refine ⟨_, hstep, ⟨i + 1, j + 1, rfl, rfl, ?_⟩, by simp only; omega⟩;rw [hsn];exact h5.next_stay (by omega) hy
   ·right
    have hjk : j = l.length := by omega
    have htl : l.take j = l := List.take_of_length_le (by omega);rw [htl] at h5;refine ⟨⟨(i : Int), (j : Int), a⟩, ?_, i, rfl, by omega, h5.left, by show l.length ≤ a.length; omega⟩;unfold iN;simp only
    rw [decide_eq_false (show ¬ (j : Int) < (l.length : Int) by omega), cf]) (n := bD) (x := ⟨(j0 : Int), ((j0 + 1 : Nat) : Int), l⟩)
   ⟨j0, j0 + 1, rfl, rfl, by
    rw [hp]
    exact ⟨by omega, by omega, Nat.le_refl _, rfl, fun q h1 h2 => rfl⟩⟩ (dy (by simp only; omega))
  obtain ⟨x, ex, i, hi, hik, h2, h3⟩ := key;rw [ex, ob, hi, decide_eq_true (show 0 ≤ (i : Int) ∧ (i : Int) ≤ (l.length : Int) by omega), ct, Int.toNat_natCast, decide_eq_true (show i + (l.length - i) ≤ x.o1.length by omega), ct, ct];exact ⟨_, _, rfl, tB hik h3 h2⟩
def bJ (c : Cf) (v : List Vt) (slot : Int) : List Vt := (Fy v slot).filter (vK (fT c slot))
theorem DG (v : List Vt) (slot : Int) : (Fy v slot).length ≤ v.length := by
 unfold Fy;rw [(bS _).length_eq];exact Nat.le_trans (List.length_filterMap_le _ _) (n8 v).2
theorem vG (c : Cf) (v : List Vt) (slot : Int) : (bJ c v slot).length ≤ v.length := Nat.le_trans (List.length_filter_le _ _) (DG v slot)
theorem ux {v : List Vt} (hv : v.length ≤ 90000) (c : Cf) (slot : Int) : rX c v slot = some (bJ c v slot) := by
 have hl := DG v slot;have hc := tC c slot;obtain ⟨k', l', e, hp⟩ := BO (l := Fy v slot) (cm := fT c slot) (by omega) (by omega);unfold rX EW;rw [show Nat.ble v.length 90000 = true from Nat.ble_eq_true_of_le hv, ct, ob, tm, ob, List.length_map, e, ob];simp only;rw [show Nat.ble k' l'.length = true from Nat.ble_eq_true_of_le hp.le, ct, hp.take];rfl
theorem ks {w : Vw} (h1 : w.B.length ≤ 1000) (h2 : w.V.length ≤ 1000) (c : Cf) (slot : Int) : iL c w slot = some (ca c w.B (bJ c w.V slot)) := by
 have hg := vG c w.V slot;unfold iL;rw [ux (by omega), ob, GL h1 (by omega), ob]
def y7 (t : Int) : Int := bif ((IntKind.i64.wrap (t - 1)).tmod 3) != 2 then IntKind.i64.wrap ((IntKind.i64.wrap ((IntKind.i64.wrap (t - 1)).tdiv 3)) - 1) else IntKind.i64.wrap ((IntKind.i64.wrap (t - 1)).tdiv 3)
def fO (c : Cf) (n : Nd) : ID := ca c n.V.B (bJ c n.V.V (y7 n.Tick))
theorem uq {n : Nd} (h1 : n.V.B.length ≤ 1000) (h2 : n.V.V.length ≤ 1000) (c : Cf) : pX c n = some (fO c n) := by
 unfold pX fO y7
 cases ((IntKind.i64.wrap (n.Tick - 1)).tmod 3) != 2 with
 | true => rw [ct, ct, ks h1 h2, ob]
 | false => rw [cf, cf, ks h1 h2, ob]
theorem qT {l : List Bk} {v : List Vt} (c : Cf) {m : List (ID × Int)} (hp : places l = some m) : ∀ (n : Nat) (id : ID) (i : Int), af m id = some i → (l.length : Int) - i ≤ n → (∃ j, af m (lW c l v n id) = some j) ∧ bR l (lW c l v n id) = []
 | 0, id, i, hi, hn => by
  rcases (aG hp).known _ _ hi with ⟨h, -⟩ | ⟨b, p, h0, h1, -⟩ <;> omega
 | n + 1, id, i, hi, hn => by
  unfold lW;rcases kE c l v id with ⟨hk, e⟩ | ⟨k, hk, e⟩
  ·have : ¬ (eG c l v id).n ≥ 0 := by rw [e]; simp
   rw [if_neg this];exact ⟨⟨i, hi⟩, hk⟩
  ·have hpos : (eG c l v id).n ≥ 0 := by rw [e]; exact y4 c l v k
   rw [if_pos hpos, e];obtain ⟨j, hj, h1, h2⟩ := Dp hp hi hk;exact qT c hp n k j hj (by omega)
theorem qU {l : List Bk} {v : List Vt} (c : Cf) (hl : aJ l) : aq l (ca c l v) ≠ [] ∧ bR l (ca c l v) = [] := by
 unfold aJ at hl
 cases hp : places l with
 | none => rw [hp] at hl; cases hl
 | some m =>
  obtain ⟨⟨j, hj⟩, h2⟩ := qT (v := v) c hp (l.length + 1) (0, 0) (-1) (aG hp).zero (by omega);refine ⟨?_, h2⟩;unfold ca aq;rw [hp];simp only;rw [hj];simp only
  cases (j + 1).toNat with
  | zero => simp [bG]
  | succ n =>
   unfold bG;split
   ·simp
   ·split
    ·simp
    ·split
     ·simp
     ·split <;> simp
open Go.Proofs
def uw (x : Int) (y : Int) : Option (Int × Int) :=
 some (IntKind.u64.wrap ((IntKind.u64.wrap ((IntKind.u64.wrap ((x.fdiv (2 ^ (min (Int.toNat 32) IntKind.u64.bits))) * (y.fdiv (2 ^ (min (Int.toNat 32) IntKind.u64.bits))))) + ((IntKind.u64.wrap ((IntKind.u64.wrap ((x.fdiv (2 ^ (min (Int.toNat 32) IntKind.u64.bits))) * (bits .and .u64 y 4294967295))) + ((IntKind.u64.wrap ((bits .and .u64 x 4294967295) * (bits .and .u64 y 4294967295))).fdiv (2 ^ (min (Int.toNat 32) IntKind.u64.bits))))).fdiv (2 ^ (min (Int.toNat 32) IntKind.u64.bits))))) + ((IntKind.u64.wrap ((bits .and .u64 (IntKind.u64.wrap ((IntKind.u64.wrap ((x.fdiv (2 ^ (min (Int.toNat 32) IntKind.u64.bits))) * (bits .and .u64 y 4294967295))) + ((IntKind.u64.wrap ((bits .and .u64 x 4294967295) * (bits .and .u64 y 4294967295))).fdiv (2 ^ (min (Int.toNat 32) IntKind.u64.bits))))) 4294967295) + (IntKind.u64.wrap ((bits .and .u64 x 4294967295) * (y.fdiv (2 ^ (min (Int.toNat 32) IntKind.u64.bits))))))).fdiv (2 ^ (min (Int.toNat 32) IntKind.u64.bits)))), IntKind.u64.wrap (x * y))
theorem IK {x : Int} {y : Int} {r_ : Int × Int} (hr : uw x y = some r_) : aw Tryz.prog 158 [.int .u64 x, .int .u64 y] [.int .u64 r_.1, .int .u64 r_.2] := by
 refine zh Tryz.func158 Z Z Z Z ?_;unfold uw at hr;refine zQ (zR (zM Z (zM Z (zN (zT (zQ (zR (zM Z (yS Z (ax Z Z Z Z) (zM Z (zN (zT (zQ (zR (zM Z (yS Z (ab.shr Z Z Z (by decide)) (zM Z (zN (zT (zQ (zR (zM Z (yS Z (ax Z Z Z Z) ?_)))))))))))))))))))))));refine zM Z (zN (zT (zQ (zR (zM Z (yS Z (ab.shr Z Z Z (by decide)) (zM Z (zN (zT (zQ (zR (zM Z (zM Z (yS Z (ax Z Z Z Z) (zM Z (zN (zT (zQ (zR (zM Z (zM Z (yS Z (ax Z Z Z Z) (zM Z ?_)))))))))))))))))))))));refine yS Z (ab.shr Z Z Z (by decide)) (yS Z (ax Z Z Z Z) (zM Z (zN (zT (zQ (zR (zM Z (yS Z (ax Z Z Z Z) (zM Z (zN (zT (zQ (zR (zM Z (yS Z (ab.shr Z Z Z (by decide)) (zM Z (zN (zT (zQ (zR (zM Z (zM Z (zM Z ?_)))))))))))))))))))))));refine yS Z (ax Z Z Z Z) (yS Z (ax Z Z Z Z) (zM Z (zN (zT (zQ (zR (zM Z (zM Z (yS Z (ax Z Z Z Z) (zM Z (yS Z (ax Z Z Z Z) (zM Z (yS Z (ab.shr Z Z Z (by decide)) (yS Z (ax Z Z Z Z) (zM Z (zN (zT (zQ (zR (zM Z (zM Z (yS Z (ax Z Z Z Z) (zM Z ?_)))))))))))))))))))))));refine zN (zT (zr ?_));obtain rfl := zJ hr;exact zf (.two (.tmp Z) (.tmp Z)) (⟨_, rfl, (.cons zv (.cons zv .nil))⟩)
def ut (a : Int) (b : Int) : Option ID :=
 (uw (IntKind.u64.wrap (a)) (IntKind.u64.wrap (b))).bind fun v1 =>
 some v1
theorem F1 {a : Int} {b : Int} {r_ : ID} (hr : ut a b = some r_) : aw Tryz.prog 116 [.int .i64 a, .int .i64 b] [bF r_] := by
 refine zh Tryz.func116 Z Z Z Z ?_;unfold ut at hr;refine zQ (zR (yS Z (ze Z xR Z Z) (zN (zT (zQ (zR (zM Z (yS Z (ab.convert (k' := .u64) Z Z (by kernel_rfl)) (zM Z (yS Z (ab.convert (k' := .u64) Z Z (by kernel_rfl)) (zb hr fun v1 h_v1 hr => yS Z (zC Z Z Z (by kernel_rfl) (zp (IK h_v1) (.cons zv (.cons zv .nil)))) (zM Z (yS Z (eZ Z Z Z) (yS Z (eZ Z Z Z) (zM Z (zM Z (zN (zT (zQ (zR (zM Z (zM Z ?_))))))))))))))))))))));refine yS Z (ab.build Z GZ Z Z Z) (yS Z (zs Z Z Z Z rB Z Z Z Z) (zN (zT (zr ?_))));obtain rfl := zJ hr;exact zf (.one (.cellAgg Z Z (by kernel_rfl) Z)) zv
def uv (n : Int) : Option Bool :=
 bif decide (n ≥ 0) then
  some (decide (n ≤ 4611686018427387904))
 else
  some false
theorem IJ {n : Int} {r_ : Bool} (hr : uv n = some r_) : aw Tryz.prog 157 [.int .i64 n] [.bool r_] := by
 refine zh Tryz.func157 Z Z Z Z ?_;unfold uv at hr;refine zQ (zR (zM Z (zN (zT (zQ (zR (zM Z (yS Z (ax Z Z Z Z) (zM Z ?_)))))))));refine zc 5 Z (fun g1 => ?_) (fun g1 => ?_)
 ·
  refine zi g1 hr fun hr => yV Z (gd g1 Z) (zm Z Z) (yV Z (gd g1 Z) (ax Z Z Z Z) (yS Z (eo Z (bI g1 Z) Z) (zM Z (zN (zT (zr ?_))))));obtain rfl := zJ hr;exact zf (.one (.tmp Z)) zv
 ·
  refine zo g1 hr fun hr => yU Z (gd g1 Z) Z (yU Z (gd g1 Z) Z (yS Z (dc Z (bI g1 Z) Z) (zM Z (zN (zT (zr ?_))))));obtain rfl := zJ hr;exact zf (.one (.tmp Z)) zv
def xV (n : Int) : Option Bool :=
 (uv n).bind fun v1 =>
 some (!v1)
theorem II {n : Int} {r_ : Bool} (hr : xV n = some r_) : aw Tryz.prog 156 [.int .i64 n] [.bool r_] := by
 refine zh Tryz.func156 Z Z Z Z ?_;unfold xV at hr;refine zQ (zR (zM Z (zN (zT (zQ (zR (zM Z (zb hr fun v1 h_v1 hr => yS Z (zC Z Z Z (by kernel_rfl) (zp (IJ h_v1) (.cons zv .nil))) (yS Z (ab.not Z Z) (zM Z (zN (zT (zr ?_)))))))))))));obtain rfl := zJ hr;exact zf (.one (.tmp Z)) zv
structure fx where
 t8 : Int
def lu (s : List Int) (x1 : fx) : Option (fx ⊕ (fx ⊕ Int)) :=
 bif decide (x1.t8 < (s.length : Int)) then
  (ix s x1.t8).bind fun y1 =>
  (xV y1).bind fun v2 =>
  bif v2 then
   some (.inr (.inr x1.t8))
  else
   some (.inl (fx.mk (IntKind.i64.wrap (x1.t8 + 1))))
 else
  some (.inr (.inl (fx.mk x1.t8)))
def ES (s : List Int) : Option Int :=
 (iter (lu s) bD (fx.mk 0)).bind fun b_v1 => Sum.elim (fun _ =>
  some (-1)) some b_v1
theorem Jz {s : List Int} {r_ : Int} (hr : ES s = some r_) : LC Tryz.prog 173 [(kI s), .fn 156 [] []] [] (Is (iQ r_) []) := by
 refine dk Tryz.func173 Z Z Z ?_;unfold ES at hr;refine zQ (zR (zM Z (zN (zT (zQ (zQ (zR (zM Z (yS Z (dY Z Z (by kernel_rfl)) (zM Z (zN (zT ?_))))))))))));obtain ⟨b_v1, hb_v1, ho_v1⟩ := zB hr;clear hr;refine LW.tailB (b := b_v1) (E := fun v1 => [(4, (iQ 0))]) (O := fun v1 => []) ?_ (fun v1 e_v1 env_v1 H_v1 hw_v1 => ?_)
 ·refine LW.block ?_;refine LW.iterB (E := fun x1 : fx => [(0, (kI s)), (1, .fn 156 [] []), (4, (iQ 0)), (7, .p (.int .i64 (s.length : Int))), (8, (iQ x1.t8))]) (O := fun x1 => []) hb_v1 (zW 0 ⟨rfl, rfl, rfl, rfl, rfl, trivial⟩ Z Z Z Z) (fun x1 z_x1 hr hb_x1 => ?_);unfold lu at hr;refine zQ (zR (yS Z (ax Z Z Z Z) (zN (zT (zQ ?_)))));refine zX Z (fun g1 => ?_) (fun g1 => ?_)
  ·
   refine zi g1 hr fun hr => zk (zT (zQ (zl (zQ (zR (zM Z (zM Z (zN (zT (zQ (zR (zM Z (zM Z (zM Z (zb hr fun y1 h_y1 hr => yS Z (zx Z Z Z fY h_y1 Z) (yS Z (eA Z Z Z bA Z Z) (zb hr fun v2 h_v2 hr => yS Z (zC Z Z Z (by kernel_rfl) (zp (II h_v2) (.cons zv .nil))) (zN (zT ?_)))))))))))))))))));refine zX Z (fun g2 => ?_) (fun g2 => ?_)
   ·
    refine zi g2 hr fun hr => zQ (zR (zM Z (zM Z (zN (zT (zr (aD (am (am (aD (am (am ?_))))))))))));obtain rfl := zJ hr;have hr := congrArg some (hb_x1 _ rfl);obtain rfl := zJ hr;have hr := ff ho_v1;obtain rfl := zJ hr;exact ap (.one (.tmp Z)) (⟨rfl, rfl⟩)
   ·
    refine zo g2 hr fun hr => zk (ai (zT (zR (yS Z (ax Z Z Z Z) (zM Z (zN (zT ?_)))))));obtain rfl := zJ hr;exact ⟨_, rfl, zW 0 ⟨rfl, rfl, rfl, rfl, rfl, trivial⟩ Z Z Z rfl⟩
  ·
   refine zo g1 hr fun hr => zq (ao (ao (zy (zT ?_))));obtain rfl := zJ hr;have hr := congrArg some (hb_x1 _ rfl);obtain rfl := zJ hr;exact ⟨_, rfl, zW 0 ⟨rfl, trivial⟩ Z Z Z rfl⟩
 ·obtain rfl := e_v1;have hr := hZ ho_v1;clear hb_v1;refine zT (LW.weak hw_v1 (zQ (zR (zM Z (zN (zT (zr ?_)))))));obtain rfl := zJ hr;exact ap (.one (.tmp Z)) (⟨rfl, rfl⟩)
def KO (s : List Int) : Option Bool :=
 (ES s).bind fun v1 =>
 some (decide (v1 ≥ 0))
theorem Lx {s : List Int} {r_ : Bool} (hr : KO s = some r_) : LC Tryz.prog 155 [(kI s), .fn 156 [] []] [] (Is (bQ r_) []) := by
 refine dk Tryz.func155 Z Z Z ?_;unfold KO at hr;refine zQ (zR (zM Z (zN (zT (zQ (zR (zM Z (zM Z (zb hr fun v1 h_v1 hr => yS Z (zC Z Z Z (by kernel_rfl) (Jz h_v1)) (yS Z (ax Z Z Z Z) (zM Z (zN (zT (zr ?_))))))))))))));obtain rfl := zJ hr;exact ap (.one (.tmp Z)) (⟨rfl, rfl⟩)
def ur (l : List Int) : Option Bool :=
 (KO l).bind fun v1 =>
 some (!v1)
theorem IG {l : List Int} {r_ : Bool} (hr : ur l = some r_) : aw Tryz.prog 115 [.slice 1 (l.map aF)] [.bool r_] := by
 refine zh Tryz.func115 Z Z Z Z ?_;unfold ur at hr;refine zQ (zR (zM Z (zN (zT (zQ (zR (zM Z (zb hr fun v1 h_v1 hr => yS Z (zC Z Z Z (by kernel_rfl) (Lx h_v1)) (yS Z (ab.not Z Z) (zM Z (zN (zT (zr ?_)))))))))))));obtain rfl := zJ hr;exact zf (.one (.tmp Z)) zv
def rU (a : Int) (b : Int) (c : Int) (d : Int) : Option Bool :=
 (ur [a, b, c, d]).bind fun v1 =>
 bif !v1 then
  some false
 else
  (ut a b).bind fun v2 =>
  (ut c d).bind fun v3 =>
  bif !((v2.1 == v3.1) && ((v2.2 == v3.2) && true)) then
   (z7 [v2.1, v2.2] [v3.1, v3.2]).bind fun v4 =>
   some (decide (v4 > 0))
  else
   some false
theorem FY {a : Int} {b : Int} {c : Int} {d : Int} {r_ : Bool} (hr : rU a b c d = some r_) : aw Tryz.prog 62 [.int .i64 a, .int .i64 b, .int .i64 c, .int .i64 d] [.bool r_] := by
 refine zh Tryz.func62 Z Z Z Z ?_;unfold rU at hr;refine zQ (zR (zM Z (zN (zT (zQ (zQ (zR (zM Z (zM Z (zM Z (zM Z (yS Z (mL Z fY Z Z Z Z Z) (zb hr fun v1 h_v1 hr => yS Z (zC Z Z Z (by kernel_rfl) (zp (IG h_v1) (.cons zv .nil))) (yS Z (ab.not Z Z) (zN (zT ?_))))))))))))))));refine zX Z (fun g1 => ?_) (fun g1 => ?_)
 ·
  refine zi g1 hr fun hr => zQ (zR (zM Z (zN (zT (zr (am ?_))))));obtain rfl := zJ hr;exact zf (.one (.tmp Z)) zv
 ·
  refine zo g1 hr fun hr => zk (zT (zQ (zR (zM Z (zM Z (zb hr fun v2 h_v2 hr => yS Z (zC Z Z Z (by kernel_rfl) (zp (F1 h_v2) (.cons zv (.cons zv .nil)))) (zM Z (zM Z (zb hr fun v3 h_v3 hr => yS Z (zC Z Z Z (by kernel_rfl) (zp (F1 h_v3) (.cons zv (.cons zv .nil)))) (yS Z (ze Z xR Z Z) (yS Z (ze Z xR Z Z) (yS Z (zs Z Z Z Z rB Z Z Z Z) (yS Z (zs Z Z Z Z rB Z Z Z Z) (zN (zT (zQ (LW.draw2 (by kernel_rfl) (by kernel_rfl) (yE Z (zD Z Z Z rB Z Z) (yE Z (zD Z Z Z rB Z Z) (yE Z (ab.neqAgg Z Z Z Z Z Fk) ?_))))))))))))))))))));refine zH Z ?_;refine LO.cases 27 Z (fun (g2 : (!((v2.1 == v3.1) && ((v2.2 == v3.2) && true))) = true) => ?_) (fun (g2 : (!((v2.1 == v3.1) && ((v2.2 == v3.2) && true))) = false) => ?_)
  ·
   refine zi g2 hr fun hr => LO.gd Z Z Z (gd g2 Z) Z (ab.sliceBox Z Z CD Z Z Z) (LO.gd Z Z Z (gd g2 Z) Z (ab.sliceBox Z Z CD Z Z Z) (zb hr fun v4 h_v4 hr => LO.gd Z Z Z (gd g2 Z) Z (zC Z Z Z (by kernel_rfl) (LC.lend (IT h_v4) (.cons (Conv.boxSlice Z Z Z Z) (.cons (Conv.boxSlice Z Z Z Z) .nil)) Z)) (LO.gd Z Z Z (gd g2 Z) Z (ax Z Z Z Z) (yE Z (eo Z (bI g2 Z) Z) (zH Z (LO.nil (zT (zr ?_))))))));obtain rfl := zJ hr;exact zf (.one (.tmp Z)) zv
  ·
   refine zo g2 hr fun hr => LO.sk Z Z Z (gd g2 Z) Z Z (LO.sk Z Z Z (gd g2 Z) Z Z (LO.sk Z Z Z (gd g2 Z) Z Z (LO.sk Z Z Z (gd g2 Z) Z Z (yE Z (dc Z (bI g2 Z) Z) (zH Z (LO.nil (zT (zr ?_))))))));obtain rfl := zJ hr;exact zf (.one (.tmp Z)) zv
open Go.Proofs
def pD (who : Int) (bad : List Int) : Option Bool :=
 (tj bad who).bind fun v1 =>
 some v1
theorem CU {who : Int} {c : Cf} {bad : List Int} {r_ : Bool} (hr : pD who bad = some r_) : LC Tryz.prog 108 [(iQ who), .ptr 1 0] [.box (bE c), .box [(kI bad)]] (Is (bQ r_) [.box (bE c), .box [(kI bad)]]) := by
 refine dk Tryz.func108 Z Z Z ?_;unfold pD at hr;refine zQ (zR (zM Z (zN (zT (zQ (zR (yS Z (zD Z Z Z fc Z Z) (zM Z (zb hr fun v1 h_v1 hr => yS Z (zC Z Z Z (by kernel_rfl) (zp (CL h_v1) (.cons zv (.cons zv .nil)))) (zM Z (zN (zT (zr ?_)))))))))))));obtain rfl := zJ hr;exact ap (.one (.tmp Z)) (⟨rfl, rfl⟩)
structure cq where
 t10 : Int
 o4 : List Int
 o5 : List Int
def fk (l : List Int) (bad : List Int) (x1 : cq) : Option (cq ⊕ cq) :=
 bif decide (x1.t10 < (l.length : Int)) then
  (ix l x1.t10).bind fun y1 =>
  (pD y1 bad).bind fun v2 =>
  bif v2 then
   bif room x1.o5.length [y1].length 8 then
    some (.inl (cq.mk (IntKind.i64.wrap (x1.t10 + 1)) x1.o4 (x1.o5 ++ [y1])))
   else none
  else
   bif room x1.o4.length [y1].length 8 then
    some (.inl (cq.mk (IntKind.i64.wrap (x1.t10 + 1)) (x1.o4 ++ [y1]) x1.o5))
   else none
 else
  some (.inr (cq.mk x1.t10 x1.o4 x1.o5))
def mY (l : List Int) (bad : List Int) : Option (List Int × List Int) :=
 (iter (fk l bad) bD (cq.mk 0 ([] : List Int) ([] : List Int))).bind fun v1 =>
 some (v1.o4, v1.o5)
theorem CR {l : List Int} {c : Cf} {bad : List Int} {r_ : List Int × List Int} (hr : mY l bad = some r_) : LC Tryz.prog 107 [(kI l), .fn 108 [] [.ptr 1 0]] [.box (bE c), .box [(kI bad)]] (Is (.agg [(jI 4 r_.1), (jI 5 r_.2)]) [.box (bE c), .box [(kI bad)], .box [(jI 4 r_.1), (jI 5 r_.2)], .box [(jI 4 r_.1), (jI 5 r_.2)], .vec 1 (r_.1.map aF), .vec 1 (r_.2.map aF)]) := by
 refine dk Tryz.func107 Z Z Z ?_;unfold mY at hr;refine zQ (zR (yS Z (ze Z xQ Z Z) (zN (zT (zQ (zR (yS Z (ze Z xQ Z Z) (zN (zT (zQ (zQ (LW.ent (bL.lazyCell (i := 3) (j := 0) (m := 1) Z Z Z Z Z Z) (LW.ent (bL.lazyCell (i := 3) (j := 1) (m := 1) Z Z Z Z Z Z) (zR (zM Z (yS Z (dY Z Z (by kernel_rfl)) (zM Z (zN (zT ?_)))))))))))))))))));obtain ⟨v1, hb_v1, ho_v1⟩ := zB hr;clear hr;refine LW.tail (E := [(4, .ptr 2 0), (5, .ptr 3 0)]) (O := [.box (bE c), .box [(kI bad)], .box [.zs, .zs], .box [(jI 4 v1.o4), (jI 5 v1.o5)], .vec 1 (v1.o4.map aF), .vec 1 (v1.o5.map aF)]) ?_ (fun env_v1 H_v1 hw_v1 => ?_)
 ·refine LW.block ?_;refine LW.iterB (E := fun x1 : cq => [(1, .fn 108 [] [.ptr 1 0]), (4, .ptr 2 0), (5, .ptr 3 0), (8, (kI l)), (9, .p (.int .i64 (l.length : Int))), (10, (iQ x1.t10))]) (O := fun x1 => [.box (bE c), .box [(kI bad)], .box [.zs, .zs], .box [(jI 4 x1.o4), (jI 5 x1.o5)], .vec 1 (x1.o4.map aF), .vec 1 (x1.o5.map aF)]) hb_v1 (zW 6 ⟨rfl, rfl, rfl, rfl, rfl, rfl, trivial⟩ Z Z Z Z) (fun x1 z_x1 hr hb_x1 => ?_);unfold fk at hr;refine zQ (zR (yS Z (ax Z Z Z Z) (zN (zT (zQ ?_)))));refine zX Z (fun g1 => ?_) (fun g1 => ?_)
  ·
   refine zi g1 hr fun hr => zk (zT (zQ (zl (zQ (zR (zb hr fun y1 h_y1 hr => yS Z (zx Z Z Z fY h_y1 Z) (yS Z (eA Z Z Z bA Z Z) (zM Z (zN (zT (zQ (zR (zM Z (zM Z (zb hr fun v2 h_v2 hr => yS Z (zC Z Z Z (by kernel_rfl) (LC.pre (CU h_v2) Z Z Z)) (zN (zT ?_)))))))))))))))));refine zX Z (fun g2 => ?_) (fun g2 => ?_)
   ·
    refine zi g2 hr fun hr => zR (yS Z (zA Z Z qJ) (yS Z (zD Z Z Z fc Z Z) (zM Z (yS Z (mL Z fY Z Z Z Z Z) (zg hr fun q1 hr => yS Z (ab.appendX aF x1.o5 [y1] rfl Z Z Z km.p Z fY q1 Z) (yS Z (zA Z Z qJ) (yS Z (zs Z Z Z Z fc Z Z Z Z) (zN (ai (zT (zR (yS Z (ax Z Z Z Z) (zM Z (zN (zT ?_)))))))))))))));obtain rfl := zJ hr;exact ⟨_, rfl, zW 6 ⟨rfl, rfl, rfl, rfl, rfl, rfl, trivial⟩ Z Z Z rfl⟩
   ·
    refine zo g2 hr fun hr => zR (yS Z (zA Z Z qI) (yS Z (zD Z Z Z fc Z Z) (zM Z (yS Z (mL Z fY Z Z Z Z Z) (zg hr fun q2 hr => yS Z (ab.appendX aF x1.o4 [y1] rfl Z Z Z km.p Z fY q2 Z) (yS Z (zA Z Z qI) (yS Z (zs Z Z Z Z fc Z Z Z Z) (zN (ai (zT (zR (yS Z (ax Z Z Z Z) (zM Z (zN (zT ?_)))))))))))))));obtain rfl := zJ hr;exact ⟨_, rfl, zW 6 ⟨rfl, rfl, rfl, rfl, rfl, rfl, trivial⟩ Z Z Z rfl⟩
  ·
   refine zo g1 hr fun hr => zq (ao (ao (zy (zT ?_))));obtain rfl := zJ hr;have hr := congrArg some (hb_x1 _ rfl);obtain rfl := zJ hr;exact zW 6 ⟨Z, Z, trivial⟩ Z Z Z Z
 ·have hr := ho_v1;clear hb_v1;refine zT (LW.weak hw_v1 (zQ (zR (yS Z (zD Z Z Z xL Z Z) (yS Z (zs Z Z Z Z xL Z Z Z Z) (zN (zT (zr ?_))))))));obtain rfl := zJ hr;exact ap (.one (.cellAgg Z Z (by kernel_rfl) Z)) (⟨rfl, rfl⟩)
def rR (c : Cf) (bad : List Int) (slot : Int) : Option (Int × Int) :=
 (FO c slot).bind fun v1 =>
 (mY v1 bad).bind fun v2 =>
 (FQ c v2.1).bind fun v3 =>
 (FQ c v2.2).bind fun v4 =>
 some (v3, v4)
theorem FV {c : Cf} {bad : List Int} {slot : Int} {r_ : Int × Int} (hr : rR c bad slot = some r_) : aw Tryz.prog 58 [jC c, .slice 1 (bad.map aF), .int .i64 slot] [.int .i64 r_.1, .int .i64 r_.2] := by
 refine zh Tryz.func58 Z Z Z Z ?_;unfold rR at hr;refine zQ (zR (yS Z (bZ Z Z Z Z Z) (yS Z (bZ Z Z Z Z Z) (zM Z (zM Z (zN (zT (zQ (zR (yS Z (zD Z Z Z bv Z Z) (zM Z (zb hr fun v1 h_v1 hr => yS Z (zC Z Z Z (by kernel_rfl) (zp (KU h_v1) (.cons zv (.cons zv .nil)))) (yS Z (ab.makeFunc Z Z Z) (zb hr fun v2 h_v2 hr => yS Z (zC Z Z Z (by kernel_rfl) (CR h_v2)) (yS Z (ze Z xQ Z Z) (yS Z (zs Z Z Z Z xL Z Z Z Z) (zN (zT (zQ (LW.draw2 (by kernel_rfl) (by kernel_rfl) (yE Z (zD Z Z Z bv Z Z) ?_)))))))))))))))))))));refine yE Z (zA Z Z qI) (yE Z (zD Z Z Z fc Z Z) (zb hr fun v3 h_v3 hr => yE Z (zC Z Z Z (by kernel_rfl) (LC.lend (KV h_v3) (.cons zv (.cons (Conv.vecAll Z Z Z) .nil)) Z)) (yE Z (zD Z Z Z bv Z Z) (yE Z (zA Z Z qJ) (yE Z (zD Z Z Z fc Z Z) (zb hr fun v4 h_v4 hr => yE Z (zC Z Z Z (by kernel_rfl) (LC.lend (KV h_v4) (.cons zv (.cons (Conv.vecAll Z Z Z) .nil)) Z)) (zH Z (zH Z (LO.nil (zT (zr ?_)))))))))));obtain rfl := zJ hr;exact zf (.two (.tmp Z) (.tmp Z)) (⟨_, rfl, (.cons zv (.cons zv .nil))⟩)
structure co where
 s : Int
 strong : Bool
 t27 : Int
def gz (c : Cf) (bad : List Int) (v_from : Int) (upto : Int) (x1 : co) : Option (co ⊕ co) :=
 bif decide (x1.t27 < (IntKind.u64.wrap ((IntKind.u64.wrap ((IntKind.u64.wrap (upto)) - (IntKind.u64.wrap (v_from)))) + 1))) then
  (rR c bad x1.s).bind fun v2 =>
  bif decide (v2.1 ≤ v2.2) then
   some (.inr (co.mk x1.s false x1.t27))
  else
   some (.inl (co.mk (IntKind.i64.wrap (x1.s + 1)) x1.strong (IntKind.u64.wrap (x1.t27 + 1))))
 else
  some (.inr (co.mk x1.s x1.strong x1.t27))
def rS (c : Cf) (bad : List Int) (v_from : Int) (upto : Int) : Option Bool :=
 bif decide (v_from > upto) then
  some true
 else
  bif decide ((IntKind.u64.wrap ((IntKind.u64.wrap (upto)) - (IntKind.u64.wrap (v_from)))) ≥ 1000) then
   some false
  else
   (iter (gz c bad v_from upto) bD (co.mk v_from true 0)).bind fun v1 =>
   some v1.strong
theorem FW {c : Cf} {bad : List Int} {v_from : Int} {upto : Int} {r_ : Bool} (hr : rS c bad v_from upto = some r_) : aw Tryz.prog 23 [jC c, .slice 1 (bad.map aF), .int .i64 v_from, .int .i64 upto] [.bool r_] := by
 refine zh Tryz.func23 Z Z Z Z ?_;unfold rS at hr;refine zQ (zR (yS Z (bZ Z Z Z Z Z) (zM Z (zN (zT (LW.scope (zQ (zQ (zR (zM Z (zM Z (yS Z (ax Z Z Z Z) (zN (zT ?_))))))))))))));refine zX Z (fun g1 => ?_) (fun g1 => ?_)
 ·
  refine zi g1 hr fun hr => zQ (zR (zM Z (zN (zT (zr (am (q7 ?_)))))));obtain rfl := zJ hr;exact zf (.one (.tmp Z)) zv
 ·
  refine zo g1 hr fun hr => zk (zT (zQ (zR (zM Z (yS Z (ab.convert (k' := .u64) Z Z (by kernel_rfl)) (zM Z (yS Z (ab.convert (k' := .u64) Z Z (by kernel_rfl)) (yS Z (ax Z Z Z Z) (zM Z (zM Z (zM Z (zM Z (zN (zT (zQ (zQ (zR (zM Z (yS Z (ax Z Z Z Z) (zN (zT ?_)))))))))))))))))))));refine zX Z (fun g2 => ?_) (fun g2 => ?_)
  ·
   refine zi g2 hr fun hr => zQ (zR (zM Z (zN (zT (zr (am (q7 ?_)))))));obtain rfl := zJ hr;exact zf (.one (.tmp Z)) zv
  ·
   refine zo g2 hr fun hr => zk (zT (zQ (LW.label (zT (zQ (zQ (zR (zM Z (yS Z (ax Z Z Z Z) (zM Z (zN (zT ?_))))))))))));obtain ⟨v1, hb_v1, ho_v1⟩ := zB hr;clear hr;refine LW.tail (E := [(8, (bQ false)), (11, (bQ v1.strong))]) (O := [.box (bE c)]) ?_ (fun env_v1 H_v1 hw_v1 => ?_)
   ·refine LW.block ?_;refine LW.iterB (E := fun x1 : co => [(1, (kI bad)), (4, .ptr 0 0), (8, (bQ false)), (10, (iQ x1.s)), (11, (bQ x1.strong)), (26, .p (.int .u64 (IntKind.u64.wrap ((IntKind.u64.wrap ((IntKind.u64.wrap (upto)) - (IntKind.u64.wrap (v_from)))) + 1)))), (27, (uQ x1.t27))]) (O := fun x1 => [.box (bE c)]) hb_v1 (zW 1 ⟨rfl, rfl, rfl, rfl, rfl, rfl, rfl, trivial⟩ Z Z Z Z) (fun x1 z_x1 hr hb_x1 => ?_);unfold gz at hr;refine zQ (zR (yS Z (ax Z Z Z Z) (zN (zT (zQ ?_)))));refine zX Z (fun g3 => ?_) (fun g3 => ?_)
    ·
     refine zi g3 hr fun hr => zk (zT (zQ (zl (zQ (zQ (zR (yS Z (zD Z Z Z bv Z Z) (zM Z (zM Z (zb hr fun v2 h_v2 hr => yS Z (zC Z Z Z (by kernel_rfl) (zp (FV h_v2) (.cons zv (.cons zv (.cons zv .nil))))) (zM Z (yS Z (eZ Z Z Z) (yS Z (eZ Z Z Z) (zM Z (zM Z (zN (zT (zQ (zR (zM Z (zM Z ?_)))))))))))))))))))));refine yS Z (ax Z Z Z Z) (zN (zT ?_));refine zX Z (fun g4 => ?_) (fun g4 => ?_)
     ·
      refine zi g4 hr fun hr => zQ (zR (zM Z (zN (zT (zq (ao (kL (by decide) (ao (ao (zy (zT ?_)))))))))));obtain rfl := zJ hr;have hr := congrArg some (hb_x1 _ rfl);obtain rfl := zJ hr;exact zW 1 ⟨Z, Z, trivial⟩ Z Z Z Z
     ·
      refine zo g4 hr fun hr => zk (zT (zR (zM Z (yS Z (ax Z Z Z Z) (zM Z (zN (ai (zT (zR (yS Z (ax Z Z Z Z) (zM Z (zN (zT ?_)))))))))))));obtain rfl := zJ hr;exact ⟨_, rfl, zW 1 ⟨rfl, rfl, rfl, rfl, rfl, rfl, rfl, trivial⟩ Z Z Z rfl⟩
    ·
     refine zo g3 hr fun hr => zq (ao (ao (zy (zT ?_))));obtain rfl := zJ hr;have hr := congrArg some (hb_x1 _ rfl);obtain rfl := zJ hr;exact zW 1 ⟨Z, Z, trivial⟩ Z Z Z Z
   ·have hr := ho_v1;clear hb_v1;refine zT (LW.weak hw_v1 (zQ (zR (zM Z (zM Z (zN (zT (zr (q7 ?_)))))))));obtain rfl := zJ hr;exact zf (.one (.tmp Z)) zv
def rT (c : Cf) (bad : List Int) (slot : Int) : Option Bool :=
 (rR c bad slot).bind fun v1 =>
 (yh c).bind fun v2 =>
 bif v2 then
  bif decide ((IntKind.i64.wrap (v1.1 + v1.2)) > 0) then
   (rU v1.2 c.Den (IntKind.i64.wrap (v1.1 + v1.2)) c.Num).bind fun v3 =>
   some (!v3)
  else
   some false
 else
  some false
theorem IE {c : Cf} {bad : List Int} {slot : Int} {r_ : Bool} (hr : rT c bad slot = some r_) : aw Tryz.prog 26 [jC c, .slice 1 (bad.map aF), .int .i64 slot] [.bool r_] := by
 refine zh Tryz.func26 Z Z Z Z ?_;unfold rT at hr;refine zQ (zR (yS Z (bZ Z Z Z Z Z) (zM Z (zN (zT (zQ (zR (yS Z (zD Z Z Z bv Z Z) (zM Z (zM Z (zb hr fun v1 h_v1 hr => yS Z (zC Z Z Z (by kernel_rfl) (zp (FV h_v1) (.cons zv (.cons zv (.cons zv .nil))))) (zM Z (yS Z (eZ Z Z Z) (yS Z (eZ Z Z Z) (zM Z (zM Z (zN (zT (zQ (zR (yS Z (zD Z Z Z bv Z Z) (zb hr fun v2 h_v2 hr => ?_))))))))))))))))))))));refine yS Z (zC Z Z Z (by kernel_rfl) (zp (Ga h_v2) (.cons zv .nil))) (zM Z ?_);refine zc 18 Z (fun g1 => ?_) (fun g1 => ?_)
 ·
  refine zi g1 hr fun hr => yV Z (gd g1 Z) (zm Z Z) (yV Z (gd g1 Z) (zm Z Z) (yV Z (gd g1 Z) (ax Z Z Z Z) (yV Z (gd g1 Z) (ax Z Z Z Z) (yS Z (eo Z (bI g1 Z) Z) (zM Z ?_)))));refine zc 24 Z (fun g2 => ?_) (fun g2 => ?_)
  ·
   refine zi g2 hr fun hr => yV Z (gd g2 Z) (zm Z Z) (yV Z (gd g2 Z) (zA Z Z oq) (yV Z (gd g2 Z) (zD Z Z Z bA Z Z) (yV Z (gd g2 Z) (zm Z Z) (yV Z (gd g2 Z) (zm Z Z) (yV Z (gd g2 Z) (ax Z Z Z Z) (yV Z (gd g2 Z) (zA Z Z tL) (yV Z (gd g2 Z) (zD Z Z Z bA Z Z) (zb hr fun v3 h_v3 hr => yV Z (gd g2 Z) (zC Z Z Z (by kernel_rfl) (zp (FY h_v3) (.cons zv (.cons zv (.cons zv (.cons zv .nil)))))) (yV Z (gd g2 Z) (ab.not Z Z) (yS Z (eo Z (bI g2 Z) Z) (zM Z (zN (zT (zr ?_))))))))))))));obtain rfl := zJ hr;exact zf (.one (.tmp Z)) zv
  ·
   refine zo g2 hr fun hr => yU Z (gd g2 Z) Z (yU Z (gd g2 Z) Z (yU Z (gd g2 Z) Z (yU Z (gd g2 Z) Z (yU Z (gd g2 Z) Z (yU Z (gd g2 Z) Z (yU Z (gd g2 Z) Z (yU Z (gd g2 Z) Z (yU Z (gd g2 Z) Z (yU Z (gd g2 Z) Z (yS Z (dc Z (bI g2 Z) Z) (zM Z (zN (zT (zr ?_))))))))))))));obtain rfl := zJ hr;exact zf (.one (.tmp Z)) zv
 ·
  refine zo g1 hr fun hr => yU Z (gd g1 Z) Z (yU Z (gd g1 Z) Z (yU Z (gd g1 Z) Z (yU Z (gd g1 Z) Z (yS Z (dc Z (bI g1 Z) Z) (zM Z (yU Z Z Z (yU Z Z Z (yU Z Z Z (yU Z Z Z (yU Z Z Z (yU Z Z Z (yU Z Z Z (yU Z Z Z (yU Z Z Z (yU Z Z Z (yS Z (dc Z Z Z) (zM Z (zN (zT (zr ?_))))))))))))))))))));obtain rfl := zJ hr;exact zf (.one (.tmp Z)) zv
theorem BA (n : Int) : uv n = some (decide (0 ≤ n ∧ n ≤ 4611686018427387904)) := by
 unfold uv;by_cases h : 0 ≤ n
 ·rw [decide_eq_true (show n ≥ 0 from h), ct]; congr 1; exact decide_eq_decide.2 ⟨fun h2 => ⟨h, h2⟩, fun h2 => h2.2⟩
 ·rw [decide_eq_false (show ¬ n ≥ 0 from h), cf, decide_eq_false fun h2 => h h2.1]
theorem ET {l : List Int} (hl : l.length ≤ 1000) (h : ∀ x ∈ l, 0 ≤ x ∧ x ≤ 4611686018427387904) : ur l = some true := by
 have e := az (step := lu l) (n := l.length) (fun k => fx.mk (k : Int)) (.inl (fx.mk (l.length : Int))) (fun k hk => by
  obtain ⟨y, hy, hm⟩ := aE hk;unfold lu xV;simp only
  rw [decide_eq_true (show (k : Int) < (l.length : Int) by omega), ct, aH hy, ob, BA, ob, ob, decide_eq_true (h y hm), Bool.not_true, cf, aj (n := k) (by omega)]) (by
  unfold lu;simp only
  rw [decide_eq_false (show ¬ (l.length : Int) < (l.length : Int) by omega), cf]) (by omega)
 have e' : iter (lu l) bD (fx.mk 0) = _ := e;unfold ur KO ES;rw [e', ob, sl, ob, ob];rfl
theorem n4 {x : Int} (h0 : 0 ≤ x) (h1 : x ≤ 18446744073709551615) : bits .and .u64 x 4294967295 = x % 4294967296 := by
 obtain ⟨n, rfl⟩ : ∃ n : Nat, x = n := ⟨x.toNat, by omega⟩;have e : bits .and .u64 (n : Int) 4294967295 = IntKind.u64.wrap ((BitVec.ofInt 64 (n : Int) &&& BitVec.ofInt 64 4294967295).toNat : Int) := rfl
 have e2 : (BitVec.ofInt 64 4294967295).toNat = 2 ^ 32 - 1 := by decide
 have e3 : (BitVec.ofInt 64 (n : Int)).toNat = n := by
  rw [BitVec.toNat_ofInt]; omega
 rw [e, BitVec.toNat_and, e2, e3, Nat.and_two_pow_sub_one_eq_mod, rD (by omega) (by omega)];omega
theorem oU {x y : Int} (hx : 0 ≤ x) (hx1 : x ≤ 26388279066624) (hy : 0 ≤ y) (hy1 : y ≤ 3000) : uw x y = some (0, x * y) := by
 have e : ∀ z, IntKind.u64.wrap z = z % 18446744073709551616 := fun z => rfl
 have hp : ((2 : Int) ^ (min (Int.toNat 32) IntKind.u64.bits)) = 4294967296 := by decide
 have hd : ∀ z : Int, z.fdiv 4294967296 = z / 4294967296 := fun z => Int.fdiv_eq_ediv_of_nonneg z (by omega)
 have h0 : y / 4294967296 = 0 := by omega
 have h1 : y % 4294967296 = y := by omega
 unfold uw;rw [hp, hd, hd, hd, hd, hd, n4 (x := y) hy (by omega), n4 (x := x) hx (by omega), h0, h1];have a1 : 0 ≤ x / 4294967296 * y := Int.mul_nonneg (by omega) hy;have a2 : x / 4294967296 * y ≤ 6144 * 3000 := Int.mul_le_mul (by omega) hy1 hy (by omega);have a3 : 0 ≤ x % 4294967296 * y := Int.mul_nonneg (by omega) hy;have a4 : x % 4294967296 * y ≤ 4294967295 * 3000 := Int.mul_le_mul (by omega) hy1 hy (by omega);have a5 : 0 ≤ x * y := Int.mul_nonneg hx hy;have a6 : x * y ≤ 26388279066624 * 3000 := Int.mul_le_mul hx1 hy1 hy (by omega);rw [Int.mul_zero, Int.mul_zero];generalize x / 4294967296 * y = q at a1 a2 ⊢;generalize x % 4294967296 * y = p at a3 a4 ⊢;generalize x * y = r at a5 a6 ⊢
 have ht : IntKind.u64.wrap (IntKind.u64.wrap q + IntKind.u64.wrap p / 4294967296) = q + p / 4294967296 := by simp only [e]; omega
 rw [ht, n4 (by omega) (by omega)];refine congrArg some (Prod.ext ?_ ?_)
 ·simp only [e]; omega
 ·simp only [e]; omega
theorem uo {a b c d : Int} (ha : 0 ≤ a ∧ a ≤ 26388279066624) (hb : 0 ≤ b ∧ b ≤ 3000) (hc : 0 ≤ c ∧ c ≤ 26388279066624) (hd : 0 ≤ d ∧ d ≤ 3000) : rU a b c d = some (decide (a * b > c * d)) := by
 unfold rU;rw [ET (by simp) (by simp; omega), ob, Bool.not_true, cf];unfold ut;rw [rD ha.1 (by omega), rD hb.1 (by omega), rD hc.1 (by omega), rD hd.1 (by omega), oU ha.1 ha.2 hb.1 hb.2, ob, ob, oU hc.1 hc.2 hd.1 hd.2, ob, ob];simp only;rw [uE, ob];generalize a * b = x;generalize c * d = y;unfold jD;by_cases h : x = y
 ·subst h; simp
 ·have hb : (x == y) = false := beq_eq_false_iff_ne.2 h;by_cases h2 : x > y
  ·simp [hb, h2, show ¬ x < y by omega]
  ·simp [hb, h2, show x < y by omega]
theorem pm {α : Type} {p : α → Bool} {l : List α} {n : Nat} {y : α} (hy : l[n]? = some y) : (l.take (n + 1)).filter p = (l.take n).filter p ++ bif p y then [y] else [] := by
 have e : l.take (n + 1) = l.take n ++ [y] := by rw [List.take_add_one, hy]; rfl
 rw [e, List.filter_append];cases h : p y <;> simp [h]
theorem ki {α : Type} {p : α → Bool} {l : List α} (n : Nat) : ((l.take n).filter p).length ≤ n :=
 Nat.le_trans (List.length_filter_le _ _) (by rw [List.length_take]; omega)
def mM (bad : List Int) (x : Int) : Bool := decide (x ∈ bad)
theorem wP {l bad : List Int} (hl : l.length ≤ 1000) (hb : bad.length ≤ 1000) : mY l bad = some (l.filter (fun x => !mM bad x), l.filter (mM bad)) := by
 have e := az (step := fk l bad) (n := l.length) (fun k => cq.mk (k : Int) ((l.take k).filter fun x => !mM bad x) ((l.take k).filter (mM bad))) (cq.mk (l.length : Int) (l.filter fun x => !mM bad x) (l.filter (mM bad))) (fun k hk => by
  obtain ⟨y, hy, -⟩ := aE hk;have h1 := ki (p := fun x => !mM bad x) (l := l) k;have h2 := ki (p := mM bad) (l := l) k;unfold fk pD;simp only;rw [decide_eq_true (show (k : Int) < (l.length : Int) by omega), ct, aH hy, ob, la (by omega), ob, ob, pm hy, pm hy, aj (n := k) (by omega)];unfold mM at h1 h2 ⊢;by_cases h : y ∈ bad
  ·simp only [decide_eq_true h, ct, Bool.not_true, cf, List.append_nil];rw [aL (by simp only [List.length_singleton]; omega) (by omega), ct]
  ·simp only [decide_eq_false h, ct, Bool.not_false, cf, List.append_nil]
   rw [aL (by simp only [List.length_singleton]; omega) (by omega), ct]) (by
  unfold fk;simp only
  rw [decide_eq_false (show ¬ (l.length : Int) < (l.length : Int) by omega), cf, List.take_length]) (by omega)
 have e' : iter (fk l bad) bD (cq.mk 0 [] []) = _ := e;unfold mY;rw [e', ob]
def fd (c : Cf) (bad : List Int) (slot : Int) : Int := fS c ((fT c slot).filter fun x => !mM bad x)
def gg (c : Cf) (bad : List Int) (slot : Int) : Int := fS c ((fT c slot).filter (mM bad))
theorem pU {c : Cf} {bad : List Int} (hb : bad.length ≤ 1000) (slot : Int) : rR c bad slot = some (fd c bad slot, gg c bad slot) := by
 have h := tC c slot;have h1 := List.length_filter_le (fun x => !mM bad x) (fT c slot);have h2 := List.length_filter_le (mM bad) (fT c slot);unfold rR;rw [tm, ob, wP (by omega) hb, ob, tp (by simp only; omega), ob, tp (by simp only; omega), ob];rfl
theorem uh {c : Cf} {a b : List Int} (h : ∀ x ∈ a, x ∈ b) : fS c a ≤ fS c b := by
 unfold fS;by_cases hm : cH c
 ·rw [if_pos hm, if_pos hm];exact zE hm.okW.2 (fun j hj => decide_eq_true (h _ (of_decide_eq_true hj))) _
 ·rw [if_neg hm, if_neg hm]; exact Int.le_refl _
theorem tN {bad : List Int} {x : Int} : mM bad x = true ↔ x ∈ bad := ⟨of_decide_eq_true, fun h => decide_eq_true h⟩
theorem pK {bad : List Int} {x : Int} : (!mM bad x) = true ↔ x ∉ bad := by
 rw [Bool.not_eq_true', ← Bool.not_eq_true, tN]
theorem oT (c : Cf) (bad : List Int) (slot : Int) : fd c bad slot + gg c bad slot = fS c (fT c slot) := by
 unfold fd gg;rw [← (Ei c _ _).2, zP]
 ·intro x;rw [List.mem_append, List.mem_filter, List.mem_filter, tN, pK];by_cases h : x ∈ bad <;> simp [h]
 ·cases h : AG ((fT c slot).filter fun x => !mM bad x) ((fT c slot).filter (mM bad)) with
  | false => rfl
  | true =>
   obtain ⟨x, hx, h2⟩ := List.any_eq_true.1 h;obtain ⟨y, hy, h3⟩ := List.any_eq_true.1 h2
   have e : x = y := by simpa using h3
   subst e;exact absurd (tN.1 (List.mem_filter.1 hy).2) (pK.1 (List.mem_filter.1 hx).2)
theorem Ed (c : Cf) (bad : List Int) (slot : Int) : (0 ≤ fd c bad slot ∧ fd c bad slot ≤ 13194139533312) ∧ 0 ≤ gg c bad slot ∧ gg c bad slot ≤ 13194139533312 := ⟨th _ _, th _ _⟩
theorem AB {S : Type} {step : S → Option (S ⊕ S)} {n : Nat} (mk : Nat → S) (bad : Nat → Bool) (out : S → Bool) (hs : ∀ j, j < n → bad j = false → step (mk j) = some (.inl (mk (j + 1))))
  (hb : ∀ j, j < n → bad j = true → ∃ z, step (mk j) = some (.inr z) ∧ out z = false) (he : ∃ z, step (mk n) = some (.inr z) ∧ out z = true) (hn : n < 4000000000000000000) :
  ∃ z, iter step bD (mk 0) = some z ∧ (out z = true ↔ ∀ j, j < n → bad j = false) := by
 have key : ∀ (d k q : Nat), k + d = n → d < q → ∃ z, iter step q (mk k) = some z ∧ (out z = true ↔ ∀ j, k ≤ j → j < n → bad j = false) := by
  intro d
  induction d with
  | zero =>
   intro k q hk hq;obtain ⟨q, rfl⟩ : ∃ p, q = p + 1 := ⟨q - 1, by omega⟩
   obtain rfl : k = n := by omega
   obtain ⟨z, h1, h2⟩ := he;exact ⟨z, eh h1, ⟨fun _ j h3 h4 => by omega, fun _ => h2⟩⟩
  | succ d ih =>
   intro k q hk hq;obtain ⟨q, rfl⟩ : ∃ p, q = p + 1 := ⟨q - 1, by omega⟩
   cases hf : bad k with
   | true =>
    obtain ⟨z, h1, h2⟩ := hb k (by omega) hf;refine ⟨z, eh h1, ⟨fun h3 => (by rw [h2] at h3; cases h3), fun h3 => ?_⟩⟩;have := h3 k (Nat.le_refl _) (by omega);rw [hf] at this; cases this
   | false =>
    rw [lF (hs k (by omega) hf)];obtain ⟨z, h1, h2⟩ := ih (k + 1) q (by omega) (by omega);refine ⟨z, h1, h2.trans ⟨fun h3 j h4 h5 => ?_, fun h3 j h4 h5 => h3 j (by omega) h5⟩⟩;by_cases e : j = k
    ·subst e; exact hf
    ·exact h3 j (by omega) h5
 obtain ⟨z, h1, h2⟩ := key n 0 bD (by omega) (dy hn);exact ⟨z, h1, h2.trans ⟨fun h j hj => h j (Nat.zero_le _) hj, fun h j _ hj => h j hj⟩⟩
def nH (c : Cf) (bad : List Int) (s : Int) : Bool := decide (gg c bad s < fd c bad s)
def tu (c : Cf) (bad : List Int) (a b : Int) : Prop := ∀ s, a ≤ s → s ≤ b → nH c bad s = true
open Classical in
theorem Bu {c : Cf} {bad : List Int} (hb : bad.length ≤ 1000) {a b : Int} (h0 : -1000000000 ≤ a) (h1 : b ≤ 1000000000) (h2 : b - a < 1000) : rS c bad a b = some (decide (tu c bad a b)) := by
 unfold rS;by_cases hab : a > b
 ·rw [decide_eq_true hab, ct, decide_eq_true];intro s h3 h4; omega
 ·rw [decide_eq_false hab, cf];have e : ∀ z, IntKind.u64.wrap z = z % 18446744073709551616 := fun z => rfl
  have hw : IntKind.u64.wrap (IntKind.u64.wrap b - IntKind.u64.wrap a) = b - a := by rw [e, e, e]; omega
  have hw1 : IntKind.u64.wrap (b - a + 1) = b - a + 1 := by rw [e]; omega
  rw [hw, decide_eq_false (show ¬ b - a ≥ 1000 by omega), cf];obtain ⟨N, hN⟩ : ∃ N : Nat, (N : Int) = b - a + 1 := ⟨(b - a + 1).toNat, by omega⟩
  obtain ⟨z, e1, e2⟩ := AB (step := gz c bad a b) (n := N) (fun k => co.mk (a + (k : Int)) true (k : Int)) (fun k => !nH c bad (a + (k : Int))) co.strong (fun j hj hf => by
   unfold gz;simp only;rw [hw, hw1, decide_eq_true (show (j : Int) < b - a + 1 by omega), ct, pU hb, ob];simp only
   have h5 : nH c bad (a + (j : Int)) = true := by simpa using hf
   have h6 := of_decide_eq_true h5
   rw [decide_eq_false (by omega), cf, show IntKind.i64.wrap (a + (j : Int) + 1) = a + ((j + 1 : Nat) : Int) by rw [cA (by omega) (by omega)]; omega, show IntKind.u64.wrap ((j : Int) + 1) = ((j + 1 : Nat) : Int) by rw [e]; omega]) (fun j hj hf => by
   refine ⟨co.mk (a + (j : Int)) false (j : Int), ?_, rfl⟩;unfold gz;simp only;rw [hw, hw1, decide_eq_true (show (j : Int) < b - a + 1 by omega), ct, pU hb, ob];simp only
   have h5 : nH c bad (a + (j : Int)) = false := by simpa using hf
   have h6 := of_decide_eq_false h5
   rw [decide_eq_true (by omega), ct]) (by
   refine ⟨co.mk (a + (N : Int)) true (N : Int), ?_, rfl⟩;unfold gz;simp only
   rw [hw, hw1, decide_eq_false (show ¬ (N : Int) < b - a + 1 by omega), cf]) (by omega)
  have e1' : iter (gz c bad a b) bD (co.mk a true 0) = some z := by
   have h : (co.mk (a + ((0 : Nat) : Int)) true ((0 : Nat) : Int)) = co.mk a true 0 := by simp
   rw [← h]; exact e1
  rw [e1', ob];congr 1
  have hiff : z.strong = true ↔ tu c bad a b := e2.trans ⟨fun h s h3 h4 => by
   have := h (s - a).toNat (by omega);rw [show a + ((s - a).toNat : Int) = s by omega] at this
   simpa using this, fun h j hj => by
   have := h (a + (j : Int)) (by omega) (by omega)
   simp [this]⟩
  cases hz : z.strong with
  | true => exact (decide_eq_true (hiff.1 hz)).symm
  | false => exact (decide_eq_false fun h => by rw [hiff.2 h] at hz; cases hz).symm
theorem Bv {c : Cf} {bad : List Int} (hb : bad.length ≤ 1000) (slot : Int) : rT c bad slot = some (decide (cH c ∧ 0 < fd c bad slot + gg c bad slot ∧ ¬ gg c bad slot * c.Den > (fd c bad slot + gg c bad slot) * c.Num)) := by
 have hw := Ed c bad slot;have hs := oT c bad slot;have ht := th c (fT c slot);unfold rT;rw [pU hb, ob, ky, ob];by_cases hm : cH c
 ·rw [decide_eq_true hm, ct];simp only;rw [cA (by omega) (by omega)];by_cases h0 : 0 < fd c bad slot + gg c bad slot
  ·have hm' := hm;obtain ⟨-, -, -, -, -, m1, m2, m3, m4⟩ := hm';rw [decide_eq_true (show fd c bad slot + gg c bad slot > 0 from h0), ct, uo ⟨by omega, by omega⟩ ⟨by omega, by omega⟩ ⟨by omega, by omega⟩ ⟨by omega, by omega⟩, ob];by_cases h2 : gg c bad slot * c.Den > (fd c bad slot + gg c bad slot) * c.Num
   ·rw [decide_eq_true h2, decide_eq_false fun h => h.2.2 h2]; rfl
   ·rw [decide_eq_false h2, decide_eq_true ⟨hm, h0, h2⟩]; rfl
  ·rw [decide_eq_false (show ¬ fd c bad slot + gg c bad slot > 0 from h0), cf, decide_eq_false fun h => h0 h.2.1]
 ·rw [decide_eq_false hm, cf, decide_eq_false fun h => hm h.1]
inductive kr (B : List Bk) (a : ID) : ID → Prop
 | zero : a = (0, 0) → kr B a (0, 0)
 | self {b : Bk} : b ∈ B → nm b = a → kr B a a
 | up {b : Bk} : b ∈ B → kr B a b.Parent → kr B a (nm b)
def Kn (B : List Bk) (x : ID) : Prop := x = (0, 0) ∨ ∃ b ∈ B, nm b = x
theorem nL {B : List Bk} (h : aJ B) : ∃ m, places B = some m := Option.isSome_iff_exists.1 h
theorem ma {B : List Bk} (h : aJ B) : aq B (0, 0) = [(0, 0)] := by
 obtain ⟨m, hp⟩ := nL h;unfold aq;rw [hp];simp only;rw [(aG hp).zero];rfl
theorem gK {B : List Bk} (h : aJ B) {b : Bk} (hb : b ∈ B) : aq B (nm b) = nm b :: aq B b.Parent := by
 obtain ⟨m, hp⟩ := nL h;obtain ⟨i, hi⟩ := List.getElem?_of_mem hb;have hI := aG hp;have hn := hI.names i b (List.getElem?_eq_some_iff.1 hi).1 hi;rcases hI.known _ _ hn with ⟨h1, -⟩ | ⟨b', p, h0, h1, h2, h3, h4, h5, h6, h7⟩
 ·omega
 ·rw [Int.toNat_natCast, hi] at h2;cases h2;unfold aq;rw [hp];simp only;rw [hn, h4];exact fG hp (by omega) h0 (by rw [Int.toNat_natCast]; exact hi) h4 h5 h6
theorem m6 {B : List Bk} (h : aJ B) {x : ID} : aq B x ≠ [] ↔ Kn B x := by
 constructor
 ·intro hne;obtain ⟨m, hp⟩ := nL h
  cases hf : af m x with
  | none =>
   refine absurd ?_ hne;unfold aq;rw [hp];simp only;rw [hf]
  | some i =>
   rcases (aG hp).known _ _ hf with ⟨-, h1⟩ | ⟨b, p, h0, h1, h2, h3, -⟩
   ·exact .inl h1
   ·exact .inr ⟨b, List.mem_of_getElem? h2, h3⟩
 ·rintro (rfl | ⟨b, hb, rfl⟩)
  ·rw [ma h]; simp
  ·rw [gK h hb]; simp
theorem Fr {B : List Bk} (h : aJ B) {x : ID} {s : Int} (hq : aX B x = some s) : Kn B x := by
 rcases (oN h).1 hq with ⟨e, -⟩ | ⟨b, hb, e, -⟩
 ·exact .inl e
 ·exact .inr ⟨b, hb, e⟩
theorem sJ {B : List Bk} (h : aJ B) {b : Bk} (hb : b ∈ B) : Kn B b.Parent := by
 obtain ⟨s, hs, -⟩ := ud h hb;exact Fr h hs
theorem tQ {B C : List Bk} (hs : ∀ b ∈ B, b ∈ C) {x : ID} (h : Kn B x) : Kn C x := h.elim .inl fun ⟨b, hb, e⟩ => .inr ⟨b, hs b hb, e⟩
theorem yX {α β : Type} {f : α → β} {l : List α} (h : (l.map f).Nodup) {a b : α} (ha : a ∈ l) (hb : b ∈ l) (e : f a = f b) : a = b := by
 obtain ⟨i, hi⟩ := List.getElem?_of_mem ha;obtain ⟨j, hj⟩ := List.getElem?_of_mem hb
 have h1 : (l.map f)[i]? = some (f a) := by rw [List.getElem?_map, hi]; rfl
 have h2 : (l.map f)[j]? = some (f a) := by rw [List.getElem?_map, hj, e]; rfl
 have := (List.getElem?_inj (List.getElem?_eq_some_iff.1 h1).1 h).1 (h1.trans h2.symm);subst this;rw [hi] at hj;exact Option.some.inj hj
theorem AQ {B : List Bk} (h : aJ B) {a b : Bk} (ha : a ∈ B) (hb : b ∈ B) (e : nm a = nm b) : a = b := yX (List.nodup_cons.1 (k6 h)).2 ha hb e
theorem Fx {B : List Bk} (h : aJ B) {b : Bk} (hb : b ∈ B) : nm b ≠ (0, 0) := fun e =>
 (List.nodup_cons.1 (k6 h)).1 (List.mem_map.2 ⟨b, hb, e⟩)
theorem m0 {B : List Bk} (h : aJ B) {a x : ID} : a ∈ aq B x ↔ kr B a x := by
 constructor
 ·have key : ∀ (n : Nat) (x : ID), (aq B x).length ≤ n → a ∈ aq B x → kr B a x := by
   intro n
   induction n with
   | zero =>
    intro x hl ha;rw [List.length_eq_zero_iff.1 (Nat.le_zero.1 hl)] at ha;cases ha
   | succ n ih =>
    intro x hl ha;rcases (m6 h).1 (List.ne_nil_of_mem ha) with rfl | ⟨b, hb, rfl⟩
    ·rw [ma h] at ha;exact .zero (List.mem_singleton.1 ha)
    ·rw [gK h hb] at ha hl;rw [List.length_cons] at hl;rcases List.mem_cons.1 ha with rfl | ha
     ·exact .self hb Z
     ·exact .up hb (ih _ (by omega) ha)
  exact key _ x (Nat.le_refl _)
 ·intro ha
  induction ha with
  | zero e => rw [ma h, e]; simp
  | self hb e => subst e; rw [gK h hb]; simp
  | up hb _ ih => rw [gK h hb]; exact .tail _ ih
theorem qk {B C : List Bk} (hs : ∀ b ∈ B, b ∈ C) {a x : ID} (h : kr B a x) : kr C a x := by
 induction h with
 | zero e => exact .zero e
 | self hb e => exact .self (hs _ hb) e
 | up hb _ ih => exact .up (hs _ hb) ih
theorem Cz {B C : List Bk} (hB : aJ B) (hC : aJ C) (hs : ∀ b ∈ B, b ∈ C) {a x : ID} (h : kr C a x) : Kn B x → kr B a x := by
 induction h with
 | zero e => exact fun _ => .zero e
 | self hb e =>
  rintro (rfl | ⟨b', hb', e'⟩)
  ·exact .zero Z
  ·exact .self hb' e'
 | up hb h ih =>
  rintro (e | ⟨b', hb', e'⟩)
  ·exact absurd e (Fx hC hb)
  ·have := AQ hC (hs _ hb') hb e';subst this;exact .up hb' (ih (sJ hB hb'))
theorem qm {B : List Bk} {x : ID} (h : Kn B x) : kr B x x := by
 rcases h with rfl | ⟨b, hb, e⟩
 ·exact .zero Z
 ·exact .self hb e
theorem nZ {B : List Bk} {a b x : ID} (h1 : kr B a b) (h2 : kr B b x) : kr B a x := by
 induction h2 with
 | zero e => rw [e] at h1; exact h1
 | self _ _ => exact h1
 | up hb _ ih => exact .up hb ih
theorem E6 {B : List Bk} {a x : ID} (h : kr B a x) : Kn B a := by
 induction h with
 | zero e => exact .inl e
 | self hb e => exact .inr ⟨_, hb, e⟩
 | up _ _ ih => exact ih
theorem CA {B : List Bk} (h : aJ B) {x : ID} (hx : Kn B x) : kr B (0, 0) x := (m0 h).1 (w7 ((m6 h).2 hx))
def wF (B : List Bk) (x k : ID) : Prop := ∃ b ∈ B, b.Parent = x ∧ nm b = k
theorem pL {B : List Bk} (h : aJ B) {x k : ID} : k ∈ bR B x ↔ wF B x k := by
 obtain ⟨m, hp⟩ := nL h;unfold bR wF;rw [hp];simp only [List.mem_map, List.mem_filter, decide_eq_true_iff];exact ⟨fun ⟨b, ⟨h1, h2⟩, h3⟩ => ⟨b, h1, h2, h3⟩, fun ⟨b, h1, h2, h3⟩ => ⟨b, ⟨h1, h2⟩, h3⟩⟩
theorem Dq {B : List Bk} {x k : ID} (h : wF B x k) : Kn B k := by
 obtain ⟨b, hb, -, e⟩ := h;exact .inr ⟨b, hb, e⟩
theorem yT {B : List Bk} {x k : ID} (h : wF B x k) (hx : Kn B x) : kr B x k := by
 obtain ⟨b, hb, e, rfl⟩ := h;subst e;exact .up hb (qm hx)
theorem yp {B : List Bk} {x y : ID} (h : kr B x y) : x = y ∨ ∃ k, wF B x k ∧ kr B k y := by
 induction h with
 | zero e => exact .inl e
 | self _ _ => exact .inl rfl
 | @up b hb _ ih =>
  rcases ih with e | ⟨k, h1, h2⟩
  ·exact .inr ⟨nm b, ⟨b, hb, e.symm, rfl⟩, .self hb rfl⟩
  ·exact .inr ⟨k, h1, .up hb h2⟩
theorem FD {B : List Bk} (h : aJ B) {p k k' x : ID} (h1 : wF B p k) (h2 : wF B p k') (h3 : kr B k x) (h4 : kr B k' x) : k = k' := by
 have at_ : ∀ {k : ID}, wF B p k → kr B k x → ∃ i : Nat, (aq B x)[i]? = some k ∧ (aq B x)[i + 1]? = some p := by
  rintro k ⟨b, hb, rfl, rfl⟩ ha;obtain ⟨i, hi, -⟩ := Ax ((m0 h).2 ha);refine ⟨i, hi, ?_⟩;have e := CW hi;rw [gK h hb] at e;have := congrArg (fun l => l[1]?) e;simp only [List.getElem?_cons_succ, List.getElem?_drop] at this;rw [w6 ((m6 h).2 (sJ h hb))] at this;exact this.symm
 obtain ⟨i, hi, hi2⟩ := at_ h1 h3;obtain ⟨j, hj, hj2⟩ := at_ h2 h4;have := Av hi2 hj2
 obtain rfl : i = j := by omega
 rw [hi] at hj;exact Option.some.inj hj
theorem gq (p q : Rk) : cr p q = false ↔ ¬ (p.n > q.n ∨ (p.n = q.n ∧ (q.id.1 < p.id.1 ∨ q.id.1 = p.id.1 ∧ q.id.2 < p.id.2))) := by
 unfold cr sL;by_cases e : p.n = q.n
 ·rw [if_pos e, decide_eq_false_iff_not]; omega
 ·rw [if_neg e, decide_eq_false_iff_not]; omega
theorem oZ {a b d : Rk} (h1 : cr b a = false) (h2 : cr d b = false) : cr d a = false := by
 rw [gq] at h1 h2 ⊢;omega
theorem Ap (b : Rk) : cr b b = false := by rw [gq]; omega
theorem su {f : ID → Int} : ∀ (a : List ID) (b : Rk), cr b (f9 f a b) = false ∧ ∀ k ∈ a, cr ⟨f k, k⟩ (f9 f a b) = false
 | [], b => ⟨Ap b, fun k hk => by cases hk⟩
 | k :: r, b => by
  unfold f9;obtain ⟨h1, h2⟩ := su (f := f) r (bif cr ⟨f k, k⟩ b then ⟨f k, k⟩ else b)
  have h3 : cr b (bif cr ⟨f k, k⟩ b then ⟨f k, k⟩ else b) = false ∧ cr ⟨f k, k⟩ (bif cr ⟨f k, k⟩ b then ⟨f k, k⟩ else b) = false := by
   cases h : cr ⟨f k, k⟩ b with
   | true =>
    rw [ct]
    have h' : ¬ cr ⟨f k, k⟩ b = false := by rw [h]; simp
    rw [gq] at h';refine ⟨?_, ?_⟩ <;> rw [gq] <;> simp only at h' ⊢ <;> omega
   | false =>
    rw [cf];exact ⟨by rw [gq]; omega, h⟩
  refine ⟨oZ h1 h3.1, fun x hx => ?_⟩;rcases List.mem_cons.1 hx with rfl | hx
  ·exact oZ h1 h3.2
  ·exact h2 x hx
def H6 (f : ID → Int) (B : List Bk) (x k : ID) : Prop := wF B x k ∧ ∀ k', wF B x k' → cr ⟨f k', k'⟩ ⟨f k, k⟩ = false
inductive Reach (f : ID → Int) (B : List Bk) (y : ID) : ID → Prop
 | refl : Reach f B y y
 | step {x k : ID} : H6 f B x k → Reach f B y k → Reach f B y x
theorem wY {c : Cf} {B : List Bk} {v : List Vt} (h : aJ B) (x : ID) : ((∀ k, ¬ wF B x k) ∧ ¬ (eG c B v x).n ≥ 0) ∨ (H6 (my c B v) B x (eG c B v x).id ∧ (eG c B v x).n ≥ 0) := by
 rcases kE c B v x with ⟨hk, e⟩ | ⟨k, hk, e⟩
 ·exact .inl ⟨fun k h2 => by have := (pL h).2 h2; rw [hk] at this; exact absurd this (by simp), by rw [e]; simp⟩
 ·refine .inr ⟨⟨?_, fun k' hk' => ?_⟩, by rw [e]; exact y4 c B v k⟩
  ·rw [e]; exact (pL h).1 hk
  ·have := (su (f := my c B v) (bR B x) ⟨-1, (0, 0)⟩).2 k' ((pL h).2 hk');have e' : f9 (my c B v) (bR B x) ⟨-1, (0, 0)⟩ = ⟨my c B v k, k⟩ := e;rw [e'] at this;rw [e];exact this
theorem xh {c : Cf} {B : List Bk} {v : List Vt} (h : aJ B) : Reach (my c B v) B (ca c B v) (0, 0) ∧ ∀ k, ¬ wF B (ca c B v) k := by
 refine ⟨?_, fun k hk => ?_⟩
 ·obtain ⟨m, hp⟩ := nL h
  have key : ∀ (n : Nat) (x : ID), Reach (my c B v) B (lW c B v n x) x := by
   intro n
   induction n with
   | zero => intro x; exact .refl
   | succ n ih =>
    intro x;unfold lW;rcases wY (c := c) (v := v) h x with ⟨-, h2⟩ | ⟨h1, h2⟩
    ·rw [if_neg h2]; exact .refl
    ·rw [if_pos h2]; exact .step h1 (ih _)
  exact key _ _
 ·have := (pL h).2 hk;rw [(qU c h).2] at this;cases this
theorem A3 {f : ID → Int} {B : List Bk} {x y : ID} (h : Reach f B y x) : Kn B x → kr B x y := by
 induction h with
 | refl => exact qm
 | step hb _ ih => exact fun hx => nZ (yT hb.1 hx) (ih (Dq hb.1))
theorem yN {c : Cf} {B : List Bk} {v : List Vt} (h : aJ B) : Kn B (ca c B v) := (m6 h).1 (qU c h).1
theorem AE {c : Cf} {B : List Bk} {v : List Vt} (h : aJ B) {id : ID} (hid : Kn B id) (hw : ∀ p k k', kr B k id → wF B p k → wF B p k' → k ≠ k' → my c B v k' < my c B v k) : kr B id (ca c B v) := by
 obtain ⟨hr, hl⟩ := xh (c := c) (v := v) h
 have key : ∀ x, Reach (my c B v) B (ca c B v) x → kr B x id → kr B id (ca c B v) := by
  intro x hx;generalize ca c B v = y at hx hl
  induction hx with
  | refl =>
   intro ha;rcases yp ha with e | ⟨k, hk, -⟩
   ·rw [e]; exact qm hid
   ·exact absurd hk (hl k)
  | @step x k hb hr ih =>
   intro ha;rcases yp ha with rfl | ⟨k0, hk, ha2⟩
   ·exact nZ (yT hb.1 hid) (A3 hr (Dq hb.1))
   ·by_cases e : k0 = k
    ·subst e; exact ih ha2
    ·have h1 := hw x k0 k ha2 hk hb.1 e;have h2 := hb.2 k0 hk;rw [gq] at h2;simp only at h2;omega
 exact key _ hr (CA h hid)
theorem gM {B : List Bk} (h : aJ B) {v : List Vt} {id : ID} {w : Int} : w ∈ lN B v id ↔ ∃ x ∈ v, kr B id x.Head ∧ x.From = w := by
 unfold lN;simp only [List.mem_map, List.mem_filter];constructor
 ·rintro ⟨x, ⟨h1, h2⟩, h3⟩;exact ⟨x, h1, (m0 h).1 (of_decide_eq_true h2), h3⟩
 ·rintro ⟨x, h1, h2, h3⟩;exact ⟨x, ⟨h1, decide_eq_true ((m0 h).2 h2)⟩, h3⟩
theorem AH {a b : List Int} (h : ∀ x ∈ a, x ∉ b) : AG a b = false := by
 unfold AG;rw [List.any_eq_false];intro x hx h2;obtain ⟨y, hy, e⟩ := List.any_eq_true.1 h2
 have e' : x = y := by simpa using e
 exact h x hx (e' ▸ hy)
theorem HT {c : Cf} {a b d : List Int} (h : ∀ x ∈ a, x ∉ b) (ha : ∀ x ∈ a, x ∈ d) (hb : ∀ x ∈ b, x ∈ d) : fS c a + fS c b ≤ fS c d := by
 rw [← (Ei c a b).2 (AH h)];exact uh fun x hx => (List.mem_append.1 hx).elim (ha x) (hb x)
theorem HK {c : Cf} {B : List Bk} {v : List Vt} {cm : List Int} (h : aJ B) (hd : ∀ x ∈ v, ∀ y ∈ v, x.From = y.From → x = y) (hc : ∀ x ∈ v, x.From ∈ cm) {p k k' : ID} (h1 : wF B p k) (h2 : wF B p k') (hne : k ≠ k') : my c B v k + my c B v k' ≤ fS c cm := by
 have hin : ∀ id, ∀ w ∈ lN B v id, w ∈ cm := fun id w hw => by
  obtain ⟨x, hx, -, e⟩ := (gM h).1 hw;exact e ▸ hc x hx
 refine HT (fun w hw hw' => ?_) (hin k) (hin k');obtain ⟨x, hx, hx2, e⟩ := (gM h).1 hw;obtain ⟨y, hy, hy2, e2⟩ := (gM h).1 hw';have := hd x hx y hy (e.trans e2.symm);subst this;exact hne (FD h h1 h2 hx2 hy2)
theorem J3 {c : Cf} {B : List Bk} {v : List Vt} (h : aJ B) {k id : ID} (ha : kr B k id) : my c B v id ≤ my c B v k := uh fun w hw => by
 obtain ⟨x, hx, hx2, e⟩ := (gM h).1 hw;exact (gM h).2 ⟨x, hx, nZ ha hx2, e⟩
theorem Dj {c : Cf} {B : List Bk} {v : List Vt} {cm : List Int} (h : aJ B) (hd : ∀ x ∈ v, ∀ y ∈ v, x.From = y.From → x = y) (hc : ∀ x ∈ v, x.From ∈ cm) {id : ID} (hid : Kn B id) (hm : fS c cm < 2 * my c B v id) : kr B id (ca c B v) :=
 AE h hid fun p k k' ha h1 h2 hne => by
  have a1 := HK (c := c) h hd hc h1 h2 hne;have a2 := J3 (c := c) (v := v) h ha;omega
end Go.Mg
