/- Plain laws of views: lists of blocks and votes, and what may be at all. Laws of trees. TreeKids, TreeMore: plain. view.May. Plain laws of views: which views may be. view.Take. Plain laws of views: what is taken. Plain laws of views: what is taken, as the program does it. Plain laws of views: votes that are taken, as the program does it. Plain laws of views: view.Take. Plain laws of views: what holds of what is taken. Laws of views. The laws of views' example. Laws of views. Laws of views: ViewOnly, ViewJoin. Laws of views. Laws of views. Laws of views: ViewMay, ViewKeeps. Plain laws of views: what is counted, as a set. The votes of a committee, and the head by them, plain. Products of numbers. Parts of a committee. Products compared, plain. Plain laws of committees in parts. Chains and heads by what blocks there are, whatever their order. Conditions: none. -/
import Derived.Test.YtbjmcafamkdokaaGreatX6
import Derived.Test.YtbjmcafamkdokaaGreatX5
import Derived.Test.YtbjmcafamkdokaaGreatX3
set_option maxRecDepth 100000
set_option linter.unusedSimpArgs false
set_option linter.unusedVariables false
namespace Go.Mg
def cv {R : Type} (f : Nat → Option R) : Nat → Nat → Option R
 | _, 0 => none
 | k, d + 1 => match f k with
  | some r => some r
  | none => cv f (k + 1) d
theorem fI {R : Type} {f : Nat → Option R} : ∀ {d k : Nat}, cv f k d = none ↔ ∀ j, k ≤ j → j < k + d → f j = none
 | 0, k => ⟨fun _ j h1 h2 => by omega, fun _ => rfl⟩
 | d + 1, k => by
  unfold cv
  cases h : f k with
  | some r => exact ⟨fun h => (by cases h), fun h2 => (by rw [h2 k (Nat.le_refl _) (by omega)] at h; cases h)⟩
  | none =>
   rw [fI (k := k + 1)];refine ⟨fun h2 j h3 h4 => ?_, fun h2 j h3 h4 => h2 j (by omega) (by omega)⟩;by_cases e : j = k
   ·subst e; exact h
   ·exact h2 j (by omega) (by omega)
theorem dL {R : Type} {f : Nat → Option R} {r : R} : ∀ {d k : Nat}, cv f k d = some r → ∃ j, k ≤ j ∧ j < k + d ∧ f j = some r ∧ ∀ i, k ≤ i → i < j → f i = none
 | 0, k, h => by cases h
 | d + 1, k, h => by
  unfold cv at h
  cases hk : f k with
  | some q =>
   rw [hk] at h;cases h;exact ⟨k, Nat.le_refl _, by omega, hk, fun i h1 h2 => by omega⟩
  | none =>
   rw [hk] at h;obtain ⟨j, h1, h2, h3, h4⟩ := dL h;refine ⟨j, by omega, by omega, h3, fun i h5 h6 => ?_⟩;by_cases e : i = k
   ·subst e; exact hk
   ·exact h4 i (by omega) h6
def lT {S R : Type} (s : S) : Option R → S ⊕ R
 | some r => .inr r
 | none => .inl s
theorem eP {S R : Type} {step : S → Option (S ⊕ (S ⊕ R))} {n : Nat} (mk : Nat → S) (f : Nat → Option R) (hs : ∀ j, j < n → step (mk j) = match f j with | some r => some (.inr (.inr r)) | none => some (.inl (mk (j + 1))))
  (he : step (mk n) = some (.inr (.inl (mk n)))) (hn : n < 4000000000000000000) : iter step bG (mk 0) = some (lT (mk n) (cv f 0 n)) := by
 have key : ∀ (d k q : Nat), k + d = n → d < q → iter step q (mk k) = some (lT (mk n) (cv f k d)) := by
  intro d
  induction d with
  | zero =>
   intro k q hk hq;obtain ⟨q, rfl⟩ : ∃ p, q = p + 1 := ⟨q - 1, by omega⟩
   obtain rfl : k = n := by omega
   exact ep he
  | succ d ih =>
   intro k q hk hq;obtain ⟨q, rfl⟩ : ∃ p, q = p + 1 := ⟨q - 1, by omega⟩;have h1 := hs k (by omega);unfold cv
   cases hf : f k with
   | some r =>
    rw [hf] at h1;exact ep h1
   | none =>
    rw [hf] at h1;rw [lI h1];exact ih (k + 1) q (by omega) (by omega)
 exact key n 0 bG (by omega) (dK hn)
def ff {α : Type} [DecidableEq α] (l : List α) (v : α) (j : Nat) : Option Int := if l[j]? = some v then some (j : Int) else none
theorem kN {α : Type} [DecidableEq α] {l : List α} {v : α} : (cv (ff l v) 0 l.length).isSome = decide (v ∈ l) := by
 cases h : cv (ff l v) 0 l.length with
 | none =>
  rw [fI] at h;refine (decide_eq_false fun hm => ?_).symm;obtain ⟨j, hj⟩ := List.getElem?_of_mem hm;have := h j (Nat.zero_le _) (by have := (List.getElem?_eq_some_iff.1 hj).1; omega);unfold ff at this;rw [if_pos hj] at this;cases this
 | some r =>
  obtain ⟨j, -, -, h3, -⟩ := dL h;refine (decide_eq_true ?_).symm;unfold ff at h3;split at h3
  ·rename_i e; exact List.mem_of_getElem? e
  ·cases h3
theorem qQ {α : Type} [DecidableEq α] {l : List α} {v : α} {n : Nat} {r : Int} (h : cv (ff l v) 0 n = some r) : 0 ≤ r := by
 obtain ⟨j, -, -, h3, -⟩ := dL h;unfold ff at h3;split at h3
 ·cases h3; omega
 ·cases h3
theorem yf {l : List Bk} (hl : l.length ≤ 100000) (v : Bk) : Af l v = some (decide (v ∈ l)) := by
 have e := eP (step := lq l v) (n := l.length) (fun k => fu.mk (k : Int)) (ff l v) (fun j hj => by
  obtain ⟨y, hy, -⟩ := aF hj;unfold lq ff;simp only;rw [decide_eq_true (show (j : Int) < (l.length : Int) by omega), ct, aI hy, ob, LI, ak (n := j) (by omega), hy];by_cases h : v = y
  ·rw [decide_eq_true h, ct, if_pos (by rw [h])]
  ·rw [decide_eq_false h, cf, if_neg (fun e => h (Option.some.inj e).symm)]) (by
  unfold lq;simp only
  rw [decide_eq_false (show ¬ (l.length : Int) < (l.length : Int) by omega), cf]) (by omega)
 unfold Af ER;rw [← kN];have e' : iter (lq l v) bG (fu.mk 0) = some (lT (fu.mk (l.length : Int)) (cv (ff l v) 0 l.length)) := e;rw [e', ob]
 cases h : cv (ff l v) 0 l.length with
 | none => rw [lT, sl, ob]; rfl
 | some r => rw [lT, sr, ob, decide_eq_true (qQ h)]; rfl
theorem yg {l : List Vt} (hl : l.length ≤ 100000) (v : Vt) : Ag l v = some (decide (v ∈ l)) := by
 have e := eP (step := lr l v) (n := l.length) (fun k => fw.mk (k : Int)) (ff l v) (fun j hj => by
  obtain ⟨y, hy, -⟩ := aF hj;unfold lr ff;simp only;rw [decide_eq_true (show (j : Int) < (l.length : Int) by omega), ct, aI hy, ob, LJ, ak (n := j) (by omega), hy];by_cases h : v = y
  ·rw [decide_eq_true h, ct, if_pos (by rw [h])]
  ·rw [decide_eq_false h, cf, if_neg (fun e => h (Option.some.inj e).symm)]) (by
  unfold lr;simp only
  rw [decide_eq_false (show ¬ (l.length : Int) < (l.length : Int) by omega), cf]) (by omega)
 unfold Ag ES;rw [← kN];have e' : iter (lr l v) bG (fw.mk 0) = some (lT (fw.mk (l.length : Int)) (cv (ff l v) 0 l.length)) := e;rw [e', ob]
 cases h : cv (ff l v) 0 l.length with
 | none => rw [lT, sl, ob]; rfl
 | some r => rw [lT, sr, ob, decide_eq_true (qQ h)]; rfl
section
variable {α : Type} [DecidableEq α]
def cO (a : List α) : List α → List α
 | [] => a
 | x :: r => cO (if x ∈ a then a else a ++ [x]) r
theorem mM (x : α) : ∀ (b a : List α), cO a (b ++ [x]) = if x ∈ cO a b then cO a b else cO a b ++ [x]
 | [], _ => rfl
 | _ :: r, _ => mM x r _
theorem ft (x : α) : ∀ (b a : List α), x ∈ cO a b ↔ x ∈ a ∨ x ∈ b
 | [], a => by simp [cO]
 | y :: r, a => by
  unfold cO;rw [ft x r];by_cases h : y ∈ a
  ·rw [if_pos h, List.mem_cons];exact ⟨fun h2 => h2.elim .inl (fun h3 => .inr (.inr h3)), fun h2 => h2.elim .inl fun h3 => h3.elim (fun e => .inl (e ▸ h)) .inr⟩
  ·rw [if_neg h, List.mem_append, List.mem_singleton, List.mem_cons, or_assoc]
theorem de : ∀ (b a : List α), (cO a b).length ≤ a.length + b.length
 | [], a => by simp [cO]
 | y :: r, a => by
  unfold cO;have := de r (if y ∈ a then a else a ++ [y])
  have h2 : (if y ∈ a then a else a ++ [y]).length ≤ a.length + 1 := by split <;> simp
  simp only [List.length_cons]; omega
theorem fQ : ∀ {b a : List α}, a.Nodup → (cO a b).Nodup
 | [], _, h => h
 | y :: r, a, h => by
  unfold cO;refine fQ ?_;split
  ·exact h
  ·rename_i hn;rw [List.nodup_append];exact ⟨h, by simp, fun x hx z hz => by rw [List.mem_singleton] at hz; subst hz; exact fun e => hn (e ▸ hx)⟩
end
theorem EJ {a b : List Bk} (h : a.length + b.length ≤ 90000) : BR a b = some (cO a b) := by
 unfold BR;rw [aO (by omega) (by omega), ct]
 have e := aB (step := lk b) (n := b.length) (fun k => eB.mk (k : Int) (cO a (b.take k))) (eB.mk (b.length : Int) (cO a b)) (fun k hk => by
  obtain ⟨y, hy, -⟩ := aF hk;have hlen := de (b.take k) a;rw [List.length_take] at hlen;unfold lk;simp only;rw [decide_eq_true (show (k : Int) < (b.length : Int) by omega), ct, aI hy, ob, yf (by omega), ob, aY hy, mM, ak (n := k) (by omega)];by_cases hm : y ∈ cO a (b.take k)
  ·rw [decide_eq_true hm, Bool.not_true, cf, if_pos hm]
  ·rw [decide_eq_false hm, Bool.not_false, ct, aO (by simp only [List.length_singleton]; omega) (by omega), ct, if_neg hm]) (by
  unfold lk;simp only
  rw [decide_eq_false (show ¬ (b.length : Int) < (b.length : Int) by omega), cf, List.take_length]) (by omega)
 have e' : iter (lk b) bG (eB.mk 0 a) = some (eB.mk (b.length : Int) (cO a b)) := e;rw [e', ob]
theorem EK {a b : List Vt} (h : a.length + b.length ≤ 90000) : BS a b = some (cO a b) := by
 unfold BS;rw [aO (by omega) (by omega), ct]
 have e := aB (step := ll b) (n := b.length) (fun k => eC.mk (k : Int) (cO a (b.take k))) (eC.mk (b.length : Int) (cO a b)) (fun k hk => by
  obtain ⟨y, hy, -⟩ := aF hk;have hlen := de (b.take k) a;rw [List.length_take] at hlen;unfold ll;simp only;rw [decide_eq_true (show (k : Int) < (b.length : Int) by omega), ct, aI hy, ob, yg (by omega), ob, aY hy, mM, ak (n := k) (by omega)];by_cases hm : y ∈ cO a (b.take k)
  ·rw [decide_eq_true hm, Bool.not_true, cf, if_pos hm]
  ·rw [decide_eq_false hm, Bool.not_false, ct, aO (by simp only [List.length_singleton]; omega) (by omega), ct, if_neg hm]) (by
  unfold ll;simp only
  rw [decide_eq_false (show ¬ (b.length : Int) < (b.length : Int) by omega), cf, List.take_length]) (by omega)
 have e' : iter (ll b) bG (eC.mk 0 a) = some (eC.mk (b.length : Int) (cO a b)) := e;rw [e', ob]
def aT (a b : Vw) : Vw := ⟨cO a.B b.B, cO a.V b.V⟩
theorem iC {a b : Vw} (h1 : a.B.length + b.B.length ≤ 90000) (h2 : a.V.length + b.V.length ≤ 90000) : yn a b = some (aT a b) := by
 unfold yn;rw [EJ h1, ob, EK h2, ob]; rfl
def mayB (c : Cf) (b : Bk) : Bool := decide (0 ≤ mD c b.Slot ∧ mD c b.Slot = b.From ∧ nm b ≠ (0, 0))
def mayV (c : Cf) (v : Vt) : Bool := decide (v.From ∈ fS c v.Slot)
theorem GL (c : Cf) (b : Bk) : Ir c b = some (mayB c b) := by
 unfold Ir mayB;rw [tm, ob];by_cases h1 : mD c b.Slot ≥ 0
 ·rw [decide_eq_true h1, ct];by_cases h2 : mD c b.Slot = b.From
  ·rw [show (mD c b.Slot == b.From) = true by simp [h2], ct, JL];by_cases h3 : nm b = (0, 0)
   ·rw [decide_eq_true h3, Bool.not_true, decide_eq_false fun h => h.2.2 h3]
   ·rw [decide_eq_false h3, Bool.not_false, decide_eq_true ⟨h1, h2, h3⟩]
  ·rw [show (mD c b.Slot == b.From) = false by simp [h2], cf, decide_eq_false fun h => h2 h.2.1]
 ·rw [decide_eq_false h1, cf, decide_eq_false fun h => h1 h.1]
theorem GM (c : Cf) (v : Vt) : It c v = some (mayV c v) := by
 unfold It mayV;rw [Ck, ob]
theorem bP {α : Type} {p : α → Bool} {l : List α} {n : Nat} {y : α} (hy : l[n]? = some y) : (l.take (n + 1)).filter p = (l.take n).filter p ++ bif p y then [y] else [] := by
 rw [aY hy, List.filter_append];cases h : p y <;> simp [h]
theorem dy {α : Type} {p : α → Bool} {l : List α} (n : Nat) : ((l.take n).filter p).length ≤ n :=
 Nat.le_trans (List.length_filter_le _ _) (by rw [List.length_take]; omega)
theorem x8 {c : Cf} {l : List Bk} (hl : l.length ≤ 100000) : z8 c l = some (l.filter (mayB c)) := by
 unfold z8
 have e := aB (step := ld c l) (n := l.length) (fun k => ez.mk (k : Int) ((l.take k).filter (mayB c))) (ez.mk (l.length : Int) (l.filter (mayB c))) (fun k hk => by
  obtain ⟨y, hy, -⟩ := aF hk;have hlen := dy (p := mayB c) (l := l) k;unfold ld;simp only;rw [decide_eq_true (show (k : Int) < (l.length : Int) by omega), ct, aI hy, ob, GL, ob, bP hy, ak (n := k) (by omega)]
  cases mayB c y with
  | true => rw [ct, aO (by simp only [List.length_singleton]; omega) (by omega), ct, ct]
  | false => rw [cf, cf, List.append_nil]) (by
  unfold ld;simp only
  rw [decide_eq_false (show ¬ (l.length : Int) < (l.length : Int) by omega), cf, List.take_length]) (by omega)
 have e' : iter (ld c l) bG (ez.mk 0 []) = some (ez.mk (l.length : Int) (l.filter (mayB c))) := e;rw [e', ob]
theorem x9 {c : Cf} {l : List Vt} (hl : l.length ≤ 100000) : Aa c l = some (l.filter (mayV c)) := by
 unfold Aa
 have e := aB (step := lf c l) (n := l.length) (fun k => eA.mk (k : Int) ((l.take k).filter (mayV c))) (eA.mk (l.length : Int) (l.filter (mayV c))) (fun k hk => by
  obtain ⟨y, hy, -⟩ := aF hk;have hlen := dy (p := mayV c) (l := l) k;unfold lf;simp only;rw [decide_eq_true (show (k : Int) < (l.length : Int) by omega), ct, aI hy, ob, GM, ob, bP hy, ak (n := k) (by omega)]
  cases mayV c y with
  | true => rw [ct, aO (by simp only [List.length_singleton]; omega) (by omega), ct, ct]
  | false => rw [cf, cf, List.append_nil]) (by
  unfold lf;simp only
  rw [decide_eq_false (show ¬ (l.length : Int) < (l.length : Int) by omega), cf, List.take_length]) (by omega)
 have e' : iter (lf c l) bG (eA.mk 0 []) = some (eA.mk (l.length : Int) (l.filter (mayV c))) := e;rw [e', ob]
def a7 (c : Cf) (w : Vw) : Vw := ⟨w.B.filter (mayB c), w.V.filter (mayV c)⟩
theorem Cn {c : Cf} {w : Vw} (h1 : w.B.length ≤ 100000) (h2 : w.V.length ≤ 100000) : HW c w = some (a7 c w) := by
 unfold HW;rw [x8 h1, ob, x9 h2, ob]; rfl
theorem EU {c : Cf} {w : Vw} (h1 : w.B.length ≤ 100000) (h2 : w.V.length ≤ 100000) : Cm c w = some ((a7 c w).B, (a7 c w).V) := by
 unfold Cm;rw [x8 h1, ob, x9 h2, ob]; rfl
open Go.Proofs
theorem wb {l : List Bk} {m : List (ID × Int)} (h : places l = some m) : ((0, 0) :: l.map nm).Nodup := by
 rw [List.nodup_cons];refine ⟨fun hm => ?_, ?_⟩
 ·obtain ⟨b, hb, e⟩ := List.mem_map.1 hm;obtain ⟨i, hi⟩ := List.getElem?_of_mem hb;have h1 := (aH h).names i b (List.getElem?_eq_some_iff.1 hi).1 hi;rw [e, (aH h).zero] at h1;cases h1
 ·rw [List.Nodup, List.pairwise_iff_getElem];intro i j hi hj hij e;simp only [List.length_map] at hi hj;have h1 := (aH h).names i l[i] hi (List.getElem?_eq_getElem hi);have h2 := (aH h).names j l[j] hj (List.getElem?_eq_getElem hj);rw [List.getElem_map, List.getElem_map] at e;rw [e, h2] at h1;cases h1;omega
def AW (l : List Bk) (n : Nat) : Prop := ∃ y p, l[n]? = some y ∧ af (pM l n) y.Parent = some p ∧ ¬ y.Slot ≤ ca l p ∧ af (pM l n) (nm y) = none
theorem Dl {l : List Bk} : ∀ (r n : Nat), l.length - n = r → n ≤ l.length → ((eu l (l.drop n) n (pM l n)).isSome = true ↔ ∀ i, n ≤ i → i < l.length → AW l i)
 | 0, n, hr, hn => by
  have : n = l.length := by omega
  subst this;rw [List.drop_length];exact ⟨fun _ i h1 h2 => by omega, fun _ => rfl⟩
 | r + 1, n, hr, hn => by
  obtain ⟨y, hy, -⟩ := aF (l := l) (n := n) (by omega);have ih := Dl (l := l) r (n + 1) (by omega) (by omega)
  have e : pM l (n + 1) = pM l n ++ [(nm y, (n : Int))] := by simp only [pM, hy]
  rw [e] at ih;rw [eO hy];constructor
  ·intro h i h1 h2
   cases hp : af (pM l n) y.Parent with
   | none => rw [hp] at h; cases h
   | some p =>
    rw [hp] at h;simp only at h;by_cases hs : y.Slot ≤ ca l p
    ·rw [if_pos hs] at h; cases h
    ·rw [if_neg hs] at h
     cases hq : af (pM l n) (nm y) with
     | some q => rw [hq] at h; cases h
     | none =>
      rw [hq] at h;by_cases hin : i = n
      ·subst hin; exact ⟨y, p, hy, hp, hs, hq⟩
      ·exact ih.1 h i (by omega) h2
  ·intro h;obtain ⟨y', p, hy', hp, hs, hq⟩ := h n (Nat.le_refl _) (by omega);rw [hy] at hy'; cases hy';rw [hp]; simp only;rw [if_neg hs, hq];exact ih.2 fun i h1 h2 => h i (by omega) h2
theorem tU {l : List Bk} : (places l).isSome = true ↔ ∀ i, i < l.length → AW l i := by
 have := Dl (l := l) l.length 0 (by omega) (Nat.zero_le _);rw [show (places l) = eu l (l.drop 0) 0 (pM l 0) from rfl, this];exact ⟨fun h i hi => h i (Nat.zero_le _) hi, fun h i _ hi => h i hi⟩
theorem my {l m : List Bk} : ∀ n, (∀ i, i < n → l[i]? = m[i]?) → pM l n = pM m n
 | 0, _ => rfl
 | n + 1, h => by
  simp only [pM, h n (by omega), my n fun i hi => h i (by omega)]
theorem pi {l m : List Bk} {n : Nat} (h : ∀ i, i ≤ n → l[i]? = m[i]?) (ho : AW l n) (hn : n < l.length) : AW m n := by
 obtain ⟨y, p, h1, h2, h3, h4⟩ := ho;have e := my n fun i hi => h i (by omega);refine ⟨y, p, by rw [← h n (Nat.le_refl _)]; exact h1, by rw [← e]; exact h2, ?_, by rw [← e]; exact h4⟩
 have hp : p = -1 ∨ 0 ≤ p ∧ p < n := by
  rw [vW _ n (by omega)] at h2;split at h2
  ·cases h2; exact .inl rfl
  ·split at h2
   ·rename_i hi;obtain ⟨j, b, g1, g2, -⟩ := Dw hi;cases h2;exact .inr ⟨by omega, by omega⟩
   ·cases h2
 rcases hp with rfl | ⟨h5, h6⟩
 ·simpa [ca] using h3
 ·have : ca m p = ca l p := by
   simp only [ca, h p.toNat (by omega)]
  rw [this]; exact h3
theorem vY {l : List Bk} {k : Nat} (h : (places l).isSome = true) (hk : k ≤ l.length) : (places (l.take k)).isSome = true := by
 rw [tU] at h ⊢;intro i hi;simp only [List.length_take] at hi;refine pi (fun j hj => ?_) (h i (by omega)) (by omega);rw [List.getElem?_take_of_lt (by omega)]
def yC (l : List Bk) (b : Bk) : Bool := (iA l b.Parent).2 && decide (b.Slot > (iA l b.Parent).1) && !decide (nm b = (0, 0)) && decide (oh l (nm b) < 0)
theorem Dz {l : List Bk} {m : List (ID × Int)} {b : Bk} (h : places l = some m) : (places (l ++ [b])).isSome = yC l b := by
 have hl : ∀ i, i < l.length → AW l i := tU.1 (by rw [h]; rfl)
 have hpre : ∀ i, i < l.length → l[i]? = (l ++ [b])[i]? := fun i hi => by rw [List.getElem?_append_left hi]
 have hm : pM (l ++ [b]) l.length = m := by rw [← my l.length hpre, ← A4 h]
 have hb : (l ++ [b])[l.length]? = some b := by simp
 have hslot : ∀ p i, af m p = some i → ca (l ++ [b]) i = ca l i := by
  intro p i hf;rcases vS h hf with ⟨rfl, -⟩ | ⟨c, h0, h1, h2, -⟩
  ·rfl
  ·have : ¬ i = -1 := by omega
   simp only [ca, if_neg this, ← hpre i.toNat (by omega)]
 have key : (places (l ++ [b])).isSome = true ↔ AW (l ++ [b]) l.length := by
  rw [tU];constructor
  ·intro h1; exact h1 l.length (by simp)
  ·intro h1 i hi;simp only [List.length_append, List.length_singleton] at hi;by_cases e : i = l.length
   ·subst e; exact h1
   ·exact pi (fun j hj => hpre j (by omega)) (hl i (by omega)) (by omega)
 rw [Bool.eq_iff_iff, key];constructor
 ·rintro ⟨y, p, h1, h2, h3, h4⟩;rw [hb] at h1; cases h1;rw [hm] at h2 h4;rw [hslot _ _ h2] at h3
  have hz : ¬ nm b = (0, 0) := fun e => by rw [e, (aH h).zero] at h4; cases h4
  have g1 : iA l b.Parent = (ca l p, true) := by simp only [iA, h, h2]
  have g2 : oh l (nm b) = -1 := by simp only [oh, h, h4]; rfl
  unfold yC;rw [g1, g2, decide_eq_true (show b.Slot > ca l p by omega), decide_eq_false hz]; rfl
 ·intro hf;unfold yC at hf;simp only [Bool.and_eq_true, Bool.not_eq_true', decide_eq_true_eq, decide_eq_false_iff_not] at hf;obtain ⟨⟨⟨h1, h2⟩, h3⟩, h4⟩ := hf
  cases hp : af m b.Parent with
  | none => simp only [iA, h, hp] at h1; cases h1
  | some p =>
   simp only [iA, h, hp] at h2;refine ⟨b, p, hb, by rw [hm]; exact hp, by rw [hslot _ _ hp]; omega, ?_⟩;rw [hm];rcases Option.eq_none_or_eq_some (af m (nm b)) with h5 | ⟨i, h5⟩
   ·exact h5
   ·exfalso;simp only [oh, h, h5, Option.getD_some] at h4;rcases vS h h5 with ⟨-, e⟩ | ⟨c, h0, -⟩
    ·exact h3 e
    ·omega
open Go.Proofs
def BK (v : Vt) (sm : List (ID × Int)) : Option Bool :=
 bif !((af sm v.Head).isSome) then
  some true
 else
  some (decide (((af sm v.Head).getD 0) > v.Slot))
theorem Js {v : Vt} {w : Vw} {sm : List (ID × Int)} {hm : List (Vt × Bool)} {r_ : Bool} (hr : BK v sm = some r_) : LC Tryz.prog 189 [.p (aJ v), .ptr 9 0] [.dead, .box (dq w), .dead, .dead, .dead, .dead, (mQ sm), (mR hm), .box [(jB 4 w.B), (jV 5 w.V), .map 6, .map 7, (iQ 0), (bQ false)], .box [.ptr 8 0]] (Is (bQ r_) [.dead, .box (dq w), .dead, .dead, .dead, .dead, (mQ sm), (mR hm), .box [(jB 4 w.B), (jV 5 w.V), .map 6, .map 7, (iQ 0), (bQ false)], .box [.ptr 8 0]]) := by
 refine dp Tryz.func189 Z Z Z ?_;unfold BK at hr;refine zQ (zR (yS Z (b6 Z Z Z Z Z) (zM Z (zN (zT (zQ (LW.draw2 (by kernel_rfl) (by kernel_rfl) (yE Z (zD Z Z Z Ec Z Z) (yE Z (zn Z Z) (yE Z (zA Z Z lH) (yE Z (zD Z Z Z Bp Z Z) (yE Z (zA Z Z mm) (yE Z (zD Z Z Z aR Z Z) ?_)))))))))))));refine yE Z (ab.getX (f := ci) (g := (fun v => (iQ v))) v.Head 0 dM Z Z Z Z kt FQ Z Z) ?_;refine zH Z (yE Z (fd Z Z Z) (yE Z (fd Z Z Z) (zH Z (zH Z (LO.nil (zT (zQ (zR (zM Z (yS Z (ab.not Z Z) (zM Z ?_)))))))))));refine zc 18 Z (fun g1 => ?_) (fun g1 => ?_)
 ·
  refine zi g1 hr fun hr => yU Z (gd g1 Z) Z (yU Z (gd g1 Z) Z (yU Z (gd g1 Z) Z (yU Z (gd g1 Z) Z (yS Z (eF Z (bM g1 Z) Z) (zM Z (zN (zT (zr ?_))))))));obtain rfl := zJ hr;refine a8 (env' := [(3, (bQ true))]) (H' := [.dead, .box (dq w), .dead, .dead, .dead, .dead, (mQ sm), (mR hm), .box [(jB 4 w.B), (jV 5 w.V), .map 6, .map 7, (iQ 0), (bQ false)], .box [.ptr 8 0]]) (zW 10 ⟨rfl, trivial⟩ Z Z Z (zL Z (zL Z (zL Z (zL Z (zL Z (zL Z (zL (ae (fun _ => rfl) _) (zL (ae (fun _ => rfl) _) (zL Z (zL Z Z))))))))))) (.one (.tmp Z)) ?_;exact ⟨rfl, rfl⟩
 ·
  refine zo g1 hr fun hr => yV Z (gd g1 Z) (zm Z Z) (yV Z (gd g1 Z) (zA Z Z qO) (yV Z (gd g1 Z) (zD Z Z Z bC Z Z) (yV Z (gd g1 Z) (ax Z Z Z Z) (yS Z (df Z (bM g1 Z) Z) (zM Z (zN (zT (zr ?_))))))));obtain rfl := zJ hr;refine a8 (env' := [(3, .p (.bool (decide (((af sm v.Head).getD 0) > v.Slot))))]) (H' := [.dead, .box (dq w), .dead, .dead, .dead, .dead, (mQ sm), (mR hm), .box [(jB 4 w.B), (jV 5 w.V), .map 6, .map 7, (iQ 0), (bQ false)], .box [.ptr 8 0]]) (zW 10 ⟨rfl, trivial⟩ Z Z Z (zL Z (zL Z (zL Z (zL Z (zL Z (zL Z (zL (ae (fun _ => rfl) _) (zL (ae (fun _ => rfl) _) (zL Z (zL Z Z))))))))))) (.one (.tmp Z)) ?_;exact ⟨rfl, rfl⟩
structure ea where
 t8 : Int
def iP (l : List Vt) (sm : List (ID × Int)) (x1 : ea) : Option (ea ⊕ (ea ⊕ Int)) :=
 bif decide (x1.t8 < (l.length : Int)) then
  (ix l x1.t8).bind fun y1 =>
  (BK y1 sm).bind fun v2 =>
  bif v2 then
   some (.inr (.inr x1.t8))
  else
   some (.inl (ea.mk (IntKind.i64.wrap (x1.t8 + 1))))
 else
  some (.inr (.inl (ea.mk x1.t8)))
def yd (l : List Vt) (sm : List (ID × Int)) : Option Int :=
 (iter (iP l sm) bG (ea.mk 0)).bind fun b_v1 => Sum.elim (fun _ =>
  some (-1)) some b_v1
theorem Hl {l : List Vt} {w : Vw} {sm : List (ID × Int)} {hm : List (Vt × Bool)} {r_ : Int} (hr : yd l sm = some r_) : LC Tryz.prog 170 [(kV l), .fn 189 [] [.ptr 9 0]] [.dead, .box (dq w), .dead, .dead, .dead, .dead, (mQ sm), (mR hm), .box [(jB 4 w.B), (jV 5 w.V), .map 6, .map 7, (iQ 0), (bQ false)], .box [.ptr 8 0]] (Is (iQ r_) [.dead, .box (dq w), .dead, .dead, .dead, .dead, (mQ sm), (mR hm), .box [(jB 4 w.B), (jV 5 w.V), .map 6, .map 7, (iQ 0), (bQ false)], .box [.ptr 8 0]]) := by
 refine dp Tryz.func170 Z Z Z ?_;unfold yd at hr;refine zQ (zR (zM Z (zN (zT (zQ (zQ (zR (zM Z (yS Z (d7 Z Z (by kernel_rfl)) (zM Z (zN (zT ?_))))))))))));obtain ⟨b_v1, hb_v1, ho_v1⟩ := zB hr;clear hr;refine LW.tailB (b := b_v1) (E := fun v1 => [(4, (iQ 0))]) (O := fun v1 => [.dead, .box (dq w), .dead, .dead, .dead, .dead, (mQ sm), (mR hm), .box [(jB 4 w.B), (jV 5 w.V), .map 6, .map 7, (iQ 0), (bQ false)], .box [.ptr 8 0]]) ?_ (fun v1 e_v1 env_v1 H_v1 hw_v1 => ?_)
 ·refine LW.block ?_;refine LW.iterB (E := fun x1 : ea => [(0, (kV l)), (1, .fn 189 [] [.ptr 9 0]), (4, (iQ 0)), (7, .p (.int .i64 (l.length : Int))), (8, (iQ x1.t8))]) (O := fun x1 => [.dead, .box (dq w), .dead, .dead, .dead, .dead, (mQ sm), (mR hm), .box [(jB 4 w.B), (jV 5 w.V), .map 6, .map 7, (iQ 0), (bQ false)], .box [.ptr 8 0]]) hb_v1 (zW 10 ⟨rfl, rfl, rfl, rfl, rfl, trivial⟩ Z Z Z (zL Z (zL Z (zL Z (zL Z (zL Z (zL Z (zL (ae (fun _ => rfl) _) (zL (ae (fun _ => rfl) _) (zL Z (zL Z Z))))))))))) (fun x1 z_x1 hr hb_x1 => ?_);unfold iP at hr;refine zQ (zR (yS Z (ax Z Z Z Z) (zN (zT (zQ ?_)))));refine zX Z (fun g1 => ?_) (fun g1 => ?_)
  ·
   refine zi g1 hr fun hr => zk (zT (zQ (zl (zQ (zR (zM Z (zM Z (zN (zT (zQ (zR (zM Z (zM Z (zM Z (zb hr fun y1 h_y1 hr => yS Z (zx Z Z Z dQ h_y1 Z) (yS Z (d6 Z Z Z cR Z Z) (zb hr fun v2 h_v2 hr => yS Z (zC Z Z Z (by kernel_rfl) (Js h_v2)) (zN (zT ?_)))))))))))))))))));refine zX Z (fun g2 => ?_) (fun g2 => ?_)
   ·
    refine zi g2 hr fun hr => zQ (zR (zM Z (zM Z (zN (zT (zr (aA (aj (aj (aA (aj (aj ?_))))))))))));obtain rfl := zJ hr;have hr := congrArg some (hb_x1 _ rfl);obtain rfl := zJ hr;have hr := ey ho_v1;obtain rfl := zJ hr;exact aq (.one (.tmp Z)) (⟨rfl, rfl⟩)
   ·
    refine zo g2 hr fun hr => zk (ai (zT (zR (yS Z (ax Z Z Z Z) (zM Z (zN (zT ?_)))))));obtain rfl := zJ hr;exact ⟨_, rfl, zW 10 ⟨rfl, rfl, rfl, rfl, rfl, trivial⟩ Z Z Z (zL Z (zL Z (zL Z (zL Z (zL Z (zL Z (zL (ae (fun _ => rfl) _) (zL (ae (fun _ => rfl) _) (zL Z (zL Z Z))))))))))⟩
  ·
   refine zo g1 hr fun hr => zq (ap (ap (zy (zT ?_))));obtain rfl := zJ hr;have hr := congrArg some (hb_x1 _ rfl);obtain rfl := zJ hr;exact ⟨_, rfl, zW 10 ⟨rfl, trivial⟩ Z Z Z (zL Z (zL Z (zL Z (zL Z (zL Z (zL Z (zL (ae (fun _ => rfl) _) (zL (ae (fun _ => rfl) _) (zL Z (zL Z Z))))))))))⟩
 ·obtain rfl := e_v1;have hr := ga ho_v1;clear hb_v1;refine zT (LW.weak hw_v1 (zQ (zR (zM Z (zN (zT (zr ?_)))))));obtain rfl := zJ hr;exact aq (.one (.tmp Z)) (⟨rfl, rfl⟩)
def BL (l : List Vt) (sm : List (ID × Int)) : Option Bool :=
 (yd l sm).bind fun v1 =>
 some (decide (v1 ≥ 0))
theorem Jt {l : List Vt} {w : Vw} {sm : List (ID × Int)} {hm : List (Vt × Bool)} {r_ : Bool} (hr : BL l sm = some r_) : LC Tryz.prog 190 [(kV l), .fn 189 [] [.ptr 9 0]] [.dead, .box (dq w), .dead, .dead, .dead, .dead, (mQ sm), (mR hm), .box [(jB 4 w.B), (jV 5 w.V), .map 6, .map 7, (iQ 0), (bQ false)], .box [.ptr 8 0]] (Is (bQ r_) [.dead, .box (dq w), .dead, .dead, .dead, .dead, (mQ sm), (mR hm), .box [(jB 4 w.B), (jV 5 w.V), .map 6, .map 7, (iQ 0), (bQ false)], .box [.ptr 8 0]]) := by
 refine dp Tryz.func190 Z Z Z ?_;unfold BL at hr;refine zQ (zR (zM Z (zN (zT (zQ (zR (zM Z (zM Z (zb hr fun v1 h_v1 hr => yS Z (zC Z Z Z (by kernel_rfl) (Hl h_v1)) (yS Z (ax Z Z Z Z) (zM Z (zN (zT (zr ?_))))))))))))));obtain rfl := zJ hr;exact aq (.one (.tmp Z)) (⟨rfl, rfl⟩)
def Iu (c : Cf) (w : Vw) : Option Bool :=
 (
  (ym c).bind fun v2 =>
  bif !v2 then
   some true
  else
   (HU w.B).bind fun v3 =>
   bif !v3 then
    some true
   else
    bif decide ((w.B.length : Int) > 60) then
     some true
    else
     some (decide ((w.V.length : Int) > 240))
 ).bind fun v1 =>
 bif v1 then
  some false
 else
  (HW c w).bind fun v4 =>
  (
   bif (v4.B.length : Int) != (w.B.length : Int) then
    some true
   else
    some ((v4.V.length : Int) != (w.V.length : Int))
  ).bind fun v5 =>
  bif v5 then
   some false
  else
   (Ab w 0).bind fun v6 =>
   bif qy v6.2 then
    bif (v6.2.length : Int) == (w.V.length : Int) then
     (BL w.V v6.1).bind fun v7 =>
     some (!v7)
    else
     some false
   else none
theorem Mj {c : Cf} {w : Vw} {r_ : Bool} (hr : Iu c w = some r_) : aw Tryz.prog 178 [jC c, mP w] [.bool r_] := by
 refine zh Tryz.func178 Z Z Z Z ?_;unfold Iu at hr;refine zQ (zR (yS Z (b6 Z Z Z Z Z) (yS Z (b6 Z Z Z Z Z) (zM Z (zN (zT (zQ ?_)))))));obtain ⟨v1, hb_v1, ho_v1⟩ := zB hr;clear hr;refine LW.cut (E := [(2, .ptr 0 0), (3, .ptr 1 0), (4, (bQ false)), (28, (bQ v1))]) (O := [.box (bI c), .box (dq w)]) ?_ ?_
 ·have hr := hb_v1;refine zR (yS Z (zD Z Z Z bA Z Z) (zb hr fun v2 h_v2 hr => yS Z (zC Z Z Z (by kernel_rfl) (zp (F9 h_v2) (.cons zv .nil))) (yS Z (ab.not Z Z) (zM Z ?_))));refine zc 11 Z (fun g1 => ?_) (fun g1 => ?_)
  ·
   refine zi g1 hr fun hr => yU Z (gd g1 Z) Z (yU Z (gd g1 Z) Z (yU Z (gd g1 Z) Z (yU Z (gd g1 Z) Z (yS Z (eF Z (bM g1 Z) Z) (zM Z (yU Z Z Z (yU Z Z Z (yU Z Z Z (yU Z Z Z (yS Z (eF Z Z Z) (zM Z (yU Z Z Z (yU Z Z Z (yU Z Z Z (yU Z Z Z (yS Z (eF Z Z Z) (zN (zT ?_))))))))))))))))));obtain rfl := zJ hr;exact zW 2 ⟨Z, Z, Z, Z, trivial⟩ Z Z Z Z
  ·
   refine zo g1 hr fun hr => yV Z (gd g1 Z) (zA Z Z bz) (yV Z (gd g1 Z) (zD Z Z Z dA Z Z) (zb hr fun v3 h_v3 hr => yV Z (gd g1 Z) (zC Z Z Z (by kernel_rfl) (zp (L1 h_v3) (.cons zv .nil))) (yV Z (gd g1 Z) (ab.not Z Z) (yS Z (df Z (bM g1 Z) Z) (zM Z ?_)))));refine zc 17 Z (fun g2 => ?_) (fun g2 => ?_)
   ·
    refine zi g2 hr fun hr => yU Z (gd g2 Z) Z (yU Z (gd g2 Z) Z (yU Z (gd g2 Z) Z (yU Z (gd g2 Z) Z (yS Z (eF Z (bM g2 Z) Z) (zM Z (yU Z Z Z (yU Z Z Z (yU Z Z Z (yU Z Z Z (yS Z (eF Z Z Z) (zN (zT ?_))))))))))));obtain rfl := zJ hr;exact zW 2 ⟨Z, Z, Z, Z, trivial⟩ Z Z Z Z
   ·
    refine zo g2 hr fun hr => yV Z (gd g2 Z) (zA Z Z bz) (yV Z (gd g2 Z) (zD Z Z Z dA Z Z) (yV Z (gd g2 Z) (d7 Z Z (by kernel_rfl)) (yV Z (gd g2 Z) (ax Z Z Z Z) (yS Z (df Z (bM g2 Z) Z) (zM Z ?_)))));refine zc 23 Z (fun g3 => ?_) (fun g3 => ?_)
    ·
     refine zi g3 hr fun hr => yU Z (gd g3 Z) Z (yU Z (gd g3 Z) Z (yU Z (gd g3 Z) Z (yU Z (gd g3 Z) Z (yS Z (eF Z (bM g3 Z) Z) (zN (zT ?_))))));obtain rfl := zJ hr;exact zW 2 ⟨Z, Z, Z, Z, trivial⟩ Z Z Z Z
    ·
     refine zo g3 hr fun hr => yV Z (gd g3 Z) (zA Z Z b9) (yV Z (gd g3 Z) (zD Z Z Z eU Z Z) (yV Z (gd g3 Z) (d7 Z Z (by kernel_rfl)) (yV Z (gd g3 Z) (ax Z Z Z Z) (yS Z (df Z (bM g3 Z) Z) (zN (zT ?_))))));obtain rfl := zJ hr;exact zW 2 ⟨Z, Z, Z, Z, trivial⟩ Z Z Z Z
 ·have hr := ho_v1;clear hb_v1;refine zX Z (fun g4 => ?_) (fun g4 => ?_)
  ·
   refine zi g4 hr fun hr => zQ (zR (zM Z (zN (zT (zr (aj ?_))))));obtain rfl := zJ hr;exact zf (.one (.tmp Z)) zv
  ·
   refine zo g4 hr fun hr => zk (zT (zQ (zR (yS Z (zD Z Z Z bA Z Z) (yS Z (zD Z Z Z aS Z Z) (zb hr fun v4 h_v4 hr => yS Z (zC Z Z Z (by kernel_rfl) (zp (L3 h_v4) (.cons zv (.cons zv .nil)))) (yS Z (ze Z ig Z Z) (yS Z (zs Z Z Z Z aS Z Z Z Z) (zN (zT (zQ ?_)))))))))));obtain ⟨v5, hb_v5, ho_v5⟩ := zB hr;clear hr;refine LW.cut (E := [(3, .ptr 1 0), (4, (bQ false)), (47, (bQ v5))]) (O := [.box (bI c), .box (dq w), .box (dq v4)]) ?_ ?_
   ·have hr := hb_v5;refine zR (yS Z (zA Z Z bz) (yS Z (zD Z Z Z dA Z Z) (yS Z (d7 Z Z (by kernel_rfl)) (yS Z (zA Z Z bz) (yS Z (zD Z Z Z dA Z Z) (yS Z (d7 Z Z (by kernel_rfl)) (yS Z (ax Z Z Z Z) (zM Z ?_))))))));refine zc 39 Z (fun g5 => ?_) (fun g5 => ?_)
    ·
     refine zi g5 hr fun hr => yU Z (gd g5 Z) Z (yU Z (gd g5 Z) Z (yU Z (gd g5 Z) Z (yU Z (gd g5 Z) Z (yU Z (gd g5 Z) Z (yU Z (gd g5 Z) Z (yU Z (gd g5 Z) Z (yS Z (eF Z (bM g5 Z) Z) (zN (zT ?_)))))))));obtain rfl := zJ hr;exact zW 3 ⟨Z, Z, Z, trivial⟩ Z Z Z Z
    ·
     refine zo g5 hr fun hr => yV Z (gd g5 Z) (zA Z Z b9) (yV Z (gd g5 Z) (zD Z Z Z eU Z Z) (yV Z (gd g5 Z) (d7 Z Z (by kernel_rfl)) (yV Z (gd g5 Z) (zA Z Z b9) (yV Z (gd g5 Z) (zD Z Z Z eU Z Z) (yV Z (gd g5 Z) (d7 Z Z (by kernel_rfl)) (yV Z (gd g5 Z) (ax Z Z Z Z) (yS Z (df Z (bM g5 Z) Z) (zN (zT ?_)))))))));obtain rfl := zJ hr;exact zW 3 ⟨Z, Z, Z, trivial⟩ Z Z Z Z
   ·have hr := ho_v5;clear hb_v5;refine zX Z (fun g6 => ?_) (fun g6 => ?_)
    ·
     refine zi g6 hr fun hr => zQ (zR (zM Z (zN (zT (zr (aj ?_))))));obtain rfl := zJ hr;exact zf (.one (.tmp Z)) zv
    ·
     refine zo g6 hr fun hr => zk (zT (zQ (zR (yS Z (zD Z Z Z aS Z Z) (zb hr fun v6 h_v6 hr => yS Z (zC Z Z Z (by kernel_rfl) (LC.frameX (x' := .ptr 8 0) (H' := [.box (bI c), .box (dq w), .box (dq v4), .box (dq w), .vec 5 (w.B.map ay), .vec 4 (w.V.map aJ), (mQ v6.1), (mR v6.2), .box [(jB 4 w.B), (jV 5 w.V), .map 6, .map 7, (iQ 0), (bQ false)]]) (Gc h_v6) (.consC zv (.consC zv .nil)) Z Z (by simp only [List.map_cons, List.map_nil, List.cons_append, List.nil_append, aa.shift, LV.shifts, LV.shift, yB, yA] <;> rfl))) (yS Z (ze Z KL Z Z) (yS Z (zs Z Z Z Z Ec Z Z Z Z) (zN (zT (zQ (LW.ent (bO.kill (i := 0) Z) (LW.ent (bO.kill (i := 2) Z) (LW.ent (bO.kill (i := 3) Z) (LW.ent (bO.kill (i := 4) Z) (LW.ent (bO.kill (i := 5) Z) (zR (yS Z (ab.makeFunc Z Z Z) (zM Z (zN (zT (zQ ?_)))))))))))))))))))));refine LW.draw2 (by kernel_rfl) (by kernel_rfl) (yE Z (zD Z Z Z Ec Z Z) (yE Z (zn Z Z) (yE Z (zA Z Z pH) (yE Z (zD Z Z Z zE Z Z) (zg hr fun q1 hr => yE Z (ab.lenMapX Z Z Z (by kernel_rfl) q1) (yE Z (zA Z Z b9) (yE Z (zD Z Z Z eU Z Z) (yE Z (d7 Z Z (by kernel_rfl)) (yE Z (ax Z Z Z Z) (zH Z ?_))))))))));refine LO.cases 60 Z (fun (g7 : ((v6.2.length : Int) == (w.V.length : Int)) = true) => ?_) (fun (g7 : ((v6.2.length : Int) == (w.V.length : Int)) = false) => ?_)
     ·
      refine zi g7 hr fun hr => LO.gd Z Z Z (gd g7 Z) Z (zA Z Z b9) (LO.gd Z Z Z (gd g7 Z) Z (zD Z Z Z eU Z Z) (LO.gd Z Z Z (gd g7 Z) Z (zm Z Z) (zb hr fun v7 h_v7 hr => LO.gd Z Z Z (gd g7 Z) Z (zC Z Z Z (by kernel_rfl) (Jt h_v7)) (LO.gd Z Z Z (gd g7 Z) Z (ab.not Z Z) (yE Z (eF Z (bM g7 Z) Z) (zH Z (LO.nil (zT (zr ?_)))))))));obtain rfl := zJ hr;exact zf (.one (.tmp Z)) zv
     ·
      refine zo g7 hr fun hr => LO.sk Z Z Z (gd g7 Z) Z Z (LO.sk Z Z Z (gd g7 Z) Z Z (LO.sk Z Z Z (gd g7 Z) Z Z (LO.sk Z Z Z (gd g7 Z) Z Z (LO.sk Z Z Z (gd g7 Z) Z Z (yE Z (df Z (bM g7 Z) Z) (zH Z (LO.nil (zT (zr ?_)))))))));obtain rfl := zJ hr;exact zf (.one (.tmp Z)) zv
def aX (B : List Bk) (id : ID) : Option Int := if id = (0, 0) then some 0 else (B.find? fun b => decide (nm b = id)).map Bk.Slot
theorem xI (B : List Bk) : aX B (0, 0) = some 0 := by unfold aX; rw [if_pos rfl]
theorem rh (B : List Bk) (b : Bk) (id : ID) : aX (B ++ [b]) id = (aX B id).or (if nm b = id then some b.Slot else none) := by
 unfold aX;by_cases h : id = (0, 0)
 ·rw [if_pos h, if_pos h]; rfl
 ·rw [if_neg h, if_neg h, List.find?_append]
  cases B.find? fun b => decide (nm b = id) with
  | some x => rfl
  | none =>
   by_cases h2 : nm b = id
   ·simp [h2]
   ·simp [h2]
theorem hY {B : List Bk} {id : ID} {s : Int} (h : aX B id = some s) (t : List Bk) : aX (B ++ t) id = some s := by
 unfold aX at h ⊢;by_cases h0 : id = (0, 0)
 ·rw [if_pos h0] at h ⊢; exact h
 ·rw [if_neg h0] at h ⊢;rw [List.find?_append]
  cases hf : B.find? fun b => decide (nm b = id) with
  | some x => rw [hf] at h; exact h
  | none => rw [hf] at h; cases h
theorem oP {B : List Bk} {id : ID} {s : Int} (h : aX B id = some s) : (id = (0, 0) ∧ s = 0) ∨ (id ≠ (0, 0) ∧ ∃ b ∈ B, nm b = id ∧ b.Slot = s) := by
 unfold aX at h;by_cases h0 : id = (0, 0)
 ·rw [if_pos h0] at h; cases h; exact .inl ⟨h0, rfl⟩
 ·rw [if_neg h0] at h
  cases hf : B.find? fun b => decide (nm b = id) with
  | none => rw [hf] at h; cases h
  | some x =>
   rw [hf] at h;cases h;exact .inr ⟨h0, x, List.mem_of_find?_eq_some hf, (by simpa using List.find?_some hf), rfl⟩
theorem ri {B : List Bk} {b : Bk} (h : b ∈ B) : ∃ s, aX B (nm b) = some s := by
 unfold aX;by_cases h0 : nm b = (0, 0)
 ·rw [if_pos h0]; exact ⟨_, rfl⟩
 ·rw [if_neg h0]
  cases hf : B.find? fun q => decide (nm q = nm b) with
  | some x => exact ⟨_, rfl⟩
  | none =>
   rw [List.find?_eq_none] at hf;have := hf b h;simp at this
def aK (B : List Bk) : Prop := (places B).isSome = true
theorem Bm : aK [] := rfl
theorem nI {l : List Bk} {m : List (ID × Int)} (h : places l = some m) (id : ID) : aX l id = (af m id).map (ca l) := by
 have hI := aH h;unfold aX;by_cases h0 : id = (0, 0)
 ·rw [if_pos h0, h0, hI.zero]; simp [ca]
 ·rw [if_neg h0]
  cases hf : af m id with
  | none =>
   cases hq : l.find? fun b => decide (nm b = id) with
   | none => rfl
   | some b =>
    exfalso;have hb := List.mem_of_find?_eq_some hq
    have hn : nm b = id := by simpa using List.find?_some hq
    obtain ⟨i, hi⟩ := List.getElem?_of_mem hb;have := hI.names i b (List.getElem?_eq_some_iff.1 hi).1 hi;rw [hn, hf] at this; cases this
  | some i =>
   rcases hI.known _ _ hf with ⟨-, h1⟩ | ⟨b, p, h1, h2, h3, h4, -⟩
   ·exact absurd h1 h0
   ·cases hq : l.find? fun b => decide (nm b = id) with
    | none =>
     rw [List.find?_eq_none] at hq;have := hq b (List.mem_of_getElem? h3);simp [h4] at this
    | some b' =>
     have hb := List.mem_of_find?_eq_some hq
     have hn : nm b' = id := by simpa using List.find?_some hq
     obtain ⟨j, hj⟩ := List.getElem?_of_mem hb;have := hI.names j b' (List.getElem?_eq_some_iff.1 hj).1 hj;rw [hn, hf] at this;cases this;simp [ca, hj, show ¬ (j : Int) = -1 by omega]
theorem Be {l : List Bk} {m : List (ID × Int)} (h : places l = some m) (id : ID) : iA l id = match aX l id with | some s => (s, true) | none => (0, false) := by
 rw [nI h];unfold iA;rw [h];simp only;cases af m id <;> rfl
theorem C6 {l : List Bk} {m : List (ID × Int)} (h : places l = some m) (id : ID) : (¬ id = (0, 0) ∧ oh l id < 0) ↔ aX l id = none := by
 rw [nI h];unfold oh;rw [h];simp only
 cases hf : af m id with
 | none =>
  refine ⟨fun _ => rfl, fun _ => ⟨fun e => ?_, by simp⟩⟩;rw [e, (aH h).zero] at hf; cases hf
 | some i =>
  refine ⟨fun h1 => ?_, fun h1 => by cases h1⟩;rcases (aH h).known _ _ hf with ⟨-, h2⟩ | ⟨_, _, h2, -⟩
  ·exact absurd h2 h1.1
  ·have := h1.2; simp at this; omega
theorem j3 {B : List Bk} {b : Bk} : aK (B ++ [b]) ↔ aK B ∧ (∃ s, aX B b.Parent = some s ∧ s < b.Slot) ∧ aX B (nm b) = none := by
 have key : ∀ {m}, places B = some m → (aK (B ++ [b]) ↔ (∃ s, aX B b.Parent = some s ∧ s < b.Slot) ∧ aX B (nm b) = none) := by
  intro m hm;unfold aK;rw [Dz hm, ← C6 hm];unfold yC;rw [Be hm]
  cases aX B b.Parent with
  | none => simp
  | some s => simp [and_assoc]
 cases hm : places B with
 | some m =>
  rw [key hm];exact ⟨fun h => ⟨by unfold aK; rw [hm]; rfl, h⟩, fun h => h.2⟩
 | none =>
  have hno : ¬ aK B := by unfold aK; rw [hm]; simp
  refine ⟨fun h => absurd ?_ hno, fun h => absurd h.1 hno⟩;have := vY (k := B.length) h (by simp)
  rwa [List.take_left' rfl] at this
theorem mK {B : List Bk} (h : aK B) (k : Nat) : aK (B.take k) := by
 by_cases hk : k ≤ B.length
 ·exact vY h hk
 ·rw [List.take_of_length_le (by omega)]; exact h
theorem k9 {B : List Bk} (h : aK B) : ((0, 0) :: B.map nm).Nodup := by
 obtain ⟨m, hm⟩ := Option.isSome_iff_exists.1 h;exact wb hm
theorem rz {B : List Bk} (h : aK B) {b : Bk} (hb : b ∈ B) : aX B (nm b) = some b.Slot := by
 obtain ⟨s, hs⟩ := ri hb;have hn := k9 h;rw [List.nodup_cons] at hn;rcases oP hs with ⟨h0, -⟩ | ⟨-, b', hb', he, hs'⟩
 ·exact absurd (h0 ▸ List.mem_map.2 ⟨b, hb, rfl⟩) hn.1
 ·have : b' = b := by
   obtain ⟨i, hi⟩ := List.getElem?_of_mem hb;obtain ⟨j, hj⟩ := List.getElem?_of_mem hb'
   have hi' : (B.map nm)[i]? = some (nm b) := by rw [List.getElem?_map, hi]; rfl
   have hj' : (B.map nm)[j]? = some (nm b) := by rw [List.getElem?_map, hj, ← he]; rfl
   have := (List.getElem?_inj (List.getElem?_eq_some_iff.1 hi').1 hn.2).1 (hi'.trans hj'.symm);subst this;rw [hi] at hj; exact (Option.some.inj hj).symm
  rw [hs, ← hs', this]
theorem ud {B : List Bk} (h : aK B) {b : Bk} (hb : b ∈ B) : ∃ s, aX B b.Parent = some s ∧ s < b.Slot := by
 obtain ⟨i, hi⟩ := List.getElem?_of_mem hb;have hil := (List.getElem?_eq_some_iff.1 hi).1;have ht := mK h (i + 1);rw [aY hi, j3] at ht;obtain ⟨s, h1, h2⟩ := ht.2.1;refine ⟨s, ?_, h2⟩;have := hY h1 (B.drop i)
 rwa [List.take_append_drop] at this
def wz : List Bk → List (ID × Int) → List (ID × Int)
 | [], m => m
 | b :: r, m => wz r (aP m (nm b) b.Slot)
def mF (B : List Bk) : List (ID × Int) := wz B [((0, 0), 0)]
def vL : List Vt → List (Vt × Bool) → List (Vt × Bool)
 | [], m => m
 | v :: r, m => vL r (aP m v true)
def kr (V : List Vt) : List (Vt × Bool) := vL V []
theorem sW (b : Bk) : ∀ (B : List Bk) (m), wz (B ++ [b]) m = aP (wz B m) (nm b) b.Slot
 | [], _ => rfl
 | _ :: r, _ => sW b r _
theorem sC (v : Vt) : ∀ (V : List Vt) (m), vL (V ++ [v]) m = aP (vL V m) v true
 | [], _ => rfl
 | _ :: r, _ => sC v r _
theorem sY (B : List Bk) (b : Bk) : mF (B ++ [b]) = aP (mF B) (nm b) b.Slot := sW b B _
theorem sE (V : List Vt) (v : Vt) : kr (V ++ [v]) = aP (kr V) v true := sC v V _
theorem nH {α β : Type} [DecidableEq α] (m : List (α × β)) (k : α) (v : β) : (aP m k v).length = if (af m k).isSome then m.length else m.length + 1 := by
 induction m with
 | nil => simp [aP, af]
 | cons p r ih =>
  obtain ⟨a, b⟩ := p;by_cases h : a = k
  ·simp [aP, af, h]
  ·cases hf : af r k <;> simp [aP, af, h, hf] at ih ⊢ <;> exact ih
theorem DW (B : List Bk) : (mF B).length ≤ B.length + 1 := by
 unfold mF
 have : ∀ (B : List Bk) (m : List (ID × Int)), (wz B m).length ≤ B.length + m.length := by
  intro B
  induction B with
  | nil => intro m; simp [wz]
  | cons b r ih =>
   intro m;have h1 := ih (aP m (nm b) b.Slot);have h2 := nH m (nm b) b.Slot;unfold wz;simp only [List.length_cons];split at h2 <;> omega
 have := this B [((0, 0), 0)];simpa using this
theorem sX {B : List Bk} (h : aK B) : ∀ id, af (mF B) id = aX B id := by
 have key : ∀ k, k ≤ B.length → ∀ id, af (mF (B.take k)) id = aX (B.take k) id := by
  intro k
  induction k with
  | zero =>
   intro _ id;simp only [List.take_zero];unfold mF wz aX af af;by_cases e : id = (0, 0)
   ·simp [e]
   ·simp [e, Ne.symm e]
  | succ k ih =>
   intro hk id;obtain ⟨b, hb, -⟩ := aF (l := B) (n := k) (by omega);have hv := mK h (k + 1);rw [aY hb] at hv ⊢;rw [j3] at hv;rw [sY, ch, rh, ih (by omega)];by_cases e : nm b = id
   ·rw [if_pos e, if_pos e, ← e, hv.2.2]; rfl
   ·rw [if_neg e, if_neg e]; cases aX (B.take k) id <;> rfl
 have := key B.length (Nat.le_refl _)
 rwa [List.take_length] at this
theorem sD (V : List Vt) (v : Vt) : af (kr V) v = if v ∈ V then some true else none := by
 have : ∀ (V : List Vt) (m : List (Vt × Bool)), af (vL V m) v = if v ∈ V then some true else af m v := by
  intro V
  induction V with
  | nil => intro m; simp [vL]
  | cons x r ih =>
   intro m;unfold vL;rw [ih, ch];by_cases h : v ∈ r
   ·simp [h]
   ·by_cases h2 : x = v
    ·simp [h2]
    ·simp [h, h2, Ne.symm h2]
 rw [kr, this]; rfl
theorem vM (V : List Vt) : (kr V).length ≤ V.length ∧ ((kr V).length = V.length ↔ V.Nodup) := by
 have key : ∀ k, k ≤ V.length → (kr (V.take k)).length ≤ k ∧ ((kr (V.take k)).length = k ↔ (V.take k).Nodup) := by
  intro k
  induction k with
  | zero => intro _; simp [kr, vL]
  | succ k ih =>
   intro hk;obtain ⟨v, hv, -⟩ := aF (l := V) (n := k) (by omega);obtain ⟨h1, h2⟩ := ih (by omega);rw [aY hv, sE, nH, sD, List.nodup_append];by_cases hm : v ∈ V.take k
   ·rw [if_pos hm];refine ⟨by simp; omega, ⟨fun e => by simp at e; omega, fun h => absurd Z (h.2.2 v hm v (by simp))⟩⟩
   ·rw [if_neg hm];refine ⟨by simp; omega, ⟨fun e => ⟨h2.1 (by simp at e; omega), by simp, fun a ha b hb => by rw [List.mem_singleton] at hb; subst hb; exact fun q => hm (q ▸ ha)⟩, fun h => ?_⟩⟩;have := h2.2 h.1;simp; omega
 have := key V.length (Nat.le_refl _)
 rwa [List.take_length] at this
theorem ya {w : Vw} {u : Int} (h1 : w.B.length ≤ 90000) (h2 : w.V.length ≤ 90000) : Ab w u = some (mF w.B, kr w.V) := by
 unfold Ab;rw [aO (by omega) (by omega), ct, aO (by omega) (by omega), ct]
 have e1 := aB (step := lg w) (n := w.B.length) (fun k => eW.mk (k : Int) (mF (w.B.take k))) (eW.mk (w.B.length : Int) (mF w.B)) (fun k hk => by
  obtain ⟨y, hy, -⟩ := aF hk;unfold lg;simp only
  rw [decide_eq_true (show (k : Int) < (w.B.length : Int) by omega), ct, aI hy, ob, aY hy, sY, ak (n := k) (by omega)]) (by
  unfold lg;simp only
  rw [decide_eq_false (show ¬ (w.B.length : Int) < (w.B.length : Int) by omega), cf, List.take_length]) (by omega)
 have e1' : iter (lg w) bG (eW.mk 0 (aP [] (0, 0) 0)) = some (eW.mk (w.B.length : Int) (mF w.B)) := e1
 have e2 := aB (step := lh w) (n := w.V.length) (fun k => eX.mk (k : Int) (kr (w.V.take k))) (eX.mk (w.V.length : Int) (kr w.V)) (fun k hk => by
  obtain ⟨y, hy, -⟩ := aF hk;unfold lh;simp only
  rw [decide_eq_true (show (k : Int) < (w.V.length : Int) by omega), ct, aI hy, ob, aY hy, sE, ak (n := k) (by omega)]) (by
  unfold lh;simp only
  rw [decide_eq_false (show ¬ (w.V.length : Int) < (w.V.length : Int) by omega), cf, List.take_length]) (by omega)
 have e2' : iter (lh w) bG (eX.mk 0 []) = some (eX.mk (w.V.length : Int) (kr w.V)) := e2;rw [e1', ob, e2', ob]
def forB (B : List Bk) (v : Vt) : Prop := ∃ s, aX B v.Head = some s ∧ s ≤ v.Slot
def va (sm : List (ID × Int)) (v : Vt) : Bool := match af sm v.Head with
 | none => true
 | some s => decide (s > v.Slot)
theorem ED (v : Vt) (sm : List (ID × Int)) : BK v sm = some (va sm v) := by
 unfold BK va
 cases af sm v.Head with
 | none => rfl
 | some s => rfl
def sq (sm : List (ID × Int)) (l : List Vt) (j : Nat) : Option Int := match l[j]? with
 | some v => if va sm v = true then some (j : Int) else none
 | none => none
theorem EE {l : List Vt} (hl : l.length ≤ 90000) (sm : List (ID × Int)) : BL l sm = some (l.any (va sm)) := by
 have e := eP (step := iP l sm) (n := l.length) (fun k => ea.mk (k : Int)) (sq sm l) (fun j hj => by
  obtain ⟨y, hy, -⟩ := aF hj;unfold iP sq;simp only;rw [decide_eq_true (show (j : Int) < (l.length : Int) by omega), ct, aI hy, ob, ED, ob, ak (n := j) (by omega), hy];simp only
  cases va sm y with
  | true => rw [ct, if_pos rfl]
  | false => rw [cf, if_neg (by simp)]) (by
  unfold iP;simp only
  rw [decide_eq_false (show ¬ (l.length : Int) < (l.length : Int) by omega), cf]) (by omega)
 unfold BL yd;have e' : iter (iP l sm) bG (ea.mk 0) = some (lT (ea.mk (l.length : Int)) (cv (sq sm l) 0 l.length)) := e;rw [e', ob]
 cases h : cv (sq sm l) 0 l.length with
 | none =>
  rw [lT, sl, ob];rw [fI] at h;congr 1;rw [show decide ((-1 : Int) ≥ 0) = false from rfl];symm;rw [List.any_eq_false];intro v hv;obtain ⟨j, hj⟩ := List.getElem?_of_mem hv;have := h j (Nat.zero_le _) (by have := (List.getElem?_eq_some_iff.1 hj).1; omega);unfold sq at this;rw [hj] at this;simp only at this;intro hb;rw [if_pos hb] at this; cases this
 | some r =>
  obtain ⟨j, -, -, h3, -⟩ := dL h;unfold sq at h3;split at h3
  ·rename_i v hv;split at h3
   ·rename_i hb;cases h3;rw [lT, sr, ob, decide_eq_true (show (j : Int) ≥ 0 by omega)];congr 1;symm;rw [List.any_eq_true];exact ⟨v, List.mem_of_getElem? hv, hb⟩
   ·cases h3
  ·cases h3
structure ei (c : Cf) (w : Vw) : Prop where
 conf : cD c
 valid : aK w.B
 lenB : w.B.length ≤ 60
 lenV : w.V.length ≤ 240
 mayB : ∀ b ∈ w.B, mayB c b = true
 mayV : ∀ v ∈ w.V, mayV c v = true
 nodup : w.V.Nodup
 forB : ∀ v ∈ w.V, forB w.B v
open Classical in
theorem GN {c : Cf} {w : Vw} (h1 : w.B.length ≤ 1000) (h2 : w.V.length ≤ 1000) : Iu c w = some (decide (ei c w)) := by
 have hno : ∀ h : ¬ ei c w, decide (ei c w) = false := fun h => decide_eq_false h;unfold Iu;rw [kA, ob];by_cases c1 : cD c
 ·rw [decide_eq_true c1, Bool.not_true, cf, Cj, ob];by_cases c2 : aK w.B
  ·rw [show (places w.B).isSome = true from c2, Bool.not_true, cf];by_cases c3 : w.B.length ≤ 60
   ·rw [decide_eq_false (show ¬ (w.B.length : Int) > 60 by omega), cf, ob];by_cases c4 : w.V.length ≤ 240
    ·rw [decide_eq_false (show ¬ (w.V.length : Int) > 240 by omega), cf, Cn (by omega) (by omega), ob]
     have hfB : (a7 c w).B.length = w.B.length ↔ ∀ b ∈ w.B, mayB c b = true := by unfold a7; exact List.length_filter_eq_length_iff
     have hfV : (a7 c w).V.length = w.V.length ↔ ∀ v ∈ w.V, mayV c v = true := by unfold a7; exact List.length_filter_eq_length_iff
     by_cases c5 : ∀ b ∈ w.B, mayB c b = true
     ·rw [show (((a7 c w).B.length : Int) != (w.B.length : Int)) = false by rw [hfB.2 c5]; simp, cf, ob];by_cases c6 : ∀ v ∈ w.V, mayV c v = true
      ·have hm := vM w.V;rw [show (((a7 c w).V.length : Int) != (w.V.length : Int)) = false by rw [hfV.2 c6]; simp, cf, ya (by omega) (by omega), ob, show qy (kr w.V) = true from decide_eq_true (by omega), ct];by_cases c7 : w.V.Nodup
       ·rw [show (((kr w.V).length : Int) == (w.V.length : Int)) = true by rw [hm.2.2 c7]; simp, ct, EE (by omega), ob];congr 1
        have hbad : ∀ v, va (mF w.B) v = false ↔ Go.Mg.forB w.B v := by
         intro v;unfold va Go.Mg.forB;rw [sX c2]
         cases aX w.B v.Head with
         | none => simp
         | some s => simp
        cases ha : w.V.any (va (mF w.B)) with
        | true =>
         obtain ⟨v, hv, hb⟩ := List.any_eq_true.1 ha;symm;refine hno fun h => ?_;have := (hbad v).2 (h.forB v hv);rw [hb] at this; cases this
        | false =>
         rw [List.any_eq_false] at ha;symm;exact decide_eq_true ⟨c1, c2, c3, c4, c5, c6, c7, fun v hv => (hbad v).1 (by have := ha v hv; simpa using this)⟩
       ·rw [show (((kr w.V).length : Int) == (w.V.length : Int)) = false by
         rw [beq_eq_false_iff_ne]; intro e; exact c7 (hm.2.1 (by omega)), cf, hno fun h => c7 h.nodup]
      ·rw [show (((a7 c w).V.length : Int) != (w.V.length : Int)) = true by
        rw [bne_iff_ne]; intro e; exact c6 (hfV.1 (by omega)), ct, hno fun h => c6 h.mayV]
     ·rw [show (((a7 c w).B.length : Int) != (w.B.length : Int)) = true by
       rw [bne_iff_ne]; intro e; exact c5 (hfB.1 (by omega)), ct, ob, ct, hno fun h => c5 h.mayB]
    ·rw [decide_eq_true (show (w.V.length : Int) > 240 by omega), ct, hno fun h => c4 h.lenV]
   ·rw [decide_eq_true (show (w.B.length : Int) > 60 by omega), ct, ob, ct, hno fun h => c3 h.lenB]
  ·rw [show (places w.B).isSome = false from by unfold aK at c2; simpa using c2, Bool.not_false, ct, ob, ct, hno fun h => c2 h.valid]
 ·rw [decide_eq_false c1, Bool.not_false, ct, ob, ct, hno fun h => c1 h.conf]
open Go.Proofs
structure fj where
 n : Int
 o6 : List Bk
 o7 : List Vt
 o8 : List (ID × Int)
 o9 : List (Vt × Bool)
 x_5 : Bool
 o14 : List Bk
 o15 : List Vt
 left_0 : Nat
 left_1 : Nat
def l9 (slot : Int) (x1 : fj) : Option (fj ⊕ fj) :=
 bif x1.n != (IntKind.i64.wrap ((x1.o6.length : Int) + (x1.o7.length : Int))) then
  (BO x1.o14 x1.left_0 x1.o6 x1.o8 slot x1.x_5).bind fun v5 =>
  (BP x1.o15 x1.left_1 x1.o7 v5.2.2.2.1 x1.o9 slot v5.2.2.2.2).bind fun v6 =>
  some (.inl (fj.mk (IntKind.i64.wrap ((x1.o6.length : Int) + (x1.o7.length : Int))) v5.2.2.1 v6.2.2.1 v5.2.2.2.1 v6.2.2.2.1 v6.2.2.2.2 v5.2.1 v6.2.1 v5.1 v6.1))
 else
  some (.inr (fj.mk x1.n x1.o6 x1.o7 x1.o8 x1.o9 x1.x_5 x1.o14 x1.o15 x1.left_0 x1.left_1))
def Iv (c : Cf) (w : Vw) (v_in : Vw) (slot : Int) : Option (Vw × Vw × Bool) :=
 (Ab w slot).bind fun v1 =>
 (Iu c w).bind fun v2 =>
 bif !v2 then
  bif room 0 v_in.B.length 40 then
   bif room 0 v_in.V.length 32 then
    some (w, v_in, false)
   else none
  else none
 else
  (Cm c v_in).bind fun v3 =>
  (iter (l9 slot) bG (fj.mk (-1) w.B w.V v1.1 v1.2 false v3.1 v3.2 ((v3.1.map ay).length) ((v3.2.map aJ).length))).bind fun v4 =>
  bif Nat.ble v4.left_0 v4.o14.length then
   bif Nat.ble v4.left_1 v4.o15.length then
    some (Vw.mk v4.o6 v4.o7, Vw.mk (v4.o14.take v4.left_0) (v4.o15.take v4.left_1), v4.x_5)
   else none
  else none
theorem Mk {c : Cf} {w : Vw} {v_in : Vw} {slot : Int} {r_ : Vw × Vw × Bool} (hr : Iv c w v_in slot = some r_) : aw Tryz.prog 164 [jC c, mP w, mP v_in, .int .i64 slot] [mP r_.1, mP r_.2.1, .bool r_.2.2] := by
 refine zh Tryz.func164 Z Z Z Z ?_;unfold Iv at hr;refine zQ (zR (yS Z (b6 Z Z Z Z Z) (yS Z (b6 Z Z Z Z Z) (yS Z (b6 Z Z Z Z Z) (yS Z (ze Z ig Z Z) (yS Z (ze Z ig Z Z) (zM Z (zN (zT (zQ (zR (yS Z (zD Z Z Z aS Z Z) (zM Z (zb hr fun v1 h_v1 hr => yS Z (zC Z Z Z (by kernel_rfl) (LC.frameX (x' := .ptr 10 0) (H' := [.box (bI c), .box (dq w), .box (dq v_in), .box [.zs, .zs], .box [.zs, .zs], .box (dq w), .vec 5 (w.B.map ay), .vec 4 (w.V.map aJ), (mQ v1.1), (mR v1.2), .box [(jB 6 w.B), (jV 7 w.V), .map 8, .map 9, (iQ slot), (bQ false)]]) (Gc h_v1) (.consC zv (.consC zv .nil)) Z Z (by simp only [List.map_cons, List.map_nil, List.cons_append, List.nil_append, aa.shift, LV.shifts, LV.shift, yB, yA] <;> rfl))) (zM Z (zN (zT (zQ (zQ (zR (yS Z (zD Z Z Z bA Z Z) (yS Z (zD Z Z Z aS Z Z) ?_))))))))))))))))))))));refine zb hr fun v2 h_v2 hr => yS Z (zC Z Z Z (by kernel_rfl) (zp (Mj h_v2) (.cons zv (.cons zv .nil)))) (yS Z (ab.not Z Z) (zN (zT ?_)));refine zX Z (fun g1 => ?_) (fun g1 => ?_)
 ·
  refine zi g1 hr fun hr => zQ (LW.ent (bO.slot Z) (LW.ent (bO.slot Z) (LW.drawW (by kernel_rfl) (by kernel_rfl) (zK Z ?_))));refine yF (F := []) (s := none) Z (fun H _ => zn Z Z) Z ?_;refine yF (F := []) (s := none) Z (fun H _ => zA Z Z eE) Z ?_;refine yF Z (zd Z Z Z aS Z Z) Z ?_;refine yF (F := []) (s := none) Z (fun H _ => zA Z Z bz) Z ?_;refine yF Z (zd Z Z Z dA Z Z) Z (zg hr fun q1 hr => ?_);refine yF Z (bL.callV (id := 11) (qs := [(kB v_in.B)]) Z Z Z (by kernel_rfl) (vc q1) (fun H => (.consC zv .nil)) Z) Z ?_;refine yF (F := []) (s := none) Z (fun H _ => zA Z Z b9) Z ?_;refine yF Z (zd Z Z Z eU Z Z) Z (zg hr fun q2 hr => ?_);refine yF Z (bL.callV (id := 12) (qs := [(kV v_in.V)]) Z Z Z (by kernel_rfl) (vd q2) (fun H => (.consC zv .nil)) Z) Z ?_;refine yF (F := []) (s := none) Z (fun H _ => ab.build Z oa Z Z Z) Z ?_;refine yF Z (zt Z Z Z Z aS Z Z Z) Z (yF Z (zt Z Z Z Z aS Z Z Z) Z (zK Z ?_));refine LF.nil ⟨by kernel_rfl, ?_⟩;refine zT (zr (aj ?_));obtain rfl := zJ hr;exact zf (.three (.cellAgg Z Z (by kernel_rfl) Z) (.cellAgg Z Z (by kernel_rfl) Z) (.tmp Z)) (⟨_, rfl, (.cons (Conv.agg (.cons (Conv.vecAll Z Z Z) (.cons (Conv.vecAll Z Z Z) .nil))) (.cons (Conv.agg (.cons (Conv.vecAll Z Z Z) (.cons (Conv.vecAll Z Z Z) .nil))) (.cons zv .nil)))⟩)
 ·
  refine zo g1 hr fun hr => zk (zT (zQ (zR (zM Z (yS Z (ab.makeFunc Z Z Z) (zM Z (yS Z (ab.makeFunc Z Z Z) (zM Z (zM Z (zN (zT (zQ (zR (yS Z (zD Z Z Z bA Z Z) (yS Z (zD Z Z Z aS Z Z) (zb hr fun v3 h_v3 hr => ?_))))))))))))))));refine yS Z (zC Z Z Z (by kernel_rfl) (LC.frameX (x' := .agg [(jB 14 v3.1), (jV 15 v3.2)]) (H' := [.box (bI c), .box (dq w), .box (dq v_in), .box [.zs, .zs], .box [.zs, .zs], .box (dq w), .vec 5 (w.B.map ay), .vec 4 (w.V.map aJ), (mQ v1.1), (mR v1.2), .box [(jB 6 w.B), (jV 7 w.V), .map 8, .map 9, (iQ slot), (bQ false)], .box (bI c), .box (dq v_in), .box [(jB 14 v3.1), (jV 15 v3.2)], .vec 5 (v3.1.map ay), .vec 4 (v3.2.map aJ)]) (JA h_v3) (.consC zv (.consC zv .nil)) Z Z (by simp only [List.map_cons, List.map_nil, List.cons_append, List.nil_append, aa.shift, LV.shifts, LV.shift] <;> rfl))) ?_;refine yS Z (ze Z ig Z Z) (yS Z (zs Z Z Z Z aS Z Z Z Z) (zN (zT (zQ (zQ (LW.ent (bO.kill (i := 0) Z) (LW.ent (bO.kill (i := 1) Z) (LW.ent (bO.kill (i := 2) Z) (LW.ent (bO.kill (i := 5) Z) (LW.ent (bO.kill (i := 11) Z) (LW.ent (bO.kill (i := 12) Z) (LW.ent (bO.kill (i := 13) Z) (zR (zM Z (zN (zT ?_))))))))))))))));obtain ⟨v4, hb_v4, ho_v4⟩ := zB hr;clear hr;refine LW.tail (E := [(8, .ptr 3 0), (9, .ptr 4 0), (10, (bQ false)), (11, .ptr 10 0), (14, .ptr 16 0)]) (O := [.dead, .dead, .dead, .box [.zs, .zs], .box [.zs, .zs], .dead, .vec 5 (v4.o6.map ay), .vec 4 (v4.o7.map aJ), (mQ v4.o8), (mR v4.o9), .box [(jB 6 v4.o6), (jV 7 v4.o7), .map 8, .map 9, (iQ slot), (bQ v4.x_5)], .dead, .dead, .dead, .vec 5 (v4.o14.map ay), .vec 4 (v4.o15.map aJ), .box [.vec 5 14 (v4.o14.map ay).length 0 v4.left_0, .vec 4 15 (v4.o15.map aJ).length 0 v4.left_1]]) ?_ (fun env_v4 H_v4 hw_v4 => ?_)
  ·refine LW.block ?_;refine LW.iterB (E := fun x1 : fj => [(8, .ptr 3 0), (9, .ptr 4 0), (10, (bQ false)), (11, .ptr 10 0), (12, .fn 179 [.ptr 10 0] []), (13, .fn 180 [.ptr 10 0] []), (14, .ptr 16 0), (15, (iQ x1.n))]) (O := fun x1 => [.dead, .dead, .dead, .box [.zs, .zs], .box [.zs, .zs], .dead, .vec 5 (x1.o6.map ay), .vec 4 (x1.o7.map aJ), (mQ x1.o8), (mR x1.o9), .box [(jB 6 x1.o6), (jV 7 x1.o7), .map 8, .map 9, (iQ slot), (bQ x1.x_5)], .dead, .dead, .dead, .vec 5 (x1.o14.map ay), .vec 4 (x1.o15.map aJ), .box [.vec 5 14 (x1.o14.map ay).length 0 x1.left_0, .vec 4 15 (x1.o15.map aJ).length 0 x1.left_1]]) hb_v4 (zW 17 ⟨rfl, rfl, rfl, rfl, rfl, rfl, rfl, rfl, trivial⟩ Z Z Z (zL Z (zL Z (zL Z (zL Z (zL Z (zL Z (zL Z (zL Z (zL (ae (fun _ => rfl) _) (zL (ae (fun _ => rfl) _) (zL Z (zL Z (zL Z (zL Z (zL Z (zL Z (zL Z Z)))))))))))))))))) (fun x1 z_x1 hr hb_x1 => ?_);unfold l9 at hr;refine zQ (zQ (LW.draw2 (by kernel_rfl) (by kernel_rfl) (zH Z (zH Z (yE Z (zn Z Z) (yE Z (zA Z Z eE) (yE Z (zA Z Z bz) (yE Z (zD Z Z Z dA Z Z) (yE Z (ab.lenVM Z Z Z (by kernel_rfl)) (zH Z (yE Z (zn Z Z) (yE Z (zA Z Z eE) (yE Z (zA Z Z b9) (yE Z (zD Z Z Z eU Z Z) (yE Z (ab.lenVM Z Z Z (by kernel_rfl)) (yE Z (ax Z Z Z Z) (yE Z (ax Z Z Z Z) (LO.nil (zT ?_)))))))))))))))))));refine zX Z (fun g2 => ?_) (fun g2 => ?_)
   ·
    refine zi g2 hr fun hr => zk (zT (zl (zQ (LW.draw2 (by kernel_rfl) (by kernel_rfl) (zH Z (yE Z (zn Z Z) (yE Z (zA Z Z eE) (yE Z (zA Z Z bz) (yE Z (zD Z Z Z dA Z Z) (yE Z (ab.lenVM Z Z Z (by kernel_rfl)) (zH Z (yE Z (zn Z Z) (yE Z (zA Z Z eE) (yE Z (zA Z Z b9) (yE Z (zD Z Z Z eU Z Z) (yE Z (ab.lenVM Z Z Z (by kernel_rfl)) (yE Z (ax Z Z Z Z) (zH Z (LO.nil (zT (zQ (zR ?_))))))))))))))))))))));refine yS Z (zA Z Z bz) (yS Z (zD Z Z Z dA Z Z) (zM Z (zb hr fun v5 h_v5 hr => yS Z (zC Z Z Z (by kernel_rfl) (Ju h_v5)) (yS Z (zA Z Z bz) (yS Z (zs Z Z Z Z dA Z Z Z Z) (zN (zT (zR (yS Z (zA Z Z b9) (yS Z (zD Z Z Z eU Z Z) (zM Z (zb hr fun v6 h_v6 hr => yS Z (zC Z Z Z (by kernel_rfl) (Jv h_v6)) (yS Z (zA Z Z b9) (yS Z (zs Z Z Z Z eU Z Z Z Z) (zN (ai (zT ?_)))))))))))))))));obtain rfl := zJ hr;exact ⟨_, rfl, zW 17 ⟨rfl, rfl, rfl, rfl, rfl, rfl, rfl, rfl, trivial⟩ Z Z Z (zL Z (zL Z (zL Z (zL Z (zL Z (zL Z (zL Z (zL Z (zL (ae (fun _ => rfl) _) (zL (ae (fun _ => rfl) _) (zL Z (zL Z (zL Z (zL Z (zL Z (zL Z (zL Z Z)))))))))))))))))⟩
   ·
    refine zo g2 hr fun hr => zq (ap (ap (zy (zT ?_))));obtain rfl := zJ hr;have hr := congrArg some (hb_x1 _ rfl);obtain rfl := zJ hr;exact zW 17 ⟨Z, Z, Z, Z, Z, trivial⟩ Z Z Z (zL Z (zL Z (zL Z (zL Z (zL Z (zL Z (zL Z (zL Z (zL (ae (fun _ => rfl) _) (zL (ae (fun _ => rfl) _) (zL Z (zL Z (zL Z (zL Z (zL Z (zL Z (zL Z Z)))))))))))))))))
  ·have hr := ho_v4;clear hb_v4;refine zT (LW.weak hw_v4 (zQ (LW.drawW (by kernel_rfl) (by kernel_rfl) (zK Z ?_))));refine yF (F := []) (s := none) Z (fun H _ => zn Z Z) Z ?_;refine yF (F := []) (s := none) Z (fun H _ => zA Z Z eE) Z ?_;refine yF Z (zd Z Z Z aS Z Z) Z (zg hr fun q3 hr => zg hr fun q4 hr => yF Z (zd Z Z Z aS Z Z) Z (zK Z ?_));refine yF (F := []) (s := none) Z (fun H _ => zn Z Z) Z ?_;refine yF (F := []) (s := none) Z (fun H _ => zA Z Z pI) Z ?_;refine yF Z (zd Z Z Z Bs Z Z) Z (yF Z (zt Z Z Z Z aS Z Z Z) Z (yF Z (zt Z Z Z Z aS Z Z Z) Z (zK Z ?_)));refine LF.nil ⟨by kernel_rfl, ?_⟩;refine zT (zr ?_);obtain rfl := zJ hr;exact zf (.three (.cellAgg Z Z (by kernel_rfl) Z) (.cellAgg Z Z (by kernel_rfl) Z) (.tmp Z)) (⟨_, rfl, (.cons (Conv.agg (.cons (Conv.vecAll Z Z Z) (.cons (Conv.vecAll Z Z Z) .nil))) (.cons (Conv.agg (.cons (Conv.vecTake Z q3) (.cons (Conv.vecTake Z q4) .nil))) (.cons zv .nil)))⟩)
def cx (B : List Bk) (b : Bk) : Bool := (aX B (nm b)).isSome || (match aX B b.Parent with | some s => decide (s ≥ b.Slot) | none => false)
def eR (B : List Bk) (upto : Int) (b : Bk) : Bool := match aX B b.Parent with | some _ => decide (b.Slot > upto) | none => true
def bq (upto : Int) (B : List Bk) (full : Bool) (b : Bk) : Bool × List Bk × Bool :=
 if cx B b then (true, B, full) else if eR B upto b then (false, B, full) else if B.length < 60 then (true, B ++ [b], full) else (false, B, true)
def cL (B : List Bk) (V : List Vt) (v : Vt) : Bool := decide (v ∈ V) || (match aX B v.Head with | some s => decide (s > v.Slot) | none => false)
def fg (B : List Bk) (upto : Int) (v : Vt) : Bool := match aX B v.Head with | some _ => decide (v.Slot > upto) | none => true
def br (upto : Int) (B : List Bk) (V : List Vt) (full : Bool) (v : Vt) : Bool × List Vt × Bool :=
 if cL B V v then (true, V, full) else if fg B upto v then (false, V, full) else if V.length < 240 then (true, V ++ [v], full) else (false, V, true)
def E5 (B : List Bk) (sm : List (ID × Int)) : Prop := ∀ id, af sm id = aX B id
def GU (V : List Vt) (hm : List (Vt × Bool)) : Prop := ∀ v, af hm v = if v ∈ V then some true else none
theorem ye (n most : Int) (full : Bool) : Ae n most full = some (decide (n < most), if n < most then full else true) := by
 unfold Ae
 cases full with
 | true => rw [ct]; by_cases h : n < most <;> simp [h]
 | false =>
  rw [cf];by_cases h : n < most
  ·rw [if_pos h, decide_eq_false (show ¬ n ≥ most by omega)]
  ·rw [if_neg h, decide_eq_true (show n ≥ most by omega)]
theorem EF {b : Bk} {B : List Bk} {sm : List (ID × Int)} {upto : Int} {full : Bool} (hs : E5 B sm) (hB : B.length ≤ 1000) (hl : sm.length ≤ 900000) :
  ∃ sm', wQ b B sm upto full = some ((bq upto B full b).1, (bq upto B full b).2.1, sm', (bq upto B full b).2.2) ∧ E5 (bq upto B full b).2.1 sm' ∧ sm'.length ≤ sm.length + ((bq upto B full b).2.1.length - B.length) := by
 unfold wQ;rw [hs, hs]
 cases hn : aX B (nm b) with
 | some q =>
  have e : bq upto B full b = (true, B, full) := by simp [bq, cx, hn]
  rw [e];refine ⟨sm, ?_, hs, by simp⟩;rw [Option.isSome_some, ct, ob, ct]
 | none =>
  rw [Option.isSome_none, cf]
  cases hp : aX B b.Parent with
  | none =>
   have e : bq upto B full b = (false, B, full) := by simp [bq, cx, eR, hn, hp]
   rw [e];refine ⟨sm, ?_, hs, by simp⟩;rw [Option.isSome_none, cf, ob, cf, Bool.not_false, ct, ob, ct]
  | some s =>
   rw [Option.isSome_some, ct, ob, Option.getD_some];by_cases h1 : s ≥ b.Slot
   ·have e : bq upto B full b = (true, B, full) := by simp [bq, cx, hn, hp, h1]
    rw [e];refine ⟨sm, ?_, hs, by simp⟩;rw [decide_eq_true h1, ct]
   ·rw [decide_eq_false h1, cf, Bool.not_true, cf];by_cases h2 : b.Slot > upto
    ·have e : bq upto B full b = (false, B, full) := by simp [bq, cx, eR, hn, hp, h1, h2]
     rw [e];refine ⟨sm, ?_, hs, by simp⟩;rw [decide_eq_true h2, ct, ob, ct]
    ·rw [decide_eq_false h2, cf, ye, ob, ob];by_cases h3 : B.length < 60
     ·have e : bq upto B full b = (true, B ++ [b], full) := by simp [bq, cx, eR, hn, hp, h1, h2, h3]
      rw [e];refine ⟨aP sm (nm b) b.Slot, ?_, fun id => ?_, ?_⟩
      ·rw [decide_eq_true (show (B.length : Int) < 60 by omega), Bool.not_true, cf, aO (by simp only [List.length_singleton]; omega) (by omega), ct, show qy sm = true from decide_eq_true (by omega), ct, if_pos (show (B.length : Int) < 60 by omega)]
      ·rw [ch, rh, hs];by_cases e : nm b = id
       ·rw [if_pos e, if_pos e, ← e, hn]; rfl
       ·rw [if_neg e, if_neg e]; cases aX B id <;> rfl
      ·rw [nH, List.length_append, List.length_singleton]; split <;> omega
     ·have e : bq upto B full b = (false, B, true) := by simp [bq, cx, eR, hn, hp, h1, h2, h3]
      rw [e];refine ⟨sm, ?_, hs, by simp⟩;rw [decide_eq_false (show ¬ (B.length : Int) < 60 by omega), Bool.not_false, ct, if_neg (show ¬ (B.length : Int) < 60 by omega)]
theorem EG {v : Vt} {B : List Bk} {V : List Vt} {sm : List (ID × Int)} {hm : List (Vt × Bool)} {upto : Int} {full : Bool} (hs : E5 B sm) (hh : GU V hm) (hV : V.length ≤ 1000) (hl : hm.length ≤ 900000) :
  ∃ hm', wR v V sm hm upto full = some ((br upto B V full v).1, (br upto B V full v).2.1, hm', (br upto B V full v).2.2) ∧ GU (br upto B V full v).2.1 hm' ∧ hm'.length ≤ hm.length + ((br upto B V full v).2.1.length - V.length) := by
 unfold wR;rw [hs, hh];by_cases hn : v ∈ V
 ·have e : br upto B V full v = (true, V, full) := by simp [br, cL, hn]
  rw [e];refine ⟨hm, ?_, hh, by simp⟩;rw [if_pos hn, Option.getD_some, ct, ob, ct]
 ·rw [if_neg hn, Option.getD_none, cf]
  cases hp : aX B v.Head with
  | none =>
   have e : br upto B V full v = (false, V, full) := by simp [br, cL, fg, hn, hp]
   rw [e];refine ⟨hm, ?_, hh, by simp⟩;rw [Option.isSome_none, cf, ob, cf, Bool.not_false, ct, ob, ct]
  | some s =>
   rw [Option.isSome_some, ct, ob, Option.getD_some];by_cases h1 : s > v.Slot
   ·have e : br upto B V full v = (true, V, full) := by simp [br, cL, hn, hp, h1]
    rw [e];refine ⟨hm, ?_, hh, by simp⟩;rw [decide_eq_true h1, ct]
   ·rw [decide_eq_false h1, cf, Bool.not_true, cf];by_cases h2 : v.Slot > upto
    ·have e : br upto B V full v = (false, V, full) := by simp [br, cL, fg, hn, hp, h1, h2]
     rw [e];refine ⟨hm, ?_, hh, by simp⟩;rw [decide_eq_true h2, ct, ob, ct]
    ·rw [decide_eq_false h2, cf, ye, ob, ob];by_cases h3 : V.length < 240
     ·have e : br upto B V full v = (true, V ++ [v], full) := by simp [br, cL, fg, hn, hp, h1, h2, h3]
      rw [e];refine ⟨aP hm v true, ?_, fun id => ?_, ?_⟩
      ·rw [decide_eq_true (show (V.length : Int) < 240 by omega), Bool.not_true, cf, aO (by simp only [List.length_singleton]; omega) (by omega), ct, show qy hm = true from decide_eq_true (by omega), ct, if_pos (show (V.length : Int) < 240 by omega)]
      ·rw [ch, hh];by_cases e : v = id
       ·subst e; simp
       ·simp [e, Ne.symm e]
      ·rw [nH, List.length_append, List.length_singleton]; split <;> omega
     ·have e : br upto B V full v = (false, V, true) := by simp [br, cL, fg, hn, hp, h1, h2, h3]
      rw [e];refine ⟨hm, ?_, hh, by simp⟩;rw [decide_eq_false (show ¬ (V.length : Int) < 240 by omega), Bool.not_false, ct, if_neg (show ¬ (V.length : Int) < 240 by omega)]
section
variable {α : Type}
def bh (step : List α → Bool → α → Bool × List α × Bool) : List α → Bool → List α → List α × List α × Bool
 | B, f, [] => ([], B, f)
 | B, f, b :: r => (if (step B f b).1 then (bh step (step B f b).2.1 (step B f b).2.2 r).1 else b :: (bh step (step B f b).2.1 (step B f b).2.2 r).1, (bh step (step B f b).2.1 (step B f b).2.2 r).2)
variable {step : List α → Bool → α → Bool × List α × Bool}
theorem gU (b : α) : ∀ (l B : List α) (f : Bool), bh step B f (l ++ [b]) =
  (if (step (bh step B f l).2.1 (bh step B f l).2.2 b).1 then (bh step B f l).1 else (bh step B f l).1 ++ [b], (step (bh step B f l).2.1 (bh step B f l).2.2 b).2)
 | [], B, f => by
  simp only [List.nil_append, bh];rfl
 | x :: r, B, f => by
  simp only [List.cons_append, bh, gU b r];split <;> split <;> simp_all
theorem oB : ∀ (l B : List α) (f : Bool), (bh step B f l).1.length ≤ l.length
 | [], B, f => by simp [bh]
 | x :: r, B, f => by
  have := oB r (step B f x).2.1 (step B f x).2.2;simp only [bh];split
  ·simp only [List.length_cons]; omega
  ·simp only [List.length_cons]; omega
theorem eI (h : ∀ B f b, B.length ≤ (step B f b).2.1.length ∧ (step B f b).2.1.length ≤ B.length + 1) : ∀ (l B : List α) (f : Bool), B.length ≤ (bh step B f l).2.1.length ∧ (bh step B f l).2.1.length ≤ B.length + l.length
 | [], B, f => by simp [bh]
 | x :: r, B, f => by
  have h1 := h B f x;have h2 := eI h r (step B f x).2.1 (step B f x).2.2;simp only [bh, List.length_cons];omega
end
def bp (upto : Int) : List Bk → Bool → List Bk → List Bk × List Bk × Bool := bh (bq upto)
def bY (upto : Int) (B : List Bk) : List Vt → Bool → List Vt → List Vt × List Vt × Bool := bh (br upto B)
theorem jZ (upto : Int) (B : List Bk) (f : Bool) (b : Bk) : B.length ≤ (bq upto B f b).2.1.length ∧ (bq upto B f b).2.1.length ≤ B.length + 1 := by
 unfold bq; split <;> (try split) <;> (try split) <;> simp
theorem j1 (upto : Int) (B : List Bk) (V : List Vt) (f : Bool) (v : Vt) : V.length ≤ (br upto B V f v).2.1.length ∧ (br upto B V f v).2.1.length ≤ V.length + 1 := by
 unfold br; split <;> (try split) <;> (try split) <;> simp
structure wZ (B : List Bk) (sm : List (ID × Int)) : Prop where
 find : E5 B sm
 len : sm.length ≤ B.length + 1
structure Bq (V : List Vt) (hm : List (Vt × Bool)) : Prop where
 find : GU V hm
 len : hm.length ≤ V.length
theorem BM {b : Bk} {B : List Bk} {sm : List (ID × Int)} {upto : Int} {full : Bool} (hs : wZ B sm) (hB : B.length ≤ 1000) :
  ∃ sm', wQ b B sm upto full = some ((bq upto B full b).1, (bq upto B full b).2.1, sm', (bq upto B full b).2.2) ∧ wZ (bq upto B full b).2.1 sm' := by
 obtain ⟨sm', h1, h2, h3⟩ := EF (b := b) (upto := upto) (full := full) hs.find hB (by have := hs.len; omega);have hg := jZ upto B full b;exact ⟨sm', h1, h2, by have := hs.len; omega⟩
theorem BN {v : Vt} {B : List Bk} {V : List Vt} {sm : List (ID × Int)} {hm : List (Vt × Bool)} {upto : Int} {full : Bool} (hs : wZ B sm) (hh : Bq V hm) (hV : V.length ≤ 1000) :
  ∃ hm', wR v V sm hm upto full = some ((br upto B V full v).1, (br upto B V full v).2.1, hm', (br upto B V full v).2.2) ∧ Bq (br upto B V full v).2.1 hm' := by
 obtain ⟨hm', h1, h2, h3⟩ := EG (v := v) (upto := upto) (full := full) hs.find hh.find hV (by have := hh.len; omega);have hg := j1 upto B V full v;exact ⟨hm', h1, h2, by have := hh.len; omega⟩
theorem fP {α : Type} {l : List α} {j : Nat} {y : α} (h : l[j]? = some y) : l.take (j + 1) = l.take j ++ [y] := aY h
theorem EQ {lB l B : List Bk} {kk : Nat} {sm : List (ID × Int)} {upto : Int} {full : Bool} (hl : lB.take kk = l) (hk : l.length = kk) (hs : wZ B sm) (hB : B.length + kk ≤ 900) :
  ∃ i B' sm' f', BY lB kk B sm upto full = some (i, B', sm', f') ∧ wZ B' sm' ∧ ((i = -1 ∧ bp upto B full l = (l, B', f')) ∨ ∃ j : Nat, i = j ∧ j < kk ∧ bp upto B full (l.take (j + 1)) = (l.take j, B', f')) := by
 unfold BY
 have key := cZ (step := lp lB kk upto) (fun x => ∃ j : Nat, j ≤ kk ∧ x.t8 = j ∧ bp upto B full (l.take j) = (l.take j, x.o6, x.o10_5) ∧ wZ x.o6 x.o8) (fun x => kk - x.t8.toNat)
  (fun b => (∃ x, b = .inl x ∧ bp upto B full l = (l, x.o6, x.o10_5) ∧ wZ x.o6 x.o8) ∨ ∃ (j : Nat) (B' : List Bk) (sm' : List (ID × Int)) (f' : Bool), b = .inr ((j : Int), B', sm', f') ∧ j < kk ∧ bp upto B full (l.take (j + 1)) = (l.take j, B', f') ∧ wZ B' sm') (by
   rintro ⟨t, B1, sm1, f1⟩ ⟨j, hj, h1, h2, h3⟩;simp only at h1 h2 h3;subst h1;by_cases hlt : j < kk
   ·obtain ⟨y, hy, -⟩ := aF (l := l) (n := j) (by omega);have hgr := eI (step := bq upto) (jZ upto) (l.take j) B full;have h2' : bh (bq upto) B full (l.take j) = (l.take j, B1, f1) := h2;rw [h2'] at hgr;simp only at hgr;rw [List.length_take] at hgr;obtain ⟨sm', e, hr⟩ := BM (b := y) (upto := upto) (full := f1) h3 (by omega)
    have hsn : bp upto B full (l.take (j + 1)) = (if (bq upto B1 f1 y).1 then l.take j else l.take j ++ [y], (bq upto B1 f1 y).2) := by
     rw [fP hy];unfold bp;rw [gU, h2']
    generalize bq upto B1 f1 y = q at e hr hsn;obtain ⟨g, B2, f2⟩ := q;simp only at e hr hsn
    have hstep : lp lB kk upto ⟨(j : Int), B1, sm1, f1⟩ = bif g then some (.inr (.inr ((j : Int), B2, sm', f2))) else some (.inl ⟨((j + 1 : Nat) : Int), B2, sm', f2⟩) := by
     unfold lp;simp only;rw [decide_eq_true (show (j : Int) < (kk : Int) by omega), ct, hl, aI hy, ob, e, ob, ak (n := j) (by omega)]
    cases g with
    | true =>
     right;rw [ct] at hstep;rw [if_pos rfl] at hsn;exact ⟨_, hstep, .inr ⟨j, B2, sm', f2, rfl, hlt, hsn, hr⟩⟩
    | false =>
     left;rw [cf] at hstep;rw [if_neg (by simp)] at hsn;refine ⟨_, hstep, ⟨j + 1, hlt, rfl, ?_, hr⟩, by simp only; omega⟩;rw [hsn, fP hy]
   ·right
    obtain rfl : j = kk := by omega
    refine ⟨.inl ⟨(j : Int), B1, sm1, f1⟩, ?_, .inl ⟨_, rfl, ?_, h3⟩⟩
    ·unfold lp;simp only;rw [decide_eq_false (show ¬ (j : Int) < (j : Int) by omega), cf]
    ·rw [List.take_of_length_le (by omega)] at h2; exact h2) (n := bG) (x := ⟨0, B, sm, full⟩) ⟨0, by omega, rfl, by simp [bp, bh], hs⟩ (dK (by simp only; omega))
 obtain ⟨b, e, ⟨x, rfl, h1, h2⟩ | ⟨j, B', sm', f', rfl, h0, h1, h2⟩⟩ := key
 ·exact ⟨-1, x.o6, x.o8, x.o10_5, by rw [e, ob, sl], h2, .inl ⟨rfl, h1⟩⟩
 ·exact ⟨j, B', sm', f', by rw [e, ob, sr], h2, .inr ⟨j, rfl, h0, h1⟩⟩
structure rK {α : Type} (lB : List α) (k : Nat) (l : List α) : Prop where
 take : lB.take k = l
 le : k ≤ lB.length
theorem rK.len {α : Type} {lB l : List α} {k : Nat} (h : rK lB k l) : l.length = k := by
 rw [← h.take, List.length_take]; have := h.le; omega
theorem tD {α : Type} {a l : List α} {i kk : Nat} {z : α} (hi : i ≤ kk) (hk : kk ≤ a.length) (h : a.take i = l) : rK (iE a i (kk - i) z) i l := by
 have hlen := qt (l := a) (off := i) (k := kk - i) (z := z) (by omega);refine ⟨?_, by omega⟩;unfold iE;rw [List.append_assoc, List.take_left' (by rw [List.length_take]; omega), h]
structure Mv {α : Type} (l a : List α) (i j : Nat) (left : List α) : Prop where
 ij : i < j
 jl : j ≤ l.length
 len : l.length ≤ a.length
 left : a.take i = left
 rest : ∀ q, j ≤ q → q < l.length → a[q]? = l[q]?
theorem Mv.next_gone {α : Type} {l a : List α} {i j : Nat} {left : List α} (h : Mv l a i j left) (hj : j < l.length) : Mv l a i (j + 1) left :=
 ⟨by have := h.ij; omega, hj, h.len, h.left, fun q h1 h2 => h.rest q (by omega) h2⟩
theorem Mv.next_stay {α : Type} {l a : List α} {i j : Nat} {left : List α} {y : α} (h : Mv l a i j left) (hj : j < l.length) (_ : l[j]? = some y) : Mv l (a.set i y) (i + 1) (j + 1) (left ++ [y]) := by
 have h1 := h.ij;have h2 := h.len;refine ⟨by omega, hj, by rw [List.length_set]; exact h2, ?_, fun q h3 h4 => ?_⟩
 ·have hi : (a.set i y)[i]? = some y := by rw [List.getElem?_set]; simp; omega
  rw [fP hi, List.take_set_of_le (Nat.le_refl _), h.left]
 ·rw [List.getElem?_set, if_neg (by omega)];exact h.rest q (by omega) h4
theorem EH {lB l B : List Bk} {kk : Nat} {sm : List (ID × Int)} {upto : Int} {full : Bool} (hl : rK lB kk l) (hs : wZ B sm) (hB : B.length + kk ≤ 900) :
  ∃ k' lB' sm', BO lB kk B sm upto full = some (k', lB', (bp upto B full l).2.1, sm', (bp upto B full l).2.2) ∧ wZ (bp upto B full l).2.1 sm' ∧ rK lB' k' (bp upto B full l).1 := by
 have hk := hl.len;obtain ⟨i, B0, sm0, f0, e0, hr0, h0⟩ := EQ (upto := upto) (full := full) hl.take hk hs hB;unfold BO;rw [e0, ob];rcases h0 with ⟨rfl, hp⟩ | ⟨j0, rfl, hj0, hp⟩
 ·rw [hp];refine ⟨kk, lB, sm0, ?_, hr0, hl⟩;simp only;rw [show ((-1 : Int) == -1) = true from rfl, ct]
 ·simp only;rw [show ((j0 : Int) == -1) = false by rw [beq_eq_false_iff_ne]; omega, cf, ak (n := j0) (by omega)]
  have key := cZ (step := li kk upto) (fun x => ∃ (i j : Nat), x.i = i ∧ x.j = j ∧ wZ x.o6 x.o8 ∧ (bp upto B full (l.take j)).2 = (x.o6, x.o10_5) ∧ Mv l x.o14 i j (bp upto B full (l.take j)).1) (fun x => kk - x.j.toNat)
   (fun x => ∃ i : Nat, x.i = i ∧ i ≤ kk ∧ wZ x.o6 x.o8 ∧ (bp upto B full l).2 = (x.o6, x.o10_5) ∧ x.o14.take i = (bp upto B full l).1 ∧ kk ≤ x.o14.length) (by
   rintro ⟨i', j', B1, sm1, f1, a⟩ ⟨i, j, h1, h2, h3, h4, h5⟩;simp only at h1 h2 h3 h4 h5;subst h1 h2;have hij := h5.ij;have hjl := h5.jl;have hal := h5.len;by_cases hlt : j < kk
   ·left;obtain ⟨y, hy, -⟩ := aF (l := l) (n := j) (by omega)
    have hya : (a.take kk)[j]? = some y := by rw [List.getElem?_take_of_lt hlt, h5.rest j (Nat.le_refl _) (by omega), hy]
    obtain ⟨z, hz, -⟩ := aF (l := a.take kk) (n := i) (by rw [List.length_take]; omega);have hgr := eI (step := bq upto) (jZ upto) (l.take j) B full;have h4' : (bh (bq upto) B full (l.take j)).2 = (B1, f1) := h4;rw [h4'] at hgr;simp only at hgr;rw [List.length_take] at hgr;obtain ⟨sm', e, hr⟩ := BM (b := y) (upto := upto) (full := f1) h3 (by omega)
    have hsn : bp upto B full (l.take (j + 1)) = (if (bq upto B1 f1 y).1 then (bp upto B full (l.take j)).1 else (bp upto B full (l.take j)).1 ++ [y], (bq upto B1 f1 y).2) := by
     rw [fP hy];unfold bp;rw [gU, h4']
    generalize bq upto B1 f1 y = q at e hr hsn;obtain ⟨g, B2, f2⟩ := q;simp only at e hr hsn
    have hstep : li kk upto ⟨(i : Int), (j : Int), B1, sm1, f1, a⟩ = bif !g then some (.inl ⟨((i + 1 : Nat) : Int), ((j + 1 : Nat) : Int), B2, sm', f2, a.set i y⟩) else some (.inl ⟨(i : Int), ((j + 1 : Nat) : Int), B2, sm', f2, a⟩) := by
     unfold li;simp only;rw [decide_eq_true (show (j : Int) < (kk : Int) by omega), ct, aI hya, ob, e, ob, aI hz, ob, ak (n := j) (by omega), ak (n := i) (by omega), Int.toNat_natCast]
    cases g with
    | true =>
     rw [Bool.not_true, cf] at hstep;rw [if_pos rfl] at hsn;refine ⟨_, hstep, ⟨i, j + 1, rfl, rfl, hr, by rw [hsn], ?_⟩, by simp only; omega⟩;rw [hsn];exact h5.next_gone (by omega)
    | false =>
     rw [Bool.not_false, ct] at hstep;rw [if_neg (by simp)] at hsn;refine ⟨_, hstep, ⟨i + 1, j + 1, rfl, rfl, hr, by rw [hsn], ?_⟩, by simp only; omega⟩;rw [hsn];exact h5.next_stay (by omega) hy
   ·right
    have hjk : j = kk := by omega
    have htl : l.take j = l := List.take_of_length_le (by omega);rw [htl] at h4 h5;refine ⟨⟨(i : Int), (j : Int), B1, sm1, f1, a⟩, ?_, i, rfl, by omega, h3, h4, h5.left, by show kk ≤ a.length; omega⟩;unfold li;simp only
    rw [decide_eq_false (show ¬ (j : Int) < (kk : Int) by omega), cf]) (n := bG) (x := ⟨(j0 : Int), ((j0 + 1 : Nat) : Int), B0, sm0, f0, lB⟩)
   ⟨j0, j0 + 1, rfl, rfl, hr0, by rw [hp], by
    rw [hp];refine ⟨by omega, by omega, by have := hl.le; simp only; omega, ?_, fun q h1 h2 => ?_⟩
    ·show lB.take j0 = l.take j0;rw [← hl.take, List.take_take, Nat.min_eq_left (by omega)]
    ·rw [← hl.take, List.getElem?_take_of_lt (by omega)]⟩ (dK (by simp only; omega))
  obtain ⟨x, ex, i, hi, hik, hr, h1, h2, h3⟩ := key;generalize bp upto B full l = p at h1 h2 ⊢;obtain ⟨pl, pB, pf⟩ := p;simp only at h1 h2 ⊢;rw [ex, ob, hi, decide_eq_true (show 0 ≤ (i : Int) ∧ (i : Int) ≤ (kk : Int) by omega), ct, Int.toNat_natCast, decide_eq_true (show i + (kk - i) ≤ x.o14.length by omega), ct, ct];cases h1;exact ⟨i, iE x.o14 i (kk - i) ⟨0, 0, (0, 0), 0⟩, x.o8, rfl, hr, tD hik h3 h2⟩
theorem EP {lV l V : List Vt} {kk : Nat} {BB : List Bk} {sm0 : List (ID × Int)} {hm : List (Vt × Bool)} {upto : Int} {full : Bool} (hl : lV.take kk = l) (hk : l.length = kk) (hsm : wZ BB sm0) (hs : Bq V hm) (hB : V.length + kk ≤ 900) :
  ∃ i V' hm' f', BW lV kk V sm0 hm upto full = some (i, V', hm', f') ∧ Bq V' hm' ∧ ((i = -1 ∧ bY upto BB V full l = (l, V', f')) ∨ ∃ j : Nat, i = j ∧ j < kk ∧ bY upto BB V full (l.take (j + 1)) = (l.take j, V', f')) := by
 unfold BW
 have key := cZ (step := ln lV kk sm0 upto) (fun x => ∃ j : Nat, j ≤ kk ∧ x.t8 = j ∧ bY upto BB V full (l.take j) = (l.take j, x.o7, x.o10_5) ∧ Bq x.o7 x.o9) (fun x => kk - x.t8.toNat)
  (fun b => (∃ x, b = .inl x ∧ bY upto BB V full l = (l, x.o7, x.o10_5) ∧ Bq x.o7 x.o9) ∨ ∃ (j : Nat) (V' : List Vt) (hm' : List (Vt × Bool)) (f' : Bool), b = .inr ((j : Int), V', hm', f') ∧ j < kk ∧ bY upto BB V full (l.take (j + 1)) = (l.take j, V', f') ∧ Bq V' hm') (by
   rintro ⟨t, V1, hm1, f1⟩ ⟨j, hj, h1, h2, h3⟩;simp only at h1 h2 h3;subst h1;by_cases hlt : j < kk
   ·obtain ⟨y, hy, -⟩ := aF (l := l) (n := j) (by omega);have hgr := eI (step := br upto BB) (j1 upto BB) (l.take j) V full;have h2' : bh (br upto BB) V full (l.take j) = (l.take j, V1, f1) := h2;rw [h2'] at hgr;simp only at hgr;rw [List.length_take] at hgr;obtain ⟨hm', e, hr⟩ := BN (v := y) (upto := upto) (full := f1) hsm h3 (by omega)
    have hsn : bY upto BB V full (l.take (j + 1)) = (if (br upto BB V1 f1 y).1 then l.take j else l.take j ++ [y], (br upto BB V1 f1 y).2) := by
     rw [fP hy];unfold bY;rw [gU, h2']
    generalize br upto BB V1 f1 y = q at e hr hsn;obtain ⟨g, V2, f2⟩ := q;simp only at e hr hsn
    have hstep : ln lV kk sm0 upto ⟨(j : Int), V1, hm1, f1⟩ = bif g then some (.inr (.inr ((j : Int), V2, hm', f2))) else some (.inl ⟨((j + 1 : Nat) : Int), V2, hm', f2⟩) := by
     unfold ln;simp only;rw [decide_eq_true (show (j : Int) < (kk : Int) by omega), ct, hl, aI hy, ob, e, ob, ak (n := j) (by omega)]
    cases g with
    | true =>
     right;rw [ct] at hstep;rw [if_pos rfl] at hsn;exact ⟨_, hstep, .inr ⟨j, V2, hm', f2, rfl, hlt, hsn, hr⟩⟩
    | false =>
     left;rw [cf] at hstep;rw [if_neg (by simp)] at hsn;refine ⟨_, hstep, ⟨j + 1, hlt, rfl, ?_, hr⟩, by simp only; omega⟩;rw [hsn, fP hy]
   ·right
    obtain rfl : j = kk := by omega
    refine ⟨.inl ⟨(j : Int), V1, hm1, f1⟩, ?_, .inl ⟨_, rfl, ?_, h3⟩⟩
    ·unfold ln;simp only;rw [decide_eq_false (show ¬ (j : Int) < (j : Int) by omega), cf]
    ·rw [List.take_of_length_le (by omega)] at h2; exact h2) (n := bG) (x := ⟨0, V, hm, full⟩) ⟨0, by omega, rfl, by simp [bY, bh], hs⟩ (dK (by simp only; omega))
 obtain ⟨b, e, ⟨x, rfl, h1, h2⟩ | ⟨j, V', hm', f', rfl, h0, h1, h2⟩⟩ := key
 ·exact ⟨-1, x.o7, x.o9, x.o10_5, by rw [e, ob, sl], h2, .inl ⟨rfl, h1⟩⟩
 ·exact ⟨j, V', hm', f', by rw [e, ob, sr], h2, .inr ⟨j, rfl, h0, h1⟩⟩
theorem EI {lV l V : List Vt} {kk : Nat} {BB : List Bk} {sm0 : List (ID × Int)} {hm : List (Vt × Bool)} {upto : Int} {full : Bool} (hl : rK lV kk l) (hsm : wZ BB sm0) (hs : Bq V hm) (hB : V.length + kk ≤ 900) :
  ∃ k' lV' hm', BP lV kk V sm0 hm upto full = some (k', lV', (bY upto BB V full l).2.1, hm', (bY upto BB V full l).2.2) ∧ Bq (bY upto BB V full l).2.1 hm' ∧ rK lV' k' (bY upto BB V full l).1 := by
 have hk := hl.len;obtain ⟨i, V0, hm0, f0, e0, hr0, h0⟩ := EP (upto := upto) (full := full) hl.take hk hsm hs hB;unfold BP;rw [e0, ob];rcases h0 with ⟨rfl, hp⟩ | ⟨j0, rfl, hj0, hp⟩
 ·rw [hp];refine ⟨kk, lV, hm0, ?_, hr0, hl⟩;simp only;rw [show ((-1 : Int) == -1) = true from rfl, ct]
 ·simp only;rw [show ((j0 : Int) == -1) = false by rw [beq_eq_false_iff_ne]; omega, cf, ak (n := j0) (by omega)]
  have key := cZ (step := lj kk sm0 upto) (fun x => ∃ (i j : Nat), x.i = i ∧ x.j = j ∧ Bq x.o7 x.o9 ∧ (bY upto BB V full (l.take j)).2 = (x.o7, x.o10_5) ∧ Mv l x.o15 i j (bY upto BB V full (l.take j)).1) (fun x => kk - x.j.toNat)
   (fun x => ∃ i : Nat, x.i = i ∧ i ≤ kk ∧ Bq x.o7 x.o9 ∧ (bY upto BB V full l).2 = (x.o7, x.o10_5) ∧ x.o15.take i = (bY upto BB V full l).1 ∧ kk ≤ x.o15.length) (by
   rintro ⟨i', j', V1, hm1, f1, a⟩ ⟨i, j, h1, h2, h3, h4, h5⟩;simp only at h1 h2 h3 h4 h5;subst h1 h2;have hij := h5.ij;have hjl := h5.jl;have hal := h5.len;by_cases hlt : j < kk
   ·left;obtain ⟨y, hy, -⟩ := aF (l := l) (n := j) (by omega)
    have hya : (a.take kk)[j]? = some y := by rw [List.getElem?_take_of_lt hlt, h5.rest j (Nat.le_refl _) (by omega), hy]
    obtain ⟨z, hz, -⟩ := aF (l := a.take kk) (n := i) (by rw [List.length_take]; omega);have hgr := eI (step := br upto BB) (j1 upto BB) (l.take j) V full;have h4' : (bh (br upto BB) V full (l.take j)).2 = (V1, f1) := h4;rw [h4'] at hgr;simp only at hgr;rw [List.length_take] at hgr;obtain ⟨hm', e, hr⟩ := BN (v := y) (upto := upto) (full := f1) hsm h3 (by omega)
    have hsn : bY upto BB V full (l.take (j + 1)) = (if (br upto BB V1 f1 y).1 then (bY upto BB V full (l.take j)).1 else (bY upto BB V full (l.take j)).1 ++ [y], (br upto BB V1 f1 y).2) := by
     rw [fP hy];unfold bY;rw [gU, h4']
    generalize br upto BB V1 f1 y = q at e hr hsn;obtain ⟨g, V2, f2⟩ := q;simp only at e hr hsn
    have hstep : lj kk sm0 upto ⟨(i : Int), (j : Int), V1, hm1, f1, a⟩ = bif !g then some (.inl ⟨((i + 1 : Nat) : Int), ((j + 1 : Nat) : Int), V2, hm', f2, a.set i y⟩) else some (.inl ⟨(i : Int), ((j + 1 : Nat) : Int), V2, hm', f2, a⟩) := by
     unfold lj;simp only;rw [decide_eq_true (show (j : Int) < (kk : Int) by omega), ct, aI hya, ob, e, ob, aI hz, ob, ak (n := j) (by omega), ak (n := i) (by omega), Int.toNat_natCast]
    cases g with
    | true =>
     rw [Bool.not_true, cf] at hstep;rw [if_pos rfl] at hsn;refine ⟨_, hstep, ⟨i, j + 1, rfl, rfl, hr, by rw [hsn], ?_⟩, by simp only; omega⟩;rw [hsn];exact h5.next_gone (by omega)
    | false =>
     rw [Bool.not_false, ct] at hstep;rw [if_neg (by simp)] at hsn;refine ⟨_, hstep, ⟨i + 1, j + 1, rfl, rfl, hr, by rw [hsn], ?_⟩, by simp only; omega⟩;rw [hsn];exact h5.next_stay (by omega) hy
   ·right
    have hjk : j = kk := by omega
    have htl : l.take j = l := List.take_of_length_le (by omega);rw [htl] at h4 h5;refine ⟨⟨(i : Int), (j : Int), V1, hm1, f1, a⟩, ?_, i, rfl, by omega, h3, h4, h5.left, by show kk ≤ a.length; omega⟩;unfold lj;simp only
    rw [decide_eq_false (show ¬ (j : Int) < (kk : Int) by omega), cf]) (n := bG) (x := ⟨(j0 : Int), ((j0 + 1 : Nat) : Int), V0, hm0, f0, lV⟩)
   ⟨j0, j0 + 1, rfl, rfl, hr0, by rw [hp], by
    rw [hp];refine ⟨by omega, by omega, by have := hl.le; simp only; omega, ?_, fun q h1 h2 => ?_⟩
    ·show lV.take j0 = l.take j0;rw [← hl.take, List.take_take, Nat.min_eq_left (by omega)]
    ·rw [← hl.take, List.getElem?_take_of_lt (by omega)]⟩ (dK (by simp only; omega))
  obtain ⟨x, ex, i, hi, hik, hr, h1, h2, h3⟩ := key;generalize bY upto BB V full l = p at h1 h2 ⊢;obtain ⟨pl, pV, pf⟩ := p;simp only at h1 h2 ⊢;rw [ex, ob, hi, decide_eq_true (show 0 ≤ (i : Int) ∧ (i : Int) ≤ (kk : Int) by omega), ct, Int.toNat_natCast, decide_eq_true (show i + (kk - i) ≤ x.o15.length by omega), ct, ct];cases h1;exact ⟨i, iE x.o15 i (kk - i) ⟨0, 0, (0, 0)⟩, x.o9, rfl, hr, tD hik h3 h2⟩
structure rI where
 B : List Bk
 V : List Vt
 full : Bool
 lB : List Bk
 lV : List Vt
def c9 (upto : Int) (s : rI) : rI :=
 ⟨(bp upto s.B s.full s.lB).2.1, (bY upto (bp upto s.B s.full s.lB).2.1 s.V (bp upto s.B s.full s.lB).2.2 s.lV).2.1, (bY upto (bp upto s.B s.full s.lB).2.1 s.V (bp upto s.B s.full s.lB).2.2 s.lV).2.2,
  (bp upto s.B s.full s.lB).1, (bY upto (bp upto s.B s.full s.lB).2.1 s.V (bp upto s.B s.full s.lB).2.2 s.lV).1⟩
def da (s : rI) : Nat := s.B.length + s.V.length
def rq (upto : Int) : Nat → rI → rI
 | 0, s => s
 | n + 1, s => if da (c9 upto s) = da s then c9 upto s else rq upto n (c9 upto s)
def l5 (upto : Int) (s : rI) : rI := rq upto 1000 s
open Classical in
noncomputable def aC (c : Cf) (w inp : Vw) (slot : Int) : Vw × Vw × Bool :=
 if ei c w then (⟨(l5 slot ⟨w.B, w.V, false, (a7 c inp).B, (a7 c inp).V⟩).B, (l5 slot ⟨w.B, w.V, false, (a7 c inp).B, (a7 c inp).V⟩).V⟩, ⟨(l5 slot ⟨w.B, w.V, false, (a7 c inp).B, (a7 c inp).V⟩).lB, (l5 slot ⟨w.B, w.V, false, (a7 c inp).B, (a7 c inp).V⟩).lV⟩, (l5 slot ⟨w.B, w.V, false, (a7 c inp).B, (a7 c inp).V⟩).full)
 else (w, inp, false)
def nQ (s : rI) : Prop := s.B.length ≤ 60 ∧ s.V.length ≤ 240
theorem xL {upto : Int} {B : List Bk} {f : Bool} {b : Bk} (h : B.length ≤ 60) : (bq upto B f b).2.1.length ≤ 60 := by
 unfold bq; split <;> (try split) <;> (try split) <;> simp <;> omega
theorem xM {upto : Int} {B : List Bk} {V : List Vt} {f : Bool} {v : Vt} (h : V.length ≤ 240) : (br upto B V f v).2.1.length ≤ 240 := by
 unfold br; split <;> (try split) <;> (try split) <;> simp <;> omega
theorem oA {α : Type} {step : List α → Bool → α → Bool × List α × Bool} {Q : List α → Prop} (h : ∀ B f b, Q B → Q (step B f b).2.1) : ∀ (l B : List α) (f : Bool), Q B → Q (bh step B f l).2.1
 | [], B, f, hB => by simpa only [bh] using hB
 | x :: r, B, f, hB => by
  have := oA h r (step B f x).2.1 (step B f x).2.2 (h B f x hB);simpa only [bh] using this
theorem xz {upto : Int} {l B : List Bk} {f : Bool} (h : B.length ≤ 60) : (bp upto B f l).2.1.length ≤ 60 := oA (step := bq upto) (Q := fun B => B.length ≤ 60) (fun _ _ _ h => xL h) l B f h
theorem xA {upto : Int} {BB : List Bk} {l V : List Vt} {f : Bool} (h : V.length ≤ 240) : (bY upto BB V f l).2.1.length ≤ 240 := oA (step := br upto BB) (Q := fun V => V.length ≤ 240) (fun _ _ _ h => xM h) l V f h
theorem tY {upto : Int} {s : rI} (h : nQ s) : nQ (c9 upto s) := ⟨xz h.1, xA h.2⟩
theorem wu (upto : Int) (s : rI) : (c9 upto s).lB.length ≤ s.lB.length ∧ (c9 upto s).lV.length ≤ s.lV.length := ⟨oB _ _ _, oB _ _ _⟩
theorem kZ (upto : Int) (s : rI) : s.B.length ≤ (c9 upto s).B.length ∧ s.V.length ≤ (c9 upto s).V.length :=
 ⟨(eI (jZ upto) _ _ _).1, (eI (j1 upto _) _ _ _).1⟩
structure At (s : rI) (x : fj) : Prop where
 o6 : x.o6 = s.B
 o7 : x.o7 = s.V
 full : x.x_5 = s.full
 sm : wZ s.B x.o8
 hm : Bq s.V x.o9
 lB : rK x.o14 x.left_0 s.lB
 lV : rK x.o15 x.left_1 s.lV
theorem Aj {upto : Int} {s : rI} {x : fj} (h : At s x) (hb : nQ s) (hl1 : s.lB.length ≤ 800) (hl2 : s.lV.length ≤ 600) (hn : x.n ≠ (da s : Int)) : ∃ y, l9 upto x = some (.inl y) ∧ At (c9 upto s) y ∧ y.n = (da s : Int) := by
 obtain ⟨n, o6, o7, o8, o9, f, o14, o15, k0, k1⟩ := x;obtain ⟨e6, e7, ef, hsm, hhm, hlB, hlV⟩ := h;simp only at e6 e7 ef hsm hhm hlB hlV hn;subst e6 e7 ef;have hb1 := hb.1;have hb2 := hb.2;obtain ⟨k', lB', sm', e1, r1, p1⟩ := EH (upto := upto) (full := s.full) hlB hsm (by have := hlB.len; omega);unfold c9;generalize bp upto s.B s.full s.lB = p at e1 r1 p1 ⊢;obtain ⟨pl, pB, pf⟩ := p;simp only at e1 r1 p1 ⊢;obtain ⟨k2, lV', hm', e2, r2, p2⟩ := EI (upto := upto) (full := pf) hlV r1 hhm (by have := hlV.len; omega);generalize bY upto pB s.V pf s.lV = q at e2 r2 p2 ⊢;obtain ⟨ql, qV, qf⟩ := q;simp only at e2 r2 p2 ⊢
 have hw : IntKind.i64.wrap ((s.B.length : Int) + (s.V.length : Int)) = (da s : Int) := by
  unfold da; rw [cA (by omega) (by omega)]; omega
 refine ⟨fj.mk (da s : Int) pB qV sm' hm' qf lB' lV' k' k2, ?_, ⟨rfl, rfl, rfl, r1, r2, p1, p2⟩, rfl⟩;unfold l9;simp only;rw [hw, show (n != (da s : Int)) = true by rw [bne_iff_ne]; exact hn, ct, e1, ob];simp only;rw [e2, ob]
theorem uR {upto : Int} : ∀ (m : Nat) (s : rI) (x : fj) (q : Nat), At s x → nQ s → s.lB.length ≤ 800 → s.lV.length ≤ 600 → x.n ≠ (da s : Int) → 300 < m + da s → m < q →
  ∃ y, iter (l9 upto) (q + 1) x = some y ∧ At (rq upto m s) y
 | 0, s, x, q, _, hb, _, _, _, hm, _ => by
  have h1 := hb.1;have h2 := hb.2;unfold da at hm;omega
 | m + 1, s, x, q, h, hb, hl1, hl2, hn, hm, hq => by
  obtain ⟨y, e, hr, hy⟩ := Aj h hb hl1 hl2 hn;have hg := kZ upto s;have hlen := wu upto s;have hb' := tY (upto := upto) hb;obtain ⟨q, rfl⟩ : ∃ p, q = p + 1 := ⟨q - 1, by omega⟩;rw [lI e];unfold rq;by_cases hs : da (c9 upto s) = da s
  ·rw [if_pos hs];refine ⟨y, ep ?_, hr⟩
   have hw : IntKind.i64.wrap ((y.o6.length : Int) + (y.o7.length : Int)) = (da s : Int) := by
    rw [hr.o6, hr.o7, ← hs];have h1 := hb'.1;have h2 := hb'.2;unfold da; rw [cA (by omega) (by omega)]; omega
   unfold l9;rw [hw, hy, show (((da s : Nat) : Int) != (da s : Int)) = false by simp, cf, ← hy]
  ·rw [if_neg hs];exact uR m (c9 upto s) y q hr hb' (by omega) (by omega) (by rw [hy]; omega) (by unfold da at *; omega) (by omega)
open Classical in
theorem GO {c : Cf} {w inp : Vw} {slot : Int} (h1 : w.B.length ≤ 1000) (h2 : w.V.length ≤ 1000) (h3 : inp.B.length ≤ 800) (h4 : inp.V.length ≤ 600) : Iv c w inp slot = some (aC c w inp slot) := by
 unfold Iv aC;rw [ya (by omega) (by omega), ob, GN h1 h2, ob];by_cases hm : ei c w
 ·rw [decide_eq_true hm, Bool.not_true, cf, if_pos hm, EU (by omega) (by omega), ob];simp only;have hfB : (a7 c inp).B.length ≤ inp.B.length := List.length_filter_le _ _;have hfV : (a7 c inp).V.length ≤ inp.V.length := List.length_filter_le _ _
  have hr : At ⟨w.B, w.V, false, (a7 c inp).B, (a7 c inp).V⟩ (fj.mk (-1) w.B w.V (mF w.B) (kr w.V) false (a7 c inp).B (a7 c inp).V ((a7 c inp).B.map ay).length ((a7 c inp).V.map aJ).length) :=
   ⟨rfl, rfl, rfl, ⟨sX hm.valid, DW w.B⟩, ⟨sD w.V, (vM w.V).1⟩, ⟨by simp, by simp⟩, ⟨by simp, by simp⟩⟩
  have hbel : nQ ⟨w.B, w.V, false, (a7 c inp).B, (a7 c inp).V⟩ := ⟨hm.lenB, hm.lenV⟩;generalize a7 c inp = o at *;obtain ⟨y, e, hy⟩ := uR (upto := slot) 1000 _ _ 4611686018427387903 hr hbel (by simp only; omega) (by simp only; omega) (by simp only; omega) (by omega) (by omega);have e' : iter (l9 slot) bG (fj.mk (-1) w.B w.V (mF w.B) (kr w.V) false o.B o.V (o.B.map ay).length (o.V.map aJ).length) = some y := e;rw [e', ob];change At (l5 slot _) y at hy;generalize l5 slot ⟨w.B, w.V, false, o.B, o.V⟩ = s at hy ⊢;rw [Nat.ble_eq_true_of_le hy.lB.le, ct, Nat.ble_eq_true_of_le hy.lV.le, ct, hy.o6, hy.o7, hy.full, hy.lB.take, hy.lV.take]
 ·rw [decide_eq_false hm, Bool.not_false, ct, if_neg hm, aO (by omega) (by omega), ct, aO (by omega) (by omega), ct]
theorem qP {B : List Bk} {b : Bk} (h : cx B b = true) (t : List Bk) : cx (B ++ t) b = true := by
 unfold cx at h ⊢;rw [Bool.or_eq_true] at h ⊢;rcases h with h | h
 ·left;obtain ⟨s, hs⟩ := Option.isSome_iff_exists.1 h;rw [hY hs]; rfl
 ·right
  cases hp : aX B b.Parent with
  | none => rw [hp] at h; cases h
  | some s => rw [hp] at h; rw [hY hp]; exact h
theorem mn {B : List Bk} {V : List Vt} {v : Vt} (h : cL B V v = true) (t : List Bk) (u : List Vt) : cL (B ++ t) (V ++ u) v = true := by
 unfold cL at h ⊢;rw [Bool.or_eq_true] at h ⊢;rcases h with h | h
 ·left;exact decide_eq_true (List.mem_append_left _ (of_decide_eq_true h))
 ·right
  cases hp : aX B v.Head with
  | none => rw [hp] at h; cases h
  | some s => rw [hp] at h; rw [hY hp]; exact h
theorem xh {B : List Bk} {b : Bk} (h : b ∈ B) : cx B b = true := by
 obtain ⟨s, hs⟩ := ri h;unfold cx; rw [hs]; rfl
theorem xi {B : List Bk} {V : List Vt} {v : Vt} (h : v ∈ V) : cL B V v = true := by
 unfold cL; rw [decide_eq_true h]; rfl
theorem mH (upto : Int) (B : List Bk) (f : Bool) (b : Bk) :
  (cx B b = true ∧ bq upto B f b = (true, B, f)) ∨ (cx B b = false ∧ eR B upto b = true ∧ bq upto B f b = (false, B, f)) ∨
  (cx B b = false ∧ eR B upto b = false ∧ B.length < 60 ∧ bq upto B f b = (true, B ++ [b], f)) ∨ (cx B b = false ∧ eR B upto b = false ∧ 60 ≤ B.length ∧ bq upto B f b = (false, B, true)) := by
 unfold bq
 cases h1 : cx B b with
 | true => exact .inl ⟨rfl, by rw [if_pos rfl]⟩
 | false =>
  right;rw [if_neg (by simp)]
  cases h2 : eR B upto b with
  | true => exact .inl ⟨rfl, rfl, by rw [if_pos rfl]⟩
  | false =>
   right;rw [if_neg (by simp)];by_cases h3 : B.length < 60
   ·exact .inl ⟨rfl, rfl, h3, by rw [if_pos h3]⟩
   ·exact .inr ⟨rfl, rfl, by omega, by rw [if_neg h3]⟩
theorem mI (upto : Int) (B : List Bk) (V : List Vt) (f : Bool) (v : Vt) :
  (cL B V v = true ∧ br upto B V f v = (true, V, f)) ∨ (cL B V v = false ∧ fg B upto v = true ∧ br upto B V f v = (false, V, f)) ∨
  (cL B V v = false ∧ fg B upto v = false ∧ V.length < 240 ∧ br upto B V f v = (true, V ++ [v], f)) ∨ (cL B V v = false ∧ fg B upto v = false ∧ 240 ≤ V.length ∧ br upto B V f v = (false, V, true)) := by
 unfold br
 cases h1 : cL B V v with
 | true => exact .inl ⟨rfl, by rw [if_pos rfl]⟩
 | false =>
  right;rw [if_neg (by simp)]
  cases h2 : fg B upto v with
  | true => exact .inl ⟨rfl, rfl, by rw [if_pos rfl]⟩
  | false =>
   right;rw [if_neg (by simp)];by_cases h3 : V.length < 240
   ·exact .inl ⟨rfl, rfl, h3, by rw [if_pos h3]⟩
   ·exact .inr ⟨rfl, rfl, by omega, by rw [if_neg h3]⟩
section
variable {α : Type} {step : List α → Bool → α → Bool × List α × Bool}
theorem jm {Q : List α → Bool → Prop} : ∀ {l B : List α} {f : Bool}, (∀ B f b, b ∈ l → Q B f → Q (step B f b).2.1 (step B f b).2.2) → Q B f → Q (bh step B f l).2.1 (bh step B f l).2.2
 | [], B, f, _, hB => by simpa only [bh] using hB
 | x :: r, B, f, h, hB => by
  have := jm (l := r) (fun B f b hb => h B f b (.tail _ hb)) (h B f x (.head _) hB);simpa only [bh] using this
theorem oC : ∀ (l B : List α) (f : Bool), (bh step B f l).1.Sublist l
 | [], B, f => by simp [bh]
 | x :: r, B, f => by
  have := oC r (step B f x).2.1 (step B f x).2.2;simp only [bh];split
  ·exact this.cons x
  ·exact this.cons_cons x
theorem mC {G : List α → α → Prop} (hs : ∀ B f b, (step B f b).1 = true → G (step B f b).2.1 b) (hm : ∀ B f b c, G B c → G (step B f b).2.1 c) : ∀ (l B : List α) (f : Bool) (b : α), b ∈ l → b ∈ (bh step B f l).1 ∨ G (bh step B f l).2.1 b
 | x :: r, B, f, b, hb => by
  have hkeep : ∀ (r B : List α) (f : Bool) (c : α), G B c → G (bh step B f r).2.1 c := fun r B f c hc => jm (Q := fun B _ => G B c) (fun B f b _ hB => hm B f b c hB) hc;simp only [bh];rcases List.mem_cons.1 hb with e | hb
  ·subst e
   cases h : (step B f b).1 with
   | true => exact .inr (hkeep _ _ _ _ (hs B f b h))
   | false => left; rw [if_neg (by simp)]; exact .head _
  ·rcases mC hs hm r (step B f x).2.1 (step B f x).2.2 b hb with h | h
   ·left;split
    ·exact h
    ·exact .tail _ h
   ·exact .inr h
end
section
variable {α : Type} {g w : List α → α → Bool} {cap : Nat}
def f9 (g w : List α → α → Bool) (cap : Nat) (B : List α) (f : Bool) (b : α) : Bool × List α × Bool :=
 if g B b then (true, B, f) else if w B b then (false, B, f) else if B.length < cap then (true, B ++ [b], f) else (false, B, true)
def mJ (g w : List α → α → Bool) (B : List α) (f : Bool) (l : List α) : List α × List α × Bool := (l.filter fun b => !g B b, B, f || l.any fun b => !g B b && !w B b)
theorem rp : ∀ {l B : List α} {f : Bool}, (∀ b ∈ l, g B b = false → w B b = false → cap ≤ B.length) → bh (f9 g w cap) B f l = mJ g w B f l
 | [], B, f, _ => by simp [bh, mJ]
 | x :: r, B, f, h => by
  have ih := fun f => rp (l := r) (f := f) (B := B) fun b hb => h b (.tail _ hb);unfold mJ at ih ⊢;simp only [bh]
  cases h1 : g B x with
  | true =>
   have e : f9 g w cap B f x = (true, B, f) := by unfold f9; rw [h1, if_pos rfl]
   rw [e];simp [ih, h1]
  | false =>
   cases h2 : w B x with
   | true =>
    have e : f9 g w cap B f x = (false, B, f) := by unfold f9; rw [h1, if_neg (by simp), h2, if_pos rfl]
    rw [e];simp [ih, h1, h2]
   | false =>
    have e : f9 g w cap B f x = (false, B, true) := by
     unfold f9; rw [h1, if_neg (by simp), h2, if_neg (by simp), if_neg];have := h x (.head _) h1 h2;omega
    rw [e];simp [ih, h1, h2]
theorem s0 (B : List α) (f : Bool) (b : α) : ∃ t, (f9 g w cap B f b).2.1 = B ++ t := by
 unfold f9;split
 ·exact ⟨[], by simp⟩
 ·split
  ·exact ⟨[], by simp⟩
  ·split
   ·exact ⟨[b], rfl⟩
   ·exact ⟨[], by simp⟩
theorem AZ (l B : List α) (f : Bool) : ∃ u, (bh (f9 g w cap) B f l).2.1 = B ++ u :=
 jm (Q := fun C _ => ∃ u, C = B ++ u) (fun C f b _ ⟨u, hu⟩ => by
  obtain ⟨t, ht⟩ := s0 (g := g) (w := w) (cap := cap) C f b
  exact ⟨u ++ t, by rw [ht, hu, List.append_assoc]⟩) ⟨[], by simp⟩
theorem rn : ∀ {l B : List α} {f : Bool}, (bh (f9 g w cap) B f l).2.1.length = B.length → ∀ b ∈ l, g B b = false → w B b = false → cap ≤ B.length
 | x :: r, B, f, h, b, hb, h1, h2 => by
  simp only [bh] at h;obtain ⟨t, ht⟩ := s0 (g := g) (w := w) (cap := cap) B f x;obtain ⟨u, hu⟩ := AZ (g := g) (w := w) (cap := cap) r (f9 g w cap B f x).2.1 (f9 g w cap B f x).2.2
  have hB : (f9 g w cap B f x).2.1 = B := by
   rw [hu, ht, List.length_append, List.length_append] at h;have : t = [] := List.length_eq_zero_iff.1 (by omega);rw [ht, this, List.append_nil]
  rcases List.mem_cons.1 hb with e | hb
  ·subst e;refine Classical.byContradiction fun hc => ?_
   have e : f9 g w cap B f b = (true, B ++ [b], f) := by
    unfold f9; rw [h1, if_neg (by simp), h2, if_neg (by simp), if_pos (by omega)]
   rw [e] at hB;have := congrArg List.length hB;simp at this
  ·rw [hB] at h;exact rn h b hb h1 h2
end
structure rJ (w o : Vw) (upto : Int) (s : rI) : Prop where
 preB : ∃ t, s.B = w.B ++ t ∧ ∀ b ∈ t, b ∈ o.B ∧ b.Slot ≤ upto
 preV : ∃ t, s.V = w.V ++ t ∧ ∀ v ∈ t, v ∈ o.V ∧ v.Slot ≤ upto
 valid : aK s.B
 nodup : s.V.Nodup
 forB : ∀ v ∈ s.V, forB s.B v
 below : nQ s
 subB : s.lB.Sublist o.B
 subV : s.lV.Sublist o.V
 allB : ∀ b ∈ o.B, b ∈ s.lB ∨ cx s.B b = true
 allV : ∀ v ∈ o.V, v ∈ s.lV ∨ cL s.B s.V v = true
theorem xS {B : List Bk} {upto : Int} {b : Bk} (h1 : cx B b = false) (h2 : eR B upto b = false) : (∃ s, aX B b.Parent = some s ∧ s < b.Slot) ∧ aX B (nm b) = none ∧ b.Slot ≤ upto := by
 unfold cx at h1;unfold eR at h2;rw [Bool.or_eq_false_iff] at h1
 have hn : aX B (nm b) = none := by
  cases h : aX B (nm b) with
  | none => rfl
  | some s => rw [h] at h1; cases h1.1
 cases hp : aX B b.Parent with
 | none => rw [hp] at h2; cases h2
 | some s =>
  rw [hp] at h1 h2;have a1 := of_decide_eq_false h1.2;have a2 := of_decide_eq_false h2;exact ⟨⟨s, rfl, by omega⟩, hn, by omega⟩
theorem wH {B : List Bk} {V : List Vt} {upto : Int} {v : Vt} (h1 : cL B V v = false) (h2 : fg B upto v = false) : forB B v ∧ v ∉ V ∧ v.Slot ≤ upto := by
 unfold cL at h1;unfold fg at h2;rw [Bool.or_eq_false_iff] at h1;have hn := of_decide_eq_false h1.1
 cases hp : aX B v.Head with
 | none => rw [hp] at h2; cases h2
 | some s =>
  rw [hp] at h1 h2;have a1 := of_decide_eq_false h1.2;have a2 := of_decide_eq_false h2;exact ⟨⟨s, hp, by omega⟩, hn, by omega⟩
theorem AG {B : List Bk} {v : Vt} (h : forB B v) (t : List Bk) : forB (B ++ t) v := by
 obtain ⟨s, h1, h2⟩ := h;exact ⟨s, hY h1 t, h2⟩
theorem AX {w o : Vw} {upto : Int} {s : rI} (h : rJ w o upto s) : rJ w o upto ⟨(bp upto s.B s.full s.lB).2.1, s.V, (bp upto s.B s.full s.lB).2.2, (bp upto s.B s.full s.lB).1, s.lV⟩ := by
 have key : ∃ u, (bp upto s.B s.full s.lB).2.1 = s.B ++ u ∧ (∀ b ∈ u, b ∈ o.B ∧ b.Slot ≤ upto) ∧ aK (s.B ++ u) ∧ (s.B ++ u).length ≤ 60 := by
  have := jm (step := bq upto) (l := s.lB) (B := s.B) (f := s.full) (Q := fun C _ => ∃ u, C = s.B ++ u ∧ (∀ b ∈ u, b ∈ o.B ∧ b.Slot ≤ upto) ∧ aK (s.B ++ u) ∧ (s.B ++ u).length ≤ 60)
   (fun C f b hb ⟨u, hu, h1, h2, h3⟩ => by
    subst hu;rcases mH upto (s.B ++ u) f b with ⟨-, e⟩ | ⟨-, -, e⟩ | ⟨a1, a2, a3, e⟩ | ⟨-, -, -, e⟩
    ·rw [e]; exact ⟨u, rfl, h1, h2, h3⟩
    ·rw [e]; exact ⟨u, rfl, h1, h2, h3⟩
    ·rw [e];obtain ⟨k1, k2, k3⟩ := xS a1 a2;refine ⟨u ++ [b], by simp, fun c hc => ?_, ?_, ?_⟩
     ·rcases List.mem_append.1 hc with hc | hc
      ·exact h1 c hc
      ·rw [List.mem_singleton] at hc; subst hc;exact ⟨h.subB.subset hb, k3⟩
     ·rw [← List.append_assoc]; exact j3.2 ⟨h2, k1, k2⟩
     ·rw [← List.append_assoc, List.length_append, List.length_singleton]; omega
    ·rw [e]; exact ⟨u, rfl, h1, h2, h3⟩)
   ⟨[], by simp, by simp, by simpa using h.valid, by simpa using h.below.1⟩
  exact this
 obtain ⟨u, hu, h1, h2, h3⟩ := key
 have hgone : ∀ b ∈ s.lB, b ∈ (bp upto s.B s.full s.lB).1 ∨ cx (bp upto s.B s.full s.lB).2.1 b = true :=
  mC (step := bq upto) (G := fun B b => cx B b = true) (fun B f b hb => by
   rcases mH upto B f b with ⟨a, e⟩ | ⟨-, -, e⟩ | ⟨-, -, -, e⟩ | ⟨-, -, -, e⟩ <;> rw [e] at hb ⊢
   ·exact a
   ·cases hb
   ·exact xh (by simp)
   ·cases hb) (fun B f b c hc => by
   rcases mH upto B f b with ⟨a, e⟩ | ⟨-, -, e⟩ | ⟨-, -, -, e⟩ | ⟨-, -, -, e⟩ <;> rw [e]
   ·exact hc
   ·exact hc
   ·exact qP hc _
   ·exact hc) s.lB s.B s.full
 obtain ⟨t, ht, ht2⟩ := h.preB
 refine ⟨⟨t ++ u, by simp only; rw [hu, ht, List.append_assoc], fun b hb => (List.mem_append.1 hb).elim (ht2 b) (h1 b)⟩, h.preV, by simp only [hu]; exact h2, h.nodup, fun v hv => ?_, ⟨by simp only [hu]; exact h3, h.below.2⟩,
  (oC s.lB s.B s.full).trans h.subB, h.subV, fun b hb => ?_, fun v hv => ?_⟩
 ·simp only [hu]; exact AG (h.forB v hv) u
 ·rcases h.allB b hb with h5 | h5
  ·exact hgone b h5
  ·right; simp only [hu]; exact qP h5 u
 ·rcases h.allV v hv with h5 | h5
  ·exact .inl h5
  ·right;simp only [hu];have := mn h5 u []
   rwa [List.append_nil] at this
theorem AY {w o : Vw} {upto : Int} {s : rI} (h : rJ w o upto s) : rJ w o upto ⟨s.B, (bY upto s.B s.V s.full s.lV).2.1, (bY upto s.B s.V s.full s.lV).2.2, s.lB, (bY upto s.B s.V s.full s.lV).1⟩ := by
 have key : ∃ u, (bY upto s.B s.V s.full s.lV).2.1 = s.V ++ u ∧ (∀ v ∈ u, v ∈ o.V ∧ v.Slot ≤ upto) ∧ (s.V ++ u).Nodup ∧ (∀ v ∈ s.V ++ u, Go.Mg.forB s.B v) ∧ (s.V ++ u).length ≤ 240 := by
  have := jm (step := br upto s.B) (l := s.lV) (B := s.V) (f := s.full) (Q := fun C _ => ∃ u, C = s.V ++ u ∧ (∀ v ∈ u, v ∈ o.V ∧ v.Slot ≤ upto) ∧ (s.V ++ u).Nodup ∧ (∀ v ∈ s.V ++ u, Go.Mg.forB s.B v) ∧ (s.V ++ u).length ≤ 240)
   (fun C f v hv ⟨u, hu, h1, h2, h4, h3⟩ => by
    subst hu;rcases mI upto s.B (s.V ++ u) f v with ⟨-, e⟩ | ⟨-, -, e⟩ | ⟨a1, a2, a3, e⟩ | ⟨-, -, -, e⟩
    ·rw [e]; exact ⟨u, rfl, h1, h2, h4, h3⟩
    ·rw [e]; exact ⟨u, rfl, h1, h2, h4, h3⟩
    ·rw [e];obtain ⟨k1, k2, k3⟩ := wH a1 a2;refine ⟨u ++ [v], by simp, fun c hc => ?_, ?_, fun c hc => ?_, ?_⟩
     ·rcases List.mem_append.1 hc with hc | hc
      ·exact h1 c hc
      ·rw [List.mem_singleton] at hc; subst hc;exact ⟨h.subV.subset hv, k3⟩
     ·rw [← List.append_assoc, List.nodup_append];exact ⟨h2, by simp, fun a ha b hb => by rw [List.mem_singleton] at hb; subst hb; exact fun q => k2 (q ▸ ha)⟩
     ·rw [← List.append_assoc] at hc;rcases List.mem_append.1 hc with hc | hc
      ·exact h4 c hc
      ·rw [List.mem_singleton] at hc; subst hc; exact k1
     ·rw [← List.append_assoc, List.length_append, List.length_singleton]; omega
    ·rw [e]; exact ⟨u, rfl, h1, h2, h4, h3⟩)
   ⟨[], by simp, by simp, by simpa using h.nodup, by simpa using h.forB, by simpa using h.below.2⟩
  exact this
 obtain ⟨u, hu, h1, h2, h4, h3⟩ := key
 have hgone : ∀ v ∈ s.lV, v ∈ (bY upto s.B s.V s.full s.lV).1 ∨ cL s.B (bY upto s.B s.V s.full s.lV).2.1 v = true :=
  mC (step := br upto s.B) (G := fun V v => cL s.B V v = true) (fun V f v hb => by
   rcases mI upto s.B V f v with ⟨a, e⟩ | ⟨-, -, e⟩ | ⟨-, -, -, e⟩ | ⟨-, -, -, e⟩ <;> rw [e] at hb ⊢
   ·exact a
   ·cases hb
   ·exact xi (by simp)
   ·cases hb) (fun V f v c hc => by
   rcases mI upto s.B V f v with ⟨a, e⟩ | ⟨-, -, e⟩ | ⟨-, -, -, e⟩ | ⟨-, -, -, e⟩ <;> rw [e]
   ·exact hc
   ·exact hc
   ·have := mn hc [] [v]; rwa [List.append_nil] at this
   ·exact hc) s.lV s.V s.full
 obtain ⟨t, ht, ht2⟩ := h.preV
 refine ⟨h.preB, ⟨t ++ u, by simp only; rw [hu, ht, List.append_assoc], fun b hb => (List.mem_append.1 hb).elim (ht2 b) (h1 b)⟩, h.valid, by simp only [hu]; exact h2, fun v hv => ?_, ⟨h.below.1, by simp only [hu]; exact h3⟩,
  h.subB, (oC s.lV s.V s.full).trans h.subV, h.allB, fun v hv => ?_⟩
 ·simp only [hu] at hv; exact h4 v hv
 ·rcases h.allV v hv with h5 | h5
  ·exact hgone v h5
  ·right;simp only [hu];have := mn h5 [] u
   rwa [List.append_nil] at this
theorem xG {w o : Vw} {upto : Int} {s : rI} (h : rJ w o upto s) : rJ w o upto (c9 upto s) := AY (AX h)
structure GG (upto : Int) (s : rI) : Prop where
 B : ∀ b ∈ s.lB, cx s.B b = false ∧ (eR s.B upto b = true ∨ 60 ≤ s.B.length ∧ s.full = true)
 V : ∀ v ∈ s.lV, cL s.B s.V v = false ∧ (fg s.B upto v = true ∨ 240 ≤ s.V.length ∧ s.full = true)
theorem xF {upto : Int} {s : rI} (h : da (c9 upto s) = da s) : GG upto (c9 upto s) := by
 have hg := kZ upto s
 have hB : (bp upto s.B s.full s.lB).2.1.length = s.B.length := by unfold da at h; have : (c9 upto s).B = (bp upto s.B s.full s.lB).2.1 := rfl; rw [← this]; omega
 have h1 : ∀ b ∈ s.lB, cx s.B b = false → eR s.B upto b = false → 60 ≤ s.B.length := rn (g := cx) (w := fun B b => eR B upto b) (cap := 60) (f := s.full) hB;have e1 : bp upto s.B s.full s.lB = mJ cx (fun B b => eR B upto b) s.B s.full s.lB := rp h1
 have hV : (bY upto s.B s.V (bp upto s.B s.full s.lB).2.2 s.lV).2.1.length = s.V.length := by
  have : (c9 upto s).V = (bY upto (bp upto s.B s.full s.lB).2.1 s.V (bp upto s.B s.full s.lB).2.2 s.lV).2.1 := rfl
  have e2 : (bp upto s.B s.full s.lB).2.1 = s.B := by rw [e1]; rfl
  rw [e2] at this;rw [← this];unfold da at h; omega
 have h2 : ∀ v ∈ s.lV, cL s.B s.V v = false → fg s.B upto v = false → 240 ≤ s.V.length := rn (g := cL s.B) (w := fun _ v => fg s.B upto v) (cap := 240) (f := (bp upto s.B s.full s.lB).2.2) hV;unfold c9;rw [e1];unfold mJ;simp only;have e2 : bY upto s.B s.V (s.full || s.lB.any fun b => !cx s.B b && !eR s.B upto b) s.lV = mJ (cL s.B) (fun _ v => fg s.B upto v) s.V (s.full || s.lB.any fun b => !cx s.B b && !eR s.B upto b) s.lV := rp h2;rw [e2];unfold mJ;refine ⟨fun b hb => ?_, fun v hv => ?_⟩
 ·simp only [List.mem_filter, Bool.not_eq_true'] at hb;refine ⟨hb.2, ?_⟩
  cases hw : eR s.B upto b with
  | true => exact .inl rfl
  | false =>
   right;refine ⟨h1 b hb.1 hb.2 hw, ?_⟩;simp only [Bool.or_eq_true];exact .inl (.inr (List.any_eq_true.2 ⟨b, hb.1, by simp [hb.2, hw]⟩))
 ·simp only [List.mem_filter, Bool.not_eq_true'] at hv;refine ⟨hv.2, ?_⟩
  cases hw : fg s.B upto v with
  | true => exact .inl rfl
  | false =>
   right;refine ⟨h2 v hv.1 hv.2 hw, ?_⟩;simp only [Bool.or_eq_true];exact .inr (List.any_eq_true.2 ⟨v, hv.1, by simp [hv.2, hw]⟩)
theorem tb {w o : Vw} {upto : Int} : ∀ (m : Nat) (s : rI), rJ w o upto s → 300 < m + da s → rJ w o upto (rq upto m s) ∧ GG upto (rq upto m s)
 | 0, s, h, hm => by
  have h1 := h.below.1;have h2 := h.below.2;unfold da at hm;omega
 | m + 1, s, h, hm => by
  have hr := xG h;have hg := kZ upto s;unfold rq;by_cases hs : da (c9 upto s) = da s
  ·rw [if_pos hs]; exact ⟨hr, xF hs⟩
  ·rw [if_neg hs];exact tb m (c9 upto s) hr (by unfold da at *; omega)
theorem AN {c : Cf} {w o : Vw} {upto : Int} (h : ei c w) : rJ w o upto ⟨w.B, w.V, false, o.B, o.V⟩ :=
 ⟨⟨[], by simp, by simp⟩, ⟨[], by simp, by simp⟩, h.valid, h.nodup, h.forB, ⟨h.lenB, h.lenV⟩, List.Sublist.refl _, List.Sublist.refl _, fun _ h => .inl h, fun _ h => .inl h⟩
theorem D0 {c : Cf} {w o : Vw} {upto : Int} (h : ei c w) : rJ w o upto (l5 upto ⟨w.B, w.V, false, o.B, o.V⟩) ∧ GG upto (l5 upto ⟨w.B, w.V, false, o.B, o.V⟩) :=
 tb 1000 _ (AN h) (by omega)
structure GX (c : Cf) (w inp : Vw) (upto : Int) (r : Vw × Vw × Bool) : Prop where
 may : ei c r.1
 preB : ∃ t, r.1.B = w.B ++ t ∧ ∀ b ∈ t, b ∈ (a7 c inp).B ∧ b.Slot ≤ upto
 preV : ∃ t, r.1.V = w.V ++ t ∧ ∀ v ∈ t, v ∈ (a7 c inp).V ∧ v.Slot ≤ upto
 subB : r.2.1.B.Sublist (a7 c inp).B
 subV : r.2.1.V.Sublist (a7 c inp).V
 allB : ∀ b ∈ (a7 c inp).B, b ∈ r.2.1.B ∨ cx r.1.B b = true
 allV : ∀ v ∈ (a7 c inp).V, v ∈ r.2.1.V ∨ cL r.1.B r.1.V v = true
 endB : ∀ b ∈ r.2.1.B, cx r.1.B b = false ∧ (eR r.1.B upto b = true ∨ 60 ≤ r.1.B.length ∧ r.2.2 = true)
 endV : ∀ v ∈ r.2.1.V, cL r.1.B r.1.V v = false ∧ (fg r.1.B upto v = true ∨ 240 ≤ r.1.V.length ∧ r.2.2 = true)
theorem rR {c : Cf} {w : Vw} (h : ei c w) (inp : Vw) (upto : Int) : GX c w inp upto (aC c w inp upto) := by
 unfold aC;rw [if_pos h];have hmB : ∀ b ∈ (a7 c inp).B, mayB c b = true := fun b hb => (List.mem_filter.1 hb).2;have hmV : ∀ v ∈ (a7 c inp).V, mayV c v = true := fun b hb => (List.mem_filter.1 hb).2;have := D0 (o := a7 c inp) (upto := upto) h;obtain ⟨hi, he⟩ := this;generalize l5 upto ⟨w.B, w.V, false, (a7 c inp).B, (a7 c inp).V⟩ = s at hi he ⊢;obtain ⟨t, ht, ht2⟩ := hi.preB;obtain ⟨u, hu, hu2⟩ := hi.preV;refine ⟨⟨h.conf, hi.valid, hi.below.1, hi.below.2, fun b hb => ?_, fun v hv => ?_, hi.nodup, hi.forB⟩, ⟨t, ht, ht2⟩, ⟨u, hu, hu2⟩, hi.subB, hi.subV, hi.allB, hi.allV, he.B, he.V⟩
 ·simp only [ht] at hb;rcases List.mem_append.1 hb with hb | hb
  ·exact h.mayB b hb
  ·exact hmB b (ht2 b hb).1
 ·simp only [hu] at hv;rcases List.mem_append.1 hv with hv | hv
  ·exact h.mayV v hv
  ·exact hmV v (hu2 v hv).1
open Go.Proofs
open Go.Proofs
theorem DN (c : Cf) (w : Vw) : (a7 c w).B.length ≤ w.B.length ∧ (a7 c w).V.length ≤ w.V.length := ⟨List.length_filter_le _ _, List.length_filter_le _ _⟩
open Go.Proofs
open Go.Proofs
theorem D4 {c : Cf} {w inp : Vw} {upto : Int} {r : Vw × Vw × Bool} (h : GX c w inp upto r) : w.B.length ≤ r.1.B.length ∧ w.V.length ≤ r.1.V.length ∧ r.2.1.B.length ≤ inp.B.length ∧ r.2.1.V.length ≤ inp.V.length := by
 obtain ⟨t, ht, -⟩ := h.preB;obtain ⟨u, hu, -⟩ := h.preV;exact ⟨by rw [ht]; simp, by rw [hu]; simp, (h.subB.trans List.filter_sublist).length_le, (h.subV.trans List.filter_sublist).length_le⟩
theorem Bh {c : Cf} {w inp : Vw} {upto : Int} {r : Vw × Vw × Bool} (h : GX c w inp upto r) : r.1.B.take w.B.length = w.B ∧ r.1.V.take w.V.length = w.V := by
 obtain ⟨t, ht, -⟩ := h.preB;obtain ⟨u, hu, -⟩ := h.preV;rw [ht, hu];exact ⟨List.take_left' rfl, List.take_left' rfl⟩
theorem dW {α : Type} [DecidableEq α] : ∀ {l L : List α}, l.Nodup → (∀ x ∈ l, x ∈ L) → l.length ≤ L.length
 | [], _, _, _ => Nat.zero_le _
 | x :: r, L, h, hs => by
  rw [List.nodup_cons] at h;have hx := hs x (.head _);have h1 := dW (L := L.erase x) h.2 fun y hy => (List.mem_erase_of_ne (show y ≠ x from fun e => h.1 (by rw [← e]; exact hy))).2 (hs y (.tail _ hy));have h2 := List.length_erase_of_mem hx;have h3 := List.length_pos_of_mem hx;simp only [List.length_cons]; omega
theorem oO {B : List Bk} (h : aK B) {id : ID} {s : Int} : aX B id = some s ↔ (id = (0, 0) ∧ s = 0) ∨ ∃ b ∈ B, nm b = id ∧ b.Slot = s := by
 constructor
 ·intro h1;rcases oP h1 with h2 | ⟨-, h2⟩
  ·exact .inl h2
  ·exact .inr h2
 ·rintro (⟨h1, h2⟩ | ⟨b, h1, h2, h3⟩)
  ·subst h1 h2; unfold aX; rw [if_pos rfl]
  ·rw [← h2, ← h3]; exact rz h h1
theorem sU {B C : List Bk} (h : aK B) (h2 : aK C) (hs : ∀ b ∈ B, b ∈ C) {id : ID} {s : Int} (hq : aX B id = some s) : aX C id = some s := by
 rw [oO h] at hq;rw [oO h2];rcases hq with hq | ⟨b, h1, h3⟩
 ·exact .inl hq
 ·exact .inr ⟨b, hs b h1, h3⟩
inductive CB (base o : List Bk) (upto : Int) : Bk → Prop
 | base {b : Bk} : b ∈ base → CB base o upto b
 | root {b : Bk} : b ∈ o → b.Slot ≤ upto → b.Parent = (0, 0) → 0 < b.Slot → CB base o upto b
 | step {b p : Bk} : b ∈ o → b.Slot ≤ upto → CB base o upto p → nm p = b.Parent → p.Slot < b.Slot → CB base o upto b
theorem CB.mono {base base' o o' : List Bk} {upto upto' : Int} (h1 : ∀ b ∈ base, CB base' o' upto' b) (h2 : ∀ b ∈ o, b ∈ o') (h3 : upto ≤ upto') {b : Bk} (h : CB base o upto b) : CB base' o' upto' b := by
 induction h with
 | base h => exact h1 _ h
 | root a1 a2 a3 a4 => exact .root (h2 _ a1) (Int.le_trans a2 h3) a3 a4
 | step a1 a2 _ a4 a5 ih => exact .step (h2 _ a1) (Int.le_trans a2 h3) ih a4 a5
structure Rm (U : Vw) : Prop where
 inj : ∀ a ∈ U.B, ∀ b ∈ U.B, nm a = nm b → a = b
 B : U.B.length < 60
 V : U.V.length < 240
theorem BE {l : List Int} (hl : l.length ≤ 100000) (v : Int) : uA l v = some (decide (v ∈ l)) := by
 have e := eP (step := iM l v) (n := l.length) (fun k => d9.mk (k : Int)) (ff l v) (fun j hj => by
  obtain ⟨y, hy, -⟩ := aF hj;unfold iM ff;simp only;rw [decide_eq_true (show (j : Int) < (l.length : Int) by omega), ct, aI hy, ob, ak (n := j) (by omega), hy];by_cases h : v = y
  ·rw [beq_iff_eq.2 h, ct, if_pos (by rw [h])]
  ·rw [beq_eq_false_iff_ne.2 h, cf, if_neg (fun e => h (Option.some.inj e).symm)]) (by
  unfold iM;simp only
  rw [decide_eq_false (show ¬ (l.length : Int) < (l.length : Int) by omega), cf]) (by omega)
 unfold uA x5;rw [← kN];have e' : iter (iM l v) bG (d9.mk 0) = some (lT (d9.mk (l.length : Int)) (cv (ff l v) 0 l.length)) := e;rw [e', ob]
 cases h : cv (ff l v) 0 l.length with
 | none => rw [lT, sl, ob]; rfl
 | some r => rw [lT, sr, ob, decide_eq_true (qQ h)]; rfl
def vN (cm : List Int) (v : Vt) : Bool := decide (v.From ∈ cm)
theorem uz {cm : List Int} (hl : cm.length ≤ 100000) (v : Vt) : rZ cm v = some (!vN cm v) := by
 unfold rZ;rw [BE hl, ob];rfl
theorem BX {l : List Vt} {cm : List Int} (hc : cm.length ≤ 100000) (hl : l.length ≤ 100000) :
  ∃ i, uG l l.length cm = some i ∧ ((i = -1 ∧ l.filter (vN cm) = l) ∨ ∃ j : Nat, i = j ∧ j < l.length ∧ (l.take (j + 1)).filter (vN cm) = l.take j) := by
 unfold uG
 have key := cZ (step := iO l l.length cm) (fun x => ∃ j : Nat, j ≤ l.length ∧ x.t8 = j ∧ (l.take j).filter (vN cm) = l.take j) (fun x => l.length - x.t8.toNat)
  (fun b => (∃ x, b = .inl x ∧ l.filter (vN cm) = l) ∨ ∃ j : Nat, b = .inr (j : Int) ∧ j < l.length ∧ (l.take (j + 1)).filter (vN cm) = l.take j) (by
   rintro ⟨t⟩ ⟨j, hj, h1, h2⟩;simp only at h1 h2;subst h1;by_cases hlt : j < l.length
   ·obtain ⟨y, hy, -⟩ := aF hlt;have hsn := bP (p := vN cm) hy
    have hstep : iO l l.length cm ⟨(j : Int)⟩ = bif !vN cm y then some (.inr (.inr (j : Int))) else some (.inl ⟨((j + 1 : Nat) : Int)⟩) := by
     unfold iO;simp only;rw [decide_eq_true (show (j : Int) < (l.length : Int) by omega), ct, List.take_length, aI hy, ob, uz hc, ob, ak (n := j) (by omega)]
    rw [h2] at hsn
    cases hp : vN cm y with
    | true =>
     rw [hp, Bool.not_true, cf] at hstep;rw [hp, ct] at hsn;exact .inl ⟨_, hstep, ⟨j + 1, by omega, rfl, by rw [hsn, fP hy]⟩, by simp only; omega⟩
    | false =>
     rw [hp, Bool.not_false, ct] at hstep;rw [hp, cf, List.append_nil] at hsn;exact .inr ⟨_, hstep, .inr ⟨j, rfl, hlt, hsn⟩⟩
   ·right
    obtain rfl : j = l.length := by omega
    refine ⟨.inl ⟨(l.length : Int)⟩, ?_, .inl ⟨_, rfl, ?_⟩⟩
    ·unfold iO;simp only;rw [decide_eq_false (show ¬ (l.length : Int) < (l.length : Int) by omega), cf]
    ·rw [List.take_length] at h2; exact h2) (n := bG) (x := ⟨0⟩) ⟨0, by omega, rfl, by simp⟩ (dK (by simp only; omega))
 obtain ⟨b, e, ⟨x, rfl, h1⟩ | ⟨j, rfl, h0, h1⟩⟩ := key
 ·exact ⟨-1, by rw [e, ob, sl], .inl ⟨rfl, h1⟩⟩
 ·exact ⟨j, by rw [e, ob, sr], .inr ⟨j, rfl, h0, h1⟩⟩
theorem BQ {l : List Vt} {cm : List Int} (hc : cm.length ≤ 100000) (hl : l.length ≤ 100000) : ∃ k' l', uD l l.length cm = some (k', l') ∧ rK l' k' (l.filter (vN cm)) := by
 obtain ⟨i, e0, h0⟩ := BX hc hl;unfold uD;rw [e0, ob];rcases h0 with ⟨rfl, hp⟩ | ⟨j0, rfl, hj0, hp⟩
 ·rw [hp, show ((-1 : Int) == -1) = true from rfl, ct];exact ⟨_, _, rfl, List.take_length, Nat.le_refl _⟩
 ·rw [show ((j0 : Int) == -1) = false by rw [beq_eq_false_iff_ne]; omega, cf, ak (n := j0) (by omega)]
  have key := cZ (step := iN l.length cm) (fun x => ∃ (i j : Nat), x.i = i ∧ x.j = j ∧ Mv l x.o1 i j ((l.take j).filter (vN cm))) (fun x => l.length - x.j.toNat)
   (fun x => ∃ i : Nat, x.i = i ∧ i ≤ l.length ∧ x.o1.take i = l.filter (vN cm) ∧ l.length ≤ x.o1.length) (by
   rintro ⟨i', j', a⟩ ⟨i, j, h1, h2, h5⟩;simp only at h1 h2 h5;subst h1 h2;have hij := h5.ij;have hjl := h5.jl;have hal := h5.len;by_cases hlt : j < l.length
   ·left;obtain ⟨y, hy, -⟩ := aF hlt
    have hya : (a.take l.length)[j]? = some y := by rw [List.getElem?_take_of_lt hlt, h5.rest j (Nat.le_refl _) (by omega), hy]
    obtain ⟨z, hz, -⟩ := aF (l := a.take l.length) (n := i) (by rw [List.length_take]; omega);have hsn := bP (p := vN cm) hy
    have hstep : iN l.length cm ⟨(i : Int), (j : Int), a⟩ = bif vN cm y then some (.inl ⟨((i + 1 : Nat) : Int), ((j + 1 : Nat) : Int), a.set i y⟩) else some (.inl ⟨(i : Int), ((j + 1 : Nat) : Int), a⟩) := by
     unfold iN;simp only;rw [decide_eq_true (show (j : Int) < (l.length : Int) by omega), ct, aI hya, ob, uz hc, ob, aI hz, ob, ak (n := j) (by omega), ak (n := i) (by omega), Int.toNat_natCast, Bool.not_not]
    cases hp : vN cm y with
    | false =>
     rw [hp, cf] at hstep;rw [hp, cf, List.append_nil] at hsn;refine ⟨_, hstep, ⟨i, j + 1, rfl, rfl, ?_⟩, by simp only; omega⟩;rw [hsn];exact h5.next_gone (by omega)
    | true =>
     rw [hp, ct] at hstep;rw [hp, ct] at hsn;refine ⟨_, hstep, ⟨i + 1, j + 1, rfl, rfl, ?_⟩, by simp only; omega⟩;rw [hsn];exact h5.next_stay (by omega) hy
   ·right
    have hjk : j = l.length := by omega
    have htl : l.take j = l := List.take_of_length_le (by omega);rw [htl] at h5;refine ⟨⟨(i : Int), (j : Int), a⟩, ?_, i, rfl, by omega, h5.left, by show l.length ≤ a.length; omega⟩;unfold iN;simp only
    rw [decide_eq_false (show ¬ (j : Int) < (l.length : Int) by omega), cf]) (n := bG) (x := ⟨(j0 : Int), ((j0 + 1 : Nat) : Int), l⟩)
   ⟨j0, j0 + 1, rfl, rfl, by
    rw [hp]
    exact ⟨by omega, by omega, Nat.le_refl _, rfl, fun q h1 h2 => rfl⟩⟩ (dK (by simp only; omega))
  obtain ⟨x, ex, i, hi, hik, h2, h3⟩ := key;rw [ex, ob, hi, decide_eq_true (show 0 ≤ (i : Int) ∧ (i : Int) ≤ (l.length : Int) by omega), ct, Int.toNat_natCast, decide_eq_true (show i + (l.length - i) ≤ x.o1.length by omega), ct, ct];exact ⟨_, _, rfl, tD hik h3 h2⟩
def bH (c : Cf) (v : List Vt) (slot : Int) : List Vt := (FC v slot).filter (vN (fS c slot))
theorem DL (v : List Vt) (slot : Int) : (FC v slot).length ≤ v.length := by
 unfold FC;rw [(bS _).length_eq];exact Nat.le_trans (List.length_filterMap_le _ _) (n8 v).2
theorem vJ (c : Cf) (v : List Vt) (slot : Int) : (bH c v slot).length ≤ v.length := Nat.le_trans (List.length_filter_le _ _) (DL v slot)
theorem uy {v : List Vt} (hv : v.length ≤ 90000) (c : Cf) (slot : Int) : rY c v slot = some (bH c v slot) := by
 have hl := DL v slot;have hc := tE c slot;obtain ⟨k', l', e, hp⟩ := BQ (l := FC v slot) (cm := fS c slot) (by omega) (by omega);unfold rY E0;rw [show Nat.ble v.length 90000 = true from Nat.ble_eq_true_of_le hv, ct, ob, tp, ob, List.length_map, e, ob];simp only;rw [show Nat.ble k' l'.length = true from Nat.ble_eq_true_of_le hp.le, ct, hp.take];rfl
theorem pU {w : Vw} (h1 : w.B.length ≤ 1000) (h2 : w.V.length ≤ 1000) (c : Cf) (slot : Int) : iL c w slot = some (bW c w.B (bH c w.V slot)) := by
 have hg := vJ c w.V slot;unfold iL;rw [uy (by omega), ob, GK h1 (by omega), ob]
def DV (t : Int) : Int := bif ((IntKind.i64.wrap (t - 1)).tmod 3) != 2 then IntKind.i64.wrap ((IntKind.i64.wrap ((IntKind.i64.wrap (t - 1)).tdiv 3)) - 1) else IntKind.i64.wrap ((IntKind.i64.wrap (t - 1)).tdiv 3)
def jk (c : Cf) (n : Nd) : ID := bW c n.V.B (bH c n.V.V (DV n.Tick))
theorem qR {l : List Bk} {v : List Vt} (c : Cf) {m : List (ID × Int)} (hp : places l = some m) : ∀ (n : Nat) (id : ID) (i : Int), af m id = some i → (l.length : Int) - i ≤ n → (∃ j, af m (lZ c l v n id) = some j) ∧ bR l (lZ c l v n id) = []
 | 0, id, i, hi, hn => by
  rcases (aH hp).known _ _ hi with ⟨h, -⟩ | ⟨b, p, h0, h1, -⟩ <;> omega
 | n + 1, id, i, hi, hn => by
  unfold lZ;rcases kH c l v id with ⟨hk, e⟩ | ⟨k, hk, e⟩
  ·have : ¬ (eK c l v id).n ≥ 0 := by rw [e]; simp
   rw [if_neg this];exact ⟨⟨i, hi⟩, hk⟩
  ·have hpos : (eK c l v id).n ≥ 0 := by rw [e]; exact y8 c l v k
   rw [if_pos hpos, e];obtain ⟨j, hj, h1, h2⟩ := Ds hp hi hk;exact qR c hp n k j hj (by omega)
theorem qS {l : List Bk} {v : List Vt} (c : Cf) (hl : aK l) : am l (bW c l v) ≠ [] ∧ bR l (bW c l v) = [] := by
 unfold aK at hl
 cases hp : places l with
 | none => rw [hp] at hl; cases hl
 | some m =>
  obtain ⟨⟨j, hj⟩, h2⟩ := qR (v := v) c hp (l.length + 1) (0, 0) (-1) (aH hp).zero (by omega);refine ⟨?_, h2⟩;unfold bW am;rw [hp];simp only;rw [hj];simp only
  cases (j + 1).toNat with
  | zero => simp [bJ]
  | succ n =>
   unfold bJ;split
   ·simp
   ·split
    ·simp
    ·split
     ·simp
     ·split <;> simp
open Go.Proofs
def ux (x : Int) (y : Int) : Option (Int × Int) :=
 some (IntKind.u64.wrap ((IntKind.u64.wrap ((IntKind.u64.wrap ((x.fdiv (2 ^ (min (Int.toNat 32) IntKind.u64.bits))) * (y.fdiv (2 ^ (min (Int.toNat 32) IntKind.u64.bits))))) + ((IntKind.u64.wrap ((IntKind.u64.wrap ((x.fdiv (2 ^ (min (Int.toNat 32) IntKind.u64.bits))) * (bits .and .u64 y 4294967295))) + ((IntKind.u64.wrap ((bits .and .u64 x 4294967295) * (bits .and .u64 y 4294967295))).fdiv (2 ^ (min (Int.toNat 32) IntKind.u64.bits))))).fdiv (2 ^ (min (Int.toNat 32) IntKind.u64.bits))))) + ((IntKind.u64.wrap ((bits .and .u64 (IntKind.u64.wrap ((IntKind.u64.wrap ((x.fdiv (2 ^ (min (Int.toNat 32) IntKind.u64.bits))) * (bits .and .u64 y 4294967295))) + ((IntKind.u64.wrap ((bits .and .u64 x 4294967295) * (bits .and .u64 y 4294967295))).fdiv (2 ^ (min (Int.toNat 32) IntKind.u64.bits))))) 4294967295) + (IntKind.u64.wrap ((bits .and .u64 x 4294967295) * (y.fdiv (2 ^ (min (Int.toNat 32) IntKind.u64.bits))))))).fdiv (2 ^ (min (Int.toNat 32) IntKind.u64.bits)))), IntKind.u64.wrap (x * y))
theorem Zz {x : Int} {y : Int} {r_ : Int × Int} (hr : ux x y = some r_) : aw Tryz.prog 158 [.int .u64 x, .int .u64 y] [.int .u64 r_.1, .int .u64 r_.2] := by
 refine zh Tryz.func158 Z Z Z Z ?_;unfold ux at hr;refine zQ (zR (zM Z (zM Z (zN (zT (zQ (zR (zM Z (yS Z (ax Z Z Z Z) (zM Z (zN (zT (zQ (zR (zM Z (yS Z (ab.shr Z Z Z (by decide)) (zM Z (zN (zT (zQ (zR (zM Z (yS Z (ax Z Z Z Z) ?_)))))))))))))))))))))));refine zM Z (zN (zT (zQ (zR (zM Z (yS Z (ab.shr Z Z Z (by decide)) (zM Z (zN (zT (zQ (zR (zM Z (zM Z (yS Z (ax Z Z Z Z) (zM Z (zN (zT (zQ (zR (zM Z (zM Z (yS Z (ax Z Z Z Z) (zM Z ?_)))))))))))))))))))))));refine yS Z (ab.shr Z Z Z (by decide)) (yS Z (ax Z Z Z Z) (zM Z (zN (zT (zQ (zR (zM Z (yS Z (ax Z Z Z Z) (zM Z (zN (zT (zQ (zR (zM Z (yS Z (ab.shr Z Z Z (by decide)) (zM Z (zN (zT (zQ (zR (zM Z (zM Z (zM Z ?_)))))))))))))))))))))));refine yS Z (ax Z Z Z Z) (yS Z (ax Z Z Z Z) (zM Z (zN (zT (zQ (zR (zM Z (zM Z (yS Z (ax Z Z Z Z) (zM Z (yS Z (ax Z Z Z Z) (zM Z (yS Z (ab.shr Z Z Z (by decide)) (yS Z (ax Z Z Z Z) (zM Z (zN (zT (zQ (zR (zM Z (zM Z (yS Z (ax Z Z Z Z) (zM Z ?_)))))))))))))))))))))));refine zN (zT (zr ?_));obtain rfl := zJ hr;exact zf (.two (.tmp Z) (.tmp Z)) (⟨_, rfl, (.cons zv (.cons zv .nil))⟩)
def uu (a : Int) (b : Int) : Option ID :=
 (ux (IntKind.u64.wrap (a)) (IntKind.u64.wrap (b))).bind fun v1 =>
 some v1
theorem F1 {a : Int} {b : Int} {r_ : ID} (hr : uu a b = some r_) : aw Tryz.prog 116 [.int .i64 a, .int .i64 b] [ci r_] := by
 refine zh Tryz.func116 Z Z Z Z ?_;unfold uu at hr;refine zQ (zR (yS Z (ze Z xV Z Z) (zN (zT (zQ (zR (zM Z (yS Z (ab.convert (k' := .u64) Z Z (by kernel_rfl)) (zM Z (yS Z (ab.convert (k' := .u64) Z Z (by kernel_rfl)) (zb hr fun v1 h_v1 hr => yS Z (zC Z Z Z (by kernel_rfl) (zp (Zz h_v1) (.cons zv (.cons zv .nil)))) (zM Z (yS Z (fd Z Z Z) (yS Z (fd Z Z Z) (zM Z (zM Z (zN (zT (zQ (zR (zM Z (zM Z ?_))))))))))))))))))))));refine yS Z (ab.build Z G2 Z Z Z) (yS Z (zs Z Z Z Z rB Z Z Z Z) (zN (zT (zr ?_))));obtain rfl := zJ hr;exact zf (.one (.cellAgg Z Z (by kernel_rfl) Z)) zv
def uw (n : Int) : Option Bool :=
 bif decide (n ≥ 0) then
  some (decide (n ≤ 4611686018427387904))
 else
  some false
theorem IN {n : Int} {r_ : Bool} (hr : uw n = some r_) : aw Tryz.prog 157 [.int .i64 n] [.bool r_] := by
 refine zh Tryz.func157 Z Z Z Z ?_;unfold uw at hr;refine zQ (zR (zM Z (zN (zT (zQ (zR (zM Z (yS Z (ax Z Z Z Z) (zM Z ?_)))))))));refine zc 5 Z (fun g1 => ?_) (fun g1 => ?_)
 ·
  refine zi g1 hr fun hr => yV Z (gd g1 Z) (zm Z Z) (yV Z (gd g1 Z) (ax Z Z Z Z) (yS Z (eF Z (bM g1 Z) Z) (zM Z (zN (zT (zr ?_))))));obtain rfl := zJ hr;exact zf (.one (.tmp Z)) zv
 ·
  refine zo g1 hr fun hr => yU Z (gd g1 Z) Z (yU Z (gd g1 Z) Z (yS Z (df Z (bM g1 Z) Z) (zM Z (zN (zT (zr ?_))))));obtain rfl := zJ hr;exact zf (.one (.tmp Z)) zv
def xZ (n : Int) : Option Bool :=
 (uw n).bind fun v1 =>
 some (!v1)
theorem IM {n : Int} {r_ : Bool} (hr : xZ n = some r_) : aw Tryz.prog 156 [.int .i64 n] [.bool r_] := by
 refine zh Tryz.func156 Z Z Z Z ?_;unfold xZ at hr;refine zQ (zR (zM Z (zN (zT (zQ (zR (zM Z (zb hr fun v1 h_v1 hr => yS Z (zC Z Z Z (by kernel_rfl) (zp (IN h_v1) (.cons zv .nil))) (yS Z (ab.not Z Z) (zM Z (zN (zT (zr ?_)))))))))))));obtain rfl := zJ hr;exact zf (.one (.tmp Z)) zv
structure fx where
 t8 : Int
def lv (s : List Int) (x1 : fx) : Option (fx ⊕ (fx ⊕ Int)) :=
 bif decide (x1.t8 < (s.length : Int)) then
  (ix s x1.t8).bind fun y1 =>
  (xZ y1).bind fun v2 =>
  bif v2 then
   some (.inr (.inr x1.t8))
  else
   some (.inl (fx.mk (IntKind.i64.wrap (x1.t8 + 1))))
 else
  some (.inr (.inl (fx.mk x1.t8)))
def EW (s : List Int) : Option Int :=
 (iter (lv s) bG (fx.mk 0)).bind fun b_v1 => Sum.elim (fun _ =>
  some (-1)) some b_v1
theorem JE {s : List Int} {r_ : Int} (hr : EW s = some r_) : LC Tryz.prog 173 [(kI s), .fn 156 [] []] [] (Is (iQ r_) []) := by
 refine dp Tryz.func173 Z Z Z ?_;unfold EW at hr;refine zQ (zR (zM Z (zN (zT (zQ (zQ (zR (zM Z (yS Z (d7 Z Z (by kernel_rfl)) (zM Z (zN (zT ?_))))))))))));obtain ⟨b_v1, hb_v1, ho_v1⟩ := zB hr;clear hr;refine LW.tailB (b := b_v1) (E := fun v1 => [(4, (iQ 0))]) (O := fun v1 => []) ?_ (fun v1 e_v1 env_v1 H_v1 hw_v1 => ?_)
 ·refine LW.block ?_;refine LW.iterB (E := fun x1 : fx => [(0, (kI s)), (1, .fn 156 [] []), (4, (iQ 0)), (7, .p (.int .i64 (s.length : Int))), (8, (iQ x1.t8))]) (O := fun x1 => []) hb_v1 (zW 0 ⟨rfl, rfl, rfl, rfl, rfl, trivial⟩ Z Z Z Z) (fun x1 z_x1 hr hb_x1 => ?_);unfold lv at hr;refine zQ (zR (yS Z (ax Z Z Z Z) (zN (zT (zQ ?_)))));refine zX Z (fun g1 => ?_) (fun g1 => ?_)
  ·
   refine zi g1 hr fun hr => zk (zT (zQ (zl (zQ (zR (zM Z (zM Z (zN (zT (zQ (zR (zM Z (zM Z (zM Z (zb hr fun y1 h_y1 hr => yS Z (zx Z Z Z fX h_y1 Z) (yS Z (d6 Z Z Z bC Z Z) (zb hr fun v2 h_v2 hr => yS Z (zC Z Z Z (by kernel_rfl) (zp (IM h_v2) (.cons zv .nil))) (zN (zT ?_)))))))))))))))))));refine zX Z (fun g2 => ?_) (fun g2 => ?_)
   ·
    refine zi g2 hr fun hr => zQ (zR (zM Z (zM Z (zN (zT (zr (aA (aj (aj (aA (aj (aj ?_))))))))))));obtain rfl := zJ hr;have hr := congrArg some (hb_x1 _ rfl);obtain rfl := zJ hr;have hr := ey ho_v1;obtain rfl := zJ hr;exact aq (.one (.tmp Z)) (⟨rfl, rfl⟩)
   ·
    refine zo g2 hr fun hr => zk (ai (zT (zR (yS Z (ax Z Z Z Z) (zM Z (zN (zT ?_)))))));obtain rfl := zJ hr;exact ⟨_, rfl, zW 0 ⟨rfl, rfl, rfl, rfl, rfl, trivial⟩ Z Z Z rfl⟩
  ·
   refine zo g1 hr fun hr => zq (ap (ap (zy (zT ?_))));obtain rfl := zJ hr;have hr := congrArg some (hb_x1 _ rfl);obtain rfl := zJ hr;exact ⟨_, rfl, zW 0 ⟨rfl, trivial⟩ Z Z Z rfl⟩
 ·obtain rfl := e_v1;have hr := ga ho_v1;clear hb_v1;refine zT (LW.weak hw_v1 (zQ (zR (zM Z (zN (zT (zr ?_)))))));obtain rfl := zJ hr;exact aq (.one (.tmp Z)) (⟨rfl, rfl⟩)
def KT (s : List Int) : Option Bool :=
 (EW s).bind fun v1 =>
 some (decide (v1 ≥ 0))
theorem LD {s : List Int} {r_ : Bool} (hr : KT s = some r_) : LC Tryz.prog 155 [(kI s), .fn 156 [] []] [] (Is (bQ r_) []) := by
 refine dp Tryz.func155 Z Z Z ?_;unfold KT at hr;refine zQ (zR (zM Z (zN (zT (zQ (zR (zM Z (zM Z (zb hr fun v1 h_v1 hr => yS Z (zC Z Z Z (by kernel_rfl) (JE h_v1)) (yS Z (ax Z Z Z Z) (zM Z (zN (zT (zr ?_))))))))))))));obtain rfl := zJ hr;exact aq (.one (.tmp Z)) (⟨rfl, rfl⟩)
def ut (l : List Int) : Option Bool :=
 (KT l).bind fun v1 =>
 some (!v1)
theorem IK {l : List Int} {r_ : Bool} (hr : ut l = some r_) : aw Tryz.prog 115 [.slice 1 (l.map aG)] [.bool r_] := by
 refine zh Tryz.func115 Z Z Z Z ?_;unfold ut at hr;refine zQ (zR (zM Z (zN (zT (zQ (zR (zM Z (zb hr fun v1 h_v1 hr => yS Z (zC Z Z Z (by kernel_rfl) (LD h_v1)) (yS Z (ab.not Z Z) (zM Z (zN (zT (zr ?_)))))))))))));obtain rfl := zJ hr;exact zf (.one (.tmp Z)) zv
def rV (a : Int) (b : Int) (c : Int) (d : Int) : Option Bool :=
 (ut [a, b, c, d]).bind fun v1 =>
 bif !v1 then
  some false
 else
  (uu a b).bind fun v2 =>
  (uu c d).bind fun v3 =>
  bif !((v2.1 == v3.1) && ((v2.2 == v3.2) && true)) then
   (Ad [v2.1, v2.2] [v3.1, v3.2]).bind fun v4 =>
   some (decide (v4 > 0))
  else
   some false
theorem FZ {a : Int} {b : Int} {c : Int} {d : Int} {r_ : Bool} (hr : rV a b c d = some r_) : aw Tryz.prog 62 [.int .i64 a, .int .i64 b, .int .i64 c, .int .i64 d] [.bool r_] := by
 refine zh Tryz.func62 Z Z Z Z ?_;unfold rV at hr;refine zQ (zR (zM Z (zN (zT (zQ (zQ (zR (zM Z (zM Z (zM Z (zM Z (yS Z (mS Z fX Z Z Z Z Z) (zb hr fun v1 h_v1 hr => yS Z (zC Z Z Z (by kernel_rfl) (zp (IK h_v1) (.cons zv .nil))) (yS Z (ab.not Z Z) (zN (zT ?_))))))))))))))));refine zX Z (fun g1 => ?_) (fun g1 => ?_)
 ·
  refine zi g1 hr fun hr => zQ (zR (zM Z (zN (zT (zr (aj ?_))))));obtain rfl := zJ hr;exact zf (.one (.tmp Z)) zv
 ·
  refine zo g1 hr fun hr => zk (zT (zQ (zR (zM Z (zM Z (zb hr fun v2 h_v2 hr => yS Z (zC Z Z Z (by kernel_rfl) (zp (F1 h_v2) (.cons zv (.cons zv .nil)))) (zM Z (zM Z (zb hr fun v3 h_v3 hr => yS Z (zC Z Z Z (by kernel_rfl) (zp (F1 h_v3) (.cons zv (.cons zv .nil)))) (yS Z (ze Z xV Z Z) (yS Z (ze Z xV Z Z) (yS Z (zs Z Z Z Z rB Z Z Z Z) (yS Z (zs Z Z Z Z rB Z Z Z Z) (zN (zT (zQ (LW.draw2 (by kernel_rfl) (by kernel_rfl) (yE Z (zD Z Z Z rB Z Z) (yE Z (zD Z Z Z rB Z Z) (yE Z (ab.neqAgg Z Z Z Z Z Fo) ?_))))))))))))))))))));refine zH Z ?_;refine LO.cases 27 Z (fun (g2 : (!((v2.1 == v3.1) && ((v2.2 == v3.2) && true))) = true) => ?_) (fun (g2 : (!((v2.1 == v3.1) && ((v2.2 == v3.2) && true))) = false) => ?_)
  ·
   refine zi g2 hr fun hr => LO.gd Z Z Z (gd g2 Z) Z (ab.sliceBox Z Z CE Z Z Z) (LO.gd Z Z Z (gd g2 Z) Z (ab.sliceBox Z Z CE Z Z Z) (zb hr fun v4 h_v4 hr => LO.gd Z Z Z (gd g2 Z) Z (zC Z Z Z (by kernel_rfl) (LC.lend (IX h_v4) (.cons (Conv.boxSlice Z Z Z Z) (.cons (Conv.boxSlice Z Z Z Z) .nil)) Z)) (LO.gd Z Z Z (gd g2 Z) Z (ax Z Z Z Z) (yE Z (eF Z (bM g2 Z) Z) (zH Z (LO.nil (zT (zr ?_))))))));obtain rfl := zJ hr;exact zf (.one (.tmp Z)) zv
  ·
   refine zo g2 hr fun hr => LO.sk Z Z Z (gd g2 Z) Z Z (LO.sk Z Z Z (gd g2 Z) Z Z (LO.sk Z Z Z (gd g2 Z) Z Z (LO.sk Z Z Z (gd g2 Z) Z Z (yE Z (df Z (bM g2 Z) Z) (zH Z (LO.nil (zT (zr ?_))))))));obtain rfl := zJ hr;exact zf (.one (.tmp Z)) zv
open Go.Proofs
def pC (who : Int) (bad : List Int) : Option Bool :=
 (tk bad who).bind fun v1 =>
 some v1
theorem CV {who : Int} {c : Cf} {bad : List Int} {r_ : Bool} (hr : pC who bad = some r_) : LC Tryz.prog 108 [(iQ who), .ptr 1 0] [.box (bI c), .box [(kI bad)]] (Is (bQ r_) [.box (bI c), .box [(kI bad)]]) := by
 refine dp Tryz.func108 Z Z Z ?_;unfold pC at hr;refine zQ (zR (zM Z (zN (zT (zQ (zR (yS Z (zD Z Z Z fc Z Z) (zM Z (zb hr fun v1 h_v1 hr => yS Z (zC Z Z Z (by kernel_rfl) (zp (CM h_v1) (.cons zv (.cons zv .nil)))) (zM Z (zN (zT (zr ?_)))))))))))));obtain rfl := zJ hr;exact aq (.one (.tmp Z)) (⟨rfl, rfl⟩)
structure cq where
 t10 : Int
 o4 : List Int
 o5 : List Int
def fl (l : List Int) (bad : List Int) (x1 : cq) : Option (cq ⊕ cq) :=
 bif decide (x1.t10 < (l.length : Int)) then
  (ix l x1.t10).bind fun y1 =>
  (pC y1 bad).bind fun v2 =>
  bif v2 then
   bif room x1.o5.length [y1].length 8 then
    some (.inl (cq.mk (IntKind.i64.wrap (x1.t10 + 1)) x1.o4 (x1.o5 ++ [y1])))
   else none
  else
   bif room x1.o4.length [y1].length 8 then
    some (.inl (cq.mk (IntKind.i64.wrap (x1.t10 + 1)) (x1.o4 ++ [y1]) x1.o5))
   else none
 else
  some (.inr (cq.mk x1.t10 x1.o4 x1.o5))
def m5 (l : List Int) (bad : List Int) : Option (List Int × List Int) :=
 (iter (fl l bad) bG (cq.mk 0 ([] : List Int) ([] : List Int))).bind fun v1 =>
 some (v1.o4, v1.o5)
theorem CS {l : List Int} {c : Cf} {bad : List Int} {r_ : List Int × List Int} (hr : m5 l bad = some r_) : LC Tryz.prog 107 [(kI l), .fn 108 [] [.ptr 1 0]] [.box (bI c), .box [(kI bad)]] (Is (.agg [(jI 4 r_.1), (jI 5 r_.2)]) [.box (bI c), .box [(kI bad)], .box [(jI 4 r_.1), (jI 5 r_.2)], .box [(jI 4 r_.1), (jI 5 r_.2)], .vec 1 (r_.1.map aG), .vec 1 (r_.2.map aG)]) := by
 refine dp Tryz.func107 Z Z Z ?_;unfold m5 at hr;refine zQ (zR (yS Z (ze Z xU Z Z) (zN (zT (zQ (zR (yS Z (ze Z xU Z Z) (zN (zT (zQ (zQ (LW.ent (bO.lazyCell (i := 3) (j := 0) (m := 1) Z Z Z Z Z Z) (LW.ent (bO.lazyCell (i := 3) (j := 1) (m := 1) Z Z Z Z Z Z) (zR (zM Z (yS Z (d7 Z Z (by kernel_rfl)) (zM Z (zN (zT ?_)))))))))))))))))));obtain ⟨v1, hb_v1, ho_v1⟩ := zB hr;clear hr;refine LW.tail (E := [(4, .ptr 2 0), (5, .ptr 3 0)]) (O := [.box (bI c), .box [(kI bad)], .box [.zs, .zs], .box [(jI 4 v1.o4), (jI 5 v1.o5)], .vec 1 (v1.o4.map aG), .vec 1 (v1.o5.map aG)]) ?_ (fun env_v1 H_v1 hw_v1 => ?_)
 ·refine LW.block ?_;refine LW.iterB (E := fun x1 : cq => [(1, .fn 108 [] [.ptr 1 0]), (4, .ptr 2 0), (5, .ptr 3 0), (8, (kI l)), (9, .p (.int .i64 (l.length : Int))), (10, (iQ x1.t10))]) (O := fun x1 => [.box (bI c), .box [(kI bad)], .box [.zs, .zs], .box [(jI 4 x1.o4), (jI 5 x1.o5)], .vec 1 (x1.o4.map aG), .vec 1 (x1.o5.map aG)]) hb_v1 (zW 6 ⟨rfl, rfl, rfl, rfl, rfl, rfl, trivial⟩ Z Z Z Z) (fun x1 z_x1 hr hb_x1 => ?_);unfold fl at hr;refine zQ (zR (yS Z (ax Z Z Z Z) (zN (zT (zQ ?_)))));refine zX Z (fun g1 => ?_) (fun g1 => ?_)
  ·
   refine zi g1 hr fun hr => zk (zT (zQ (zl (zQ (zR (zb hr fun y1 h_y1 hr => yS Z (zx Z Z Z fX h_y1 Z) (yS Z (d6 Z Z Z bC Z Z) (zM Z (zN (zT (zQ (zR (zM Z (zM Z (zb hr fun v2 h_v2 hr => yS Z (zC Z Z Z (by kernel_rfl) (LC.pre (CV h_v2) Z Z Z)) (zN (zT ?_)))))))))))))))));refine zX Z (fun g2 => ?_) (fun g2 => ?_)
   ·
    refine zi g2 hr fun hr => zR (yS Z (zA Z Z qI) (yS Z (zD Z Z Z fc Z Z) (zM Z (yS Z (mS Z fX Z Z Z Z Z) (zg hr fun q1 hr => yS Z (ab.appendX aG x1.o5 [y1] rfl Z Z Z ku.p Z fX q1 Z) (yS Z (zA Z Z qI) (yS Z (zs Z Z Z Z fc Z Z Z Z) (zN (ai (zT (zR (yS Z (ax Z Z Z Z) (zM Z (zN (zT ?_)))))))))))))));obtain rfl := zJ hr;exact ⟨_, rfl, zW 6 ⟨rfl, rfl, rfl, rfl, rfl, rfl, trivial⟩ Z Z Z rfl⟩
   ·
    refine zo g2 hr fun hr => zR (yS Z (zA Z Z qH) (yS Z (zD Z Z Z fc Z Z) (zM Z (yS Z (mS Z fX Z Z Z Z Z) (zg hr fun q2 hr => yS Z (ab.appendX aG x1.o4 [y1] rfl Z Z Z ku.p Z fX q2 Z) (yS Z (zA Z Z qH) (yS Z (zs Z Z Z Z fc Z Z Z Z) (zN (ai (zT (zR (yS Z (ax Z Z Z Z) (zM Z (zN (zT ?_)))))))))))))));obtain rfl := zJ hr;exact ⟨_, rfl, zW 6 ⟨rfl, rfl, rfl, rfl, rfl, rfl, trivial⟩ Z Z Z rfl⟩
  ·
   refine zo g1 hr fun hr => zq (ap (ap (zy (zT ?_))));obtain rfl := zJ hr;have hr := congrArg some (hb_x1 _ rfl);obtain rfl := zJ hr;exact zW 6 ⟨Z, Z, trivial⟩ Z Z Z Z
 ·have hr := ho_v1;clear hb_v1;refine zT (LW.weak hw_v1 (zQ (zR (yS Z (zD Z Z Z xP Z Z) (yS Z (zs Z Z Z Z xP Z Z Z Z) (zN (zT (zr ?_))))))));obtain rfl := zJ hr;exact aq (.one (.cellAgg Z Z (by kernel_rfl) Z)) (⟨rfl, rfl⟩)
def rT (c : Cf) (bad : List Int) (slot : Int) : Option (Int × Int) :=
 (FR c slot).bind fun v1 =>
 (m5 v1 bad).bind fun v2 =>
 (FS c v2.1).bind fun v3 =>
 (FS c v2.2).bind fun v4 =>
 some (v3, v4)
theorem FX {c : Cf} {bad : List Int} {slot : Int} {r_ : Int × Int} (hr : rT c bad slot = some r_) : aw Tryz.prog 58 [jC c, .slice 1 (bad.map aG), .int .i64 slot] [.int .i64 r_.1, .int .i64 r_.2] := by
 refine zh Tryz.func58 Z Z Z Z ?_;unfold rT at hr;refine zQ (zR (yS Z (b6 Z Z Z Z Z) (yS Z (b6 Z Z Z Z Z) (zM Z (zM Z (zN (zT (zQ (zR (yS Z (zD Z Z Z bA Z Z) (zM Z (zb hr fun v1 h_v1 hr => yS Z (zC Z Z Z (by kernel_rfl) (zp (KZ h_v1) (.cons zv (.cons zv .nil)))) (yS Z (ab.makeFunc Z Z Z) (zb hr fun v2 h_v2 hr => yS Z (zC Z Z Z (by kernel_rfl) (CS h_v2)) (yS Z (ze Z xU Z Z) (yS Z (zs Z Z Z Z xP Z Z Z Z) (zN (zT (zQ (LW.draw2 (by kernel_rfl) (by kernel_rfl) (yE Z (zD Z Z Z bA Z Z) ?_)))))))))))))))))))));refine yE Z (zA Z Z qH) (yE Z (zD Z Z Z fc Z Z) (zb hr fun v3 h_v3 hr => yE Z (zC Z Z Z (by kernel_rfl) (LC.lend (K0 h_v3) (.cons zv (.cons (Conv.vecAll Z Z Z) .nil)) Z)) (yE Z (zD Z Z Z bA Z Z) (yE Z (zA Z Z qI) (yE Z (zD Z Z Z fc Z Z) (zb hr fun v4 h_v4 hr => yE Z (zC Z Z Z (by kernel_rfl) (LC.lend (K0 h_v4) (.cons zv (.cons (Conv.vecAll Z Z Z) .nil)) Z)) (zH Z (zH Z (LO.nil (zT (zr ?_)))))))))));obtain rfl := zJ hr;exact zf (.two (.tmp Z) (.tmp Z)) (⟨_, rfl, (.cons zv (.cons zv .nil))⟩)
structure co where
 s : Int
 strong : Bool
 t27 : Int
def gx (c : Cf) (bad : List Int) (v_from : Int) (upto : Int) (x1 : co) : Option (co ⊕ co) :=
 bif decide (x1.t27 < (IntKind.u64.wrap ((IntKind.u64.wrap ((IntKind.u64.wrap (upto)) - (IntKind.u64.wrap (v_from)))) + 1))) then
  (rT c bad x1.s).bind fun v2 =>
  bif decide (v2.1 ≤ v2.2) then
   some (.inr (co.mk x1.s false x1.t27))
  else
   some (.inl (co.mk (IntKind.i64.wrap (x1.s + 1)) x1.strong (IntKind.u64.wrap (x1.t27 + 1))))
 else
  some (.inr (co.mk x1.s x1.strong x1.t27))
def rU (c : Cf) (bad : List Int) (v_from : Int) (upto : Int) : Option Bool :=
 bif decide (v_from > upto) then
  some true
 else
  bif decide ((IntKind.u64.wrap ((IntKind.u64.wrap (upto)) - (IntKind.u64.wrap (v_from)))) ≥ 1000) then
   some false
  else
   (iter (gx c bad v_from upto) bG (co.mk v_from true 0)).bind fun v1 =>
   some v1.strong
theorem FY {c : Cf} {bad : List Int} {v_from : Int} {upto : Int} {r_ : Bool} (hr : rU c bad v_from upto = some r_) : aw Tryz.prog 23 [jC c, .slice 1 (bad.map aG), .int .i64 v_from, .int .i64 upto] [.bool r_] := by
 refine zh Tryz.func23 Z Z Z Z ?_;unfold rU at hr;refine zQ (zR (yS Z (b6 Z Z Z Z Z) (zM Z (zN (zT (LW.scope (zQ (zQ (zR (zM Z (zM Z (yS Z (ax Z Z Z Z) (zN (zT ?_))))))))))))));refine zX Z (fun g1 => ?_) (fun g1 => ?_)
 ·
  refine zi g1 hr fun hr => zQ (zR (zM Z (zN (zT (zr (aj (q6 ?_)))))));obtain rfl := zJ hr;exact zf (.one (.tmp Z)) zv
 ·
  refine zo g1 hr fun hr => zk (zT (zQ (zR (zM Z (yS Z (ab.convert (k' := .u64) Z Z (by kernel_rfl)) (zM Z (yS Z (ab.convert (k' := .u64) Z Z (by kernel_rfl)) (yS Z (ax Z Z Z Z) (zM Z (zM Z (zM Z (zM Z (zN (zT (zQ (zQ (zR (zM Z (yS Z (ax Z Z Z Z) (zN (zT ?_)))))))))))))))))))));refine zX Z (fun g2 => ?_) (fun g2 => ?_)
  ·
   refine zi g2 hr fun hr => zQ (zR (zM Z (zN (zT (zr (aj (q6 ?_)))))));obtain rfl := zJ hr;exact zf (.one (.tmp Z)) zv
  ·
   refine zo g2 hr fun hr => zk (zT (zQ (LW.label (zT (zQ (zQ (zR (zM Z (yS Z (ax Z Z Z Z) (zM Z (zN (zT ?_))))))))))));obtain ⟨v1, hb_v1, ho_v1⟩ := zB hr;clear hr;refine LW.tail (E := [(8, (bQ false)), (11, (bQ v1.strong))]) (O := [.box (bI c)]) ?_ (fun env_v1 H_v1 hw_v1 => ?_)
   ·refine LW.block ?_;refine LW.iterB (E := fun x1 : co => [(1, (kI bad)), (4, .ptr 0 0), (8, (bQ false)), (10, (iQ x1.s)), (11, (bQ x1.strong)), (26, .p (.int .u64 (IntKind.u64.wrap ((IntKind.u64.wrap ((IntKind.u64.wrap (upto)) - (IntKind.u64.wrap (v_from)))) + 1)))), (27, (uQ x1.t27))]) (O := fun x1 => [.box (bI c)]) hb_v1 (zW 1 ⟨rfl, rfl, rfl, rfl, rfl, rfl, rfl, trivial⟩ Z Z Z Z) (fun x1 z_x1 hr hb_x1 => ?_);unfold gx at hr;refine zQ (zR (yS Z (ax Z Z Z Z) (zN (zT (zQ ?_)))));refine zX Z (fun g3 => ?_) (fun g3 => ?_)
    ·
     refine zi g3 hr fun hr => zk (zT (zQ (zl (zQ (zQ (zR (yS Z (zD Z Z Z bA Z Z) (zM Z (zM Z (zb hr fun v2 h_v2 hr => yS Z (zC Z Z Z (by kernel_rfl) (zp (FX h_v2) (.cons zv (.cons zv (.cons zv .nil))))) (zM Z (yS Z (fd Z Z Z) (yS Z (fd Z Z Z) (zM Z (zM Z (zN (zT (zQ (zR (zM Z (zM Z ?_)))))))))))))))))))));refine yS Z (ax Z Z Z Z) (zN (zT ?_));refine zX Z (fun g4 => ?_) (fun g4 => ?_)
     ·
      refine zi g4 hr fun hr => zQ (zR (zM Z (zN (zT (zq (ap (kP (by decide) (ap (ap (zy (zT ?_)))))))))));obtain rfl := zJ hr;have hr := congrArg some (hb_x1 _ rfl);obtain rfl := zJ hr;exact zW 1 ⟨Z, Z, trivial⟩ Z Z Z Z
     ·
      refine zo g4 hr fun hr => zk (zT (zR (zM Z (yS Z (ax Z Z Z Z) (zM Z (zN (ai (zT (zR (yS Z (ax Z Z Z Z) (zM Z (zN (zT ?_)))))))))))));obtain rfl := zJ hr;exact ⟨_, rfl, zW 1 ⟨rfl, rfl, rfl, rfl, rfl, rfl, rfl, trivial⟩ Z Z Z rfl⟩
    ·
     refine zo g3 hr fun hr => zq (ap (ap (zy (zT ?_))));obtain rfl := zJ hr;have hr := congrArg some (hb_x1 _ rfl);obtain rfl := zJ hr;exact zW 1 ⟨Z, Z, trivial⟩ Z Z Z Z
   ·have hr := ho_v1;clear hb_v1;refine zT (LW.weak hw_v1 (zQ (zR (zM Z (zM Z (zN (zT (zr (q6 ?_)))))))));obtain rfl := zJ hr;exact zf (.one (.tmp Z)) zv
def uo (c : Cf) (bad : List Int) (slot : Int) : Option Bool :=
 (rT c bad slot).bind fun v1 =>
 (ym c).bind fun v2 =>
 bif v2 then
  bif decide ((IntKind.i64.wrap (v1.1 + v1.2)) > 0) then
   (rV v1.2 c.Den (IntKind.i64.wrap (v1.1 + v1.2)) c.Num).bind fun v3 =>
   some (!v3)
  else
   some false
 else
  some false
theorem IG {c : Cf} {bad : List Int} {slot : Int} {r_ : Bool} (hr : uo c bad slot = some r_) : aw Tryz.prog 26 [jC c, .slice 1 (bad.map aG), .int .i64 slot] [.bool r_] := by
 refine zh Tryz.func26 Z Z Z Z ?_;unfold uo at hr;refine zQ (zR (yS Z (b6 Z Z Z Z Z) (zM Z (zN (zT (zQ (zR (yS Z (zD Z Z Z bA Z Z) (zM Z (zM Z (zb hr fun v1 h_v1 hr => yS Z (zC Z Z Z (by kernel_rfl) (zp (FX h_v1) (.cons zv (.cons zv (.cons zv .nil))))) (zM Z (yS Z (fd Z Z Z) (yS Z (fd Z Z Z) (zM Z (zM Z (zN (zT (zQ (zR (yS Z (zD Z Z Z bA Z Z) (zb hr fun v2 h_v2 hr => ?_))))))))))))))))))))));refine yS Z (zC Z Z Z (by kernel_rfl) (zp (F9 h_v2) (.cons zv .nil))) (zM Z ?_);refine zc 18 Z (fun g1 => ?_) (fun g1 => ?_)
 ·
  refine zi g1 hr fun hr => yV Z (gd g1 Z) (zm Z Z) (yV Z (gd g1 Z) (zm Z Z) (yV Z (gd g1 Z) (ax Z Z Z Z) (yV Z (gd g1 Z) (ax Z Z Z Z) (yS Z (eF Z (bM g1 Z) Z) (zM Z ?_)))));refine zc 24 Z (fun g2 => ?_) (fun g2 => ?_)
  ·
   refine zi g2 hr fun hr => yV Z (gd g2 Z) (zm Z Z) (yV Z (gd g2 Z) (zA Z Z ot) (yV Z (gd g2 Z) (zD Z Z Z bC Z Z) (yV Z (gd g2 Z) (zm Z Z) (yV Z (gd g2 Z) (zm Z Z) (yV Z (gd g2 Z) (ax Z Z Z Z) (yV Z (gd g2 Z) (zA Z Z tL) (yV Z (gd g2 Z) (zD Z Z Z bC Z Z) (zb hr fun v3 h_v3 hr => yV Z (gd g2 Z) (zC Z Z Z (by kernel_rfl) (zp (FZ h_v3) (.cons zv (.cons zv (.cons zv (.cons zv .nil)))))) (yV Z (gd g2 Z) (ab.not Z Z) (yS Z (eF Z (bM g2 Z) Z) (zM Z (zN (zT (zr ?_))))))))))))));obtain rfl := zJ hr;exact zf (.one (.tmp Z)) zv
  ·
   refine zo g2 hr fun hr => yU Z (gd g2 Z) Z (yU Z (gd g2 Z) Z (yU Z (gd g2 Z) Z (yU Z (gd g2 Z) Z (yU Z (gd g2 Z) Z (yU Z (gd g2 Z) Z (yU Z (gd g2 Z) Z (yU Z (gd g2 Z) Z (yU Z (gd g2 Z) Z (yU Z (gd g2 Z) Z (yS Z (df Z (bM g2 Z) Z) (zM Z (zN (zT (zr ?_))))))))))))));obtain rfl := zJ hr;exact zf (.one (.tmp Z)) zv
 ·
  refine zo g1 hr fun hr => yU Z (gd g1 Z) Z (yU Z (gd g1 Z) Z (yU Z (gd g1 Z) Z (yU Z (gd g1 Z) Z (yS Z (df Z (bM g1 Z) Z) (zM Z (yU Z Z Z (yU Z Z Z (yU Z Z Z (yU Z Z Z (yU Z Z Z (yU Z Z Z (yU Z Z Z (yU Z Z Z (yU Z Z Z (yU Z Z Z (yS Z (df Z Z Z) (zM Z (zN (zT (zr ?_))))))))))))))))))));obtain rfl := zJ hr;exact zf (.one (.tmp Z)) zv
theorem BD (n : Int) : uw n = some (decide (0 ≤ n ∧ n ≤ 4611686018427387904)) := by
 unfold uw;by_cases h : 0 ≤ n
 ·rw [decide_eq_true (show n ≥ 0 from h), ct]; congr 1; exact decide_eq_decide.2 ⟨fun h2 => ⟨h, h2⟩, fun h2 => h2.2⟩
 ·rw [decide_eq_false (show ¬ n ≥ 0 from h), cf, decide_eq_false fun h2 => h h2.1]
theorem EX {l : List Int} (hl : l.length ≤ 1000) (h : ∀ x ∈ l, 0 ≤ x ∧ x ≤ 4611686018427387904) : ut l = some true := by
 have e := aB (step := lv l) (n := l.length) (fun k => fx.mk (k : Int)) (.inl (fx.mk (l.length : Int))) (fun k hk => by
  obtain ⟨y, hy, hm⟩ := aF hk;unfold lv xZ;simp only
  rw [decide_eq_true (show (k : Int) < (l.length : Int) by omega), ct, aI hy, ob, BD, ob, ob, decide_eq_true (h y hm), Bool.not_true, cf, ak (n := k) (by omega)]) (by
  unfold lv;simp only
  rw [decide_eq_false (show ¬ (l.length : Int) < (l.length : Int) by omega), cf]) (by omega)
 have e' : iter (lv l) bG (fx.mk 0) = _ := e;unfold ut KT EW;rw [e', ob, sl, ob, ob];rfl
theorem n4 {x : Int} (h0 : 0 ≤ x) (h1 : x ≤ 18446744073709551615) : bits .and .u64 x 4294967295 = x % 4294967296 := by
 obtain ⟨n, rfl⟩ : ∃ n : Nat, x = n := ⟨x.toNat, by omega⟩;have e : bits .and .u64 (n : Int) 4294967295 = IntKind.u64.wrap ((BitVec.ofInt 64 (n : Int) &&& BitVec.ofInt 64 4294967295).toNat : Int) := rfl
 have e2 : (BitVec.ofInt 64 4294967295).toNat = 2 ^ 32 - 1 := by decide
 have e3 : (BitVec.ofInt 64 (n : Int)).toNat = n := by
  rw [BitVec.toNat_ofInt]; omega
 rw [e, BitVec.toNat_and, e2, e3, Nat.and_two_pow_sub_one_eq_mod, rD (by omega) (by omega)];omega
theorem oV {x y : Int} (hx : 0 ≤ x) (hx1 : x ≤ 26388279066624) (hy : 0 ≤ y) (hy1 : y ≤ 3000) : ux x y = some (0, x * y) := by
 have e : ∀ z, IntKind.u64.wrap z = z % 18446744073709551616 := fun z => rfl
 have hp : ((2 : Int) ^ (min (Int.toNat 32) IntKind.u64.bits)) = 4294967296 := by decide
 have hd : ∀ z : Int, z.fdiv 4294967296 = z / 4294967296 := fun z => Int.fdiv_eq_ediv_of_nonneg z (by omega)
 have h0 : y / 4294967296 = 0 := by omega
 have h1 : y % 4294967296 = y := by omega
 unfold ux;rw [hp, hd, hd, hd, hd, hd, n4 (x := y) hy (by omega), n4 (x := x) hx (by omega), h0, h1];have a1 : 0 ≤ x / 4294967296 * y := Int.mul_nonneg (by omega) hy;have a2 : x / 4294967296 * y ≤ 6144 * 3000 := Int.mul_le_mul (by omega) hy1 hy (by omega);have a3 : 0 ≤ x % 4294967296 * y := Int.mul_nonneg (by omega) hy;have a4 : x % 4294967296 * y ≤ 4294967295 * 3000 := Int.mul_le_mul (by omega) hy1 hy (by omega);have a5 : 0 ≤ x * y := Int.mul_nonneg hx hy;have a6 : x * y ≤ 26388279066624 * 3000 := Int.mul_le_mul hx1 hy1 hy (by omega);rw [Int.mul_zero, Int.mul_zero];generalize x / 4294967296 * y = q at a1 a2 ⊢;generalize x % 4294967296 * y = p at a3 a4 ⊢;generalize x * y = r at a5 a6 ⊢
 have ht : IntKind.u64.wrap (IntKind.u64.wrap q + IntKind.u64.wrap p / 4294967296) = q + p / 4294967296 := by simp only [e]; omega
 rw [ht, n4 (by omega) (by omega)];refine congrArg some (Prod.ext ?_ ?_)
 ·simp only [e]; omega
 ·simp only [e]; omega
theorem ur {a b c d : Int} (ha : 0 ≤ a ∧ a ≤ 26388279066624) (hb : 0 ≤ b ∧ b ≤ 3000) (hc : 0 ≤ c ∧ c ≤ 26388279066624) (hd : 0 ≤ d ∧ d ≤ 3000) : rV a b c d = some (decide (a * b > c * d)) := by
 unfold rV;rw [EX (by simp) (by simp; omega), ob, Bool.not_true, cf];unfold uu;rw [rD ha.1 (by omega), rD hb.1 (by omega), rD hc.1 (by omega), rD hd.1 (by omega), oV ha.1 ha.2 hb.1 hb.2, ob, ob, oV hc.1 hc.2 hd.1 hd.2, ob, ob];simp only;rw [uF, ob];generalize a * b = x;generalize c * d = y;unfold jD;by_cases h : x = y
 ·subst h; simp
 ·have hb : (x == y) = false := beq_eq_false_iff_ne.2 h;by_cases h2 : x > y
  ·simp [hb, h2, show ¬ x < y by omega]
  ·simp [hb, h2, show x < y by omega]
theorem pm {α : Type} {p : α → Bool} {l : List α} {n : Nat} {y : α} (hy : l[n]? = some y) : (l.take (n + 1)).filter p = (l.take n).filter p ++ bif p y then [y] else [] := by
 have e : l.take (n + 1) = l.take n ++ [y] := by rw [List.take_add_one, hy]; rfl
 rw [e, List.filter_append];cases h : p y <;> simp [h]
theorem ko {α : Type} {p : α → Bool} {l : List α} (n : Nat) : ((l.take n).filter p).length ≤ n :=
 Nat.le_trans (List.length_filter_le _ _) (by rw [List.length_take]; omega)
def mO (bad : List Int) (x : Int) : Bool := decide (x ∈ bad)
theorem wT {l bad : List Int} (hl : l.length ≤ 1000) (hb : bad.length ≤ 1000) : m5 l bad = some (l.filter (fun x => !mO bad x), l.filter (mO bad)) := by
 have e := aB (step := fl l bad) (n := l.length) (fun k => cq.mk (k : Int) ((l.take k).filter fun x => !mO bad x) ((l.take k).filter (mO bad))) (cq.mk (l.length : Int) (l.filter fun x => !mO bad x) (l.filter (mO bad))) (fun k hk => by
  obtain ⟨y, hy, -⟩ := aF hk;have h1 := ko (p := fun x => !mO bad x) (l := l) k;have h2 := ko (p := mO bad) (l := l) k;unfold fl pC;simp only;rw [decide_eq_true (show (k : Int) < (l.length : Int) by omega), ct, aI hy, ob, lc (by omega), ob, ob, pm hy, pm hy, ak (n := k) (by omega)];unfold mO at h1 h2 ⊢;by_cases h : y ∈ bad
  ·simp only [decide_eq_true h, ct, Bool.not_true, cf, List.append_nil];rw [aO (by simp only [List.length_singleton]; omega) (by omega), ct]
  ·simp only [decide_eq_false h, ct, Bool.not_false, cf, List.append_nil]
   rw [aO (by simp only [List.length_singleton]; omega) (by omega), ct]) (by
  unfold fl;simp only
  rw [decide_eq_false (show ¬ (l.length : Int) < (l.length : Int) by omega), cf, List.take_length]) (by omega)
 have e' : iter (fl l bad) bG (cq.mk 0 [] []) = _ := e;unfold m5;rw [e', ob]
def fe (c : Cf) (bad : List Int) (slot : Int) : Int := fR c ((fS c slot).filter fun x => !mO bad x)
def ge (c : Cf) (bad : List Int) (slot : Int) : Int := fR c ((fS c slot).filter (mO bad))
theorem pT {c : Cf} {bad : List Int} (hb : bad.length ≤ 1000) (slot : Int) : rT c bad slot = some (fe c bad slot, ge c bad slot) := by
 have h := tE c slot;have h1 := List.length_filter_le (fun x => !mO bad x) (fS c slot);have h2 := List.length_filter_le (mO bad) (fS c slot);unfold rT;rw [tp, ob, wT (by omega) hb, ob, tq (by simp only; omega), ob, tq (by simp only; omega), ob];rfl
theorem uh {c : Cf} {a b : List Int} (h : ∀ x ∈ a, x ∈ b) : fR c a ≤ fR c b := by
 unfold fR;by_cases hm : cD c
 ·rw [if_pos hm, if_pos hm];exact zU hm.okW.2 (fun j hj => decide_eq_true (h _ (of_decide_eq_true hj))) _
 ·rw [if_neg hm, if_neg hm]; exact Int.le_refl _
theorem tO {bad : List Int} {x : Int} : mO bad x = true ↔ x ∈ bad := ⟨of_decide_eq_true, fun h => decide_eq_true h⟩
theorem pJ {bad : List Int} {x : Int} : (!mO bad x) = true ↔ x ∉ bad := by
 rw [Bool.not_eq_true', ← Bool.not_eq_true, tO]
theorem oU (c : Cf) (bad : List Int) (slot : Int) : fe c bad slot + ge c bad slot = fR c (fS c slot) := by
 unfold fe ge;rw [← (Eo c _ _).2, zY]
 ·intro x;rw [List.mem_append, List.mem_filter, List.mem_filter, tO, pJ];by_cases h : x ∈ bad <;> simp [h]
 ·cases h : AK ((fS c slot).filter fun x => !mO bad x) ((fS c slot).filter (mO bad)) with
  | false => rfl
  | true =>
   obtain ⟨x, hx, h2⟩ := List.any_eq_true.1 h;obtain ⟨y, hy, h3⟩ := List.any_eq_true.1 h2
   have e : x = y := by simpa using h3
   subst e;exact absurd (tO.1 (List.mem_filter.1 hy).2) (pJ.1 (List.mem_filter.1 hx).2)
theorem Ej (c : Cf) (bad : List Int) (slot : Int) : (0 ≤ fe c bad slot ∧ fe c bad slot ≤ 13194139533312) ∧ 0 ≤ ge c bad slot ∧ ge c bad slot ≤ 13194139533312 := ⟨ti _ _, ti _ _⟩
theorem AF {S : Type} {step : S → Option (S ⊕ S)} {n : Nat} (mk : Nat → S) (bad : Nat → Bool) (out : S → Bool) (hs : ∀ j, j < n → bad j = false → step (mk j) = some (.inl (mk (j + 1))))
  (hb : ∀ j, j < n → bad j = true → ∃ z, step (mk j) = some (.inr z) ∧ out z = false) (he : ∃ z, step (mk n) = some (.inr z) ∧ out z = true) (hn : n < 4000000000000000000) :
  ∃ z, iter step bG (mk 0) = some z ∧ (out z = true ↔ ∀ j, j < n → bad j = false) := by
 have key : ∀ (d k q : Nat), k + d = n → d < q → ∃ z, iter step q (mk k) = some z ∧ (out z = true ↔ ∀ j, k ≤ j → j < n → bad j = false) := by
  intro d
  induction d with
  | zero =>
   intro k q hk hq;obtain ⟨q, rfl⟩ : ∃ p, q = p + 1 := ⟨q - 1, by omega⟩
   obtain rfl : k = n := by omega
   obtain ⟨z, h1, h2⟩ := he;exact ⟨z, ep h1, ⟨fun _ j h3 h4 => by omega, fun _ => h2⟩⟩
  | succ d ih =>
   intro k q hk hq;obtain ⟨q, rfl⟩ : ∃ p, q = p + 1 := ⟨q - 1, by omega⟩
   cases hf : bad k with
   | true =>
    obtain ⟨z, h1, h2⟩ := hb k (by omega) hf;refine ⟨z, ep h1, ⟨fun h3 => (by rw [h2] at h3; cases h3), fun h3 => ?_⟩⟩;have := h3 k (Nat.le_refl _) (by omega);rw [hf] at this; cases this
   | false =>
    rw [lI (hs k (by omega) hf)];obtain ⟨z, h1, h2⟩ := ih (k + 1) q (by omega) (by omega);refine ⟨z, h1, h2.trans ⟨fun h3 j h4 h5 => ?_, fun h3 j h4 h5 => h3 j (by omega) h5⟩⟩;by_cases e : j = k
    ·subst e; exact hf
    ·exact h3 j (by omega) h5
 obtain ⟨z, h1, h2⟩ := key n 0 bG (by omega) (dK hn);exact ⟨z, h1, h2.trans ⟨fun h j hj => h j (Nat.zero_le _) hj, fun h j _ hj => h j hj⟩⟩
def lM (c : Cf) (bad : List Int) (s : Int) : Bool := decide (ge c bad s < fe c bad s)
def tw (c : Cf) (bad : List Int) (a b : Int) : Prop := ∀ s, a ≤ s → s ≤ b → lM c bad s = true
open Classical in
theorem Bv {c : Cf} {bad : List Int} (hb : bad.length ≤ 1000) {a b : Int} (h0 : -1000000000 ≤ a) (h1 : b ≤ 1000000000) (h2 : b - a < 1000) : rU c bad a b = some (decide (tw c bad a b)) := by
 unfold rU;by_cases hab : a > b
 ·rw [decide_eq_true hab, ct, decide_eq_true];intro s h3 h4; omega
 ·rw [decide_eq_false hab, cf];have e : ∀ z, IntKind.u64.wrap z = z % 18446744073709551616 := fun z => rfl
  have hw : IntKind.u64.wrap (IntKind.u64.wrap b - IntKind.u64.wrap a) = b - a := by rw [e, e, e]; omega
  have hw1 : IntKind.u64.wrap (b - a + 1) = b - a + 1 := by rw [e]; omega
  rw [hw, decide_eq_false (show ¬ b - a ≥ 1000 by omega), cf];obtain ⟨N, hN⟩ : ∃ N : Nat, (N : Int) = b - a + 1 := ⟨(b - a + 1).toNat, by omega⟩
  obtain ⟨z, e1, e2⟩ := AF (step := gx c bad a b) (n := N) (fun k => co.mk (a + (k : Int)) true (k : Int)) (fun k => !lM c bad (a + (k : Int))) co.strong (fun j hj hf => by
   unfold gx;simp only;rw [hw, hw1, decide_eq_true (show (j : Int) < b - a + 1 by omega), ct, pT hb, ob];simp only
   have h5 : lM c bad (a + (j : Int)) = true := by simpa using hf
   have h6 := of_decide_eq_true h5
   rw [decide_eq_false (by omega), cf, show IntKind.i64.wrap (a + (j : Int) + 1) = a + ((j + 1 : Nat) : Int) by rw [cA (by omega) (by omega)]; omega, show IntKind.u64.wrap ((j : Int) + 1) = ((j + 1 : Nat) : Int) by rw [e]; omega]) (fun j hj hf => by
   refine ⟨co.mk (a + (j : Int)) false (j : Int), ?_, rfl⟩;unfold gx;simp only;rw [hw, hw1, decide_eq_true (show (j : Int) < b - a + 1 by omega), ct, pT hb, ob];simp only
   have h5 : lM c bad (a + (j : Int)) = false := by simpa using hf
   have h6 := of_decide_eq_false h5
   rw [decide_eq_true (by omega), ct]) (by
   refine ⟨co.mk (a + (N : Int)) true (N : Int), ?_, rfl⟩;unfold gx;simp only
   rw [hw, hw1, decide_eq_false (show ¬ (N : Int) < b - a + 1 by omega), cf]) (by omega)
  have e1' : iter (gx c bad a b) bG (co.mk a true 0) = some z := by
   have h : (co.mk (a + ((0 : Nat) : Int)) true ((0 : Nat) : Int)) = co.mk a true 0 := by simp
   rw [← h]; exact e1
  rw [e1', ob];congr 1
  have hiff : z.strong = true ↔ tw c bad a b := e2.trans ⟨fun h s h3 h4 => by
   have := h (s - a).toNat (by omega);rw [show a + ((s - a).toNat : Int) = s by omega] at this
   simpa using this, fun h j hj => by
   have := h (a + (j : Int)) (by omega) (by omega)
   simp [this]⟩
  cases hz : z.strong with
  | true => exact (decide_eq_true (hiff.1 hz)).symm
  | false => exact (decide_eq_false fun h => by rw [hiff.2 h] at hz; cases hz).symm
theorem Bw {c : Cf} {bad : List Int} (hb : bad.length ≤ 1000) (slot : Int) : uo c bad slot = some (decide (cD c ∧ 0 < fe c bad slot + ge c bad slot ∧ ¬ ge c bad slot * c.Den > (fe c bad slot + ge c bad slot) * c.Num)) := by
 have hw := Ej c bad slot;have hs := oU c bad slot;have ht := ti c (fS c slot);unfold uo;rw [pT hb, ob, kA, ob];by_cases hm : cD c
 ·rw [decide_eq_true hm, ct];simp only;rw [cA (by omega) (by omega)];by_cases h0 : 0 < fe c bad slot + ge c bad slot
  ·have hm' := hm;obtain ⟨-, -, -, -, -, m1, m2, m3, m4⟩ := hm';rw [decide_eq_true (show fe c bad slot + ge c bad slot > 0 from h0), ct, ur ⟨by omega, by omega⟩ ⟨by omega, by omega⟩ ⟨by omega, by omega⟩ ⟨by omega, by omega⟩, ob];by_cases h2 : ge c bad slot * c.Den > (fe c bad slot + ge c bad slot) * c.Num
   ·rw [decide_eq_true h2, decide_eq_false fun h => h.2.2 h2]; rfl
   ·rw [decide_eq_false h2, decide_eq_true ⟨hm, h0, h2⟩]; rfl
  ·rw [decide_eq_false (show ¬ fe c bad slot + ge c bad slot > 0 from h0), cf, decide_eq_false fun h => h0 h.2.1]
 ·rw [decide_eq_false hm, cf, decide_eq_false fun h => hm h.1]
inductive kw (B : List Bk) (a : ID) : ID → Prop
 | zero : a = (0, 0) → kw B a (0, 0)
 | self {b : Bk} : b ∈ B → nm b = a → kw B a a
 | up {b : Bk} : b ∈ B → kw B a b.Parent → kw B a (nm b)
def Kn (B : List Bk) (x : ID) : Prop := x = (0, 0) ∨ ∃ b ∈ B, nm b = x
theorem nL {B : List Bk} (h : aK B) : ∃ m, places B = some m := Option.isSome_iff_exists.1 h
theorem mf {B : List Bk} (h : aK B) : am B (0, 0) = [(0, 0)] := by
 obtain ⟨m, hp⟩ := nL h;unfold am;rw [hp];simp only;rw [(aH hp).zero];rfl
theorem gJ {B : List Bk} (h : aK B) {b : Bk} (hb : b ∈ B) : am B (nm b) = nm b :: am B b.Parent := by
 obtain ⟨m, hp⟩ := nL h;obtain ⟨i, hi⟩ := List.getElem?_of_mem hb;have hI := aH hp;have hn := hI.names i b (List.getElem?_eq_some_iff.1 hi).1 hi;rcases hI.known _ _ hn with ⟨h1, -⟩ | ⟨b', p, h0, h1, h2, h3, h4, h5, h6, h7⟩
 ·omega
 ·rw [Int.toNat_natCast, hi] at h2;cases h2;unfold am;rw [hp];simp only;rw [hn, h4];exact fG hp (by omega) h0 (by rw [Int.toNat_natCast]; exact hi) h4 h5 h6
theorem m9 {B : List Bk} (h : aK B) {x : ID} : am B x ≠ [] ↔ Kn B x := by
 constructor
 ·intro hne;obtain ⟨m, hp⟩ := nL h
  cases hf : af m x with
  | none =>
   refine absurd ?_ hne;unfold am;rw [hp];simp only;rw [hf]
  | some i =>
   rcases (aH hp).known _ _ hf with ⟨-, h1⟩ | ⟨b, p, h0, h1, h2, h3, -⟩
   ·exact .inl h1
   ·exact .inr ⟨b, List.mem_of_getElem? h2, h3⟩
 ·rintro (rfl | ⟨b, hb, rfl⟩)
  ·rw [mf h]; simp
  ·rw [gJ h hb]; simp
theorem Fv {B : List Bk} (h : aK B) {x : ID} {s : Int} (hq : aX B x = some s) : Kn B x := by
 rcases (oO h).1 hq with ⟨e, -⟩ | ⟨b, hb, e, -⟩
 ·exact .inl e
 ·exact .inr ⟨b, hb, e⟩
theorem sJ {B : List Bk} (h : aK B) {b : Bk} (hb : b ∈ B) : Kn B b.Parent := by
 obtain ⟨s, hs, -⟩ := ud h hb;exact Fv h hs
theorem tR {B C : List Bk} (hs : ∀ b ∈ B, b ∈ C) {x : ID} (h : Kn B x) : Kn C x := h.elim .inl fun ⟨b, hb, e⟩ => .inr ⟨b, hs b hb, e⟩
theorem y0 {α β : Type} {f : α → β} {l : List α} (h : (l.map f).Nodup) {a b : α} (ha : a ∈ l) (hb : b ∈ l) (e : f a = f b) : a = b := by
 obtain ⟨i, hi⟩ := List.getElem?_of_mem ha;obtain ⟨j, hj⟩ := List.getElem?_of_mem hb
 have h1 : (l.map f)[i]? = some (f a) := by rw [List.getElem?_map, hi]; rfl
 have h2 : (l.map f)[j]? = some (f a) := by rw [List.getElem?_map, hj, e]; rfl
 have := (List.getElem?_inj (List.getElem?_eq_some_iff.1 h1).1 h).1 (h1.trans h2.symm);subst this;rw [hi] at hj;exact Option.some.inj hj
theorem AU {B : List Bk} (h : aK B) {a b : Bk} (ha : a ∈ B) (hb : b ∈ B) (e : nm a = nm b) : a = b := y0 (List.nodup_cons.1 (k9 h)).2 ha hb e
theorem FB {B : List Bk} (h : aK B) {b : Bk} (hb : b ∈ B) : nm b ≠ (0, 0) := fun e =>
 (List.nodup_cons.1 (k9 h)).1 (List.mem_map.2 ⟨b, hb, e⟩)
theorem lD {B : List Bk} (h : aK B) {a x : ID} : a ∈ am B x ↔ kw B a x := by
 constructor
 ·have key : ∀ (n : Nat) (x : ID), (am B x).length ≤ n → a ∈ am B x → kw B a x := by
   intro n
   induction n with
   | zero =>
    intro x hl ha;rw [List.length_eq_zero_iff.1 (Nat.le_zero.1 hl)] at ha;cases ha
   | succ n ih =>
    intro x hl ha;rcases (m9 h).1 (List.ne_nil_of_mem ha) with rfl | ⟨b, hb, rfl⟩
    ·rw [mf h] at ha;exact .zero (List.mem_singleton.1 ha)
    ·rw [gJ h hb] at ha hl;rw [List.length_cons] at hl;rcases List.mem_cons.1 ha with rfl | ha
     ·exact .self hb Z
     ·exact .up hb (ih _ (by omega) ha)
  exact key _ x (Nat.le_refl _)
 ·intro ha
  induction ha with
  | zero e => rw [mf h, e]; simp
  | self hb e => subst e; rw [gJ h hb]; simp
  | up hb _ ih => rw [gJ h hb]; exact .tail _ ih
theorem qi {B C : List Bk} (hs : ∀ b ∈ B, b ∈ C) {a x : ID} (h : kw B a x) : kw C a x := by
 induction h with
 | zero e => exact .zero e
 | self hb e => exact .self (hs _ hb) e
 | up hb _ ih => exact .up (hs _ hb) ih
theorem CC {B C : List Bk} (hB : aK B) (hC : aK C) (hs : ∀ b ∈ B, b ∈ C) {a x : ID} (h : kw C a x) : Kn B x → kw B a x := by
 induction h with
 | zero e => exact fun _ => .zero e
 | self hb e =>
  rintro (rfl | ⟨b', hb', e'⟩)
  ·exact .zero Z
  ·exact .self hb' e'
 | up hb h ih =>
  rintro (e | ⟨b', hb', e'⟩)
  ·exact absurd e (FB hC hb)
  ·have := AU hC (hs _ hb') hb e';subst this;exact .up hb' (ih (sJ hB hb'))
theorem m7 {B : List Bk} {x : ID} (h : Kn B x) : kw B x x := by
 rcases h with rfl | ⟨b, hb, e⟩
 ·exact .zero Z
 ·exact .self hb e
theorem nZ {B : List Bk} {a b x : ID} (h1 : kw B a b) (h2 : kw B b x) : kw B a x := by
 induction h2 with
 | zero e => rw [e] at h1; exact h1
 | self _ _ => exact h1
 | up hb _ ih => exact .up hb ih
theorem Fa {B : List Bk} {a x : ID} (h : kw B a x) : Kn B a := by
 induction h with
 | zero e => exact .inl e
 | self hb e => exact .inr ⟨_, hb, e⟩
 | up _ _ ih => exact ih
theorem u9 {B : List Bk} (h : aK B) {x : ID} (hx : Kn B x) : kw B (0, 0) x := (lD h).1 (xa ((m9 h).2 hx))
def wJ (B : List Bk) (x k : ID) : Prop := ∃ b ∈ B, b.Parent = x ∧ nm b = k
theorem pK {B : List Bk} (h : aK B) {x k : ID} : k ∈ bR B x ↔ wJ B x k := by
 obtain ⟨m, hp⟩ := nL h;unfold bR wJ;rw [hp];simp only [List.mem_map, List.mem_filter, decide_eq_true_iff];exact ⟨fun ⟨b, ⟨h1, h2⟩, h3⟩ => ⟨b, h1, h2, h3⟩, fun ⟨b, h1, h2, h3⟩ => ⟨b, ⟨h1, h2⟩, h3⟩⟩
theorem Dt {B : List Bk} {x k : ID} (h : wJ B x k) : Kn B k := by
 obtain ⟨b, hb, -, e⟩ := h;exact .inr ⟨b, hb, e⟩
theorem yY {B : List Bk} {x k : ID} (h : wJ B x k) (hx : Kn B x) : kw B x k := by
 obtain ⟨b, hb, e, rfl⟩ := h;subst e;exact .up hb (m7 hx)
theorem yu {B : List Bk} {x y : ID} (h : kw B x y) : x = y ∨ ∃ k, wJ B x k ∧ kw B k y := by
 induction h with
 | zero e => exact .inl e
 | self _ _ => exact .inl rfl
 | @up b hb _ ih =>
  rcases ih with e | ⟨k, h1, h2⟩
  ·exact .inr ⟨nm b, ⟨b, hb, e.symm, rfl⟩, .self hb rfl⟩
  ·exact .inr ⟨k, h1, .up hb h2⟩
theorem FH {B : List Bk} (h : aK B) {p k k' x : ID} (h1 : wJ B p k) (h2 : wJ B p k') (h3 : kw B k x) (h4 : kw B k' x) : k = k' := by
 have at_ : ∀ {k : ID}, wJ B p k → kw B k x → ∃ i : Nat, (am B x)[i]? = some k ∧ (am B x)[i + 1]? = some p := by
  rintro k ⟨b, hb, rfl, rfl⟩ ha;obtain ⟨i, hi, -⟩ := lE ((lD h).2 ha);refine ⟨i, hi, ?_⟩;have e := qr hi;rw [gJ h hb] at e;have := congrArg (fun l => l[1]?) e;simp only [List.getElem?_cons_succ, List.getElem?_drop] at this;rw [w8 ((m9 h).2 (sJ h hb))] at this;exact this.symm
 obtain ⟨i, hi, hi2⟩ := at_ h1 h3;obtain ⟨j, hj, hj2⟩ := at_ h2 h4;have := su hi2 hj2
 obtain rfl : i = j := by omega
 rw [hi] at hj;exact Option.some.inj hj
theorem gp (p q : Rk) : cr p q = false ↔ ¬ (p.n > q.n ∨ (p.n = q.n ∧ (q.id.1 < p.id.1 ∨ q.id.1 = p.id.1 ∧ q.id.2 < p.id.2))) := by
 unfold cr sL;by_cases e : p.n = q.n
 ·rw [if_pos e, decide_eq_false_iff_not]; omega
 ·rw [if_neg e, decide_eq_false_iff_not]; omega
theorem oZ {a b d : Rk} (h1 : cr b a = false) (h2 : cr d b = false) : cr d a = false := by
 rw [gp] at h1 h2 ⊢;omega
theorem Av (b : Rk) : cr b b = false := by rw [gp]; omega
theorem ss {f : ID → Int} : ∀ (a : List ID) (b : Rk), cr b (f4 f a b) = false ∧ ∀ k ∈ a, cr ⟨f k, k⟩ (f4 f a b) = false
 | [], b => ⟨Av b, fun k hk => by cases hk⟩
 | k :: r, b => by
  unfold f4;obtain ⟨h1, h2⟩ := ss (f := f) r (bif cr ⟨f k, k⟩ b then ⟨f k, k⟩ else b)
  have h3 : cr b (bif cr ⟨f k, k⟩ b then ⟨f k, k⟩ else b) = false ∧ cr ⟨f k, k⟩ (bif cr ⟨f k, k⟩ b then ⟨f k, k⟩ else b) = false := by
   cases h : cr ⟨f k, k⟩ b with
   | true =>
    rw [ct]
    have h' : ¬ cr ⟨f k, k⟩ b = false := by rw [h]; simp
    rw [gp] at h';refine ⟨?_, ?_⟩ <;> rw [gp] <;> simp only at h' ⊢ <;> omega
   | false =>
    rw [cf];exact ⟨by rw [gp]; omega, h⟩
  refine ⟨oZ h1 h3.1, fun x hx => ?_⟩;rcases List.mem_cons.1 hx with rfl | hx
  ·exact oZ h1 h3.2
  ·exact h2 x hx
def H5 (f : ID → Int) (B : List Bk) (x k : ID) : Prop := wJ B x k ∧ ∀ k', wJ B x k' → cr ⟨f k', k'⟩ ⟨f k, k⟩ = false
inductive Reach (f : ID → Int) (B : List Bk) (y : ID) : ID → Prop
 | refl : Reach f B y y
 | step {x k : ID} : H5 f B x k → Reach f B y k → Reach f B y x
theorem w2 {c : Cf} {B : List Bk} {v : List Vt} (h : aK B) (x : ID) : ((∀ k, ¬ wJ B x k) ∧ ¬ (eK c B v x).n ≥ 0) ∨ (H5 (mB c B v) B x (eK c B v x).id ∧ (eK c B v x).n ≥ 0) := by
 rcases kH c B v x with ⟨hk, e⟩ | ⟨k, hk, e⟩
 ·exact .inl ⟨fun k h2 => by have := (pK h).2 h2; rw [hk] at this; exact absurd this (by simp), by rw [e]; simp⟩
 ·refine .inr ⟨⟨?_, fun k' hk' => ?_⟩, by rw [e]; exact y8 c B v k⟩
  ·rw [e]; exact (pK h).1 hk
  ·have := (ss (f := mB c B v) (bR B x) ⟨-1, (0, 0)⟩).2 k' ((pK h).2 hk');have e' : f4 (mB c B v) (bR B x) ⟨-1, (0, 0)⟩ = ⟨mB c B v k, k⟩ := e;rw [e'] at this;rw [e];exact this
theorem xk {c : Cf} {B : List Bk} {v : List Vt} (h : aK B) : Reach (mB c B v) B (bW c B v) (0, 0) ∧ ∀ k, ¬ wJ B (bW c B v) k := by
 refine ⟨?_, fun k hk => ?_⟩
 ·obtain ⟨m, hp⟩ := nL h
  have key : ∀ (n : Nat) (x : ID), Reach (mB c B v) B (lZ c B v n x) x := by
   intro n
   induction n with
   | zero => intro x; exact .refl
   | succ n ih =>
    intro x;unfold lZ;rcases w2 (c := c) (v := v) h x with ⟨-, h2⟩ | ⟨h1, h2⟩
    ·rw [if_neg h2]; exact .refl
    ·rw [if_pos h2]; exact .step h1 (ih _)
  exact key _ _
 ·have := (pK h).2 hk;rw [(qS c h).2] at this;cases this
theorem A6 {f : ID → Int} {B : List Bk} {x y : ID} (h : Reach f B y x) : Kn B x → kw B x y := by
 induction h with
 | refl => exact m7
 | step hb _ ih => exact fun hx => nZ (yY hb.1 hx) (ih (Dt hb.1))
theorem tM {c : Cf} {B : List Bk} {v : List Vt} (h : aK B) : Kn B (bW c B v) := (m9 h).1 (qS c h).1
theorem AI {c : Cf} {B : List Bk} {v : List Vt} (h : aK B) {id : ID} (hid : Kn B id) (hw : ∀ p k k', kw B k id → wJ B p k → wJ B p k' → k ≠ k' → mB c B v k' < mB c B v k) : kw B id (bW c B v) := by
 obtain ⟨hr, hl⟩ := xk (c := c) (v := v) h
 have key : ∀ x, Reach (mB c B v) B (bW c B v) x → kw B x id → kw B id (bW c B v) := by
  intro x hx;generalize bW c B v = y at hx hl
  induction hx with
  | refl =>
   intro ha;rcases yu ha with e | ⟨k, hk, -⟩
   ·rw [e]; exact m7 hid
   ·exact absurd hk (hl k)
  | @step x k hb hr ih =>
   intro ha;rcases yu ha with rfl | ⟨k0, hk, ha2⟩
   ·exact nZ (yY hb.1 hid) (A6 hr (Dt hb.1))
   ·by_cases e : k0 = k
    ·subst e; exact ih ha2
    ·have h1 := hw x k0 k ha2 hk hb.1 e;have h2 := hb.2 k0 hk;rw [gp] at h2;simp only at h2;omega
 exact key _ hr (u9 h hid)
theorem gL {B : List Bk} (h : aK B) {v : List Vt} {id : ID} {w : Int} : w ∈ lQ B v id ↔ ∃ x ∈ v, kw B id x.Head ∧ x.From = w := by
 unfold lQ;simp only [List.mem_map, List.mem_filter];constructor
 ·rintro ⟨x, ⟨h1, h2⟩, h3⟩;exact ⟨x, h1, (lD h).1 (of_decide_eq_true h2), h3⟩
 ·rintro ⟨x, h1, h2, h3⟩;exact ⟨x, ⟨h1, decide_eq_true ((lD h).2 h2)⟩, h3⟩
theorem AL {a b : List Int} (h : ∀ x ∈ a, x ∉ b) : AK a b = false := by
 unfold AK;rw [List.any_eq_false];intro x hx h2;obtain ⟨y, hy, e⟩ := List.any_eq_true.1 h2
 have e' : x = y := by simpa using e
 exact h x hx (e' ▸ hy)
theorem HS {c : Cf} {a b d : List Int} (h : ∀ x ∈ a, x ∉ b) (ha : ∀ x ∈ a, x ∈ d) (hb : ∀ x ∈ b, x ∈ d) : fR c a + fR c b ≤ fR c d := by
 rw [← (Eo c a b).2 (AL h)];exact uh fun x hx => (List.mem_append.1 hx).elim (ha x) (hb x)
theorem HJ {c : Cf} {B : List Bk} {v : List Vt} {cm : List Int} (h : aK B) (hd : ∀ x ∈ v, ∀ y ∈ v, x.From = y.From → x = y) (hc : ∀ x ∈ v, x.From ∈ cm) {p k k' : ID} (h1 : wJ B p k) (h2 : wJ B p k') (hne : k ≠ k') : mB c B v k + mB c B v k' ≤ fR c cm := by
 have hin : ∀ id, ∀ w ∈ lQ B v id, w ∈ cm := fun id w hw => by
  obtain ⟨x, hx, -, e⟩ := (gL h).1 hw;exact e ▸ hc x hx
 refine HS (fun w hw hw' => ?_) (hin k) (hin k');obtain ⟨x, hx, hx2, e⟩ := (gL h).1 hw;obtain ⟨y, hy, hy2, e2⟩ := (gL h).1 hw';have := hd x hx y hy (e.trans e2.symm);subst this;exact hne (FH h h1 h2 hx2 hy2)
theorem J8 {c : Cf} {B : List Bk} {v : List Vt} (h : aK B) {k id : ID} (ha : kw B k id) : mB c B v id ≤ mB c B v k := uh fun w hw => by
 obtain ⟨x, hx, hx2, e⟩ := (gL h).1 hw;exact (gL h).2 ⟨x, hx, nZ ha hx2, e⟩
theorem Dn {c : Cf} {B : List Bk} {v : List Vt} {cm : List Int} (h : aK B) (hd : ∀ x ∈ v, ∀ y ∈ v, x.From = y.From → x = y) (hc : ∀ x ∈ v, x.From ∈ cm) {id : ID} (hid : Kn B id) (hm : fR c cm < 2 * mB c B v id) : kw B id (bW c B v) :=
 AI h hid fun p k k' ha h1 h2 hne => by
  have a1 := HJ (c := c) h hd hc h1 h2 hne;have a2 := J8 (c := c) (v := v) h ha;omega
end Go.Mg
