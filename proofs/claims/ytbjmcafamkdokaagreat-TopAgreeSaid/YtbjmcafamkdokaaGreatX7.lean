/- Plain laws of views: lists of blocks and votes, and what may be at all. Laws of trees. TreeKids, TreeMore: plain. view.May. Plain laws of views: which views may be. view.Take. Plain laws of views: what is taken. Plain laws of views: what is taken, as the program does it. Plain laws of views: votes that are taken, as the program does it. Plain laws of views: view.Take. Plain laws of views: what holds of what is taken. Laws of views. The laws of views' example. Laws of views. Laws of views: ViewOnly, ViewJoin. Laws of views. Laws of views. Laws of views: ViewMay, ViewKeeps. Plain laws of views: what is counted, as a set. The votes of a committee, and the head by them, plain. Products of numbers. Parts of a committee. Products compared, plain. Plain laws of committees in parts. Chains and heads by what blocks there are, whatever their order. Conditions: none. -/
import Derived.Test.YtbjmcafamkdokaaGreatX6
import Derived.Test.YtbjmcafamkdokaaGreatX5
import Derived.Test.YtbjmcafamkdokaaGreatX3
set_option maxRecDepth 100000
set_option linter.unusedSimpArgs false
set_option linter.unusedVariables false
namespace Go.Mg
def cx {R : Type} (f : Nat → Option R) : Nat → Nat → Option R
 | _, 0 => none
 | k, d + 1 => match f k with
  | some r => some r
  | none => cx f (k + 1) d
theorem fM {R : Type} {f : Nat → Option R} : ∀ {d k : Nat}, cx f k d = none ↔ ∀ j, k ≤ j → j < k + d → f j = none
 | 0, k => ⟨fun _ j h1 h2 => by omega, fun _ => rfl⟩
 | d + 1, k => by
  unfold cx
  cases h : f k with
  | some r => exact ⟨fun h => (by cases h), fun h2 => (by rw [h2 k (Nat.le_refl _) (by omega)] at h; cases h)⟩
  | none =>
   rw [fM (k := k + 1)];refine ⟨fun h2 j h3 h4 => ?_, fun h2 j h3 h4 => h2 j (by omega) (by omega)⟩;by_cases e : j = k
   ·subst e; exact h
   ·exact h2 j (by omega) (by omega)
theorem dN {R : Type} {f : Nat → Option R} {r : R} : ∀ {d k : Nat}, cx f k d = some r → ∃ j, k ≤ j ∧ j < k + d ∧ f j = some r ∧ ∀ i, k ≤ i → i < j → f i = none
 | 0, k, h => by cases h
 | d + 1, k, h => by
  unfold cx at h
  cases hk : f k with
  | some q =>
   rw [hk] at h;cases h;exact ⟨k, Nat.le_refl _, by omega, hk, fun i h1 h2 => by omega⟩
  | none =>
   rw [hk] at h;obtain ⟨j, h1, h2, h3, h4⟩ := dN h;refine ⟨j, by omega, by omega, h3, fun i h5 h6 => ?_⟩;by_cases e : i = k
   ·subst e; exact hk
   ·exact h4 i (by omega) h6
def lE {S R : Type} (s : S) : Option R → S ⊕ R
 | some r => .inr r
 | none => .inl s
theorem eV {S R : Type} {step : S → Option (S ⊕ (S ⊕ R))} {n : Nat} (mk : Nat → S) (f : Nat → Option R) (hs : ∀ j, j < n → step (mk j) = match f j with | some r => some (.inr (.inr r)) | none => some (.inl (mk (j + 1))))
  (he : step (mk n) = some (.inr (.inl (mk n)))) (hn : n < 4000000000000000000) : iter step bG (mk 0) = some (lE (mk n) (cx f 0 n)) := by
 have key : ∀ (d k q : Nat), k + d = n → d < q → iter step q (mk k) = some (lE (mk n) (cx f k d)) := by
  intro d
  induction d with
  | zero =>
   intro k q hk hq;obtain ⟨q, rfl⟩ : ∃ p, q = p + 1 := ⟨q - 1, by omega⟩
   obtain rfl : k = n := by omega
   exact fP he
  | succ d ih =>
   intro k q hk hq;obtain ⟨q, rfl⟩ : ∃ p, q = p + 1 := ⟨q - 1, by omega⟩;have h1 := hs k (by omega);unfold cx
   cases hf : f k with
   | some r =>
    rw [hf] at h1;exact fP h1
   | none =>
    rw [hf] at h1;rw [mZ h1];exact ih (k + 1) q (by omega) (by omega)
 exact key n 0 bG (by omega)<|ec hn
def fj {α : Type} [DecidableEq α] (l : List α) (v : α) (j : Nat) : Option Int := if l[j]? = some v then some (j : Int) else none
theorem kC {α : Type} [DecidableEq α] {l : List α} {v : α} : (cx (fj l v) 0 l.length).isSome = decide (v ∈ l) := by
 cases h : cx (fj l v) 0 l.length with
 | none =>
  rw [fM] at h;refine (decide_eq_false fun hm => ?_).symm;obtain ⟨j, hj⟩ := List.getElem?_of_mem hm;have := h j (Nat.zero_le _) (by have := (List.getElem?_eq_some_iff.1 hj).1; omega);unfold fj at this;rw [if_pos hj] at this;cases this
 | some r =>
  obtain ⟨j, -, -, h3, -⟩ := dN h;refine (decide_eq_true ?_).symm;unfold fj at h3;split at h3
  ·rename_i e; exact List.mem_of_getElem? e
  ·cases h3
theorem qD {α : Type} [DecidableEq α] {l : List α} {v : α} {n : Nat} {r : Int} (h : cx (fj l v) 0 n = some r) : 0 ≤ r := by
 obtain ⟨j, -, -, h3, -⟩ := dN h;unfold fj at h3;split at h3
 ·cases h3; omega
 ·cases h3
theorem xF {l : List Bk} (hl : l.length ≤ 100000) (v : Bk) : yL l v = some (decide (v ∈ l)) := by
 have e := eV (step := ld l v) (n := l.length) (fun k => fB.mk (k : Int)) (fj l v) (fun j hj => by
  obtain ⟨y, hy, -⟩ := aD hj;unfold ld fj;simp only;rw [decide_eq_true (show (j : Int) < (l.length : Int) by omega), ct, aG hy, ob, KY, ak (n := j) (by omega), hy];by_cases h : v = y
  ·rw [decide_eq_true h, ct, if_pos (by rw [h])]
  ·rw [decide_eq_false h, cf, if_neg (fun e => h (Option.some.inj e).symm)]) (by
  unfold ld;simp only
  rw [decide_eq_false (show ¬ (l.length : Int) < (l.length : Int) by omega), cf]) (by omega)
 unfold yL Ea;rw [← kC];have e' : iter (ld l v) bG (fB.mk 0) = some (lE (fB.mk (l.length : Int)) (cx (fj l v) 0 l.length)) := e;rw [e', ob]
 cases h : cx (fj l v) 0 l.length with
 | none => rw [lE, sl, ob]; rfl
 | some r => rw [lE, sr, ob, decide_eq_true (qD h)]; rfl
theorem xG {l : List Vt} (hl : l.length ≤ 100000) (v : Vt) : yM l v = some (decide (v ∈ l)) := by
 have e := eV (step := lf l v) (n := l.length) (fun k => fC.mk (k : Int)) (fj l v) (fun j hj => by
  obtain ⟨y, hy, -⟩ := aD hj;unfold lf fj;simp only;rw [decide_eq_true (show (j : Int) < (l.length : Int) by omega), ct, aG hy, ob, I5, ak (n := j) (by omega), hy];by_cases h : v = y
  ·rw [decide_eq_true h, ct, if_pos (by rw [h])]
  ·rw [decide_eq_false h, cf, if_neg (fun e => h (Option.some.inj e).symm)]) (by
  unfold lf;simp only
  rw [decide_eq_false (show ¬ (l.length : Int) < (l.length : Int) by omega), cf]) (by omega)
 unfold yM Eb;rw [← kC];have e' : iter (lf l v) bG (fC.mk 0) = some (lE (fC.mk (l.length : Int)) (cx (fj l v) 0 l.length)) := e;rw [e', ob]
 cases h : cx (fj l v) 0 l.length with
 | none => rw [lE, sl, ob]; rfl
 | some r => rw [lE, sr, ob, decide_eq_true (qD h)]; rfl
section
variable {α : Type} [DecidableEq α]
def cP (a : List α) : List α → List α
 | [] => a
 | x :: r => cP (if x ∈ a then a else a ++ [x]) r
theorem mB (x : α) : ∀ (b a : List α), cP a (b ++ [x]) = if x ∈ cP a b then cP a b else cP a b ++ [x]
 | [], _ => rfl
 | _ :: r, _ => mB x r _
theorem fz (x : α) : ∀ (b a : List α), x ∈ cP a b ↔ x ∈ a ∨ x ∈ b
 | [], a => by simp [cP]
 | y :: r, a => by
  unfold cP;rw [fz x r];by_cases h : y ∈ a
  ·rw [if_pos h, List.mem_cons];exact ⟨fun h2 => h2.elim .inl (fun h3 => .inr (.inr h3)), fun h2 => h2.elim .inl fun h3 => h3.elim (fun e => .inl (e ▸ h)) .inr⟩
  ·rw [if_neg h, List.mem_append, List.mem_singleton, List.mem_cons, or_assoc]
theorem da : ∀ (b a : List α), (cP a b).length ≤ a.length + b.length
 | [], a => by simp [cP]
 | y :: r, a => by
  unfold cP;have := da r (if y ∈ a then a else a ++ [y])
  have h2 : (if y ∈ a then a else a ++ [y]).length ≤ a.length + 1 := by split <;> simp
  simp only [List.length_cons]; omega
theorem fV : ∀ {b a : List α}, a.Nodup → (cP a b).Nodup
 | [], _, h => h
 | y :: r, a, h => by
  unfold cP;refine fV ?_;split
  ·exact h
  ·rename_i hn;rw [List.nodup_append];exact ⟨h, by simp, fun x hx z hz => by rw [List.mem_singleton] at hz; subst hz; exact fun e => hn (e ▸ hx)⟩
end
theorem D2 {a b : List Bk} (h : a.length + b.length ≤ 90000) : Bh a b = some (cP a b) := by
 unfold Bh;rw [aP (by omega) (by omega), ct]
 have e := aB (step := k8 b) (n := b.length) (fun k => eF.mk (k : Int) (cP a (b.take k))) (eF.mk (b.length : Int) (cP a b)) (fun k hk => by
  obtain ⟨y, hy, -⟩ := aD hk;have hlen := da (b.take k) a;rw [List.length_take] at hlen;unfold k8;simp only;rw [decide_eq_true (show (k : Int) < (b.length : Int) by omega), ct, aG hy, ob, xF (by omega), ob, aS hy, mB, ak (n := k) (by omega)];by_cases hm : y ∈ cP a (b.take k)
  ·rw [decide_eq_true hm, Bool.not_true, cf, if_pos hm]
  ·rw [decide_eq_false hm, Bool.not_false, ct, aP (by simp only [List.length_singleton]; omega) (by omega), ct, if_neg hm]) (by
  unfold k8;simp only
  rw [decide_eq_false (show ¬ (b.length : Int) < (b.length : Int) by omega), cf, List.take_length]) (by omega)
 have e' : iter (k8 b) bG (eF.mk 0 a) = some (eF.mk (b.length : Int) (cP a b)) := e;rw [e', ob]
theorem D3 {a b : List Vt} (h : a.length + b.length ≤ 90000) : Bi a b = some (cP a b) := by
 unfold Bi;rw [aP (by omega) (by omega), ct]
 have e := aB (step := k9 b) (n := b.length) (fun k => eG.mk (k : Int) (cP a (b.take k))) (eG.mk (b.length : Int) (cP a b)) (fun k hk => by
  obtain ⟨y, hy, -⟩ := aD hk;have hlen := da (b.take k) a;rw [List.length_take] at hlen;unfold k9;simp only;rw [decide_eq_true (show (k : Int) < (b.length : Int) by omega), ct, aG hy, ob, xG (by omega), ob, aS hy, mB, ak (n := k) (by omega)];by_cases hm : y ∈ cP a (b.take k)
  ·rw [decide_eq_true hm, Bool.not_true, cf, if_pos hm]
  ·rw [decide_eq_false hm, Bool.not_false, ct, aP (by simp only [List.length_singleton]; omega) (by omega), ct, if_neg hm]) (by
  unfold k9;simp only
  rw [decide_eq_false (show ¬ (b.length : Int) < (b.length : Int) by omega), cf, List.take_length]) (by omega)
 have e' : iter (k9 b) bG (eG.mk 0 a) = some (eG.mk (b.length : Int) (cP a b)) := e;rw [e', ob]
def aH (a b : Vw) : Vw := ⟨cP a.B b.B, cP a.V b.V⟩
theorem iB {a b : Vw} (h1 : a.B.length + b.B.length ≤ 90000) (h2 : a.V.length + b.V.length ≤ 90000) : xL a b = some (aH a b) := by
 unfold xL;rw [D2 h1, ob, D3 h2, ob]; rfl
def mayB (c : Cf) (b : Bk) : Bool := decide (0 ≤ j7 c b.Slot ∧ j7 c b.Slot = b.From ∧ nm b ≠ (0, 0))
def mayV (c : Cf) (v : Vt) : Bool := decide (v.From ∈ lz c v.Slot)
theorem F6 (c : Cf) (b : Bk) : HD c b = some (mayB c b) := by
 unfold HD mayB;rw [sP, ob];by_cases h1 : j7 c b.Slot ≥ 0
 ·rw [decide_eq_true h1, ct];by_cases h2 : j7 c b.Slot = b.From
  ·rw [show (j7 c b.Slot == b.From) = true by simp [h2], ct, I4];by_cases h3 : nm b = (0, 0)
   ·rw [decide_eq_true h3, Bool.not_true, decide_eq_false fun h => h.2.2 h3]
   ·rw [decide_eq_false h3, Bool.not_false, decide_eq_true ⟨h1, h2, h3⟩]
  ·rw [show (j7 c b.Slot == b.From) = false by simp [h2], cf, decide_eq_false fun h => h2 h.2.1]
 ·rw [decide_eq_false h1, cf, decide_eq_false fun h => h1 h.1]
theorem F7 (c : Cf) (v : Vt) : HE c v = some (mayV c v) := by
 unfold HE mayV;rw [sQ, ob]
theorem bO {α : Type} {p : α → Bool} {l : List α} {n : Nat} {y : α} (hy : l[n]? = some y) : (l.take (n + 1)).filter p = (l.take n).filter p ++ bif p y then [y] else [] := by
 rw [aS hy, List.filter_append];cases h : p y <;> simp [h]
theorem dv {α : Type} {p : α → Bool} {l : List α} (n : Nat) : ((l.take n).filter p).length ≤ n :=
 Nat.le_trans (List.length_filter_le _ _) (by rw [List.length_take]; omega)
theorem xy {c : Cf} {l : List Bk} (hl : l.length ≤ 100000) : yG c l = some (l.filter (mayB c)) := by
 unfold yG
 have e := aB (step := kX c l) (n := l.length) (fun k => eD.mk (k : Int) ((l.take k).filter (mayB c))) (eD.mk (l.length : Int) (l.filter (mayB c))) (fun k hk => by
  obtain ⟨y, hy, -⟩ := aD hk;have hlen := dv (p := mayB c) (l := l) k;unfold kX;simp only;rw [decide_eq_true (show (k : Int) < (l.length : Int) by omega), ct, aG hy, ob, F6, ob, bO hy, ak (n := k) (by omega)]
  cases mayB c y with
  | true => rw [ct, aP (by simp only [List.length_singleton]; omega) (by omega), ct, ct]
  | false => rw [cf, cf, List.append_nil]) (by
  unfold kX;simp only
  rw [decide_eq_false (show ¬ (l.length : Int) < (l.length : Int) by omega), cf, List.take_length]) (by omega)
 have e' : iter (kX c l) bG (eD.mk 0 []) = some (eD.mk (l.length : Int) (l.filter (mayB c))) := e;rw [e', ob]
theorem xz {c : Cf} {l : List Vt} (hl : l.length ≤ 100000) : yH c l = some (l.filter (mayV c)) := by
 unfold yH
 have e := aB (step := kY c l) (n := l.length) (fun k => eE.mk (k : Int) ((l.take k).filter (mayV c))) (eE.mk (l.length : Int) (l.filter (mayV c))) (fun k hk => by
  obtain ⟨y, hy, -⟩ := aD hk;have hlen := dv (p := mayV c) (l := l) k;unfold kY;simp only;rw [decide_eq_true (show (k : Int) < (l.length : Int) by omega), ct, aG hy, ob, F7, ob, bO hy, ak (n := k) (by omega)]
  cases mayV c y with
  | true => rw [ct, aP (by simp only [List.length_singleton]; omega) (by omega), ct, ct]
  | false => rw [cf, cf, List.append_nil]) (by
  unfold kY;simp only
  rw [decide_eq_false (show ¬ (l.length : Int) < (l.length : Int) by omega), cf, List.take_length]) (by omega)
 have e' : iter (kY c l) bG (eE.mk 0 []) = some (eE.mk (l.length : Int) (l.filter (mayV c))) := e;rw [e', ob]
def a8 (c : Cf) (w : Vw) : Vw := ⟨w.B.filter (mayB c), w.V.filter (mayV c)⟩
theorem BN {c : Cf} {w : Vw} (h1 : w.B.length ≤ 100000) (h2 : w.V.length ≤ 100000) : Hg c w = some (a8 c w) := by
 unfold Hg;rw [xy h1, ob, xz h2, ob]; rfl
theorem Ed {c : Cf} {w : Vw} (h1 : w.B.length ≤ 100000) (h2 : w.V.length ≤ 100000) : BM c w = some ((a8 c w).B, (a8 c w).V) := by
 unfold BM;rw [xy h1, ob, xz h2, ob]; rfl
open Go.Proofs
theorem vA {l : List Bk} {m : List (ID × Int)} (h : places l = some m) : ((0, 0) :: l.map nm).Nodup := by
 rw [List.nodup_cons];refine ⟨fun hm => ?_, ?_⟩
 ·obtain ⟨b, hb, e⟩ := List.mem_map.1 hm;obtain ⟨i, hi⟩ := List.getElem?_of_mem hb;have h1 := (aQ h).names i b (List.getElem?_eq_some_iff.1 hi).1 hi;rw [e, (aQ h).zero] at h1;cases h1
 ·rw [List.Nodup, List.pairwise_iff_getElem];intro i j hi hj hij e;simp only [List.length_map] at hi hj;have h1 := (aQ h).names i l[i] hi (List.getElem?_eq_getElem hi);have h2 := (aQ h).names j l[j] hj (List.getElem?_eq_getElem hj);rw [List.getElem_map, List.getElem_map] at e;rw [e, h2] at h1;cases h1;omega
def Ap (l : List Bk) (n : Nat) : Prop := ∃ y p, l[n]? = some y ∧ ah (pz l n) y.Parent = some p ∧ ¬ y.Slot ≤ b9 l p ∧ ah (pz l n) (nm y) = none
theorem CO {l : List Bk} : ∀ (r n : Nat), l.length - n = r → n ≤ l.length → ((eA l (l.drop n) n (pz l n)).isSome = true ↔ ∀ i, n ≤ i → i < l.length → Ap l i)
 | 0, n, hr, hn => by
  have : n = l.length := by omega
  subst this;rw [List.drop_length];exact ⟨fun _ i h1 h2 => by omega, fun _ => rfl⟩
 | r + 1, n, hr, hn => by
  obtain ⟨y, hy, -⟩ := aD (l := l) (n := n) (by omega);have ih := CO (l := l) r (n + 1) (by omega) (by omega)
  have e : pz l (n + 1) = pz l n ++ [(nm y, (n : Int))] := by simp only [pz, hy]
  rw [e] at ih;rw [eU hy];constructor
  ·intro h i h1 h2
   cases hp : ah (pz l n) y.Parent with
   | none => rw [hp] at h; cases h
   | some p =>
    rw [hp] at h;simp only at h;by_cases hs : y.Slot ≤ b9 l p
    ·rw [if_pos hs] at h; cases h
    ·rw [if_neg hs] at h
     cases hq : ah (pz l n) (nm y) with
     | some q => rw [hq] at h; cases h
     | none =>
      rw [hq] at h;by_cases hin : i = n
      ·subst hin; exact ⟨y, p, hy, hp, hs, hq⟩
      ·exact ih.1 h i (by omega) h2
  ·intro h;obtain ⟨y', p, hy', hp, hs, hq⟩ := h n (Nat.le_refl _) (by omega);rw [hy] at hy'; cases hy';rw [hp]; simp only;rw [if_neg hs, hq];exact ih.2 fun i h1 h2 => h i (by omega) h2
theorem tv {l : List Bk} : (places l).isSome = true ↔ ∀ i, i < l.length → Ap l i := by
 have := CO (l := l) l.length 0 (by omega) (Nat.zero_le _);rw [show (places l) = eA l (l.drop 0) 0 (pz l 0) from rfl, this];exact ⟨fun h i hi => h i (Nat.zero_le _) hi, fun h i _ hi => h i hi⟩
theorem mj {l m : List Bk} : ∀ n, (∀ i, i < n → l[i]? = m[i]?) → pz l n = pz m n
 | 0, _ => rfl
 | n + 1, h => by
  simp only [pz, h n (by omega), mj n fun i hi => h i (by omega)]
theorem oQ {l m : List Bk} {n : Nat} (h : ∀ i, i ≤ n → l[i]? = m[i]?) (ho : Ap l n) (hn : n < l.length) : Ap m n := by
 obtain ⟨y, p, h1, h2, h3, h4⟩ := ho;have e := mj n fun i hi => h i (by omega);refine ⟨y, p, by rw [← h n (Nat.le_refl _)]; exact h1, by rw [← e]; exact h2, ?_, by rw [← e]; exact h4⟩
 have hp : p = -1 ∨ 0 ≤ p ∧ p < n := by
  rw [vr _ n (by omega)] at h2;split at h2
  ·cases h2; exact .inl rfl
  ·split at h2
   ·rename_i hi;obtain ⟨j, b, g1, g2, -⟩ := CW hi;cases h2;exact .inr ⟨by omega, by omega⟩
   ·cases h2
 rcases hp with rfl | ⟨h5, h6⟩
 ·simpa [b9] using h3
 ·have : b9 m p = b9 l p := by
   simp only [b9, h p.toNat (by omega)]
  rw [this]; exact h3
theorem vu {l : List Bk} {k : Nat} (h : (places l).isSome = true) (hk : k ≤ l.length) : (places (l.take k)).isSome = true := by
 rw [tv] at h ⊢;intro i hi;simp only [List.length_take] at hi;refine oQ (fun j hj => ?_) (h i (by omega)) (by omega);rw [List.getElem?_take_of_lt (by omega)]
def x3 (l : List Bk) (b : Bk) : Bool := (iz l b.Parent).2 && decide (b.Slot > (iz l b.Parent).1) && !decide (nm b = (0, 0)) && decide (nV l (nm b) < 0)
theorem CZ {l : List Bk} {m : List (ID × Int)} {b : Bk} (h : places l = some m) : (places (l ++ [b])).isSome = x3 l b := by
 have hl : ∀ i, i < l.length → Ap l i := tv.1 (by rw [h]; rfl)
 have hpre : ∀ i, i < l.length → l[i]? = (l ++ [b])[i]? := fun i hi => by rw [List.getElem?_append_left hi]
 have hm : pz (l ++ [b]) l.length = m := by rw [← mj l.length hpre, ← Av h]
 have hb : (l ++ [b])[l.length]? = some b := by simp
 have hslot : ∀ p i, ah m p = some i → b9 (l ++ [b]) i = b9 l i := by
  intro p i hf;rcases vl h hf with ⟨rfl, -⟩ | ⟨c, h0, h1, h2, -⟩
  ·rfl
  ·have : ¬ i = -1 := by omega
   simp only [b9, if_neg this, ← hpre i.toNat (by omega)]
 have key : (places (l ++ [b])).isSome = true ↔ Ap (l ++ [b]) l.length := by
  rw [tv];constructor
  ·intro h1; exact h1 l.length (by simp)
  ·intro h1 i hi;simp only [List.length_append, List.length_singleton] at hi;by_cases e : i = l.length
   ·subst e; exact h1
   ·exact oQ (fun j hj => hpre j (by omega)) (hl i (by omega)) (by omega)
 rw [Bool.eq_iff_iff, key];constructor
 ·rintro ⟨y, p, h1, h2, h3, h4⟩;rw [hb] at h1; cases h1;rw [hm] at h2 h4;rw [hslot _ _ h2] at h3
  have hz : ¬ nm b = (0, 0) := fun e => by rw [e, (aQ h).zero] at h4; cases h4
  have g1 : iz l b.Parent = (b9 l p, true) := by simp only [iz, h, h2]
  have g2 : nV l (nm b) = -1 := by simp only [nV, h, h4]; rfl
  unfold x3;rw [g1, g2, decide_eq_true (show b.Slot > b9 l p by omega), decide_eq_false hz]; rfl
 ·intro hf;unfold x3 at hf;simp only [Bool.and_eq_true, Bool.not_eq_true', decide_eq_true_eq, decide_eq_false_iff_not] at hf;obtain ⟨⟨⟨h1, h2⟩, h3⟩, h4⟩ := hf
  cases hp : ah m b.Parent with
  | none => simp only [iz, h, hp] at h1; cases h1
  | some p =>
   simp only [iz, h, hp] at h2;refine ⟨b, p, hb, by rw [hm]; exact hp, by rw [hslot _ _ hp]; omega, ?_⟩;rw [hm];rcases Option.eq_none_or_eq_some (ah m (nm b)) with h5 | ⟨i, h5⟩
   ·exact h5
   ·exfalso;simp only [nV, h, h5, Option.getD_some] at h4;rcases vl h h5 with ⟨-, e⟩ | ⟨c, h0, -⟩
    ·exact h3 e
    ·omega
open Go.Proofs
def A9 (v : Vt) (sm : List (ID × Int)) : Option Bool :=
 bif !((ah sm v.Head).isSome) then
  some true
 else
  some (decide (((ah sm v.Head).getD 0) > v.Slot))
theorem IJ {v : Vt} {w : Vw} {sm : List (ID × Int)} {hm : List (Vt × Bool)} {r_ : Bool} (hr : A9 v sm = some r_) : LC Tryz.prog 189 [.p (aI v), .ptr 9 0] [.dead, .box (de w), .dead, .dead, .dead, .dead, (mQ sm), (mR hm), .box [(jB 4 w.B), (jV 5 w.V), .map 6, .map 7, (iQ 0), (bQ false)], .box [.ptr 8 0]] (Is (bQ r_) [.dead, .box (de w), .dead, .dead, .dead, .dead, (mQ sm), (mR hm), .box [(jB 4 w.B), (jV 5 w.V), .map 6, .map 7, (iQ 0), (bQ false)], .box [.ptr 8 0]]) := by
 refine dc Tryz.func189 Z Z Z ?_;unfold A9 at hr;refine zQ<|zR<|yS Z (bV Z Z Z Z Z)<|zM Z<|zN<|zT<|zQ<|LW.draw2 (by kernel_rfl) (by kernel_rfl)<|yE Z (zD Z Z Z Dz Z Z)<|yE Z (zn Z Z)<|yE Z (zA Z Z lp)<|yE Z (zD Z Z Z AN Z Z)<|yE Z (zA Z Z l7)<|yE Z (zD Z Z Z aR Z Z) ?_;refine yE Z (ab.getX (f := bH) (g := (fun v => (iQ v))) v.Head 0 dO Z Z Z Z kf E8 Z Z) ?_;refine zH Z<|yE Z (fA Z Z Z)<|yE Z (fA Z Z Z)<|zH Z<|zH Z<|LO.nil<|zT<|zQ<|zR<|zM Z<|yS Z (ab.not Z Z)<|zM Z ?_;refine zc 18 Z (fun g1 => ?_)<|fun g1 => ?_
 ·
  refine zi g1 hr fun hr => yU Z (gd g1 Z) Z<|yU Z (gd g1 Z) Z<|yU Z (gd g1 Z) Z<|yU Z (gd g1 Z) Z<|yS Z (eP Z (bL g1 Z) Z)<|zM Z<|zN<|zT<|zr ?_;obtain rfl := zJ hr;refine ba (env' := [(3, (bQ true))]) (H' := [.dead, .box (de w), .dead, .dead, .dead, .dead, (mQ sm), (mR hm), .box [(jB 4 w.B), (jV 5 w.V), .map 6, .map 7, (iQ 0), (bQ false)], .box [.ptr 8 0]]) (zW 10 ⟨rfl, trivial⟩ Z Z Z (zL Z (zL Z (zL Z (zL Z (zL Z (zL Z (zL (ae (fun _ => rfl) _) (zL (ae (fun _ => rfl) _) (zL Z (zL Z Z))))))))))) (.one (.tmp Z)) ?_;exact ⟨rfl, rfl⟩
 ·
  refine zo g1 hr fun hr => yV Z (gd g1 Z) (zm Z Z)<|yV Z (gd g1 Z) (zA Z Z qA)<|yV Z (gd g1 Z) (zD Z Z Z bC Z Z)<|yV Z (gd g1 Z) (aw Z Z Z Z)<|yS Z (db Z (bL g1 Z) Z)<|zM Z<|zN<|zT<|zr ?_;obtain rfl := zJ hr;refine ba (env' := [(3, .p (.bool (decide (((ah sm v.Head).getD 0) > v.Slot))))]) (H' := [.dead, .box (de w), .dead, .dead, .dead, .dead, (mQ sm), (mR hm), .box [(jB 4 w.B), (jV 5 w.V), .map 6, .map 7, (iQ 0), (bQ false)], .box [.ptr 8 0]]) (zW 10 ⟨rfl, trivial⟩ Z Z Z (zL Z (zL Z (zL Z (zL Z (zL Z (zL Z (zL (ae (fun _ => rfl) _) (zL (ae (fun _ => rfl) _) (zL Z (zL Z Z))))))))))) (.one (.tmp Z)) ?_;exact ⟨rfl, rfl⟩
structure ej where
 t8 : Int
def iO (l : List Vt) (sm : List (ID × Int)) (x1 : ej) : Option (ej ⊕ (ej ⊕ Int)) :=
 bif decide (x1.t8 < (l.length : Int)) then
  (ix l x1.t8).bind fun y1 =>
  (A9 y1 sm).bind fun v2 =>
  bif v2 then
   some (.inr (.inr x1.t8))
  else
   some (.inl (ej.mk (IntKind.i64.wrap (x1.t8 + 1))))
 else
  some (.inr (.inl (ej.mk x1.t8)))
def xD (l : List Vt) (sm : List (ID × Int)) : Option Int :=
 (iter (iO l sm) bG (ej.mk 0)).bind fun b_v1 => Sum.elim (fun _ =>
  some (-1)) some b_v1
theorem GE {l : List Vt} {w : Vw} {sm : List (ID × Int)} {hm : List (Vt × Bool)} {r_ : Int} (hr : xD l sm = some r_) : LC Tryz.prog 170 [(kV l), .fn 189 [] [.ptr 9 0]] [.dead, .box (de w), .dead, .dead, .dead, .dead, (mQ sm), (mR hm), .box [(jB 4 w.B), (jV 5 w.V), .map 6, .map 7, (iQ 0), (bQ false)], .box [.ptr 8 0]] (Is (iQ r_) [.dead, .box (de w), .dead, .dead, .dead, .dead, (mQ sm), (mR hm), .box [(jB 4 w.B), (jV 5 w.V), .map 6, .map 7, (iQ 0), (bQ false)], .box [.ptr 8 0]]) := by
 refine dc Tryz.func170 Z Z Z ?_;unfold xD at hr;refine zQ<|zR<|zM Z<|zN<|zT<|zQ<|zQ<|zR<|zM Z<|yS Z (dT Z Z (by kernel_rfl))<|zM Z<|zN<|zT ?_;obtain ⟨b_v1, hb_v1, ho_v1⟩ := zB hr;clear hr;refine LW.tailB (b := b_v1) (E := fun v1 => [(4, (iQ 0))]) (O := fun v1 => [.dead, .box (de w), .dead, .dead, .dead, .dead, (mQ sm), (mR hm), .box [(jB 4 w.B), (jV 5 w.V), .map 6, .map 7, (iQ 0), (bQ false)], .box [.ptr 8 0]]) ?_<|fun v1 e_v1 env_v1 H_v1 hw_v1 => ?_
 ·refine LW.block ?_;refine LW.iterB (E := fun x1 : ej => [(0, (kV l)), (1, .fn 189 [] [.ptr 9 0]), (4, (iQ 0)), (7, .p (.int .i64 (l.length : Int))), (8, (iQ x1.t8))]) (O := fun x1 => [.dead, .box (de w), .dead, .dead, .dead, .dead, (mQ sm), (mR hm), .box [(jB 4 w.B), (jV 5 w.V), .map 6, .map 7, (iQ 0), (bQ false)], .box [.ptr 8 0]]) hb_v1 (zW 10 ⟨rfl, rfl, rfl, rfl, rfl, trivial⟩ Z Z Z (zL Z (zL Z (zL Z (zL Z (zL Z (zL Z (zL (ae (fun _ => rfl) _) (zL (ae (fun _ => rfl) _) (zL Z (zL Z Z)))))))))))<|fun x1 z_x1 hr hb_x1 => ?_;unfold iO at hr;refine zQ<|zR<|yS Z (aw Z Z Z Z)<|zN<|zT<|zQ ?_;refine zX Z (fun g1 => ?_)<|fun g1 => ?_
  ·
   refine zi g1 hr fun hr => zk<|zT<|zQ<|zl<|zQ<|zR<|zM Z<|zM Z<|zN<|zT<|zQ<|zR<|zM Z<|zM Z<|zM Z<|zb hr fun y1 h_y1 hr => yS Z (zx Z Z Z dF h_y1 Z)<|yS Z (dS Z Z Z cB Z Z)<|zb hr fun v2 h_v2 hr => yS Z (zC Z Z Z (by kernel_rfl) (IJ h_v2))<|zN<|zT ?_;refine zX Z (fun g2 => ?_)<|fun g2 => ?_
   ·
    refine zi g2 hr fun hr => zQ<|zR<|zM Z<|zM Z<|zN<|zT<|zr<|ay<|aj<|aj<|ay<|aj<|aj ?_;obtain rfl := zJ hr;have hr := congrArg some (hb_x1 _ rfl);obtain rfl := zJ hr;have hr := d8 ho_v1;obtain rfl := zJ hr;exact ap (.one (.tmp Z))<|⟨rfl, rfl⟩
   ·
    refine zo g2 hr fun hr => zk<|ai<|zT<|zR<|yS Z (aw Z Z Z Z)<|zM Z<|zN<|zT ?_;obtain rfl := zJ hr;exact ⟨_, rfl, zW 10 ⟨rfl, rfl, rfl, rfl, rfl, trivial⟩ Z Z Z (zL Z (zL Z (zL Z (zL Z (zL Z (zL Z (zL (ae (fun _ => rfl) _) (zL (ae (fun _ => rfl) _) (zL Z (zL Z Z))))))))))⟩
  ·
   refine zo g1 hr fun hr => zq<|ao<|ao<|zy<|zT ?_;obtain rfl := zJ hr;have hr := congrArg some (hb_x1 _ rfl);obtain rfl := zJ hr;exact ⟨_, rfl, zW 10 ⟨rfl, trivial⟩ Z Z Z (zL Z (zL Z (zL Z (zL Z (zL Z (zL Z (zL (ae (fun _ => rfl) _) (zL (ae (fun _ => rfl) _) (zL Z (zL Z Z))))))))))⟩
 ·obtain rfl := e_v1;have hr := gb ho_v1;clear hb_v1;refine zT<|LW.weak hw_v1<|zQ<|zR<|zM Z<|zN<|zT<|zr ?_;obtain rfl := zJ hr;exact ap (.one (.tmp Z))<|⟨rfl, rfl⟩
def Ba (l : List Vt) (sm : List (ID × Int)) : Option Bool :=
 (xD l sm).bind fun v1 =>
 some (decide (v1 ≥ 0))
theorem IK {l : List Vt} {w : Vw} {sm : List (ID × Int)} {hm : List (Vt × Bool)} {r_ : Bool} (hr : Ba l sm = some r_) : LC Tryz.prog 190 [(kV l), .fn 189 [] [.ptr 9 0]] [.dead, .box (de w), .dead, .dead, .dead, .dead, (mQ sm), (mR hm), .box [(jB 4 w.B), (jV 5 w.V), .map 6, .map 7, (iQ 0), (bQ false)], .box [.ptr 8 0]] (Is (bQ r_) [.dead, .box (de w), .dead, .dead, .dead, .dead, (mQ sm), (mR hm), .box [(jB 4 w.B), (jV 5 w.V), .map 6, .map 7, (iQ 0), (bQ false)], .box [.ptr 8 0]]) := by
 refine dc Tryz.func190 Z Z Z ?_;unfold Ba at hr;refine zQ<|zR<|zM Z<|zN<|zT<|zQ<|zR<|zM Z<|zM Z<|zb hr fun v1 h_v1 hr => yS Z (zC Z Z Z (by kernel_rfl) (GE h_v1))<|yS Z (aw Z Z Z Z)<|zM Z<|zN<|zT<|zr ?_;obtain rfl := zJ hr;exact ap (.one (.tmp Z))<|⟨rfl, rfl⟩
def HF (c : Cf) (w : Vw) : Option Bool :=
 (
  (yP c).bind fun v2 =>
  bif !v2 then
   some true
  else
   (Hf w.B).bind fun v3 =>
   bif !v3 then
    some true
   else
    bif decide ((w.B.length : Int) > 60) then
     some true
    else
     some (decide ((w.V.length : Int) > 240))
 ).bind fun v1 =>
 bif v1 then
  some false
 else
  (Hg c w).bind fun v4 =>
  (
   bif (v4.B.length : Int) != (w.B.length : Int) then
    some true
   else
    some ((v4.V.length : Int) != (w.V.length : Int))
  ).bind fun v5 =>
  bif v5 then
   some false
  else
   (yI w 0).bind fun v6 =>
   bif qe v6.2 then
    bif (v6.2.length : Int) == (w.V.length : Int) then
     (Ba w.V v6.1).bind fun v7 =>
     some (!v7)
    else
     some false
   else none
theorem Lu {c : Cf} {w : Vw} {r_ : Bool} (hr : HF c w = some r_) : av Tryz.prog 178 [jx c, mA w] [.bool r_] := by
 refine zh Tryz.func178 Z Z Z Z ?_;unfold HF at hr;refine zQ<|zR<|yS Z (bV Z Z Z Z Z)<|yS Z (bV Z Z Z Z Z)<|zM Z<|zN<|zT<|zQ ?_;obtain ⟨v1, hb_v1, ho_v1⟩ := zB hr;clear hr;refine LW.cut (E := [(2, .ptr 0 0), (3, .ptr 1 0), (4, (bQ false)), (28, (bQ v1))]) (O := [.box (bB c), .box (de w)]) ?_ ?_
 ·have hr := hb_v1;refine zR<|yS Z (zD Z Z Z bE Z Z)<|zb hr fun v2 h_v2 hr => yS Z (zC Z Z Z (by kernel_rfl) (zp (Gv h_v2) (.cons zv .nil)))<|yS Z (ab.not Z Z)<|zM Z ?_;refine zc 11 Z (fun g1 => ?_)<|fun g1 => ?_
  ·
   refine zi g1 hr fun hr => yU Z (gd g1 Z) Z<|yU Z (gd g1 Z) Z<|yU Z (gd g1 Z) Z<|yU Z (gd g1 Z) Z<|yS Z (eP Z (bL g1 Z) Z)<|zM Z<|yU Z Z Z<|yU Z Z Z<|yU Z Z Z<|yU Z Z Z<|yS Z (eP Z Z Z)<|zM Z<|yU Z Z Z<|yU Z Z Z<|yU Z Z Z<|yU Z Z Z<|yS Z (eP Z Z Z)<|zN<|zT ?_;obtain rfl := zJ hr;exact zW 2 ⟨Z, Z, Z, Z, trivial⟩ Z Z Z Z
  ·
   refine zo g1 hr fun hr => yV Z (gd g1 Z) (zA Z Z bD)<|yV Z (gd g1 Z) (zD Z Z Z dE Z Z)<|zb hr fun v3 h_v3 hr => yV Z (gd g1 Z) (zC Z Z Z (by kernel_rfl) (zp (Ld h_v3) (.cons zv .nil)))<|yV Z (gd g1 Z) (ab.not Z Z)<|yS Z (db Z (bL g1 Z) Z)<|zM Z ?_;refine zc 17 Z (fun g2 => ?_)<|fun g2 => ?_
   ·
    refine zi g2 hr fun hr => yU Z (gd g2 Z) Z<|yU Z (gd g2 Z) Z<|yU Z (gd g2 Z) Z<|yU Z (gd g2 Z) Z<|yS Z (eP Z (bL g2 Z) Z)<|zM Z<|yU Z Z Z<|yU Z Z Z<|yU Z Z Z<|yU Z Z Z<|yS Z (eP Z Z Z)<|zN<|zT ?_;obtain rfl := zJ hr;exact zW 2 ⟨Z, Z, Z, Z, trivial⟩ Z Z Z Z
   ·
    refine zo g2 hr fun hr => yV Z (gd g2 Z) (zA Z Z bD)<|yV Z (gd g2 Z) (zD Z Z Z dE Z Z)<|yV Z (gd g2 Z) (dT Z Z (by kernel_rfl))<|yV Z (gd g2 Z) (aw Z Z Z Z)<|yS Z (db Z (bL g2 Z) Z)<|zM Z ?_;refine zc 23 Z (fun g3 => ?_)<|fun g3 => ?_
    ·
     refine zi g3 hr fun hr => yU Z (gd g3 Z) Z<|yU Z (gd g3 Z) Z<|yU Z (gd g3 Z) Z<|yU Z (gd g3 Z) Z<|yS Z (eP Z (bL g3 Z) Z)<|zN<|zT ?_;obtain rfl := zJ hr;exact zW 2 ⟨Z, Z, Z, Z, trivial⟩ Z Z Z Z
    ·
     refine zo g3 hr fun hr => yV Z (gd g3 Z) (zA Z Z bP)<|yV Z (gd g3 Z) (zD Z Z Z eC Z Z)<|yV Z (gd g3 Z) (dT Z Z (by kernel_rfl))<|yV Z (gd g3 Z) (aw Z Z Z Z)<|yS Z (db Z (bL g3 Z) Z)<|zN<|zT ?_;obtain rfl := zJ hr;exact zW 2 ⟨Z, Z, Z, Z, trivial⟩ Z Z Z Z
 ·have hr := ho_v1;clear hb_v1;refine zX Z (fun g4 => ?_)<|fun g4 => ?_
  ·
   refine zi g4 hr fun hr => zQ<|zR<|zM Z<|zN<|zT<|zr<|aj ?_;obtain rfl := zJ hr;exact zf (.one (.tmp Z)) zv
  ·
   refine zo g4 hr fun hr => zk<|zT<|zQ<|zR<|yS Z (zD Z Z Z bE Z Z)<|yS Z (zD Z Z Z aT Z Z)<|zb hr fun v4 h_v4 hr => yS Z (zC Z Z Z (by kernel_rfl) (zp (Le h_v4) (.cons zv (.cons zv .nil))))<|yS Z (ze Z ia Z Z)<|yS Z (zs Z Z Z Z aT Z Z Z Z)<|zN<|zT<|zQ ?_;obtain ⟨v5, hb_v5, ho_v5⟩ := zB hr;clear hr;refine LW.cut (E := [(3, .ptr 1 0), (4, (bQ false)), (47, (bQ v5))]) (O := [.box (bB c), .box (de w), .box (de v4)]) ?_ ?_
   ·have hr := hb_v5;refine zR<|yS Z (zA Z Z bD)<|yS Z (zD Z Z Z dE Z Z)<|yS Z (dT Z Z (by kernel_rfl))<|yS Z (zA Z Z bD)<|yS Z (zD Z Z Z dE Z Z)<|yS Z (dT Z Z (by kernel_rfl))<|yS Z (aw Z Z Z Z)<|zM Z ?_;refine zc 39 Z (fun g5 => ?_)<|fun g5 => ?_
    ·
     refine zi g5 hr fun hr => yU Z (gd g5 Z) Z<|yU Z (gd g5 Z) Z<|yU Z (gd g5 Z) Z<|yU Z (gd g5 Z) Z<|yU Z (gd g5 Z) Z<|yU Z (gd g5 Z) Z<|yU Z (gd g5 Z) Z<|yS Z (eP Z (bL g5 Z) Z)<|zN<|zT ?_;obtain rfl := zJ hr;exact zW 3 ⟨Z, Z, Z, trivial⟩ Z Z Z Z
    ·
     refine zo g5 hr fun hr => yV Z (gd g5 Z) (zA Z Z bP)<|yV Z (gd g5 Z) (zD Z Z Z eC Z Z)<|yV Z (gd g5 Z) (dT Z Z (by kernel_rfl))<|yV Z (gd g5 Z) (zA Z Z bP)<|yV Z (gd g5 Z) (zD Z Z Z eC Z Z)<|yV Z (gd g5 Z) (dT Z Z (by kernel_rfl))<|yV Z (gd g5 Z) (aw Z Z Z Z)<|yS Z (db Z (bL g5 Z) Z)<|zN<|zT ?_;obtain rfl := zJ hr;exact zW 3 ⟨Z, Z, Z, trivial⟩ Z Z Z Z
   ·have hr := ho_v5;clear hb_v5;refine zX Z (fun g6 => ?_)<|fun g6 => ?_
    ·
     refine zi g6 hr fun hr => zQ<|zR<|zM Z<|zN<|zT<|zr<|aj ?_;obtain rfl := zJ hr;exact zf (.one (.tmp Z)) zv
    ·
     refine zo g6 hr fun hr => zk<|zT<|zQ<|zR<|yS Z (zD Z Z Z aT Z Z)<|zb hr fun v6 h_v6 hr => yS Z (zC Z Z Z (by kernel_rfl) (LC.frameX (x' := .ptr 8 0) (H' := [.box (bB c), .box (de w), .box (de v4), .box (de w), .vec 5 (w.B.map ax), .vec 4 (w.V.map aI), (mQ v6.1), (mR v6.2), .box [(jB 4 w.B), (jV 5 w.V), .map 6, .map 7, (iQ 0), (bQ false)]]) (Fu h_v6) (.consC zv (.consC zv .nil)) Z Z (by simp only [List.map_cons, List.map_nil, List.cons_append, List.nil_append, aa.shift, LV.shifts, LV.shift, xZ, xY] <;> rfl)))<|yS Z (ze Z J2 Z Z)<|yS Z (zs Z Z Z Z Dz Z Z Z Z)<|zN<|zT<|zQ<|LW.ent (bM.kill (i := 0) Z)<|LW.ent (bM.kill (i := 2) Z)<|LW.ent (bM.kill (i := 3) Z)<|LW.ent (bM.kill (i := 4) Z)<|LW.ent (bM.kill (i := 5) Z)<|zR<|yS Z (ab.makeFunc Z Z Z)<|zM Z<|zN<|zT<|zQ ?_;refine LW.draw2 (by kernel_rfl) (by kernel_rfl)<|yE Z (zD Z Z Z Dz Z Z)<|yE Z (zn Z Z)<|yE Z (zA Z Z pu)<|yE Z (zD Z Z Z yx Z Z)<|zg hr fun q1 hr => yE Z (ab.lenMapX Z Z Z (by kernel_rfl) q1)<|yE Z (zA Z Z bP)<|yE Z (zD Z Z Z eC Z Z)<|yE Z (dT Z Z (by kernel_rfl))<|yE Z (aw Z Z Z Z)<|zH Z ?_;refine LO.cases 60 Z (fun (g7 : ((v6.2.length : Int) == (w.V.length : Int)) = true) => ?_) (fun (g7 : ((v6.2.length : Int) == (w.V.length : Int)) = false) => ?_)
     ·
      refine zi g7 hr fun hr => LO.gd Z Z Z (gd g7 Z) Z (zA Z Z bP)<|LO.gd Z Z Z (gd g7 Z) Z (zD Z Z Z eC Z Z)<|LO.gd Z Z Z (gd g7 Z) Z (zm Z Z)<|zb hr fun v7 h_v7 hr => LO.gd Z Z Z (gd g7 Z) Z (zC Z Z Z (by kernel_rfl) (IK h_v7))<|LO.gd Z Z Z (gd g7 Z) Z (ab.not Z Z)<|yE Z (eP Z (bL g7 Z) Z)<|zH Z<|LO.nil<|zT<|zr ?_;obtain rfl := zJ hr;exact zf (.one (.tmp Z)) zv
     ·
      refine zo g7 hr fun hr => LO.sk Z Z Z (gd g7 Z) Z Z<|LO.sk Z Z Z (gd g7 Z) Z Z<|LO.sk Z Z Z (gd g7 Z) Z Z<|LO.sk Z Z Z (gd g7 Z) Z Z<|LO.sk Z Z Z (gd g7 Z) Z Z<|yE Z (db Z (bL g7 Z) Z)<|zH Z<|LO.nil<|zT<|zr ?_;obtain rfl := zJ hr;exact zf (.one (.tmp Z)) zv
def aY (B : List Bk) (id : ID) : Option Int := if id = (0, 0) then some 0 else (B.find? fun b => decide (nm b = id)).map Bk.Slot
theorem qX (B : List Bk) : aY B (0, 0) = some 0 := by unfold aY; rw [if_pos rfl]
theorem qU (B : List Bk) (b : Bk) (id : ID) : aY (B ++ [b]) id = (aY B id).or (if nm b = id then some b.Slot else none) := by
 unfold aY;by_cases h : id = (0, 0)
 ·rw [if_pos h, if_pos h]; rfl
 ·rw [if_neg h, if_neg h, List.find?_append]
  cases B.find? fun b => decide (nm b = id) with
  | some x => rfl
  | none =>
   by_cases h2 : nm b = id
   ·simp [h2]
   ·simp [h2]
theorem gZ {B : List Bk} {id : ID} {s : Int} (h : aY B id = some s) (t : List Bk) : aY (B ++ t) id = some s := by
 unfold aY at h ⊢;by_cases h0 : id = (0, 0)
 ·rw [if_pos h0] at h ⊢; exact h
 ·rw [if_neg h0] at h ⊢;rw [List.find?_append]
  cases hf : B.find? fun b => decide (nm b = id) with
  | some x => rw [hf] at h; exact h
  | none => rw [hf] at h; cases h
theorem oB {B : List Bk} {id : ID} {s : Int} (h : aY B id = some s) : (id = (0, 0) ∧ s = 0) ∨ (id ≠ (0, 0) ∧ ∃ b ∈ B, nm b = id ∧ b.Slot = s) := by
 unfold aY at h;by_cases h0 : id = (0, 0)
 ·rw [if_pos h0] at h; cases h; exact .inl ⟨h0, rfl⟩
 ·rw [if_neg h0] at h
  cases hf : B.find? fun b => decide (nm b = id) with
  | none => rw [hf] at h; cases h
  | some x =>
   rw [hf] at h;cases h;exact .inr ⟨h0, x, List.mem_of_find?_eq_some hf, (by simpa using List.find?_some hf), rfl⟩
theorem qW {B : List Bk} {b : Bk} (h : b ∈ B) : ∃ s, aY B (nm b) = some s := by
 unfold aY;by_cases h0 : nm b = (0, 0)
 ·rw [if_pos h0]; exact ⟨_, rfl⟩
 ·rw [if_neg h0]
  cases hf : B.find? fun q => decide (nm q = nm b) with
  | some x => exact ⟨_, rfl⟩
  | none =>
   rw [List.find?_eq_none] at hf;have := hf b h;simp at this
def aO (B : List Bk) : Prop := (places B).isSome = true
theorem AL : aO [] := rfl
theorem nu {l : List Bk} {m : List (ID × Int)} (h : places l = some m) (id : ID) : aY l id = (ah m id).map (b9 l) := by
 have hI := aQ h;unfold aY;by_cases h0 : id = (0, 0)
 ·rw [if_pos h0, h0, hI.zero]; simp [b9]
 ·rw [if_neg h0]
  cases hf : ah m id with
  | none =>
   cases hq : l.find? fun b => decide (nm b = id) with
   | none => rfl
   | some b =>
    exfalso;have hb := List.mem_of_find?_eq_some hq
    have hn : nm b = id := by simpa using List.find?_some hq
    obtain ⟨i, hi⟩ := List.getElem?_of_mem hb;have := hI.names i b (List.getElem?_eq_some_iff.1 hi).1 hi;rw [hn, hf] at this; cases this
  | some i =>
   rcases hI.known _ _ hf with ⟨-, h1⟩ | ⟨b, p, h1, h2, h3, h4, -⟩
   ·exact absurd h1 h0
   ·cases hq : l.find? fun b => decide (nm b = id) with
    | none =>
     rw [List.find?_eq_none] at hq;have := hq b (List.mem_of_getElem? h3);simp [h4] at this
    | some b' =>
     have hb := List.mem_of_find?_eq_some hq
     have hn : nm b' = id := by simpa using List.find?_some hq
     obtain ⟨j, hj⟩ := List.getElem?_of_mem hb;have := hI.names j b' (List.getElem?_eq_some_iff.1 hj).1 hj;rw [hn, hf] at this;cases this;simp [b9, hj, show ¬ (j : Int) = -1 by omega]
theorem AE {l : List Bk} {m : List (ID × Int)} (h : places l = some m) (id : ID) : iz l id = match aY l id with | some s => (s, true) | none => (0, false) := by
 rw [nu h];unfold iz;rw [h];simp only;cases ah m id <;> rfl
theorem CA {l : List Bk} {m : List (ID × Int)} (h : places l = some m) (id : ID) : (¬ id = (0, 0) ∧ nV l id < 0) ↔ aY l id = none := by
 rw [nu h];unfold nV;rw [h];simp only
 cases hf : ah m id with
 | none =>
  refine ⟨fun _ => rfl, fun _ => ⟨fun e => ?_, by simp⟩⟩;rw [e, (aQ h).zero] at hf; cases hf
 | some i =>
  refine ⟨fun h1 => ?_, fun h1 => by cases h1⟩;rcases (aQ h).known _ _ hf with ⟨-, h2⟩ | ⟨_, _, h2, -⟩
  ·exact absurd h2 h1.1
  ·have := h1.2; simp at this; omega
theorem jU {B : List Bk} {b : Bk} : aO (B ++ [b]) ↔ aO B ∧ (∃ s, aY B b.Parent = some s ∧ s < b.Slot) ∧ aY B (nm b) = none := by
 have key : ∀ {m}, places B = some m → (aO (B ++ [b]) ↔ (∃ s, aY B b.Parent = some s ∧ s < b.Slot) ∧ aY B (nm b) = none) := by
  intro m hm;unfold aO;rw [CZ hm, ← CA hm];unfold x3;rw [AE hm]
  cases aY B b.Parent with
  | none => simp
  | some s => simp [and_assoc]
 cases hm : places B with
 | some m =>
  rw [key hm];exact ⟨fun h => ⟨by unfold aO; rw [hm]; rfl, h⟩, fun h => h.2⟩
 | none =>
  have hno : ¬ aO B := by unfold aO; rw [hm]; simp
  refine ⟨fun h => absurd ?_ hno, fun h => absurd h.1 hno⟩;have := vu (k := B.length) h (by simp)
  rwa [List.take_left' rfl] at this
theorem my {B : List Bk} (h : aO B) (k : Nat) : aO (B.take k) := by
 by_cases hk : k ≤ B.length
 ·exact vu h hk
 ·rw [List.take_of_length_le (by omega)]; exact h
theorem kS {B : List Bk} (h : aO B) : ((0, 0) :: B.map nm).Nodup := by
 obtain ⟨m, hm⟩ := Option.isSome_iff_exists.1 h;exact vA hm
theorem mw {B : List Bk} (h : aO B) {b : Bk} (hb : b ∈ B) : aY B (nm b) = some b.Slot := by
 obtain ⟨s, hs⟩ := qW hb;have hn := kS h;rw [List.nodup_cons] at hn;rcases oB hs with ⟨h0, -⟩ | ⟨-, b', hb', he, hs'⟩
 ·exact absurd (h0 ▸ List.mem_map.2 ⟨b, hb, rfl⟩) hn.1
 ·have : b' = b := by
   obtain ⟨i, hi⟩ := List.getElem?_of_mem hb;obtain ⟨j, hj⟩ := List.getElem?_of_mem hb'
   have hi' : (B.map nm)[i]? = some (nm b) := by rw [List.getElem?_map, hi]; rfl
   have hj' : (B.map nm)[j]? = some (nm b) := by rw [List.getElem?_map, hj, ← he]; rfl
   have := (List.getElem?_inj (List.getElem?_eq_some_iff.1 hi').1 hn.2).1 (hi'.trans hj'.symm);subst this;rw [hi] at hj; exact (Option.some.inj hj).symm
  rw [hs, ← hs', this]
theorem tG {B : List Bk} (h : aO B) {b : Bk} (hb : b ∈ B) : ∃ s, aY B b.Parent = some s ∧ s < b.Slot := by
 obtain ⟨i, hi⟩ := List.getElem?_of_mem hb;have hil := (List.getElem?_eq_some_iff.1 hi).1;have ht := my h (i + 1);rw [aS hi, jU] at ht;obtain ⟨s, h1, h2⟩ := ht.2.1;refine ⟨s, ?_, h2⟩;have := gZ h1 (B.drop i)
 rwa [List.take_append_drop] at this
def vR : List Bk → List (ID × Int) → List (ID × Int)
 | [], m => m
 | b :: r, m => vR r (aN m (nm b) b.Slot)
def mp (B : List Bk) : List (ID × Int) := vR B [((0, 0), 0)]
def vd : List Vt → List (Vt × Bool) → List (Vt × Bool)
 | [], m => m
 | v :: r, m => vd r (aN m v true)
def kd (V : List Vt) : List (Vt × Bool) := vd V []
theorem sB (b : Bk) : ∀ (B : List Bk) (m), vR (B ++ [b]) m = aN (vR B m) (nm b) b.Slot
 | [], _ => rfl
 | _ :: r, _ => sB b r _
theorem se (v : Vt) : ∀ (V : List Vt) (m), vd (V ++ [v]) m = aN (vd V m) v true
 | [], _ => rfl
 | _ :: r, _ => se v r _
theorem sD (B : List Bk) (b : Bk) : mp (B ++ [b]) = aN (mp B) (nm b) b.Slot := sB b B _
theorem sg (V : List Vt) (v : Vt) : kd (V ++ [v]) = aN (kd V) v true := se v V _
theorem nt {α β : Type} [DecidableEq α] (m : List (α × β)) (k : α) (v : β) : (aN m k v).length = if (ah m k).isSome then m.length else m.length + 1 := by
 induction m with
 | nil => simp [aN, ah]
 | cons p r ih =>
  obtain ⟨a, b⟩ := p;by_cases h : a = k
  ·simp [aN, ah, h]
  ·cases hf : ah r k <;> simp [aN, ah, h, hf] at ih ⊢ <;> exact ih
theorem Dj (B : List Bk) : (mp B).length ≤ B.length + 1 := by
 unfold mp
 have : ∀ (B : List Bk) (m : List (ID × Int)), (vR B m).length ≤ B.length + m.length := by
  intro B
  induction B with
  | nil => intro m; simp [vR]
  | cons b r ih =>
   intro m;have h1 := ih (aN m (nm b) b.Slot);have h2 := nt m (nm b) b.Slot;unfold vR;simp only [List.length_cons];split at h2 <;> omega
 have := this B [((0, 0), 0)];simpa using this
theorem sC {B : List Bk} (h : aO B) : ∀ id, ah (mp B) id = aY B id := by
 have key : ∀ k, k ≤ B.length → ∀ id, ah (mp (B.take k)) id = aY (B.take k) id := by
  intro k
  induction k with
  | zero =>
   intro _ id;simp only [List.take_zero];unfold mp vR aY ah ah;by_cases e : id = (0, 0)
   ·simp [e]
   ·simp [e, Ne.symm e]
  | succ k ih =>
   intro hk id;obtain ⟨b, hb, -⟩ := aD (l := B) (n := k) (by omega);have hv := my h (k + 1);rw [aS hb] at hv ⊢;rw [jU] at hv;rw [sD, cq, qU, ih (by omega)];by_cases e : nm b = id
   ·rw [if_pos e, if_pos e, ← e, hv.2.2]; rfl
   ·rw [if_neg e, if_neg e]; cases aY (B.take k) id <;> rfl
 have := key B.length (Nat.le_refl _)
 rwa [List.take_length] at this
theorem sf (V : List Vt) (v : Vt) : ah (kd V) v = if v ∈ V then some true else none := by
 have : ∀ (V : List Vt) (m : List (Vt × Bool)), ah (vd V m) v = if v ∈ V then some true else ah m v := by
  intro V
  induction V with
  | nil => intro m; simp [vd]
  | cons x r ih =>
   intro m;unfold vd;rw [ih, cq];by_cases h : v ∈ r
   ·simp [h]
   ·by_cases h2 : x = v
    ·simp [h2]
    ·simp [h, h2, Ne.symm h2]
 rw [kd, this]; rfl
theorem ve (V : List Vt) : (kd V).length ≤ V.length ∧ ((kd V).length = V.length ↔ V.Nodup) := by
 have key : ∀ k, k ≤ V.length → (kd (V.take k)).length ≤ k ∧ ((kd (V.take k)).length = k ↔ (V.take k).Nodup) := by
  intro k
  induction k with
  | zero => intro _; simp [kd, vd]
  | succ k ih =>
   intro hk;obtain ⟨v, hv, -⟩ := aD (l := V) (n := k) (by omega);obtain ⟨h1, h2⟩ := ih (by omega);rw [aS hv, sg, nt, sf, List.nodup_append];by_cases hm : v ∈ V.take k
   ·rw [if_pos hm];refine ⟨by simp; omega, ⟨fun e => by simp at e; omega, fun h => absurd Z (h.2.2 v hm v (by simp))⟩⟩
   ·rw [if_neg hm];refine ⟨by simp; omega, ⟨fun e => ⟨h2.1 (by simp at e; omega), by simp, fun a ha b hb => by rw [List.mem_singleton] at hb; subst hb; exact fun q => hm (q ▸ ha)⟩, fun h => ?_⟩⟩;have := h2.2 h.1;simp; omega
 have := key V.length (Nat.le_refl _)
 rwa [List.take_length] at this
theorem xA {w : Vw} {u : Int} (h1 : w.B.length ≤ 90000) (h2 : w.V.length ≤ 90000) : yI w u = some (mp w.B, kd w.V) := by
 unfold yI;rw [aP (by omega) (by omega), ct, aP (by omega) (by omega), ct]
 have e1 := aB (step := kZ w) (n := w.B.length) (fun k => eY.mk (k : Int) (mp (w.B.take k))) (eY.mk (w.B.length : Int) (mp w.B)) (fun k hk => by
  obtain ⟨y, hy, -⟩ := aD hk;unfold kZ;simp only
  rw [decide_eq_true (show (k : Int) < (w.B.length : Int) by omega), ct, aG hy, ob, aS hy, sD, ak (n := k) (by omega)]) (by
  unfold kZ;simp only
  rw [decide_eq_false (show ¬ (w.B.length : Int) < (w.B.length : Int) by omega), cf, List.take_length]) (by omega)
 have e1' : iter (kZ w) bG (eY.mk 0 (aN [] (0, 0) 0)) = some (eY.mk (w.B.length : Int) (mp w.B)) := e1
 have e2 := aB (step := k5 w) (n := w.V.length) (fun k => eZ.mk (k : Int) (kd (w.V.take k))) (eZ.mk (w.V.length : Int) (kd w.V)) (fun k hk => by
  obtain ⟨y, hy, -⟩ := aD hk;unfold k5;simp only
  rw [decide_eq_true (show (k : Int) < (w.V.length : Int) by omega), ct, aG hy, ob, aS hy, sg, ak (n := k) (by omega)]) (by
  unfold k5;simp only
  rw [decide_eq_false (show ¬ (w.V.length : Int) < (w.V.length : Int) by omega), cf, List.take_length]) (by omega)
 have e2' : iter (k5 w) bG (eZ.mk 0 []) = some (eZ.mk (w.V.length : Int) (kd w.V)) := e2;rw [e1', ob, e2', ob]
def forB (B : List Bk) (v : Vt) : Prop := ∃ s, aY B v.Head = some s ∧ s ≤ v.Slot
def uA (sm : List (ID × Int)) (v : Vt) : Bool := match ah sm v.Head with
 | none => true
 | some s => decide (s > v.Slot)
theorem DW (v : Vt) (sm : List (ID × Int)) : A9 v sm = some (uA sm v) := by
 unfold A9 uA
 cases ah sm v.Head with
 | none => rfl
 | some s => rfl
def rV (sm : List (ID × Int)) (l : List Vt) (j : Nat) : Option Int := match l[j]? with
 | some v => if uA sm v = true then some (j : Int) else none
 | none => none
theorem DX {l : List Vt} (hl : l.length ≤ 90000) (sm : List (ID × Int)) : Ba l sm = some (l.any (uA sm)) := by
 have e := eV (step := iO l sm) (n := l.length) (fun k => ej.mk (k : Int)) (rV sm l) (fun j hj => by
  obtain ⟨y, hy, -⟩ := aD hj;unfold iO rV;simp only;rw [decide_eq_true (show (j : Int) < (l.length : Int) by omega), ct, aG hy, ob, DW, ob, ak (n := j) (by omega), hy];simp only
  cases uA sm y with
  | true => rw [ct, if_pos rfl]
  | false => rw [cf, if_neg (by simp)]) (by
  unfold iO;simp only
  rw [decide_eq_false (show ¬ (l.length : Int) < (l.length : Int) by omega), cf]) (by omega)
 unfold Ba xD;have e' : iter (iO l sm) bG (ej.mk 0) = some (lE (ej.mk (l.length : Int)) (cx (rV sm l) 0 l.length)) := e;rw [e', ob]
 cases h : cx (rV sm l) 0 l.length with
 | none =>
  rw [lE, sl, ob];rw [fM] at h;congr 1;rw [show decide ((-1 : Int) ≥ 0) = false from rfl];symm;rw [List.any_eq_false];intro v hv;obtain ⟨j, hj⟩ := List.getElem?_of_mem hv;have := h j (Nat.zero_le _) (by have := (List.getElem?_eq_some_iff.1 hj).1; omega);unfold rV at this;rw [hj] at this;simp only at this;intro hb;rw [if_pos hb] at this; cases this
 | some r =>
  obtain ⟨j, -, -, h3, -⟩ := dN h;unfold rV at h3;split at h3
  ·rename_i v hv;split at h3
   ·rename_i hb;cases h3;rw [lE, sr, ob, decide_eq_true (show (j : Int) ≥ 0 by omega)];congr 1;symm;rw [List.any_eq_true];exact ⟨v, List.mem_of_getElem? hv, hb⟩
   ·cases h3
  ·cases h3
structure ea (c : Cf) (w : Vw) : Prop where
 conf : dA c
 valid : aO w.B
 lenB : w.B.length ≤ 60
 lenV : w.V.length ≤ 240
 mayB : ∀ b ∈ w.B, mayB c b = true
 mayV : ∀ v ∈ w.V, mayV c v = true
 nodup : w.V.Nodup
 forB : ∀ v ∈ w.V, forB w.B v
open Classical in
theorem F8 {c : Cf} {w : Vw} (h1 : w.B.length ≤ 1000) (h2 : w.V.length ≤ 1000) : HF c w = some (decide (ea c w)) := by
 have hno : ∀ h : ¬ ea c w, decide (ea c w) = false := fun h => decide_eq_false h;unfold HF;rw [lR, ob];by_cases c1 : dA c
 ·rw [decide_eq_true c1, Bool.not_true, cf, BJ, ob];by_cases c2 : aO w.B
  ·rw [show (places w.B).isSome = true from c2, Bool.not_true, cf];by_cases c3 : w.B.length ≤ 60
   ·rw [decide_eq_false (show ¬ (w.B.length : Int) > 60 by omega), cf, ob];by_cases c4 : w.V.length ≤ 240
    ·rw [decide_eq_false (show ¬ (w.V.length : Int) > 240 by omega), cf, BN (by omega) (by omega), ob]
     have hfB : (a8 c w).B.length = w.B.length ↔ ∀ b ∈ w.B, mayB c b = true := by unfold a8; exact List.length_filter_eq_length_iff
     have hfV : (a8 c w).V.length = w.V.length ↔ ∀ v ∈ w.V, mayV c v = true := by unfold a8; exact List.length_filter_eq_length_iff
     by_cases c5 : ∀ b ∈ w.B, mayB c b = true
     ·rw [show (((a8 c w).B.length : Int) != (w.B.length : Int)) = false by rw [hfB.2 c5]; simp, cf, ob];by_cases c6 : ∀ v ∈ w.V, mayV c v = true
      ·have hm := ve w.V;rw [show (((a8 c w).V.length : Int) != (w.V.length : Int)) = false by rw [hfV.2 c6]; simp, cf, xA (by omega) (by omega), ob, show qe (kd w.V) = true from decide_eq_true (by omega), ct];by_cases c7 : w.V.Nodup
       ·rw [show (((kd w.V).length : Int) == (w.V.length : Int)) = true by rw [hm.2.2 c7]; simp, ct, DX (by omega), ob];congr 1
        have hbad : ∀ v, uA (mp w.B) v = false ↔ Go.Mg.forB w.B v := by
         intro v;unfold uA Go.Mg.forB;rw [sC c2]
         cases aY w.B v.Head with
         | none => simp
         | some s => simp
        cases ha : w.V.any (uA (mp w.B)) with
        | true =>
         obtain ⟨v, hv, hb⟩ := List.any_eq_true.1 ha;symm;refine hno fun h => ?_;have := (hbad v).2 (h.forB v hv);rw [hb] at this; cases this
        | false =>
         rw [List.any_eq_false] at ha;symm;exact decide_eq_true ⟨c1, c2, c3, c4, c5, c6, c7, fun v hv => (hbad v).1 (by have := ha v hv; simpa using this)⟩
       ·rw [show (((kd w.V).length : Int) == (w.V.length : Int)) = false by
         rw [beq_eq_false_iff_ne]; intro e; exact c7 (hm.2.1 (by omega)), cf, hno fun h => c7 h.nodup]
      ·rw [show (((a8 c w).V.length : Int) != (w.V.length : Int)) = true by
        rw [bne_iff_ne]; intro e; exact c6 (hfV.1 (by omega)), ct, hno fun h => c6 h.mayV]
     ·rw [show (((a8 c w).B.length : Int) != (w.B.length : Int)) = true by
       rw [bne_iff_ne]; intro e; exact c5 (hfB.1 (by omega)), ct, ob, ct, hno fun h => c5 h.mayB]
    ·rw [decide_eq_true (show (w.V.length : Int) > 240 by omega), ct, hno fun h => c4 h.lenV]
   ·rw [decide_eq_true (show (w.B.length : Int) > 60 by omega), ct, ob, ct, hno fun h => c3 h.lenB]
  ·rw [show (places w.B).isSome = false from by unfold aO at c2; simpa using c2, Bool.not_false, ct, ob, ct, hno fun h => c2 h.valid]
 ·rw [decide_eq_false c1, Bool.not_false, ct, ob, ct, hno fun h => c1 h.conf]
open Go.Proofs
structure fp where
 n : Int
 o6 : List Bk
 o7 : List Vt
 o8 : List (ID × Int)
 o9 : List (Vt × Bool)
 x_5 : Bool
 o14 : List Bk
 o15 : List Vt
 left_0 : Nat
 left_1 : Nat
def lU (slot : Int) (x1 : fp) : Option (fp ⊕ fp) :=
 bif x1.n != (IntKind.i64.wrap ((x1.o6.length : Int) + (x1.o7.length : Int))) then
  (Be x1.o14 x1.left_0 x1.o6 x1.o8 slot x1.x_5).bind fun v5 =>
  (Bf x1.o15 x1.left_1 x1.o7 v5.2.2.2.1 x1.o9 slot v5.2.2.2.2).bind fun v6 =>
  some (.inl (fp.mk (IntKind.i64.wrap ((x1.o6.length : Int) + (x1.o7.length : Int))) v5.2.2.1 v6.2.2.1 v5.2.2.2.1 v6.2.2.2.1 v6.2.2.2.2 v5.2.1 v6.2.1 v5.1 v6.1))
 else
  some (.inr (fp.mk x1.n x1.o6 x1.o7 x1.o8 x1.o9 x1.x_5 x1.o14 x1.o15 x1.left_0 x1.left_1))
def HG (c : Cf) (w : Vw) (v_in : Vw) (slot : Int) : Option (Vw × Vw × Bool) :=
 (yI w slot).bind fun v1 =>
 (HF c w).bind fun v2 =>
 bif !v2 then
  bif room 0 v_in.B.length 40 then
   bif room 0 v_in.V.length 32 then
    some (w, v_in, false)
   else none
  else none
 else
  (BM c v_in).bind fun v3 =>
  (iter (lU slot) bG (fp.mk (-1) w.B w.V v1.1 v1.2 false v3.1 v3.2 ((v3.1.map ax).length) ((v3.2.map aI).length))).bind fun v4 =>
  bif Nat.ble v4.left_0 v4.o14.length then
   bif Nat.ble v4.left_1 v4.o15.length then
    some (Vw.mk v4.o6 v4.o7, Vw.mk (v4.o14.take v4.left_0) (v4.o15.take v4.left_1), v4.x_5)
   else none
  else none
theorem Lv {c : Cf} {w : Vw} {v_in : Vw} {slot : Int} {r_ : Vw × Vw × Bool} (hr : HG c w v_in slot = some r_) : av Tryz.prog 164 [jx c, mA w, mA v_in, .int .i64 slot] [mA r_.1, mA r_.2.1, .bool r_.2.2] := by
 refine zh Tryz.func164 Z Z Z Z ?_;unfold HG at hr;refine zQ<|zR<|yS Z (bV Z Z Z Z Z)<|yS Z (bV Z Z Z Z Z)<|yS Z (bV Z Z Z Z Z)<|yS Z (ze Z ia Z Z)<|yS Z (ze Z ia Z Z)<|zM Z<|zN<|zT<|zQ<|zR<|yS Z (zD Z Z Z aT Z Z)<|zM Z<|zb hr fun v1 h_v1 hr => yS Z (zC Z Z Z (by kernel_rfl) (LC.frameX (x' := .ptr 10 0) (H' := [.box (bB c), .box (de w), .box (de v_in), .box [.zs, .zs], .box [.zs, .zs], .box (de w), .vec 5 (w.B.map ax), .vec 4 (w.V.map aI), (mQ v1.1), (mR v1.2), .box [(jB 6 w.B), (jV 7 w.V), .map 8, .map 9, (iQ slot), (bQ false)]]) (Fu h_v1) (.consC zv (.consC zv .nil)) Z Z (by simp only [List.map_cons, List.map_nil, List.cons_append, List.nil_append, aa.shift, LV.shifts, LV.shift, xZ, xY] <;> rfl)))<|zM Z<|zN<|zT<|zQ<|zQ<|zR<|yS Z (zD Z Z Z bE Z Z)<|yS Z (zD Z Z Z aT Z Z) ?_;refine zb hr fun v2 h_v2 hr => yS Z (zC Z Z Z (by kernel_rfl) (zp (Lu h_v2) (.cons zv (.cons zv .nil))))<|yS Z (ab.not Z Z)<|zN<|zT ?_;refine zX Z (fun g1 => ?_)<|fun g1 => ?_
 ·
  refine zi g1 hr fun hr => zQ<|LW.ent (bM.slot Z)<|LW.ent (bM.slot Z)<|LW.drawW (by kernel_rfl) (by kernel_rfl)<|zK Z ?_;refine yF (F := []) (s := none) Z (fun H _ => zn Z Z) Z ?_;refine yF (F := []) (s := none) Z (fun H _ => zA Z Z eJ) Z ?_;refine yF Z (zd Z Z Z aT Z Z) Z ?_;refine yF (F := []) (s := none) Z (fun H _ => zA Z Z bD) Z ?_;refine yF Z (zd Z Z Z dE Z Z) Z<|zg hr fun q1 hr => ?_;refine yF Z (bJ.callV (id := 11) (qs := [(kB v_in.B)]) Z Z Z (by kernel_rfl) (uD q1) (fun H => (.consC zv .nil)) Z) Z ?_;refine yF (F := []) (s := none) Z (fun H _ => zA Z Z bP) Z ?_;refine yF Z (zd Z Z Z eC Z Z) Z<|zg hr fun q2 hr => ?_;refine yF Z (bJ.callV (id := 12) (qs := [(kV v_in.V)]) Z Z Z (by kernel_rfl) (uE q2) (fun H => (.consC zv .nil)) Z) Z ?_;refine yF (F := []) (s := none) Z (fun H _ => ab.build Z nS Z Z Z) Z ?_;refine yF Z (zt Z Z Z Z aT Z Z Z) Z<|yF Z (zt Z Z Z Z aT Z Z Z) Z<|zK Z ?_;refine LF.nil ⟨by kernel_rfl, ?_⟩;refine zT<|zr<|aj ?_;obtain rfl := zJ hr;exact zf (.three (.cellAgg Z Z (by kernel_rfl) Z) (.cellAgg Z Z (by kernel_rfl) Z) (.tmp Z))<|⟨_, rfl, (.cons (Conv.agg (.cons (Conv.vecAll Z Z Z) (.cons (Conv.vecAll Z Z Z) .nil))) (.cons (Conv.agg (.cons (Conv.vecAll Z Z Z) (.cons (Conv.vecAll Z Z Z) .nil))) (.cons zv .nil)))⟩
 ·
  refine zo g1 hr fun hr => zk<|zT<|zQ<|zR<|zM Z<|yS Z (ab.makeFunc Z Z Z)<|zM Z<|yS Z (ab.makeFunc Z Z Z)<|zM Z<|zM Z<|zN<|zT<|zQ<|zR<|yS Z (zD Z Z Z bE Z Z)<|yS Z (zD Z Z Z aT Z Z)<|zb hr fun v3 h_v3 hr => ?_;refine yS Z (zC Z Z Z (by kernel_rfl) (LC.frameX (x' := .agg [(jB 14 v3.1), (jV 15 v3.2)]) (H' := [.box (bB c), .box (de w), .box (de v_in), .box [.zs, .zs], .box [.zs, .zs], .box (de w), .vec 5 (w.B.map ax), .vec 4 (w.V.map aI), (mQ v1.1), (mR v1.2), .box [(jB 6 w.B), (jV 7 w.V), .map 8, .map 9, (iQ slot), (bQ false)], .box (bB c), .box (de v_in), .box [(jB 14 v3.1), (jV 15 v3.2)], .vec 5 (v3.1.map ax), .vec 4 (v3.2.map aI)]) (IR h_v3) (.consC zv (.consC zv .nil)) Z Z (by simp only [List.map_cons, List.map_nil, List.cons_append, List.nil_append, aa.shift, LV.shifts, LV.shift] <;> rfl))) ?_;refine yS Z (ze Z ia Z Z)<|yS Z (zs Z Z Z Z aT Z Z Z Z)<|zN<|zT<|zQ<|zQ<|LW.ent (bM.kill (i := 0) Z)<|LW.ent (bM.kill (i := 1) Z)<|LW.ent (bM.kill (i := 2) Z)<|LW.ent (bM.kill (i := 5) Z)<|LW.ent (bM.kill (i := 11) Z)<|LW.ent (bM.kill (i := 12) Z)<|LW.ent (bM.kill (i := 13) Z)<|zR<|zM Z<|zN<|zT ?_;obtain ⟨v4, hb_v4, ho_v4⟩ := zB hr;clear hr;refine LW.tail (E := [(8, .ptr 3 0), (9, .ptr 4 0), (10, (bQ false)), (11, .ptr 10 0), (14, .ptr 16 0)]) (O := [.dead, .dead, .dead, .box [.zs, .zs], .box [.zs, .zs], .dead, .vec 5 (v4.o6.map ax), .vec 4 (v4.o7.map aI), (mQ v4.o8), (mR v4.o9), .box [(jB 6 v4.o6), (jV 7 v4.o7), .map 8, .map 9, (iQ slot), (bQ v4.x_5)], .dead, .dead, .dead, .vec 5 (v4.o14.map ax), .vec 4 (v4.o15.map aI), .box [.vec 5 14 (v4.o14.map ax).length 0 v4.left_0, .vec 4 15 (v4.o15.map aI).length 0 v4.left_1]]) ?_<|fun env_v4 H_v4 hw_v4 => ?_
  ·refine LW.block ?_;refine LW.iterB (E := fun x1 : fp => [(8, .ptr 3 0), (9, .ptr 4 0), (10, (bQ false)), (11, .ptr 10 0), (12, .fn 179 [.ptr 10 0] []), (13, .fn 180 [.ptr 10 0] []), (14, .ptr 16 0), (15, (iQ x1.n))]) (O := fun x1 => [.dead, .dead, .dead, .box [.zs, .zs], .box [.zs, .zs], .dead, .vec 5 (x1.o6.map ax), .vec 4 (x1.o7.map aI), (mQ x1.o8), (mR x1.o9), .box [(jB 6 x1.o6), (jV 7 x1.o7), .map 8, .map 9, (iQ slot), (bQ x1.x_5)], .dead, .dead, .dead, .vec 5 (x1.o14.map ax), .vec 4 (x1.o15.map aI), .box [.vec 5 14 (x1.o14.map ax).length 0 x1.left_0, .vec 4 15 (x1.o15.map aI).length 0 x1.left_1]]) hb_v4 (zW 17 ⟨rfl, rfl, rfl, rfl, rfl, rfl, rfl, rfl, trivial⟩ Z Z Z (zL Z (zL Z (zL Z (zL Z (zL Z (zL Z (zL Z (zL Z (zL (ae (fun _ => rfl) _) (zL (ae (fun _ => rfl) _) (zL Z (zL Z (zL Z (zL Z (zL Z (zL Z (zL Z Z))))))))))))))))))<|fun x1 z_x1 hr hb_x1 => ?_;unfold lU at hr;refine zQ<|zQ<|LW.draw2 (by kernel_rfl) (by kernel_rfl)<|zH Z<|zH Z<|yE Z (zn Z Z)<|yE Z (zA Z Z eJ)<|yE Z (zA Z Z bD)<|yE Z (zD Z Z Z dE Z Z)<|yE Z (ab.lenVM Z Z Z (by kernel_rfl))<|zH Z<|yE Z (zn Z Z)<|yE Z (zA Z Z eJ)<|yE Z (zA Z Z bP)<|yE Z (zD Z Z Z eC Z Z)<|yE Z (ab.lenVM Z Z Z (by kernel_rfl))<|yE Z (aw Z Z Z Z)<|yE Z (aw Z Z Z Z)<|LO.nil<|zT ?_;refine zX Z (fun g2 => ?_)<|fun g2 => ?_
   ·
    refine zi g2 hr fun hr => zk<|zT<|zl<|zQ<|LW.draw2 (by kernel_rfl) (by kernel_rfl)<|zH Z<|yE Z (zn Z Z)<|yE Z (zA Z Z eJ)<|yE Z (zA Z Z bD)<|yE Z (zD Z Z Z dE Z Z)<|yE Z (ab.lenVM Z Z Z (by kernel_rfl))<|zH Z<|yE Z (zn Z Z)<|yE Z (zA Z Z eJ)<|yE Z (zA Z Z bP)<|yE Z (zD Z Z Z eC Z Z)<|yE Z (ab.lenVM Z Z Z (by kernel_rfl))<|yE Z (aw Z Z Z Z)<|zH Z<|LO.nil<|zT<|zQ<|zR ?_;refine yS Z (zA Z Z bD)<|yS Z (zD Z Z Z dE Z Z)<|zM Z<|zb hr fun v5 h_v5 hr => yS Z (zC Z Z Z (by kernel_rfl) (IL h_v5))<|yS Z (zA Z Z bD)<|yS Z (zs Z Z Z Z dE Z Z Z Z)<|zN<|zT<|zR<|yS Z (zA Z Z bP)<|yS Z (zD Z Z Z eC Z Z)<|zM Z<|zb hr fun v6 h_v6 hr => yS Z (zC Z Z Z (by kernel_rfl) (IM h_v6))<|yS Z (zA Z Z bP)<|yS Z (zs Z Z Z Z eC Z Z Z Z)<|zN<|ai<|zT ?_;obtain rfl := zJ hr;exact ⟨_, rfl, zW 17 ⟨rfl, rfl, rfl, rfl, rfl, rfl, rfl, rfl, trivial⟩ Z Z Z (zL Z (zL Z (zL Z (zL Z (zL Z (zL Z (zL Z (zL Z (zL (ae (fun _ => rfl) _) (zL (ae (fun _ => rfl) _) (zL Z (zL Z (zL Z (zL Z (zL Z (zL Z (zL Z Z)))))))))))))))))⟩
   ·
    refine zo g2 hr fun hr => zq<|ao<|ao<|zy<|zT ?_;obtain rfl := zJ hr;have hr := congrArg some (hb_x1 _ rfl);obtain rfl := zJ hr;exact zW 17 ⟨Z, Z, Z, Z, Z, trivial⟩ Z Z Z<|zL Z<|zL Z<|zL Z<|zL Z<|zL Z<|zL Z<|zL Z<|zL Z<|zL (ae (fun _ => rfl) _)<|zL (ae (fun _ => rfl) _)<|zL Z<|zL Z<|zL Z<|zL Z<|zL Z<|zL Z<|zL Z Z
  ·have hr := ho_v4;clear hb_v4;refine zT<|LW.weak hw_v4<|zQ<|LW.drawW (by kernel_rfl) (by kernel_rfl)<|zK Z ?_;refine yF (F := []) (s := none) Z (fun H _ => zn Z Z) Z ?_;refine yF (F := []) (s := none) Z (fun H _ => zA Z Z eJ) Z ?_;refine yF Z (zd Z Z Z aT Z Z) Z<|zg hr fun q3 hr => zg hr fun q4 hr => yF Z (zd Z Z Z aT Z Z) Z<|zK Z ?_;refine yF (F := []) (s := none) Z (fun H _ => zn Z Z) Z ?_;refine yF (F := []) (s := none) Z (fun H _ => zA Z Z pw) Z ?_;refine yF Z (zd Z Z Z AQ Z Z) Z<|yF Z (zt Z Z Z Z aT Z Z Z) Z<|yF Z (zt Z Z Z Z aT Z Z Z) Z<|zK Z ?_;refine LF.nil ⟨by kernel_rfl, ?_⟩;refine zT<|zr ?_;obtain rfl := zJ hr;exact zf (.three (.cellAgg Z Z (by kernel_rfl) Z) (.cellAgg Z Z (by kernel_rfl) Z) (.tmp Z))<|⟨_, rfl, (.cons (Conv.agg (.cons (Conv.vecAll Z Z Z) (.cons (Conv.vecAll Z Z Z) .nil))) (.cons (Conv.agg (.cons (Conv.vecTake Z q3) (.cons (Conv.vecTake Z q4) .nil))) (.cons zv .nil)))⟩
def cz (B : List Bk) (b : Bk) : Bool := (aY B (nm b)).isSome || (match aY B b.Parent with | some s => decide (s ≥ b.Slot) | none => false)
def eW (B : List Bk) (upto : Int) (b : Bk) : Bool := match aY B b.Parent with | some _ => decide (b.Slot > upto) | none => true
def bn (upto : Int) (B : List Bk) (full : Bool) (b : Bk) : Bool × List Bk × Bool :=
 if cz B b then (true, B, full) else if eW B upto b then (false, B, full) else if B.length < 60 then (true, B ++ [b], full) else (false, B, true)
def cN (B : List Bk) (V : List Vt) (v : Vt) : Bool := decide (v ∈ V) || (match aY B v.Head with | some s => decide (s > v.Slot) | none => false)
def fk (B : List Bk) (upto : Int) (v : Vt) : Bool := match aY B v.Head with | some _ => decide (v.Slot > upto) | none => true
def bp (upto : Int) (B : List Bk) (V : List Vt) (full : Bool) (v : Vt) : Bool × List Vt × Bool :=
 if cN B V v then (true, V, full) else if fk B upto v then (false, V, full) else if V.length < 240 then (true, V ++ [v], full) else (false, V, true)
def Ep (B : List Bk) (sm : List (ID × Int)) : Prop := ∀ id, ah sm id = aY B id
def Gf (V : List Vt) (hm : List (Vt × Bool)) : Prop := ∀ v, ah hm v = if v ∈ V then some true else none
theorem xE (n most : Int) (full : Bool) : yK n most full = some (decide (n < most), if n < most then full else true) := by
 unfold yK
 cases full with
 | true => rw [ct]; by_cases h : n < most <;> simp [h]
 | false =>
  rw [cf];by_cases h : n < most
  ·rw [if_pos h, decide_eq_false (show ¬ n ≥ most by omega)]
  ·rw [if_neg h, decide_eq_true (show n ≥ most by omega)]
theorem DY {b : Bk} {B : List Bk} {sm : List (ID × Int)} {upto : Int} {full : Bool} (hs : Ep B sm) (hB : B.length ≤ 1000) (hl : sm.length ≤ 900000) :
  ∃ sm', wi b B sm upto full = some ((bn upto B full b).1, (bn upto B full b).2.1, sm', (bn upto B full b).2.2) ∧ Ep (bn upto B full b).2.1 sm' ∧ sm'.length ≤ sm.length + ((bn upto B full b).2.1.length - B.length) := by
 unfold wi;rw [hs, hs]
 cases hn : aY B (nm b) with
 | some q =>
  have e : bn upto B full b = (true, B, full) := by simp [bn, cz, hn]
  rw [e];refine ⟨sm, ?_, hs, by simp⟩;rw [Option.isSome_some, ct, ob, ct]
 | none =>
  rw [Option.isSome_none, cf]
  cases hp : aY B b.Parent with
  | none =>
   have e : bn upto B full b = (false, B, full) := by simp [bn, cz, eW, hn, hp]
   rw [e];refine ⟨sm, ?_, hs, by simp⟩;rw [Option.isSome_none, cf, ob, cf, Bool.not_false, ct, ob, ct]
  | some s =>
   rw [Option.isSome_some, ct, ob, Option.getD_some];by_cases h1 : s ≥ b.Slot
   ·have e : bn upto B full b = (true, B, full) := by simp [bn, cz, hn, hp, h1]
    rw [e];refine ⟨sm, ?_, hs, by simp⟩;rw [decide_eq_true h1, ct]
   ·rw [decide_eq_false h1, cf, Bool.not_true, cf];by_cases h2 : b.Slot > upto
    ·have e : bn upto B full b = (false, B, full) := by simp [bn, cz, eW, hn, hp, h1, h2]
     rw [e];refine ⟨sm, ?_, hs, by simp⟩;rw [decide_eq_true h2, ct, ob, ct]
    ·rw [decide_eq_false h2, cf, xE, ob, ob];by_cases h3 : B.length < 60
     ·have e : bn upto B full b = (true, B ++ [b], full) := by simp [bn, cz, eW, hn, hp, h1, h2, h3]
      rw [e];refine ⟨aN sm (nm b) b.Slot, ?_, fun id => ?_, ?_⟩
      ·rw [decide_eq_true (show (B.length : Int) < 60 by omega), Bool.not_true, cf, aP (by simp only [List.length_singleton]; omega) (by omega), ct, show qe sm = true from decide_eq_true (by omega), ct, if_pos (show (B.length : Int) < 60 by omega)]
      ·rw [cq, qU, hs];by_cases e : nm b = id
       ·rw [if_pos e, if_pos e, ← e, hn]; rfl
       ·rw [if_neg e, if_neg e]; cases aY B id <;> rfl
      ·rw [nt, List.length_append, List.length_singleton]; split <;> omega
     ·have e : bn upto B full b = (false, B, true) := by simp [bn, cz, eW, hn, hp, h1, h2, h3]
      rw [e];refine ⟨sm, ?_, hs, by simp⟩;rw [decide_eq_false (show ¬ (B.length : Int) < 60 by omega), Bool.not_false, ct, if_neg (show ¬ (B.length : Int) < 60 by omega)]
theorem DZ {v : Vt} {B : List Bk} {V : List Vt} {sm : List (ID × Int)} {hm : List (Vt × Bool)} {upto : Int} {full : Bool} (hs : Ep B sm) (hh : Gf V hm) (hV : V.length ≤ 1000) (hl : hm.length ≤ 900000) :
  ∃ hm', wj v V sm hm upto full = some ((bp upto B V full v).1, (bp upto B V full v).2.1, hm', (bp upto B V full v).2.2) ∧ Gf (bp upto B V full v).2.1 hm' ∧ hm'.length ≤ hm.length + ((bp upto B V full v).2.1.length - V.length) := by
 unfold wj;rw [hs, hh];by_cases hn : v ∈ V
 ·have e : bp upto B V full v = (true, V, full) := by simp [bp, cN, hn]
  rw [e];refine ⟨hm, ?_, hh, by simp⟩;rw [if_pos hn, Option.getD_some, ct, ob, ct]
 ·rw [if_neg hn, Option.getD_none, cf]
  cases hp : aY B v.Head with
  | none =>
   have e : bp upto B V full v = (false, V, full) := by simp [bp, cN, fk, hn, hp]
   rw [e];refine ⟨hm, ?_, hh, by simp⟩;rw [Option.isSome_none, cf, ob, cf, Bool.not_false, ct, ob, ct]
  | some s =>
   rw [Option.isSome_some, ct, ob, Option.getD_some];by_cases h1 : s > v.Slot
   ·have e : bp upto B V full v = (true, V, full) := by simp [bp, cN, hn, hp, h1]
    rw [e];refine ⟨hm, ?_, hh, by simp⟩;rw [decide_eq_true h1, ct]
   ·rw [decide_eq_false h1, cf, Bool.not_true, cf];by_cases h2 : v.Slot > upto
    ·have e : bp upto B V full v = (false, V, full) := by simp [bp, cN, fk, hn, hp, h1, h2]
     rw [e];refine ⟨hm, ?_, hh, by simp⟩;rw [decide_eq_true h2, ct, ob, ct]
    ·rw [decide_eq_false h2, cf, xE, ob, ob];by_cases h3 : V.length < 240
     ·have e : bp upto B V full v = (true, V ++ [v], full) := by simp [bp, cN, fk, hn, hp, h1, h2, h3]
      rw [e];refine ⟨aN hm v true, ?_, fun id => ?_, ?_⟩
      ·rw [decide_eq_true (show (V.length : Int) < 240 by omega), Bool.not_true, cf, aP (by simp only [List.length_singleton]; omega) (by omega), ct, show qe hm = true from decide_eq_true (by omega), ct, if_pos (show (V.length : Int) < 240 by omega)]
      ·rw [cq, hh];by_cases e : v = id
       ·subst e; simp
       ·simp [e, Ne.symm e]
      ·rw [nt, List.length_append, List.length_singleton]; split <;> omega
     ·have e : bp upto B V full v = (false, V, true) := by simp [bp, cN, fk, hn, hp, h1, h2, h3]
      rw [e];refine ⟨hm, ?_, hh, by simp⟩;rw [decide_eq_false (show ¬ (V.length : Int) < 240 by omega), Bool.not_false, ct, if_neg (show ¬ (V.length : Int) < 240 by omega)]
section
variable {α : Type}
def bg (step : List α → Bool → α → Bool × List α × Bool) : List α → Bool → List α → List α × List α × Bool
 | B, f, [] => ([], B, f)
 | B, f, b :: r => (if (step B f b).1 then (bg step (step B f b).2.1 (step B f b).2.2 r).1 else b :: (bg step (step B f b).2.1 (step B f b).2.2 r).1, (bg step (step B f b).2.1 (step B f b).2.2 r).2)
variable {step : List α → Bool → α → Bool × List α × Bool}
theorem gT (b : α) : ∀ (l B : List α) (f : Bool), bg step B f (l ++ [b]) =
  (if (step (bg step B f l).2.1 (bg step B f l).2.2 b).1 then (bg step B f l).1 else (bg step B f l).1 ++ [b], (step (bg step B f l).2.1 (bg step B f l).2.2 b).2)
 | [], B, f => by
  simp only [List.nil_append, bg];rfl
 | x :: r, B, f => by
  simp only [List.cons_append, bg, gT b r];split <;> split <;> simp_all
theorem oc : ∀ (l B : List α) (f : Bool), (bg step B f l).1.length ≤ l.length
 | [], B, f => by simp [bg]
 | x :: r, B, f => by
  have := oc r (step B f x).2.1 (step B f x).2.2;simp only [bg];split
  ·simp only [List.length_cons]; omega
  ·simp only [List.length_cons]; omega
theorem eO (h : ∀ B f b, B.length ≤ (step B f b).2.1.length ∧ (step B f b).2.1.length ≤ B.length + 1) : ∀ (l B : List α) (f : Bool), B.length ≤ (bg step B f l).2.1.length ∧ (bg step B f l).2.1.length ≤ B.length + l.length
 | [], B, f => by simp [bg]
 | x :: r, B, f => by
  have h1 := h B f x;have h2 := eO h r (step B f x).2.1 (step B f x).2.2;simp only [bg, List.length_cons];omega
end
def bl (upto : Int) : List Bk → Bool → List Bk → List Bk × List Bk × Bool := bg (bn upto)
def bZ (upto : Int) (B : List Bk) : List Vt → Bool → List Vt → List Vt × List Vt × Bool := bg (bp upto B)
theorem jR (upto : Int) (B : List Bk) (f : Bool) (b : Bk) : B.length ≤ (bn upto B f b).2.1.length ∧ (bn upto B f b).2.1.length ≤ B.length + 1 := by
 unfold bn; split <;> (try split) <;> (try split) <;> simp
theorem jS (upto : Int) (B : List Bk) (V : List Vt) (f : Bool) (v : Vt) : V.length ≤ (bp upto B V f v).2.1.length ∧ (bp upto B V f v).2.1.length ≤ V.length + 1 := by
 unfold bp; split <;> (try split) <;> (try split) <;> simp
structure wu (B : List Bk) (sm : List (ID × Int)) : Prop where
 find : Ep B sm
 len : sm.length ≤ B.length + 1
structure AO (V : List Vt) (hm : List (Vt × Bool)) : Prop where
 find : Gf V hm
 len : hm.length ≤ V.length
theorem Bc {b : Bk} {B : List Bk} {sm : List (ID × Int)} {upto : Int} {full : Bool} (hs : wu B sm) (hB : B.length ≤ 1000) :
  ∃ sm', wi b B sm upto full = some ((bn upto B full b).1, (bn upto B full b).2.1, sm', (bn upto B full b).2.2) ∧ wu (bn upto B full b).2.1 sm' := by
 obtain ⟨sm', h1, h2, h3⟩ := DY (b := b) (upto := upto) (full := full) hs.find hB (by have := hs.len; omega);have hg := jR upto B full b;exact ⟨sm', h1, h2, by have := hs.len; omega⟩
theorem Bd {v : Vt} {B : List Bk} {V : List Vt} {sm : List (ID × Int)} {hm : List (Vt × Bool)} {upto : Int} {full : Bool} (hs : wu B sm) (hh : AO V hm) (hV : V.length ≤ 1000) :
  ∃ hm', wj v V sm hm upto full = some ((bp upto B V full v).1, (bp upto B V full v).2.1, hm', (bp upto B V full v).2.2) ∧ AO (bp upto B V full v).2.1 hm' := by
 obtain ⟨hm', h1, h2, h3⟩ := DZ (v := v) (upto := upto) (full := full) hs.find hh.find hV (by have := hh.len; omega);have hg := jS upto B V full v;exact ⟨hm', h1, h2, by have := hh.len; omega⟩
theorem fU {α : Type} {l : List α} {j : Nat} {y : α} (h : l[j]? = some y) : l.take (j + 1) = l.take j ++ [y] := aS h
theorem D9 {lB l B : List Bk} {kk : Nat} {sm : List (ID × Int)} {upto : Int} {full : Bool} (hl : lB.take kk = l) (hk : l.length = kk) (hs : wu B sm) (hB : B.length + kk ≤ 900) :
  ∃ i B' sm' f', Bq lB kk B sm upto full = some (i, B', sm', f') ∧ wu B' sm' ∧ ((i = -1 ∧ bl upto B full l = (l, B', f')) ∨ ∃ j : Nat, i = j ∧ j < kk ∧ bl upto B full (l.take (j + 1)) = (l.take j, B', f')) := by
 unfold Bq
 have key := cY (step := lc lB kk upto) (fun x => ∃ j : Nat, j ≤ kk ∧ x.t8 = j ∧ bl upto B full (l.take j) = (l.take j, x.o6, x.o10_5) ∧ wu x.o6 x.o8) (fun x => kk - x.t8.toNat)
  (fun b => (∃ x, b = .inl x ∧ bl upto B full l = (l, x.o6, x.o10_5) ∧ wu x.o6 x.o8) ∨ ∃ (j : Nat) (B' : List Bk) (sm' : List (ID × Int)) (f' : Bool), b = .inr ((j : Int), B', sm', f') ∧ j < kk ∧ bl upto B full (l.take (j + 1)) = (l.take j, B', f') ∧ wu B' sm') (by
   rintro ⟨t, B1, sm1, f1⟩ ⟨j, hj, h1, h2, h3⟩;simp only at h1 h2 h3;subst h1;by_cases hlt : j < kk
   ·obtain ⟨y, hy, -⟩ := aD (l := l) (n := j) (by omega);have hgr := eO (step := bn upto) (jR upto) (l.take j) B full;have h2' : bg (bn upto) B full (l.take j) = (l.take j, B1, f1) := h2;rw [h2'] at hgr;simp only at hgr;rw [List.length_take] at hgr;obtain ⟨sm', e, hr⟩ := Bc (b := y) (upto := upto) (full := f1) h3 (by omega)
    have hsn : bl upto B full (l.take (j + 1)) = (if (bn upto B1 f1 y).1 then l.take j else l.take j ++ [y], (bn upto B1 f1 y).2) := by
     rw [fU hy];unfold bl;rw [gT, h2']
    generalize bn upto B1 f1 y = q at e hr hsn;obtain ⟨g, B2, f2⟩ := q;simp only at e hr hsn
    have hstep : lc lB kk upto ⟨(j : Int), B1, sm1, f1⟩ = bif g then some (.inr (.inr ((j : Int), B2, sm', f2))) else some (.inl ⟨((j + 1 : Nat) : Int), B2, sm', f2⟩) := by
     unfold lc;simp only;rw [decide_eq_true (show (j : Int) < (kk : Int) by omega), ct, hl, aG hy, ob, e, ob, ak (n := j) (by omega)]
    cases g with
    | true =>
     right;rw [ct] at hstep;rw [if_pos rfl] at hsn;exact ⟨_, hstep, .inr ⟨j, B2, sm', f2, rfl, hlt, hsn, hr⟩⟩
    | false =>
     left;rw [cf] at hstep;rw [if_neg (by simp)] at hsn;refine ⟨_, hstep, ⟨j + 1, hlt, rfl, ?_, hr⟩, by simp only; omega⟩;rw [hsn, fU hy]
   ·right
    obtain rfl : j = kk := by omega
    refine ⟨.inl ⟨(j : Int), B1, sm1, f1⟩, ?_, .inl ⟨_, rfl, ?_, h3⟩⟩
    ·unfold lc;simp only;rw [decide_eq_false (show ¬ (j : Int) < (j : Int) by omega), cf]
    ·rw [List.take_of_length_le (by omega)] at h2; exact h2) (n := bG) (x := ⟨0, B, sm, full⟩) ⟨0, by omega, rfl, by simp [bl, bg], hs⟩ (ec (by simp only; omega))
 obtain ⟨b, e, ⟨x, rfl, h1, h2⟩ | ⟨j, B', sm', f', rfl, h0, h1, h2⟩⟩ := key
 ·exact ⟨-1, x.o6, x.o8, x.o10_5, by rw [e, ob, sl], h2, .inl ⟨rfl, h1⟩⟩
 ·exact ⟨j, B', sm', f', by rw [e, ob, sr], h2, .inr ⟨j, rfl, h0, h1⟩⟩
structure ru {α : Type} (lB : List α) (k : Nat) (l : List α) : Prop where
 take : lB.take k = l
 le : k ≤ lB.length
theorem ru.len {α : Type} {lB l : List α} {k : Nat} (h : ru lB k l) : l.length = k := by
 rw [← h.take, List.length_take]; have := h.le; omega
theorem tc {α : Type} {a l : List α} {i kk : Nat} {z : α} (hi : i ≤ kk) (hk : kk ≤ a.length) (h : a.take i = l) : ru (iD a i (kk - i) z) i l := by
 have hlen := qa (l := a) (off := i) (k := kk - i) (z := z) (by omega);refine ⟨?_, by omega⟩;unfold iD;rw [List.append_assoc, List.take_left' (by rw [List.length_take]; omega), h]
structure Mv {α : Type} (l a : List α) (i j : Nat) (left : List α) : Prop where
 ij : i < j
 jl : j ≤ l.length
 len : l.length ≤ a.length
 left : a.take i = left
 rest : ∀ q, j ≤ q → q < l.length → a[q]? = l[q]?
theorem Mv.next_gone {α : Type} {l a : List α} {i j : Nat} {left : List α} (h : Mv l a i j left) (hj : j < l.length) : Mv l a i (j + 1) left :=
 ⟨by have := h.ij; omega, hj, h.len, h.left, fun q h1 h2 => h.rest q (by omega) h2⟩
theorem Mv.next_stay {α : Type} {l a : List α} {i j : Nat} {left : List α} {y : α} (h : Mv l a i j left) (hj : j < l.length) (_ : l[j]? = some y) : Mv l (a.set i y) (i + 1) (j + 1) (left ++ [y]) := by
 have h1 := h.ij;have h2 := h.len;refine ⟨by omega, hj, by rw [List.length_set]; exact h2, ?_, fun q h3 h4 => ?_⟩
 ·have hi : (a.set i y)[i]? = some y := by rw [List.getElem?_set]; simp; omega
  rw [fU hi, List.take_set_of_le (Nat.le_refl _), h.left]
 ·rw [List.getElem?_set, if_neg (by omega)];exact h.rest q (by omega) h4
theorem D0 {lB l B : List Bk} {kk : Nat} {sm : List (ID × Int)} {upto : Int} {full : Bool} (hl : ru lB kk l) (hs : wu B sm) (hB : B.length + kk ≤ 900) :
  ∃ k' lB' sm', Be lB kk B sm upto full = some (k', lB', (bl upto B full l).2.1, sm', (bl upto B full l).2.2) ∧ wu (bl upto B full l).2.1 sm' ∧ ru lB' k' (bl upto B full l).1 := by
 have hk := hl.len;obtain ⟨i, B0, sm0, f0, e0, hr0, h0⟩ := D9 (upto := upto) (full := full) hl.take hk hs hB;unfold Be;rw [e0, ob];rcases h0 with ⟨rfl, hp⟩ | ⟨j0, rfl, hj0, hp⟩
 ·rw [hp];refine ⟨kk, lB, sm0, ?_, hr0, hl⟩;simp only;rw [show ((-1 : Int) == -1) = true from rfl, ct]
 ·simp only;rw [show ((j0 : Int) == -1) = false by rw [beq_eq_false_iff_ne]; omega, cf, ak (n := j0) (by omega)]
  have key := cY (step := k6 kk upto) (fun x => ∃ (i j : Nat), x.i = i ∧ x.j = j ∧ wu x.o6 x.o8 ∧ (bl upto B full (l.take j)).2 = (x.o6, x.o10_5) ∧ Mv l x.o14 i j (bl upto B full (l.take j)).1) (fun x => kk - x.j.toNat)
   (fun x => ∃ i : Nat, x.i = i ∧ i ≤ kk ∧ wu x.o6 x.o8 ∧ (bl upto B full l).2 = (x.o6, x.o10_5) ∧ x.o14.take i = (bl upto B full l).1 ∧ kk ≤ x.o14.length) (by
   rintro ⟨i', j', B1, sm1, f1, a⟩ ⟨i, j, h1, h2, h3, h4, h5⟩;simp only at h1 h2 h3 h4 h5;subst h1 h2;have hij := h5.ij;have hjl := h5.jl;have hal := h5.len;by_cases hlt : j < kk
   ·left;obtain ⟨y, hy, -⟩ := aD (l := l) (n := j) (by omega)
    have hya : (a.take kk)[j]? = some y := by rw [List.getElem?_take_of_lt hlt, h5.rest j (Nat.le_refl _) (by omega), hy]
    obtain ⟨z, hz, -⟩ := aD (l := a.take kk) (n := i) (by rw [List.length_take]; omega);have hgr := eO (step := bn upto) (jR upto) (l.take j) B full;have h4' : (bg (bn upto) B full (l.take j)).2 = (B1, f1) := h4;rw [h4'] at hgr;simp only at hgr;rw [List.length_take] at hgr;obtain ⟨sm', e, hr⟩ := Bc (b := y) (upto := upto) (full := f1) h3 (by omega)
    have hsn : bl upto B full (l.take (j + 1)) = (if (bn upto B1 f1 y).1 then (bl upto B full (l.take j)).1 else (bl upto B full (l.take j)).1 ++ [y], (bn upto B1 f1 y).2) := by
     rw [fU hy];unfold bl;rw [gT, h4']
    generalize bn upto B1 f1 y = q at e hr hsn;obtain ⟨g, B2, f2⟩ := q;simp only at e hr hsn
    have hstep : k6 kk upto ⟨(i : Int), (j : Int), B1, sm1, f1, a⟩ = bif !g then some (.inl ⟨((i + 1 : Nat) : Int), ((j + 1 : Nat) : Int), B2, sm', f2, a.set i y⟩) else some (.inl ⟨(i : Int), ((j + 1 : Nat) : Int), B2, sm', f2, a⟩) := by
     unfold k6;simp only;rw [decide_eq_true (show (j : Int) < (kk : Int) by omega), ct, aG hya, ob, e, ob, aG hz, ob, ak (n := j) (by omega), ak (n := i) (by omega), Int.toNat_natCast]
    cases g with
    | true =>
     rw [Bool.not_true, cf] at hstep;rw [if_pos rfl] at hsn;refine ⟨_, hstep, ⟨i, j + 1, rfl, rfl, hr, by rw [hsn], ?_⟩, by simp only; omega⟩;rw [hsn];exact h5.next_gone (by omega)
    | false =>
     rw [Bool.not_false, ct] at hstep;rw [if_neg (by simp)] at hsn;refine ⟨_, hstep, ⟨i + 1, j + 1, rfl, rfl, hr, by rw [hsn], ?_⟩, by simp only; omega⟩;rw [hsn];exact h5.next_stay (by omega) hy
   ·right
    have hjk : j = kk := by omega
    have htl : l.take j = l := List.take_of_length_le (by omega);rw [htl] at h4 h5;refine ⟨⟨(i : Int), (j : Int), B1, sm1, f1, a⟩, ?_, i, rfl, by omega, h3, h4, h5.left, by show kk ≤ a.length; omega⟩;unfold k6;simp only
    rw [decide_eq_false (show ¬ (j : Int) < (kk : Int) by omega), cf]) (n := bG) (x := ⟨(j0 : Int), ((j0 + 1 : Nat) : Int), B0, sm0, f0, lB⟩)
   ⟨j0, j0 + 1, rfl, rfl, hr0, by rw [hp], by
    rw [hp];refine ⟨by omega, by omega, by have := hl.le; simp only; omega, ?_, fun q h1 h2 => ?_⟩
    ·show lB.take j0 = l.take j0;rw [← hl.take, List.take_take, Nat.min_eq_left (by omega)]
    ·rw [← hl.take, List.getElem?_take_of_lt (by omega)]⟩ (ec (by simp only; omega))
  obtain ⟨x, ex, i, hi, hik, hr, h1, h2, h3⟩ := key;generalize bl upto B full l = p at h1 h2 ⊢;obtain ⟨pl, pB, pf⟩ := p;simp only at h1 h2 ⊢;rw [ex, ob, hi, decide_eq_true (show 0 ≤ (i : Int) ∧ (i : Int) ≤ (kk : Int) by omega), ct, Int.toNat_natCast, decide_eq_true (show i + (kk - i) ≤ x.o14.length by omega), ct, ct];cases h1;exact ⟨i, iD x.o14 i (kk - i) ⟨0, 0, (0, 0), 0⟩, x.o8, rfl, hr, tc hik h3 h2⟩
theorem D8 {lV l V : List Vt} {kk : Nat} {BB : List Bk} {sm0 : List (ID × Int)} {hm : List (Vt × Bool)} {upto : Int} {full : Bool} (hl : lV.take kk = l) (hk : l.length = kk) (hsm : wu BB sm0) (hs : AO V hm) (hB : V.length + kk ≤ 900) :
  ∃ i V' hm' f', Bo lV kk V sm0 hm upto full = some (i, V', hm', f') ∧ AO V' hm' ∧ ((i = -1 ∧ bZ upto BB V full l = (l, V', f')) ∨ ∃ j : Nat, i = j ∧ j < kk ∧ bZ upto BB V full (l.take (j + 1)) = (l.take j, V', f')) := by
 unfold Bo
 have key := cY (step := lb lV kk sm0 upto) (fun x => ∃ j : Nat, j ≤ kk ∧ x.t8 = j ∧ bZ upto BB V full (l.take j) = (l.take j, x.o7, x.o10_5) ∧ AO x.o7 x.o9) (fun x => kk - x.t8.toNat)
  (fun b => (∃ x, b = .inl x ∧ bZ upto BB V full l = (l, x.o7, x.o10_5) ∧ AO x.o7 x.o9) ∨ ∃ (j : Nat) (V' : List Vt) (hm' : List (Vt × Bool)) (f' : Bool), b = .inr ((j : Int), V', hm', f') ∧ j < kk ∧ bZ upto BB V full (l.take (j + 1)) = (l.take j, V', f') ∧ AO V' hm') (by
   rintro ⟨t, V1, hm1, f1⟩ ⟨j, hj, h1, h2, h3⟩;simp only at h1 h2 h3;subst h1;by_cases hlt : j < kk
   ·obtain ⟨y, hy, -⟩ := aD (l := l) (n := j) (by omega);have hgr := eO (step := bp upto BB) (jS upto BB) (l.take j) V full;have h2' : bg (bp upto BB) V full (l.take j) = (l.take j, V1, f1) := h2;rw [h2'] at hgr;simp only at hgr;rw [List.length_take] at hgr;obtain ⟨hm', e, hr⟩ := Bd (v := y) (upto := upto) (full := f1) hsm h3 (by omega)
    have hsn : bZ upto BB V full (l.take (j + 1)) = (if (bp upto BB V1 f1 y).1 then l.take j else l.take j ++ [y], (bp upto BB V1 f1 y).2) := by
     rw [fU hy];unfold bZ;rw [gT, h2']
    generalize bp upto BB V1 f1 y = q at e hr hsn;obtain ⟨g, V2, f2⟩ := q;simp only at e hr hsn
    have hstep : lb lV kk sm0 upto ⟨(j : Int), V1, hm1, f1⟩ = bif g then some (.inr (.inr ((j : Int), V2, hm', f2))) else some (.inl ⟨((j + 1 : Nat) : Int), V2, hm', f2⟩) := by
     unfold lb;simp only;rw [decide_eq_true (show (j : Int) < (kk : Int) by omega), ct, hl, aG hy, ob, e, ob, ak (n := j) (by omega)]
    cases g with
    | true =>
     right;rw [ct] at hstep;rw [if_pos rfl] at hsn;exact ⟨_, hstep, .inr ⟨j, V2, hm', f2, rfl, hlt, hsn, hr⟩⟩
    | false =>
     left;rw [cf] at hstep;rw [if_neg (by simp)] at hsn;refine ⟨_, hstep, ⟨j + 1, hlt, rfl, ?_, hr⟩, by simp only; omega⟩;rw [hsn, fU hy]
   ·right
    obtain rfl : j = kk := by omega
    refine ⟨.inl ⟨(j : Int), V1, hm1, f1⟩, ?_, .inl ⟨_, rfl, ?_, h3⟩⟩
    ·unfold lb;simp only;rw [decide_eq_false (show ¬ (j : Int) < (j : Int) by omega), cf]
    ·rw [List.take_of_length_le (by omega)] at h2; exact h2) (n := bG) (x := ⟨0, V, hm, full⟩) ⟨0, by omega, rfl, by simp [bZ, bg], hs⟩ (ec (by simp only; omega))
 obtain ⟨b, e, ⟨x, rfl, h1, h2⟩ | ⟨j, V', hm', f', rfl, h0, h1, h2⟩⟩ := key
 ·exact ⟨-1, x.o7, x.o9, x.o10_5, by rw [e, ob, sl], h2, .inl ⟨rfl, h1⟩⟩
 ·exact ⟨j, V', hm', f', by rw [e, ob, sr], h2, .inr ⟨j, rfl, h0, h1⟩⟩
theorem D1 {lV l V : List Vt} {kk : Nat} {BB : List Bk} {sm0 : List (ID × Int)} {hm : List (Vt × Bool)} {upto : Int} {full : Bool} (hl : ru lV kk l) (hsm : wu BB sm0) (hs : AO V hm) (hB : V.length + kk ≤ 900) :
  ∃ k' lV' hm', Bf lV kk V sm0 hm upto full = some (k', lV', (bZ upto BB V full l).2.1, hm', (bZ upto BB V full l).2.2) ∧ AO (bZ upto BB V full l).2.1 hm' ∧ ru lV' k' (bZ upto BB V full l).1 := by
 have hk := hl.len;obtain ⟨i, V0, hm0, f0, e0, hr0, h0⟩ := D8 (upto := upto) (full := full) hl.take hk hsm hs hB;unfold Bf;rw [e0, ob];rcases h0 with ⟨rfl, hp⟩ | ⟨j0, rfl, hj0, hp⟩
 ·rw [hp];refine ⟨kk, lV, hm0, ?_, hr0, hl⟩;simp only;rw [show ((-1 : Int) == -1) = true from rfl, ct]
 ·simp only;rw [show ((j0 : Int) == -1) = false by rw [beq_eq_false_iff_ne]; omega, cf, ak (n := j0) (by omega)]
  have key := cY (step := k7 kk sm0 upto) (fun x => ∃ (i j : Nat), x.i = i ∧ x.j = j ∧ AO x.o7 x.o9 ∧ (bZ upto BB V full (l.take j)).2 = (x.o7, x.o10_5) ∧ Mv l x.o15 i j (bZ upto BB V full (l.take j)).1) (fun x => kk - x.j.toNat)
   (fun x => ∃ i : Nat, x.i = i ∧ i ≤ kk ∧ AO x.o7 x.o9 ∧ (bZ upto BB V full l).2 = (x.o7, x.o10_5) ∧ x.o15.take i = (bZ upto BB V full l).1 ∧ kk ≤ x.o15.length) (by
   rintro ⟨i', j', V1, hm1, f1, a⟩ ⟨i, j, h1, h2, h3, h4, h5⟩;simp only at h1 h2 h3 h4 h5;subst h1 h2;have hij := h5.ij;have hjl := h5.jl;have hal := h5.len;by_cases hlt : j < kk
   ·left;obtain ⟨y, hy, -⟩ := aD (l := l) (n := j) (by omega)
    have hya : (a.take kk)[j]? = some y := by rw [List.getElem?_take_of_lt hlt, h5.rest j (Nat.le_refl _) (by omega), hy]
    obtain ⟨z, hz, -⟩ := aD (l := a.take kk) (n := i) (by rw [List.length_take]; omega);have hgr := eO (step := bp upto BB) (jS upto BB) (l.take j) V full;have h4' : (bg (bp upto BB) V full (l.take j)).2 = (V1, f1) := h4;rw [h4'] at hgr;simp only at hgr;rw [List.length_take] at hgr;obtain ⟨hm', e, hr⟩ := Bd (v := y) (upto := upto) (full := f1) hsm h3 (by omega)
    have hsn : bZ upto BB V full (l.take (j + 1)) = (if (bp upto BB V1 f1 y).1 then (bZ upto BB V full (l.take j)).1 else (bZ upto BB V full (l.take j)).1 ++ [y], (bp upto BB V1 f1 y).2) := by
     rw [fU hy];unfold bZ;rw [gT, h4']
    generalize bp upto BB V1 f1 y = q at e hr hsn;obtain ⟨g, V2, f2⟩ := q;simp only at e hr hsn
    have hstep : k7 kk sm0 upto ⟨(i : Int), (j : Int), V1, hm1, f1, a⟩ = bif !g then some (.inl ⟨((i + 1 : Nat) : Int), ((j + 1 : Nat) : Int), V2, hm', f2, a.set i y⟩) else some (.inl ⟨(i : Int), ((j + 1 : Nat) : Int), V2, hm', f2, a⟩) := by
     unfold k7;simp only;rw [decide_eq_true (show (j : Int) < (kk : Int) by omega), ct, aG hya, ob, e, ob, aG hz, ob, ak (n := j) (by omega), ak (n := i) (by omega), Int.toNat_natCast]
    cases g with
    | true =>
     rw [Bool.not_true, cf] at hstep;rw [if_pos rfl] at hsn;refine ⟨_, hstep, ⟨i, j + 1, rfl, rfl, hr, by rw [hsn], ?_⟩, by simp only; omega⟩;rw [hsn];exact h5.next_gone (by omega)
    | false =>
     rw [Bool.not_false, ct] at hstep;rw [if_neg (by simp)] at hsn;refine ⟨_, hstep, ⟨i + 1, j + 1, rfl, rfl, hr, by rw [hsn], ?_⟩, by simp only; omega⟩;rw [hsn];exact h5.next_stay (by omega) hy
   ·right
    have hjk : j = kk := by omega
    have htl : l.take j = l := List.take_of_length_le (by omega);rw [htl] at h4 h5;refine ⟨⟨(i : Int), (j : Int), V1, hm1, f1, a⟩, ?_, i, rfl, by omega, h3, h4, h5.left, by show kk ≤ a.length; omega⟩;unfold k7;simp only
    rw [decide_eq_false (show ¬ (j : Int) < (kk : Int) by omega), cf]) (n := bG) (x := ⟨(j0 : Int), ((j0 + 1 : Nat) : Int), V0, hm0, f0, lV⟩)
   ⟨j0, j0 + 1, rfl, rfl, hr0, by rw [hp], by
    rw [hp];refine ⟨by omega, by omega, by have := hl.le; simp only; omega, ?_, fun q h1 h2 => ?_⟩
    ·show lV.take j0 = l.take j0;rw [← hl.take, List.take_take, Nat.min_eq_left (by omega)]
    ·rw [← hl.take, List.getElem?_take_of_lt (by omega)]⟩ (ec (by simp only; omega))
  obtain ⟨x, ex, i, hi, hik, hr, h1, h2, h3⟩ := key;generalize bZ upto BB V full l = p at h1 h2 ⊢;obtain ⟨pl, pV, pf⟩ := p;simp only at h1 h2 ⊢;rw [ex, ob, hi, decide_eq_true (show 0 ≤ (i : Int) ∧ (i : Int) ≤ (kk : Int) by omega), ct, Int.toNat_natCast, decide_eq_true (show i + (kk - i) ≤ x.o15.length by omega), ct, ct];cases h1;exact ⟨i, iD x.o15 i (kk - i) ⟨0, 0, (0, 0)⟩, x.o9, rfl, hr, tc hik h3 h2⟩
structure rq where
 B : List Bk
 V : List Vt
 full : Bool
 lB : List Bk
 lV : List Vt
def c8 (upto : Int) (s : rq) : rq :=
 ⟨(bl upto s.B s.full s.lB).2.1, (bZ upto (bl upto s.B s.full s.lB).2.1 s.V (bl upto s.B s.full s.lB).2.2 s.lV).2.1, (bZ upto (bl upto s.B s.full s.lB).2.1 s.V (bl upto s.B s.full s.lB).2.2 s.lV).2.2,
  (bl upto s.B s.full s.lB).1, (bZ upto (bl upto s.B s.full s.lB).2.1 s.V (bl upto s.B s.full s.lB).2.2 s.lV).1⟩
def c9 (s : rq) : Nat := s.B.length + s.V.length
def q7 (upto : Int) : Nat → rq → rq
 | 0, s => s
 | n + 1, s => if c9 (c8 upto s) = c9 s then c8 upto s else q7 upto n (c8 upto s)
def lN (upto : Int) (s : rq) : rq := q7 upto 1000 s
open Classical in
noncomputable def az (c : Cf) (w inp : Vw) (slot : Int) : Vw × Vw × Bool :=
 if ea c w then (⟨(lN slot ⟨w.B, w.V, false, (a8 c inp).B, (a8 c inp).V⟩).B, (lN slot ⟨w.B, w.V, false, (a8 c inp).B, (a8 c inp).V⟩).V⟩, ⟨(lN slot ⟨w.B, w.V, false, (a8 c inp).B, (a8 c inp).V⟩).lB, (lN slot ⟨w.B, w.V, false, (a8 c inp).B, (a8 c inp).V⟩).lV⟩, (lN slot ⟨w.B, w.V, false, (a8 c inp).B, (a8 c inp).V⟩).full)
 else (w, inp, false)
def nF (s : rq) : Prop := s.B.length ≤ 60 ∧ s.V.length ≤ 240
theorem xd {upto : Int} {B : List Bk} {f : Bool} {b : Bk} (h : B.length ≤ 60) : (bn upto B f b).2.1.length ≤ 60 := by
 unfold bn; split <;> (try split) <;> (try split) <;> simp <;> omega
theorem xe {upto : Int} {B : List Bk} {V : List Vt} {f : Bool} {v : Vt} (h : V.length ≤ 240) : (bp upto B V f v).2.1.length ≤ 240 := by
 unfold bp; split <;> (try split) <;> (try split) <;> simp <;> omega
theorem oa {α : Type} {step : List α → Bool → α → Bool × List α × Bool} {Q : List α → Prop} (h : ∀ B f b, Q B → Q (step B f b).2.1) : ∀ (l B : List α) (f : Bool), Q B → Q (bg step B f l).2.1
 | [], B, f, hB => by simpa only [bg] using hB
 | x :: r, B, f, hB => by
  have := oa h r (step B f x).2.1 (step B f x).2.2 (h B f x hB);simpa only [bg] using this
theorem wZ {upto : Int} {l B : List Bk} {f : Bool} (h : B.length ≤ 60) : (bl upto B f l).2.1.length ≤ 60 := oa (step := bn upto) (Q := fun B => B.length ≤ 60) (fun _ _ _ h => xd h) l B f h
theorem w0 {upto : Int} {BB : List Bk} {l V : List Vt} {f : Bool} (h : V.length ≤ 240) : (bZ upto BB V f l).2.1.length ≤ 240 := oa (step := bp upto BB) (Q := fun V => V.length ≤ 240) (fun _ _ _ h => xe h) l V f h
theorem tA {upto : Int} {s : rq} (h : nF s) : nF (c8 upto s) := ⟨wZ h.1, w0 h.2⟩
theorem vN (upto : Int) (s : rq) : (c8 upto s).lB.length ≤ s.lB.length ∧ (c8 upto s).lV.length ≤ s.lV.length := ⟨oc _ _ _, oc _ _ _⟩
theorem kN (upto : Int) (s : rq) : s.B.length ≤ (c8 upto s).B.length ∧ s.V.length ≤ (c8 upto s).V.length :=
 ⟨(eO (jR upto) _ _ _).1, (eO (jS upto _) _ _ _).1⟩
structure y9 (s : rq) (x : fp) : Prop where
 o6 : x.o6 = s.B
 o7 : x.o7 = s.V
 full : x.x_5 = s.full
 sm : wu s.B x.o8
 hm : AO s.V x.o9
 lB : ru x.o14 x.left_0 s.lB
 lV : ru x.o15 x.left_1 s.lV
theorem yQ {upto : Int} {s : rq} {x : fp} (h : y9 s x) (hb : nF s) (hl1 : s.lB.length ≤ 800) (hl2 : s.lV.length ≤ 600) (hn : x.n ≠ (c9 s : Int)) : ∃ y, lU upto x = some (.inl y) ∧ y9 (c8 upto s) y ∧ y.n = (c9 s : Int) := by
 obtain ⟨n, o6, o7, o8, o9, f, o14, o15, k0, k1⟩ := x;obtain ⟨e6, e7, ef, hsm, hhm, hlB, hlV⟩ := h;simp only at e6 e7 ef hsm hhm hlB hlV hn;subst e6 e7 ef;have hb1 := hb.1;have hb2 := hb.2;obtain ⟨k', lB', sm', e1, r1, p1⟩ := D0 (upto := upto) (full := s.full) hlB hsm (by have := hlB.len; omega);unfold c8;generalize bl upto s.B s.full s.lB = p at e1 r1 p1 ⊢;obtain ⟨pl, pB, pf⟩ := p;simp only at e1 r1 p1 ⊢;obtain ⟨k2, lV', hm', e2, r2, p2⟩ := D1 (upto := upto) (full := pf) hlV r1 hhm (by have := hlV.len; omega);generalize bZ upto pB s.V pf s.lV = q at e2 r2 p2 ⊢;obtain ⟨ql, qV, qf⟩ := q;simp only at e2 r2 p2 ⊢
 have hw : IntKind.i64.wrap ((s.B.length : Int) + (s.V.length : Int)) = (c9 s : Int) := by
  unfold c9; rw [cv (by omega) (by omega)]; omega
 refine ⟨fp.mk (c9 s : Int) pB qV sm' hm' qf lB' lV' k' k2, ?_, ⟨rfl, rfl, rfl, r1, r2, p1, p2⟩, rfl⟩;unfold lU;simp only;rw [hw, show (n != (c9 s : Int)) = true by rw [bne_iff_ne]; exact hn, ct, e1, ob];simp only;rw [e2, ob]
theorem un {upto : Int} : ∀ (m : Nat) (s : rq) (x : fp) (q : Nat), y9 s x → nF s → s.lB.length ≤ 800 → s.lV.length ≤ 600 → x.n ≠ (c9 s : Int) → 300 < m + c9 s → m < q →
  ∃ y, iter (lU upto) (q + 1) x = some y ∧ y9 (q7 upto m s) y
 | 0, s, x, q, _, hb, _, _, _, hm, _ => by
  have h1 := hb.1;have h2 := hb.2;unfold c9 at hm;omega
 | m + 1, s, x, q, h, hb, hl1, hl2, hn, hm, hq => by
  obtain ⟨y, e, hr, hy⟩ := yQ h hb hl1 hl2 hn;have hg := kN upto s;have hlen := vN upto s;have hb' := tA (upto := upto) hb;obtain ⟨q, rfl⟩ : ∃ p, q = p + 1 := ⟨q - 1, by omega⟩;rw [mZ e];unfold q7;by_cases hs : c9 (c8 upto s) = c9 s
  ·rw [if_pos hs];refine ⟨y, fP ?_, hr⟩
   have hw : IntKind.i64.wrap ((y.o6.length : Int) + (y.o7.length : Int)) = (c9 s : Int) := by
    rw [hr.o6, hr.o7, ← hs];have h1 := hb'.1;have h2 := hb'.2;unfold c9; rw [cv (by omega) (by omega)]; omega
   unfold lU;rw [hw, hy, show (((c9 s : Nat) : Int) != (c9 s : Int)) = false by simp, cf, ← hy]
  ·rw [if_neg hs];exact un m (c8 upto s) y q hr hb' (by omega) (by omega) (by rw [hy]; omega) (by unfold c9 at *; omega) (by omega)
open Classical in
theorem F9 {c : Cf} {w inp : Vw} {slot : Int} (h1 : w.B.length ≤ 1000) (h2 : w.V.length ≤ 1000) (h3 : inp.B.length ≤ 800) (h4 : inp.V.length ≤ 600) : HG c w inp slot = some (az c w inp slot) := by
 unfold HG az;rw [xA (by omega) (by omega), ob, F8 h1 h2, ob];by_cases hm : ea c w
 ·rw [decide_eq_true hm, Bool.not_true, cf, if_pos hm, Ed (by omega) (by omega), ob];simp only;have hfB : (a8 c inp).B.length ≤ inp.B.length := List.length_filter_le _ _;have hfV : (a8 c inp).V.length ≤ inp.V.length := List.length_filter_le _ _
  have hr : y9 ⟨w.B, w.V, false, (a8 c inp).B, (a8 c inp).V⟩ (fp.mk (-1) w.B w.V (mp w.B) (kd w.V) false (a8 c inp).B (a8 c inp).V ((a8 c inp).B.map ax).length ((a8 c inp).V.map aI).length) :=
   ⟨rfl, rfl, rfl, ⟨sC hm.valid, Dj w.B⟩, ⟨sf w.V, (ve w.V).1⟩, ⟨by simp, by simp⟩, ⟨by simp, by simp⟩⟩
  have hbel : nF ⟨w.B, w.V, false, (a8 c inp).B, (a8 c inp).V⟩ := ⟨hm.lenB, hm.lenV⟩;generalize a8 c inp = o at *;obtain ⟨y, e, hy⟩ := un (upto := slot) 1000 _ _ 4611686018427387903 hr hbel (by simp only; omega) (by simp only; omega) (by simp only; omega) (by omega) (by omega);have e' : iter (lU slot) bG (fp.mk (-1) w.B w.V (mp w.B) (kd w.V) false o.B o.V (o.B.map ax).length (o.V.map aI).length) = some y := e;rw [e', ob];change y9 (lN slot _) y at hy;generalize lN slot ⟨w.B, w.V, false, o.B, o.V⟩ = s at hy ⊢;rw [Nat.ble_eq_true_of_le hy.lB.le, ct, Nat.ble_eq_true_of_le hy.lV.le, ct, hy.o6, hy.o7, hy.full, hy.lB.take, hy.lV.take]
 ·rw [decide_eq_false hm, Bool.not_false, ct, if_neg hm, aP (by omega) (by omega), ct, aP (by omega) (by omega), ct]
theorem qC {B : List Bk} {b : Bk} (h : cz B b = true) (t : List Bk) : cz (B ++ t) b = true := by
 unfold cz at h ⊢;rw [Bool.or_eq_true] at h ⊢;rcases h with h | h
 ·left;obtain ⟨s, hs⟩ := Option.isSome_iff_exists.1 h;rw [gZ hs]; rfl
 ·right
  cases hp : aY B b.Parent with
  | none => rw [hp] at h; cases h
  | some s => rw [hp] at h; rw [gZ hp]; exact h
theorem l8 {B : List Bk} {V : List Vt} {v : Vt} (h : cN B V v = true) (t : List Bk) (u : List Vt) : cN (B ++ t) (V ++ u) v = true := by
 unfold cN at h ⊢;rw [Bool.or_eq_true] at h ⊢;rcases h with h | h
 ·left;exact decide_eq_true<|List.mem_append_left _<|of_decide_eq_true h
 ·right
  cases hp : aY B v.Head with
  | none => rw [hp] at h; cases h
  | some s => rw [hp] at h; rw [gZ hp]; exact h
theorem wM {B : List Bk} {b : Bk} (h : b ∈ B) : cz B b = true := by
 obtain ⟨s, hs⟩ := qW h;unfold cz; rw [hs]; rfl
theorem wN {B : List Bk} {V : List Vt} {v : Vt} (h : v ∈ V) : cN B V v = true := by
 unfold cN; rw [decide_eq_true h]; rfl
theorem mr (upto : Int) (B : List Bk) (f : Bool) (b : Bk) :
  (cz B b = true ∧ bn upto B f b = (true, B, f)) ∨ (cz B b = false ∧ eW B upto b = true ∧ bn upto B f b = (false, B, f)) ∨
  (cz B b = false ∧ eW B upto b = false ∧ B.length < 60 ∧ bn upto B f b = (true, B ++ [b], f)) ∨ (cz B b = false ∧ eW B upto b = false ∧ 60 ≤ B.length ∧ bn upto B f b = (false, B, true)) := by
 unfold bn
 cases h1 : cz B b with
 | true => exact .inl ⟨rfl, by rw [if_pos rfl]⟩
 | false =>
  right;rw [if_neg (by simp)]
  cases h2 : eW B upto b with
  | true => exact .inl ⟨rfl, rfl, by rw [if_pos rfl]⟩
  | false =>
   right;rw [if_neg (by simp)];by_cases h3 : B.length < 60
   ·exact .inl ⟨rfl, rfl, h3, by rw [if_pos h3]⟩
   ·exact .inr ⟨rfl, rfl, by omega, by rw [if_neg h3]⟩
theorem mt (upto : Int) (B : List Bk) (V : List Vt) (f : Bool) (v : Vt) :
  (cN B V v = true ∧ bp upto B V f v = (true, V, f)) ∨ (cN B V v = false ∧ fk B upto v = true ∧ bp upto B V f v = (false, V, f)) ∨
  (cN B V v = false ∧ fk B upto v = false ∧ V.length < 240 ∧ bp upto B V f v = (true, V ++ [v], f)) ∨ (cN B V v = false ∧ fk B upto v = false ∧ 240 ≤ V.length ∧ bp upto B V f v = (false, V, true)) := by
 unfold bp
 cases h1 : cN B V v with
 | true => exact .inl ⟨rfl, by rw [if_pos rfl]⟩
 | false =>
  right;rw [if_neg (by simp)]
  cases h2 : fk B upto v with
  | true => exact .inl ⟨rfl, rfl, by rw [if_pos rfl]⟩
  | false =>
   right;rw [if_neg (by simp)];by_cases h3 : V.length < 240
   ·exact .inl ⟨rfl, rfl, h3, by rw [if_pos h3]⟩
   ·exact .inr ⟨rfl, rfl, by omega, by rw [if_neg h3]⟩
section
variable {α : Type} {step : List α → Bool → α → Bool × List α × Bool}
theorem jf {Q : List α → Bool → Prop} : ∀ {l B : List α} {f : Bool}, (∀ B f b, b ∈ l → Q B f → Q (step B f b).2.1 (step B f b).2.2) → Q B f → Q (bg step B f l).2.1 (bg step B f l).2.2
 | [], B, f, _, hB => by simpa only [bg] using hB
 | x :: r, B, f, h, hB => by
  have := jf (l := r) (fun B f b hb => h B f b (.tail _ hb)) (h B f x (.head _) hB);simpa only [bg] using this
theorem od : ∀ (l B : List α) (f : Bool), (bg step B f l).1.Sublist l
 | [], B, f => by simp [bg]
 | x :: r, B, f => by
  have := od r (step B f x).2.1 (step B f x).2.2;simp only [bg];split
  ·exact this.cons x
  ·exact this.cons_cons x
theorem mn {G : List α → α → Prop} (hs : ∀ B f b, (step B f b).1 = true → G (step B f b).2.1 b) (hm : ∀ B f b c, G B c → G (step B f b).2.1 c) : ∀ (l B : List α) (f : Bool) (b : α), b ∈ l → b ∈ (bg step B f l).1 ∨ G (bg step B f l).2.1 b
 | x :: r, B, f, b, hb => by
  have hkeep : ∀ (r B : List α) (f : Bool) (c : α), G B c → G (bg step B f r).2.1 c := fun r B f c hc => jf (Q := fun B _ => G B c) (fun B f b _ hB => hm B f b c hB) hc;simp only [bg];rcases List.mem_cons.1 hb with e | hb
  ·subst e
   cases h : (step B f b).1 with
   | true => exact .inr (hkeep _ _ _ _ (hs B f b h))
   | false => left; rw [if_neg (by simp)]; exact .head _
  ·rcases mn hs hm r (step B f x).2.1 (step B f x).2.2 b hb with h | h
   ·left;split
    ·exact h
    ·exact .tail _ h
   ·exact .inr h
end
section
variable {α : Type} {g w : List α → α → Bool} {cap : Nat}
def ga (g w : List α → α → Bool) (cap : Nat) (B : List α) (f : Bool) (b : α) : Bool × List α × Bool :=
 if g B b then (true, B, f) else if w B b then (false, B, f) else if B.length < cap then (true, B ++ [b], f) else (false, B, true)
def mu (g w : List α → α → Bool) (B : List α) (f : Bool) (l : List α) : List α × List α × Bool := (l.filter fun b => !g B b, B, f || l.any fun b => !g B b && !w B b)
theorem q6 : ∀ {l B : List α} {f : Bool}, (∀ b ∈ l, g B b = false → w B b = false → cap ≤ B.length) → bg (ga g w cap) B f l = mu g w B f l
 | [], B, f, _ => by simp [bg, mu]
 | x :: r, B, f, h => by
  have ih := fun f => q6 (l := r) (f := f) (B := B) fun b hb => h b (.tail _ hb);unfold mu at ih ⊢;simp only [bg]
  cases h1 : g B x with
  | true =>
   have e : ga g w cap B f x = (true, B, f) := by unfold ga; rw [h1, if_pos rfl]
   rw [e];simp [ih, h1]
  | false =>
   cases h2 : w B x with
   | true =>
    have e : ga g w cap B f x = (false, B, f) := by unfold ga; rw [h1, if_neg (by simp), h2, if_pos rfl]
    rw [e];simp [ih, h1, h2]
   | false =>
    have e : ga g w cap B f x = (false, B, true) := by
     unfold ga; rw [h1, if_neg (by simp), h2, if_neg (by simp), if_neg];have := h x (.head _) h1 h2;omega
    rw [e];simp [ih, h1, h2]
theorem sF (B : List α) (f : Bool) (b : α) : ∃ t, (ga g w cap B f b).2.1 = B ++ t := by
 unfold ga;split
 ·exact ⟨[], by simp⟩
 ·split
  ·exact ⟨[], by simp⟩
  ·split
   ·exact ⟨[b], rfl⟩
   ·exact ⟨[], by simp⟩
theorem As (l B : List α) (f : Bool) : ∃ u, (bg (ga g w cap) B f l).2.1 = B ++ u :=
 jf (Q := fun C _ => ∃ u, C = B ++ u) (fun C f b _ ⟨u, hu⟩ => by
  obtain ⟨t, ht⟩ := sF (g := g) (w := w) (cap := cap) C f b
  exact ⟨u ++ t, by rw [ht, hu, List.append_assoc]⟩) ⟨[], by simp⟩
theorem q5 : ∀ {l B : List α} {f : Bool}, (bg (ga g w cap) B f l).2.1.length = B.length → ∀ b ∈ l, g B b = false → w B b = false → cap ≤ B.length
 | x :: r, B, f, h, b, hb, h1, h2 => by
  simp only [bg] at h;obtain ⟨t, ht⟩ := sF (g := g) (w := w) (cap := cap) B f x;obtain ⟨u, hu⟩ := As (g := g) (w := w) (cap := cap) r (ga g w cap B f x).2.1 (ga g w cap B f x).2.2
  have hB : (ga g w cap B f x).2.1 = B := by
   rw [hu, ht, List.length_append, List.length_append] at h;have : t = [] := List.length_eq_zero_iff.1 (by omega);rw [ht, this, List.append_nil]
  rcases List.mem_cons.1 hb with e | hb
  ·subst e;refine Classical.byContradiction fun hc => ?_
   have e : ga g w cap B f b = (true, B ++ [b], f) := by
    unfold ga; rw [h1, if_neg (by simp), h2, if_neg (by simp), if_pos (by omega)]
   rw [e] at hB;have := congrArg List.length hB;simp at this
  ·rw [hB] at h;exact q5 h b hb h1 h2
end
structure rr (w o : Vw) (upto : Int) (s : rq) : Prop where
 preB : ∃ t, s.B = w.B ++ t ∧ ∀ b ∈ t, b ∈ o.B ∧ b.Slot ≤ upto
 preV : ∃ t, s.V = w.V ++ t ∧ ∀ v ∈ t, v ∈ o.V ∧ v.Slot ≤ upto
 valid : aO s.B
 nodup : s.V.Nodup
 forB : ∀ v ∈ s.V, forB s.B v
 below : nF s
 subB : s.lB.Sublist o.B
 subV : s.lV.Sublist o.V
 allB : ∀ b ∈ o.B, b ∈ s.lB ∨ cz s.B b = true
 allV : ∀ v ∈ o.V, v ∈ s.lV ∨ cN s.B s.V v = true
theorem xk {B : List Bk} {upto : Int} {b : Bk} (h1 : cz B b = false) (h2 : eW B upto b = false) : (∃ s, aY B b.Parent = some s ∧ s < b.Slot) ∧ aY B (nm b) = none ∧ b.Slot ≤ upto := by
 unfold cz at h1;unfold eW at h2;rw [Bool.or_eq_false_iff] at h1
 have hn : aY B (nm b) = none := by
  cases h : aY B (nm b) with
  | none => rfl
  | some s => rw [h] at h1; cases h1.1
 cases hp : aY B b.Parent with
 | none => rw [hp] at h2; cases h2
 | some s =>
  rw [hp] at h1 h2;have a1 := of_decide_eq_false h1.2;have a2 := of_decide_eq_false h2;exact ⟨⟨s, rfl, by omega⟩, hn, by omega⟩
theorem vY {B : List Bk} {V : List Vt} {upto : Int} {v : Vt} (h1 : cN B V v = false) (h2 : fk B upto v = false) : forB B v ∧ v ∉ V ∧ v.Slot ≤ upto := by
 unfold cN at h1;unfold fk at h2;rw [Bool.or_eq_false_iff] at h1;have hn := of_decide_eq_false h1.1
 cases hp : aY B v.Head with
 | none => rw [hp] at h2; cases h2
 | some s =>
  rw [hp] at h1 h2;have a1 := of_decide_eq_false h1.2;have a2 := of_decide_eq_false h2;exact ⟨⟨s, hp, by omega⟩, hn, by omega⟩
theorem z8 {B : List Bk} {v : Vt} (h : forB B v) (t : List Bk) : forB (B ++ t) v := by
 obtain ⟨s, h1, h2⟩ := h;exact ⟨s, gZ h1 t, h2⟩
theorem Aq {w o : Vw} {upto : Int} {s : rq} (h : rr w o upto s) : rr w o upto ⟨(bl upto s.B s.full s.lB).2.1, s.V, (bl upto s.B s.full s.lB).2.2, (bl upto s.B s.full s.lB).1, s.lV⟩ := by
 have key : ∃ u, (bl upto s.B s.full s.lB).2.1 = s.B ++ u ∧ (∀ b ∈ u, b ∈ o.B ∧ b.Slot ≤ upto) ∧ aO (s.B ++ u) ∧ (s.B ++ u).length ≤ 60 := by
  have := jf (step := bn upto) (l := s.lB) (B := s.B) (f := s.full) (Q := fun C _ => ∃ u, C = s.B ++ u ∧ (∀ b ∈ u, b ∈ o.B ∧ b.Slot ≤ upto) ∧ aO (s.B ++ u) ∧ (s.B ++ u).length ≤ 60)
   (fun C f b hb ⟨u, hu, h1, h2, h3⟩ => by
    subst hu;rcases mr upto (s.B ++ u) f b with ⟨-, e⟩ | ⟨-, -, e⟩ | ⟨a1, a2, a3, e⟩ | ⟨-, -, -, e⟩
    ·rw [e]; exact ⟨u, rfl, h1, h2, h3⟩
    ·rw [e]; exact ⟨u, rfl, h1, h2, h3⟩
    ·rw [e];obtain ⟨k1, k2, k3⟩ := xk a1 a2;refine ⟨u ++ [b], by simp, fun c hc => ?_, ?_, ?_⟩
     ·rcases List.mem_append.1 hc with hc | hc
      ·exact h1 c hc
      ·rw [List.mem_singleton] at hc; subst hc;exact ⟨h.subB.subset hb, k3⟩
     ·rw [← List.append_assoc]; exact jU.2 ⟨h2, k1, k2⟩
     ·rw [← List.append_assoc, List.length_append, List.length_singleton]; omega
    ·rw [e]; exact ⟨u, rfl, h1, h2, h3⟩)
   ⟨[], by simp, by simp, by simpa using h.valid, by simpa using h.below.1⟩
  exact this
 obtain ⟨u, hu, h1, h2, h3⟩ := key
 have hgone : ∀ b ∈ s.lB, b ∈ (bl upto s.B s.full s.lB).1 ∨ cz (bl upto s.B s.full s.lB).2.1 b = true :=
  mn (step := bn upto) (G := fun B b => cz B b = true) (fun B f b hb => by
   rcases mr upto B f b with ⟨a, e⟩ | ⟨-, -, e⟩ | ⟨-, -, -, e⟩ | ⟨-, -, -, e⟩ <;> rw [e] at hb ⊢
   ·exact a
   ·cases hb
   ·exact wM (by simp)
   ·cases hb) (fun B f b c hc => by
   rcases mr upto B f b with ⟨a, e⟩ | ⟨-, -, e⟩ | ⟨-, -, -, e⟩ | ⟨-, -, -, e⟩ <;> rw [e]
   ·exact hc
   ·exact hc
   ·exact qC hc _
   ·exact hc) s.lB s.B s.full
 obtain ⟨t, ht, ht2⟩ := h.preB
 refine ⟨⟨t ++ u, by simp only; rw [hu, ht, List.append_assoc], fun b hb => (List.mem_append.1 hb).elim (ht2 b) (h1 b)⟩, h.preV, by simp only [hu]; exact h2, h.nodup, fun v hv => ?_, ⟨by simp only [hu]; exact h3, h.below.2⟩,
  (od s.lB s.B s.full).trans h.subB, h.subV, fun b hb => ?_, fun v hv => ?_⟩
 ·simp only [hu]; exact z8 (h.forB v hv) u
 ·rcases h.allB b hb with h5 | h5
  ·exact hgone b h5
  ·right; simp only [hu]; exact qC h5 u
 ·rcases h.allV v hv with h5 | h5
  ·exact .inl h5
  ·right;simp only [hu];have := l8 h5 u []
   rwa [List.append_nil] at this
theorem Ar {w o : Vw} {upto : Int} {s : rq} (h : rr w o upto s) : rr w o upto ⟨s.B, (bZ upto s.B s.V s.full s.lV).2.1, (bZ upto s.B s.V s.full s.lV).2.2, s.lB, (bZ upto s.B s.V s.full s.lV).1⟩ := by
 have key : ∃ u, (bZ upto s.B s.V s.full s.lV).2.1 = s.V ++ u ∧ (∀ v ∈ u, v ∈ o.V ∧ v.Slot ≤ upto) ∧ (s.V ++ u).Nodup ∧ (∀ v ∈ s.V ++ u, Go.Mg.forB s.B v) ∧ (s.V ++ u).length ≤ 240 := by
  have := jf (step := bp upto s.B) (l := s.lV) (B := s.V) (f := s.full) (Q := fun C _ => ∃ u, C = s.V ++ u ∧ (∀ v ∈ u, v ∈ o.V ∧ v.Slot ≤ upto) ∧ (s.V ++ u).Nodup ∧ (∀ v ∈ s.V ++ u, Go.Mg.forB s.B v) ∧ (s.V ++ u).length ≤ 240)
   (fun C f v hv ⟨u, hu, h1, h2, h4, h3⟩ => by
    subst hu;rcases mt upto s.B (s.V ++ u) f v with ⟨-, e⟩ | ⟨-, -, e⟩ | ⟨a1, a2, a3, e⟩ | ⟨-, -, -, e⟩
    ·rw [e]; exact ⟨u, rfl, h1, h2, h4, h3⟩
    ·rw [e]; exact ⟨u, rfl, h1, h2, h4, h3⟩
    ·rw [e];obtain ⟨k1, k2, k3⟩ := vY a1 a2;refine ⟨u ++ [v], by simp, fun c hc => ?_, ?_, fun c hc => ?_, ?_⟩
     ·rcases List.mem_append.1 hc with hc | hc
      ·exact h1 c hc
      ·rw [List.mem_singleton] at hc; subst hc;exact ⟨h.subV.subset hv, k3⟩
     ·rw [← List.append_assoc, List.nodup_append];exact ⟨h2, by simp, fun a ha b hb => by rw [List.mem_singleton] at hb; subst hb; exact fun q => k2 (q ▸ ha)⟩
     ·rw [← List.append_assoc] at hc;rcases List.mem_append.1 hc with hc | hc
      ·exact h4 c hc
      ·rw [List.mem_singleton] at hc; subst hc; exact k1
     ·rw [← List.append_assoc, List.length_append, List.length_singleton]; omega
    ·rw [e]; exact ⟨u, rfl, h1, h2, h4, h3⟩)
   ⟨[], by simp, by simp, by simpa using h.nodup, by simpa using h.forB, by simpa using h.below.2⟩
  exact this
 obtain ⟨u, hu, h1, h2, h4, h3⟩ := key
 have hgone : ∀ v ∈ s.lV, v ∈ (bZ upto s.B s.V s.full s.lV).1 ∨ cN s.B (bZ upto s.B s.V s.full s.lV).2.1 v = true :=
  mn (step := bp upto s.B) (G := fun V v => cN s.B V v = true) (fun V f v hb => by
   rcases mt upto s.B V f v with ⟨a, e⟩ | ⟨-, -, e⟩ | ⟨-, -, -, e⟩ | ⟨-, -, -, e⟩ <;> rw [e] at hb ⊢
   ·exact a
   ·cases hb
   ·exact wN (by simp)
   ·cases hb) (fun V f v c hc => by
   rcases mt upto s.B V f v with ⟨a, e⟩ | ⟨-, -, e⟩ | ⟨-, -, -, e⟩ | ⟨-, -, -, e⟩ <;> rw [e]
   ·exact hc
   ·exact hc
   ·have := l8 hc [] [v]; rwa [List.append_nil] at this
   ·exact hc) s.lV s.V s.full
 obtain ⟨t, ht, ht2⟩ := h.preV
 refine ⟨h.preB, ⟨t ++ u, by simp only; rw [hu, ht, List.append_assoc], fun b hb => (List.mem_append.1 hb).elim (ht2 b) (h1 b)⟩, h.valid, by simp only [hu]; exact h2, fun v hv => ?_, ⟨h.below.1, by simp only [hu]; exact h3⟩,
  h.subB, (od s.lV s.V s.full).trans h.subV, h.allB, fun v hv => ?_⟩
 ·simp only [hu] at hv; exact h4 v hv
 ·rcases h.allV v hv with h5 | h5
  ·exact hgone v h5
  ·right;simp only [hu];have := l8 h5 [] u
   rwa [List.append_nil] at this
theorem w8 {w o : Vw} {upto : Int} {s : rq} (h : rr w o upto s) : rr w o upto (c8 upto s) := Ar (Aq h)
structure F0 (upto : Int) (s : rq) : Prop where
 B : ∀ b ∈ s.lB, cz s.B b = false ∧ (eW s.B upto b = true ∨ 60 ≤ s.B.length ∧ s.full = true)
 V : ∀ v ∈ s.lV, cN s.B s.V v = false ∧ (fk s.B upto v = true ∨ 240 ≤ s.V.length ∧ s.full = true)
theorem w7 {upto : Int} {s : rq} (h : c9 (c8 upto s) = c9 s) : F0 upto (c8 upto s) := by
 have hg := kN upto s
 have hB : (bl upto s.B s.full s.lB).2.1.length = s.B.length := by unfold c9 at h; have : (c8 upto s).B = (bl upto s.B s.full s.lB).2.1 := rfl; rw [← this]; omega
 have h1 : ∀ b ∈ s.lB, cz s.B b = false → eW s.B upto b = false → 60 ≤ s.B.length := q5 (g := cz) (w := fun B b => eW B upto b) (cap := 60) (f := s.full) hB;have e1 : bl upto s.B s.full s.lB = mu cz (fun B b => eW B upto b) s.B s.full s.lB := q6 h1
 have hV : (bZ upto s.B s.V (bl upto s.B s.full s.lB).2.2 s.lV).2.1.length = s.V.length := by
  have : (c8 upto s).V = (bZ upto (bl upto s.B s.full s.lB).2.1 s.V (bl upto s.B s.full s.lB).2.2 s.lV).2.1 := rfl
  have e2 : (bl upto s.B s.full s.lB).2.1 = s.B := by rw [e1]; rfl
  rw [e2] at this;rw [← this];unfold c9 at h; omega
 have h2 : ∀ v ∈ s.lV, cN s.B s.V v = false → fk s.B upto v = false → 240 ≤ s.V.length := q5 (g := cN s.B) (w := fun _ v => fk s.B upto v) (cap := 240) (f := (bl upto s.B s.full s.lB).2.2) hV;unfold c8;rw [e1];unfold mu;simp only;have e2 : bZ upto s.B s.V (s.full || s.lB.any fun b => !cz s.B b && !eW s.B upto b) s.lV = mu (cN s.B) (fun _ v => fk s.B upto v) s.V (s.full || s.lB.any fun b => !cz s.B b && !eW s.B upto b) s.lV := q6 h2;rw [e2];unfold mu;refine ⟨fun b hb => ?_, fun v hv => ?_⟩
 ·simp only [List.mem_filter, Bool.not_eq_true'] at hb;refine ⟨hb.2, ?_⟩
  cases hw : eW s.B upto b with
  | true => exact .inl rfl
  | false =>
   right;refine ⟨h1 b hb.1 hb.2 hw, ?_⟩;simp only [Bool.or_eq_true];exact .inl<|.inr<|List.any_eq_true.2 ⟨b, hb.1, by simp [hb.2, hw]⟩
 ·simp only [List.mem_filter, Bool.not_eq_true'] at hv;refine ⟨hv.2, ?_⟩
  cases hw : fk s.B upto v with
  | true => exact .inl rfl
  | false =>
   right;refine ⟨h2 v hv.1 hv.2 hw, ?_⟩;simp only [Bool.or_eq_true];exact .inr<|List.any_eq_true.2 ⟨v, hv.1, by simp [hv.2, hw]⟩
theorem sH {w o : Vw} {upto : Int} : ∀ (m : Nat) (s : rq), rr w o upto s → 300 < m + c9 s → rr w o upto (q7 upto m s) ∧ F0 upto (q7 upto m s)
 | 0, s, h, hm => by
  have h1 := h.below.1;have h2 := h.below.2;unfold c9 at hm;omega
 | m + 1, s, h, hm => by
  have hr := w8 h;have hg := kN upto s;unfold q7;by_cases hs : c9 (c8 upto s) = c9 s
  ·rw [if_pos hs]; exact ⟨hr, w7 hs⟩
  ·rw [if_neg hs];exact sH m (c8 upto s) hr (by unfold c9 at *; omega)
theorem Ag {c : Cf} {w o : Vw} {upto : Int} (h : ea c w) : rr w o upto ⟨w.B, w.V, false, o.B, o.V⟩ :=
 ⟨⟨[], by simp, by simp⟩, ⟨[], by simp, by simp⟩, h.valid, h.nodup, h.forB, ⟨h.lenB, h.lenV⟩, List.Sublist.refl _, List.Sublist.refl _, fun _ h => .inl h, fun _ h => .inl h⟩
theorem Dm {c : Cf} {w o : Vw} {upto : Int} (h : ea c w) : rr w o upto (lN upto ⟨w.B, w.V, false, o.B, o.V⟩) ∧ F0 upto (lN upto ⟨w.B, w.V, false, o.B, o.V⟩) :=
 sH 1000 _ (Ag h) (by omega)
structure Gh (c : Cf) (w inp : Vw) (upto : Int) (r : Vw × Vw × Bool) : Prop where
 may : ea c r.1
 preB : ∃ t, r.1.B = w.B ++ t ∧ ∀ b ∈ t, b ∈ (a8 c inp).B ∧ b.Slot ≤ upto
 preV : ∃ t, r.1.V = w.V ++ t ∧ ∀ v ∈ t, v ∈ (a8 c inp).V ∧ v.Slot ≤ upto
 subB : r.2.1.B.Sublist (a8 c inp).B
 subV : r.2.1.V.Sublist (a8 c inp).V
 allB : ∀ b ∈ (a8 c inp).B, b ∈ r.2.1.B ∨ cz r.1.B b = true
 allV : ∀ v ∈ (a8 c inp).V, v ∈ r.2.1.V ∨ cN r.1.B r.1.V v = true
 endB : ∀ b ∈ r.2.1.B, cz r.1.B b = false ∧ (eW r.1.B upto b = true ∨ 60 ≤ r.1.B.length ∧ r.2.2 = true)
 endV : ∀ v ∈ r.2.1.V, cN r.1.B r.1.V v = false ∧ (fk r.1.B upto v = true ∨ 240 ≤ r.1.V.length ∧ r.2.2 = true)
theorem ph {c : Cf} {w : Vw} (h : ea c w) (inp : Vw) (upto : Int) : Gh c w inp upto (az c w inp upto) := by
 unfold az;rw [if_pos h];have hmB : ∀ b ∈ (a8 c inp).B, mayB c b = true := fun b hb => (List.mem_filter.1 hb).2;have hmV : ∀ v ∈ (a8 c inp).V, mayV c v = true := fun b hb => (List.mem_filter.1 hb).2;have := Dm (o := a8 c inp) (upto := upto) h;obtain ⟨hi, he⟩ := this;generalize lN upto ⟨w.B, w.V, false, (a8 c inp).B, (a8 c inp).V⟩ = s at hi he ⊢;obtain ⟨t, ht, ht2⟩ := hi.preB;obtain ⟨u, hu, hu2⟩ := hi.preV;refine ⟨⟨h.conf, hi.valid, hi.below.1, hi.below.2, fun b hb => ?_, fun v hv => ?_, hi.nodup, hi.forB⟩, ⟨t, ht, ht2⟩, ⟨u, hu, hu2⟩, hi.subB, hi.subV, hi.allB, hi.allV, he.B, he.V⟩
 ·simp only [ht] at hb;rcases List.mem_append.1 hb with hb | hb
  ·exact h.mayB b hb
  ·exact hmB b (ht2 b hb).1
 ·simp only [hu] at hv;rcases List.mem_append.1 hv with hv | hv
  ·exact h.mayV v hv
  ·exact hmV v (hu2 v hv).1
open Go.Proofs
open Go.Proofs
theorem Db (c : Cf) (w : Vw) : (a8 c w).B.length ≤ w.B.length ∧ (a8 c w).V.length ≤ w.V.length := ⟨List.length_filter_le _ _, List.length_filter_le _ _⟩
open Go.Proofs
open Go.Proofs
theorem Dq {c : Cf} {w inp : Vw} {upto : Int} {r : Vw × Vw × Bool} (h : Gh c w inp upto r) : w.B.length ≤ r.1.B.length ∧ w.V.length ≤ r.1.V.length ∧ r.2.1.B.length ≤ inp.B.length ∧ r.2.1.V.length ≤ inp.V.length := by
 obtain ⟨t, ht, -⟩ := h.preB;obtain ⟨u, hu, -⟩ := h.preV;exact ⟨by rw [ht]; simp, by rw [hu]; simp, (h.subB.trans List.filter_sublist).length_le, (h.subV.trans List.filter_sublist).length_le⟩
theorem AH {c : Cf} {w inp : Vw} {upto : Int} {r : Vw × Vw × Bool} (h : Gh c w inp upto r) : r.1.B.take w.B.length = w.B ∧ r.1.V.take w.V.length = w.V := by
 obtain ⟨t, ht, -⟩ := h.preB;obtain ⟨u, hu, -⟩ := h.preV;rw [ht, hu];exact ⟨List.take_left' rfl, List.take_left' rfl⟩
theorem d5 {α : Type} [DecidableEq α] : ∀ {l L : List α}, l.Nodup → (∀ x ∈ l, x ∈ L) → l.length ≤ L.length
 | [], _, _, _ => Nat.zero_le _
 | x :: r, L, h, hs => by
  rw [List.nodup_cons] at h;have hx := hs x (.head _);have h1 := d5 (L := L.erase x) h.2 fun y hy => (List.mem_erase_of_ne (show y ≠ x from fun e => h.1 (by rw [← e]; exact hy))).2 (hs y (.tail _ hy));have h2 := List.length_erase_of_mem hx;have h3 := List.length_pos_of_mem hx;simp only [List.length_cons]; omega
theorem oA {B : List Bk} (h : aO B) {id : ID} {s : Int} : aY B id = some s ↔ (id = (0, 0) ∧ s = 0) ∨ ∃ b ∈ B, nm b = id ∧ b.Slot = s := by
 constructor
 ·intro h1;rcases oB h1 with h2 | ⟨-, h2⟩
  ·exact .inl h2
  ·exact .inr h2
 ·rintro (⟨h1, h2⟩ | ⟨b, h1, h2, h3⟩)
  ·subst h1 h2; unfold aY; rw [if_pos rfl]
  ·rw [← h2, ← h3]; exact mw h h1
theorem lu {B C : List Bk} (h : aO B) (h2 : aO C) (hs : ∀ b ∈ B, b ∈ C) {id : ID} {s : Int} (hq : aY B id = some s) : aY C id = some s := by
 rw [oA h] at hq;rw [oA h2];rcases hq with hq | ⟨b, h1, h3⟩
 ·exact .inl hq
 ·exact .inr ⟨b, hs b h1, h3⟩
inductive CB (base o : List Bk) (upto : Int) : Bk → Prop
 | base {b : Bk} : b ∈ base → CB base o upto b
 | root {b : Bk} : b ∈ o → b.Slot ≤ upto → b.Parent = (0, 0) → 0 < b.Slot → CB base o upto b
 | step {b p : Bk} : b ∈ o → b.Slot ≤ upto → CB base o upto p → nm p = b.Parent → p.Slot < b.Slot → CB base o upto b
theorem CB.mono {base base' o o' : List Bk} {upto upto' : Int} (h1 : ∀ b ∈ base, CB base' o' upto' b) (h2 : ∀ b ∈ o, b ∈ o') (h3 : upto ≤ upto') {b : Bk} (h : CB base o upto b) : CB base' o' upto' b := by
 induction h with
 | base h => exact h1 _ h
 | root a1 a2 a3 a4 => exact .root (h2 _ a1) (Int.le_trans a2 h3) a3 a4
 | step a1 a2 _ a4 a5 ih => exact .step (h2 _ a1) (Int.le_trans a2 h3) ih a4 a5
structure Rm (U : Vw) : Prop where
 inj : ∀ a ∈ U.B, ∀ b ∈ U.B, nm a = nm b → a = b
 B : U.B.length < 60
 V : U.V.length < 240
theorem A3 {l : List Int} (hl : l.length ≤ 100000) (v : Int) : tY l v = some (decide (v ∈ l)) := by
 have e := eV (step := iL l v) (n := l.length) (fun k => ei.mk (k : Int)) (fj l v) (fun j hj => by
  obtain ⟨y, hy, -⟩ := aD hj;unfold iL fj;simp only;rw [decide_eq_true (show (j : Int) < (l.length : Int) by omega), ct, aG hy, ob, ak (n := j) (by omega), hy];by_cases h : v = y
  ·rw [beq_iff_eq.2 h, ct, if_pos (by rw [h])]
  ·rw [beq_eq_false_iff_ne.2 h, cf, if_neg (fun e => h (Option.some.inj e).symm)]) (by
  unfold iL;simp only
  rw [decide_eq_false (show ¬ (l.length : Int) < (l.length : Int) by omega), cf]) (by omega)
 unfold tY xv;rw [← kC];have e' : iter (iL l v) bG (ei.mk 0) = some (lE (ei.mk (l.length : Int)) (cx (fj l v) 0 l.length)) := e;rw [e', ob]
 cases h : cx (fj l v) 0 l.length with
 | none => rw [lE, sl, ob]; rfl
 | some r => rw [lE, sr, ob, decide_eq_true (qD h)]; rfl
def vf (cm : List Int) (v : Vt) : Bool := decide (v.From ∈ cm)
theorem tX {cm : List Int} (hl : cm.length ≤ 100000) (v : Vt) : rH cm v = some (!vf cm v) := by
 unfold rH;rw [A3 hl, ob];rfl
theorem Bp {l : List Vt} {cm : List Int} (hc : cm.length ≤ 100000) (hl : l.length ≤ 100000) :
  ∃ i, uc l l.length cm = some i ∧ ((i = -1 ∧ l.filter (vf cm) = l) ∨ ∃ j : Nat, i = j ∧ j < l.length ∧ (l.take (j + 1)).filter (vf cm) = l.take j) := by
 unfold uc
 have key := cY (step := iN l l.length cm) (fun x => ∃ j : Nat, j ≤ l.length ∧ x.t8 = j ∧ (l.take j).filter (vf cm) = l.take j) (fun x => l.length - x.t8.toNat)
  (fun b => (∃ x, b = .inl x ∧ l.filter (vf cm) = l) ∨ ∃ j : Nat, b = .inr (j : Int) ∧ j < l.length ∧ (l.take (j + 1)).filter (vf cm) = l.take j) (by
   rintro ⟨t⟩ ⟨j, hj, h1, h2⟩;simp only at h1 h2;subst h1;by_cases hlt : j < l.length
   ·obtain ⟨y, hy, -⟩ := aD hlt;have hsn := bO (p := vf cm) hy
    have hstep : iN l l.length cm ⟨(j : Int)⟩ = bif !vf cm y then some (.inr (.inr (j : Int))) else some (.inl ⟨((j + 1 : Nat) : Int)⟩) := by
     unfold iN;simp only;rw [decide_eq_true (show (j : Int) < (l.length : Int) by omega), ct, List.take_length, aG hy, ob, tX hc, ob, ak (n := j) (by omega)]
    rw [h2] at hsn
    cases hp : vf cm y with
    | true =>
     rw [hp, Bool.not_true, cf] at hstep;rw [hp, ct] at hsn;exact .inl ⟨_, hstep, ⟨j + 1, by omega, rfl, by rw [hsn, fU hy]⟩, by simp only; omega⟩
    | false =>
     rw [hp, Bool.not_false, ct] at hstep;rw [hp, cf, List.append_nil] at hsn;exact .inr ⟨_, hstep, .inr ⟨j, rfl, hlt, hsn⟩⟩
   ·right
    obtain rfl : j = l.length := by omega
    refine ⟨.inl ⟨(l.length : Int)⟩, ?_, .inl ⟨_, rfl, ?_⟩⟩
    ·unfold iN;simp only;rw [decide_eq_false (show ¬ (l.length : Int) < (l.length : Int) by omega), cf]
    ·rw [List.take_length] at h2; exact h2) (n := bG) (x := ⟨0⟩) ⟨0, by omega, rfl, by simp⟩ (ec (by simp only; omega))
 obtain ⟨b, e, ⟨x, rfl, h1⟩ | ⟨j, rfl, h0, h1⟩⟩ := key
 ·exact ⟨-1, by rw [e, ob, sl], .inl ⟨rfl, h1⟩⟩
 ·exact ⟨j, by rw [e, ob, sr], .inr ⟨j, rfl, h0, h1⟩⟩
theorem Bg {l : List Vt} {cm : List Int} (hc : cm.length ≤ 100000) (hl : l.length ≤ 100000) : ∃ k' l', t7 l l.length cm = some (k', l') ∧ ru l' k' (l.filter (vf cm)) := by
 obtain ⟨i, e0, h0⟩ := Bp hc hl;unfold t7;rw [e0, ob];rcases h0 with ⟨rfl, hp⟩ | ⟨j0, rfl, hj0, hp⟩
 ·rw [hp, show ((-1 : Int) == -1) = true from rfl, ct];exact ⟨_, _, rfl, List.take_length, Nat.le_refl _⟩
 ·rw [show ((j0 : Int) == -1) = false by rw [beq_eq_false_iff_ne]; omega, cf, ak (n := j0) (by omega)]
  have key := cY (step := iM l.length cm) (fun x => ∃ (i j : Nat), x.i = i ∧ x.j = j ∧ Mv l x.o1 i j ((l.take j).filter (vf cm))) (fun x => l.length - x.j.toNat)
   (fun x => ∃ i : Nat, x.i = i ∧ i ≤ l.length ∧ x.o1.take i = l.filter (vf cm) ∧ l.length ≤ x.o1.length) (by
   rintro ⟨i', j', a⟩ ⟨i, j, h1, h2, h5⟩;simp only at h1 h2 h5;subst h1 h2;have hij := h5.ij;have hjl := h5.jl;have hal := h5.len;by_cases hlt : j < l.length
   ·left;obtain ⟨y, hy, -⟩ := aD hlt
    have hya : (a.take l.length)[j]? = some y := by rw [List.getElem?_take_of_lt hlt, h5.rest j (Nat.le_refl _) (by omega), hy]
    obtain ⟨z, hz, -⟩ := aD (l := a.take l.length) (n := i) (by rw [List.length_take]; omega);have hsn := bO (p := vf cm) hy
    have hstep : iM l.length cm ⟨(i : Int), (j : Int), a⟩ = bif vf cm y then some (.inl ⟨((i + 1 : Nat) : Int), ((j + 1 : Nat) : Int), a.set i y⟩) else some (.inl ⟨(i : Int), ((j + 1 : Nat) : Int), a⟩) := by
     unfold iM;simp only;rw [decide_eq_true (show (j : Int) < (l.length : Int) by omega), ct, aG hya, ob, tX hc, ob, aG hz, ob, ak (n := j) (by omega), ak (n := i) (by omega), Int.toNat_natCast, Bool.not_not]
    cases hp : vf cm y with
    | false =>
     rw [hp, cf] at hstep;rw [hp, cf, List.append_nil] at hsn;refine ⟨_, hstep, ⟨i, j + 1, rfl, rfl, ?_⟩, by simp only; omega⟩;rw [hsn];exact h5.next_gone (by omega)
    | true =>
     rw [hp, ct] at hstep;rw [hp, ct] at hsn;refine ⟨_, hstep, ⟨i + 1, j + 1, rfl, rfl, ?_⟩, by simp only; omega⟩;rw [hsn];exact h5.next_stay (by omega) hy
   ·right
    have hjk : j = l.length := by omega
    have htl : l.take j = l := List.take_of_length_le (by omega);rw [htl] at h5;refine ⟨⟨(i : Int), (j : Int), a⟩, ?_, i, rfl, by omega, h5.left, by show l.length ≤ a.length; omega⟩;unfold iM;simp only
    rw [decide_eq_false (show ¬ (j : Int) < (l.length : Int) by omega), cf]) (n := bG) (x := ⟨(j0 : Int), ((j0 + 1 : Nat) : Int), l⟩)
   ⟨j0, j0 + 1, rfl, rfl, by
    rw [hp]
    exact ⟨by omega, by omega, Nat.le_refl _, rfl, fun q h1 h2 => rfl⟩⟩ (ec (by simp only; omega))
  obtain ⟨x, ex, i, hi, hik, h2, h3⟩ := key;rw [ex, ob, hi, decide_eq_true (show 0 ≤ (i : Int) ∧ (i : Int) ≤ (l.length : Int) by omega), ct, Int.toNat_natCast, decide_eq_true (show i + (l.length - i) ≤ x.o1.length by omega), ct, ct];exact ⟨_, _, rfl, tc hik h3 h2⟩
def cy (c : Cf) (v : List Vt) (slot : Int) : List Vt := (EU v slot).filter (vf (lz c slot))
theorem C9 (v : List Vt) (slot : Int) : (EU v slot).length ≤ v.length := by
 unfold EU;rw [(bS _).length_eq];exact Nat.le_trans (List.length_filterMap_le _ _) (nQ v).2
theorem vc (c : Cf) (v : List Vt) (slot : Int) : (cy c v slot).length ≤ v.length := Nat.le_trans (List.length_filter_le _ _) (C9 v slot)
theorem tW {v : List Vt} (hv : v.length ≤ 90000) (c : Cf) (slot : Int) : rG c v slot = some (cy c v slot) := by
 have hl := C9 v slot;have hc := wE c slot;obtain ⟨k', l', e, hp⟩ := Bg (l := EU v slot) (cm := lz c slot) (by omega) (by omega);unfold rG Ej;rw [show Nat.ble v.length 90000 = true from Nat.ble_eq_true_of_le hv, ct, ob, wk, ob, List.length_map, e, ob];simp only;rw [show Nat.ble k' l'.length = true from Nat.ble_eq_true_of_le hp.le, ct, hp.take];rfl
theorem kj {w : Vw} (h1 : w.B.length ≤ 1000) (h2 : w.V.length ≤ 1000) (c : Cf) (slot : Int) : iK c w slot = some (cE c w.B (cy c w.V slot)) := by
 have hg := vc c w.V slot;unfold iK;rw [tW (by omega), ob, F5 h1 (by omega), ob]
def yu (t : Int) : Int := bif ((IntKind.i64.wrap (t - 1)).tmod 3) != 2 then IntKind.i64.wrap ((IntKind.i64.wrap ((IntKind.i64.wrap (t - 1)).tdiv 3)) - 1) else IntKind.i64.wrap ((IntKind.i64.wrap (t - 1)).tdiv 3)
def dx (c : Cf) (n : Nd) : ID := cE c n.V.B (cy c n.V.V (yu n.Tick))
theorem A0 {n : Nd} (h1 : n.V.B.length ≤ 1000) (h2 : n.V.V.length ≤ 1000) (c : Cf) : rD c n = some (dx c n) := by
 unfold rD dx yu
 cases ((IntKind.i64.wrap (n.Tick - 1)).tmod 3) != 2 with
 | true => rw [ct, ct, kj h1 h2, ob]
 | false => rw [cf, cf, kj h1 h2, ob]
theorem qE {l : List Bk} {v : List Vt} (c : Cf) {m : List (ID × Int)} (hp : places l = some m) : ∀ (n : Nat) (id : ID) (i : Int), ah m id = some i → (l.length : Int) - i ≤ n → (∃ j, ah m (lJ c l v n id) = some j) ∧ bR l (lJ c l v n id) = []
 | 0, id, i, hi, hn => by
  rcases (aQ hp).known _ _ hi with ⟨h, -⟩ | ⟨b, p, h0, h1, -⟩ <;> omega
 | n + 1, id, i, hi, hn => by
  unfold lJ;rcases kw c l v id with ⟨hk, e⟩ | ⟨k, hk, e⟩
  ·have : ¬ (eQ c l v id).n ≥ 0 := by rw [e]; simp
   rw [if_neg this];exact ⟨⟨i, hi⟩, hk⟩
  ·have hpos : (eQ c l v id).n ≥ 0 := by rw [e]; exact yq c l v k
   rw [if_pos hpos, e];obtain ⟨j, hj, h1, h2⟩ := CT hp hi hk;exact qE c hp n k j hj (by omega)
theorem qF {l : List Bk} {v : List Vt} (c : Cf) (hl : aO l) : aF l (cE c l v) ≠ [] ∧ bR l (cE c l v) = [] := by
 unfold aO at hl
 cases hp : places l with
 | none => rw [hp] at hl; cases hl
 | some m =>
  obtain ⟨⟨j, hj⟩, h2⟩ := qE (v := v) c hp (l.length + 1) (0, 0) (-1) (aQ hp).zero (by omega);refine ⟨?_, h2⟩;unfold cE aF;rw [hp];simp only;rw [hj];simp only
  cases (j + 1).toNat with
  | zero => simp [dM]
  | succ n =>
   unfold dM;split
   ·simp
   ·split
    ·simp
    ·split
     ·simp
     ·split <;> simp
open Go.Proofs
def tV (x : Int) (y : Int) : Option (Int × Int) :=
 some (IntKind.u64.wrap ((IntKind.u64.wrap ((IntKind.u64.wrap ((x.fdiv (2 ^ (min (Int.toNat 32) IntKind.u64.bits))) * (y.fdiv (2 ^ (min (Int.toNat 32) IntKind.u64.bits))))) + ((IntKind.u64.wrap ((IntKind.u64.wrap ((x.fdiv (2 ^ (min (Int.toNat 32) IntKind.u64.bits))) * (bits .and .u64 y 4294967295))) + ((IntKind.u64.wrap ((bits .and .u64 x 4294967295) * (bits .and .u64 y 4294967295))).fdiv (2 ^ (min (Int.toNat 32) IntKind.u64.bits))))).fdiv (2 ^ (min (Int.toNat 32) IntKind.u64.bits))))) + ((IntKind.u64.wrap ((bits .and .u64 (IntKind.u64.wrap ((IntKind.u64.wrap ((x.fdiv (2 ^ (min (Int.toNat 32) IntKind.u64.bits))) * (bits .and .u64 y 4294967295))) + ((IntKind.u64.wrap ((bits .and .u64 x 4294967295) * (bits .and .u64 y 4294967295))).fdiv (2 ^ (min (Int.toNat 32) IntKind.u64.bits))))) 4294967295) + (IntKind.u64.wrap ((bits .and .u64 x 4294967295) * (y.fdiv (2 ^ (min (Int.toNat 32) IntKind.u64.bits))))))).fdiv (2 ^ (min (Int.toNat 32) IntKind.u64.bits)))), IntKind.u64.wrap (x * y))
theorem HY {x : Int} {y : Int} {r_ : Int × Int} (hr : tV x y = some r_) : av Tryz.prog 158 [.int .u64 x, .int .u64 y] [.int .u64 r_.1, .int .u64 r_.2] := by
 refine zh Tryz.func158 Z Z Z Z ?_;unfold tV at hr;refine zQ<|zR<|zM Z<|zM Z<|zN<|zT<|zQ<|zR<|zM Z<|yS Z (aw Z Z Z Z)<|zM Z<|zN<|zT<|zQ<|zR<|zM Z<|yS Z (ab.shr Z Z Z (by decide))<|zM Z<|zN<|zT<|zQ<|zR<|zM Z<|yS Z (aw Z Z Z Z) ?_;refine zM Z<|zN<|zT<|zQ<|zR<|zM Z<|yS Z (ab.shr Z Z Z (by decide))<|zM Z<|zN<|zT<|zQ<|zR<|zM Z<|zM Z<|yS Z (aw Z Z Z Z)<|zM Z<|zN<|zT<|zQ<|zR<|zM Z<|zM Z<|yS Z (aw Z Z Z Z)<|zM Z ?_;refine yS Z (ab.shr Z Z Z (by decide))<|yS Z (aw Z Z Z Z)<|zM Z<|zN<|zT<|zQ<|zR<|zM Z<|yS Z (aw Z Z Z Z)<|zM Z<|zN<|zT<|zQ<|zR<|zM Z<|yS Z (ab.shr Z Z Z (by decide))<|zM Z<|zN<|zT<|zQ<|zR<|zM Z<|zM Z<|zM Z ?_;refine yS Z (aw Z Z Z Z)<|yS Z (aw Z Z Z Z)<|zM Z<|zN<|zT<|zQ<|zR<|zM Z<|zM Z<|yS Z (aw Z Z Z Z)<|zM Z<|yS Z (aw Z Z Z Z)<|zM Z<|yS Z (ab.shr Z Z Z (by decide))<|yS Z (aw Z Z Z Z)<|zM Z<|zN<|zT<|zQ<|zR<|zM Z<|zM Z<|yS Z (aw Z Z Z Z)<|zM Z ?_;refine zN<|zT<|zr ?_;obtain rfl := zJ hr;exact zf (.two (.tmp Z) (.tmp Z))<|⟨_, rfl, (.cons zv (.cons zv .nil))⟩
def tS (a : Int) (b : Int) : Option ID :=
 (tV (IntKind.u64.wrap (a)) (IntKind.u64.wrap (b))).bind fun v1 =>
 some v1
theorem Fi {a : Int} {b : Int} {r_ : ID} (hr : tS a b = some r_) : av Tryz.prog 116 [.int .i64 a, .int .i64 b] [bH r_] := by
 refine zh Tryz.func116 Z Z Z Z ?_;unfold tS at hr;refine zQ<|zR<|yS Z (ze Z xn Z Z)<|zN<|zT<|zQ<|zR<|zM Z<|yS Z (ab.convert (k' := .u64) Z Z (by kernel_rfl))<|zM Z<|yS Z (ab.convert (k' := .u64) Z Z (by kernel_rfl))<|zb hr fun v1 h_v1 hr => yS Z (zC Z Z Z (by kernel_rfl) (zp (HY h_v1) (.cons zv (.cons zv .nil))))<|zM Z<|yS Z (fA Z Z Z)<|yS Z (fA Z Z Z)<|zM Z<|zM Z<|zN<|zT<|zQ<|zR<|zM Z<|zM Z ?_;refine yS Z (ab.build Z Gl Z Z Z)<|yS Z (zs Z Z Z Z rh Z Z Z Z)<|zN<|zT<|zr ?_;obtain rfl := zJ hr;exact zf (.one (.cellAgg Z Z (by kernel_rfl) Z)) zv
def tU (n : Int) : Option Bool :=
 bif decide (n ≥ 0) then
  some (decide (n ≤ 4611686018427387904))
 else
  some false
theorem HX {n : Int} {r_ : Bool} (hr : tU n = some r_) : av Tryz.prog 157 [.int .i64 n] [.bool r_] := by
 refine zh Tryz.func157 Z Z Z Z ?_;unfold tU at hr;refine zQ<|zR<|zM Z<|zN<|zT<|zQ<|zR<|zM Z<|yS Z (aw Z Z Z Z)<|zM Z ?_;refine zc 5 Z (fun g1 => ?_)<|fun g1 => ?_
 ·
  refine zi g1 hr fun hr => yV Z (gd g1 Z) (zm Z Z)<|yV Z (gd g1 Z) (aw Z Z Z Z)<|yS Z (eP Z (bL g1 Z) Z)<|zM Z<|zN<|zT<|zr ?_;obtain rfl := zJ hr;exact zf (.one (.tmp Z)) zv
 ·
  refine zo g1 hr fun hr => yU Z (gd g1 Z) Z<|yU Z (gd g1 Z) Z<|yS Z (db Z (bL g1 Z) Z)<|zM Z<|zN<|zT<|zr ?_;obtain rfl := zJ hr;exact zf (.one (.tmp Z)) zv
def xt (n : Int) : Option Bool :=
 (tU n).bind fun v1 =>
 some (!v1)
theorem HW {n : Int} {r_ : Bool} (hr : xt n = some r_) : av Tryz.prog 156 [.int .i64 n] [.bool r_] := by
 refine zh Tryz.func156 Z Z Z Z ?_;unfold xt at hr;refine zQ<|zR<|zM Z<|zN<|zT<|zQ<|zR<|zM Z<|zb hr fun v1 h_v1 hr => yS Z (zC Z Z Z (by kernel_rfl) (zp (HX h_v1) (.cons zv .nil)))<|yS Z (ab.not Z Z)<|zM Z<|zN<|zT<|zr ?_;obtain rfl := zJ hr;exact zf (.one (.tmp Z)) zv
structure fD where
 t8 : Int
def lh (s : List Int) (x1 : fD) : Option (fD ⊕ (fD ⊕ Int)) :=
 bif decide (x1.t8 < (s.length : Int)) then
  (ix s x1.t8).bind fun y1 =>
  (xt y1).bind fun v2 =>
  bif v2 then
   some (.inr (.inr x1.t8))
  else
   some (.inl (fD.mk (IntKind.i64.wrap (x1.t8 + 1))))
 else
  some (.inr (.inl (fD.mk x1.t8)))
def Ef (s : List Int) : Option Int :=
 (iter (lh s) bG (fD.mk 0)).bind fun b_v1 => Sum.elim (fun _ =>
  some (-1)) some b_v1
theorem IV {s : List Int} {r_ : Int} (hr : Ef s = some r_) : LC Tryz.prog 173 [(kI s), .fn 156 [] []] [] (Is (iQ r_) []) := by
 refine dc Tryz.func173 Z Z Z ?_;unfold Ef at hr;refine zQ<|zR<|zM Z<|zN<|zT<|zQ<|zQ<|zR<|zM Z<|yS Z (dT Z Z (by kernel_rfl))<|zM Z<|zN<|zT ?_;obtain ⟨b_v1, hb_v1, ho_v1⟩ := zB hr;clear hr;refine LW.tailB (b := b_v1) (E := fun v1 => [(4, (iQ 0))]) (O := fun v1 => []) ?_<|fun v1 e_v1 env_v1 H_v1 hw_v1 => ?_
 ·refine LW.block ?_;refine LW.iterB (E := fun x1 : fD => [(0, (kI s)), (1, .fn 156 [] []), (4, (iQ 0)), (7, .p (.int .i64 (s.length : Int))), (8, (iQ x1.t8))]) (O := fun x1 => []) hb_v1 (zW 0 ⟨rfl, rfl, rfl, rfl, rfl, trivial⟩ Z Z Z Z)<|fun x1 z_x1 hr hb_x1 => ?_;unfold lh at hr;refine zQ<|zR<|yS Z (aw Z Z Z Z)<|zN<|zT<|zQ ?_;refine zX Z (fun g1 => ?_)<|fun g1 => ?_
  ·
   refine zi g1 hr fun hr => zk<|zT<|zQ<|zl<|zQ<|zR<|zM Z<|zM Z<|zN<|zT<|zQ<|zR<|zM Z<|zM Z<|zM Z<|zb hr fun y1 h_y1 hr => yS Z (zx Z Z Z fY h_y1 Z)<|yS Z (dS Z Z Z bC Z Z)<|zb hr fun v2 h_v2 hr => yS Z (zC Z Z Z (by kernel_rfl) (zp (HW h_v2) (.cons zv .nil)))<|zN<|zT ?_;refine zX Z (fun g2 => ?_)<|fun g2 => ?_
   ·
    refine zi g2 hr fun hr => zQ<|zR<|zM Z<|zM Z<|zN<|zT<|zr<|ay<|aj<|aj<|ay<|aj<|aj ?_;obtain rfl := zJ hr;have hr := congrArg some (hb_x1 _ rfl);obtain rfl := zJ hr;have hr := d8 ho_v1;obtain rfl := zJ hr;exact ap (.one (.tmp Z))<|⟨rfl, rfl⟩
   ·
    refine zo g2 hr fun hr => zk<|ai<|zT<|zR<|yS Z (aw Z Z Z Z)<|zM Z<|zN<|zT ?_;obtain rfl := zJ hr;exact ⟨_, rfl, zW 0 ⟨rfl, rfl, rfl, rfl, rfl, trivial⟩ Z Z Z rfl⟩
  ·
   refine zo g1 hr fun hr => zq<|ao<|ao<|zy<|zT ?_;obtain rfl := zJ hr;have hr := congrArg some (hb_x1 _ rfl);obtain rfl := zJ hr;exact ⟨_, rfl, zW 0 ⟨rfl, trivial⟩ Z Z Z rfl⟩
 ·obtain rfl := e_v1;have hr := gb ho_v1;clear hb_v1;refine zT<|LW.weak hw_v1<|zQ<|zR<|zM Z<|zN<|zT<|zr ?_;obtain rfl := zJ hr;exact ap (.one (.tmp Z))<|⟨rfl, rfl⟩
def Ka (s : List Int) : Option Bool :=
 (Ef s).bind fun v1 =>
 some (decide (v1 ≥ 0))
theorem KU {s : List Int} {r_ : Bool} (hr : Ka s = some r_) : LC Tryz.prog 155 [(kI s), .fn 156 [] []] [] (Is (bQ r_) []) := by
 refine dc Tryz.func155 Z Z Z ?_;unfold Ka at hr;refine zQ<|zR<|zM Z<|zN<|zT<|zQ<|zR<|zM Z<|zM Z<|zb hr fun v1 h_v1 hr => yS Z (zC Z Z Z (by kernel_rfl) (IV h_v1))<|yS Z (aw Z Z Z Z)<|zM Z<|zN<|zT<|zr ?_;obtain rfl := zJ hr;exact ap (.one (.tmp Z))<|⟨rfl, rfl⟩
def tR (l : List Int) : Option Bool :=
 (Ka l).bind fun v1 =>
 some (!v1)
theorem HU {l : List Int} {r_ : Bool} (hr : tR l = some r_) : av Tryz.prog 115 [.slice 1 (l.map aE)] [.bool r_] := by
 refine zh Tryz.func115 Z Z Z Z ?_;unfold tR at hr;refine zQ<|zR<|zM Z<|zN<|zT<|zQ<|zR<|zM Z<|zb hr fun v1 h_v1 hr => yS Z (zC Z Z Z (by kernel_rfl) (KU h_v1))<|yS Z (ab.not Z Z)<|zM Z<|zN<|zT<|zr ?_;obtain rfl := zJ hr;exact zf (.one (.tmp Z)) zv
def tQ (a : Int) (b : Int) (c : Int) (d : Int) : Option Bool :=
 (tR [a, b, c, d]).bind fun v1 =>
 bif !v1 then
  some false
 else
  (tS a b).bind fun v2 =>
  (tS c d).bind fun v3 =>
  bif !((v2.1 == v3.1) && ((v2.2 == v3.2) && true)) then
   (yJ [v2.1, v2.2] [v3.1, v3.2]).bind fun v4 =>
   some (decide (v4 > 0))
  else
   some false
theorem HT {a : Int} {b : Int} {c : Int} {d : Int} {r_ : Bool} (hr : tQ a b c d = some r_) : av Tryz.prog 62 [.int .i64 a, .int .i64 b, .int .i64 c, .int .i64 d] [.bool r_] := by
 refine zh Tryz.func62 Z Z Z Z ?_;unfold tQ at hr;refine zQ<|zR<|zM Z<|zN<|zT<|zQ<|zQ<|zR<|zM Z<|zM Z<|zM Z<|zM Z<|yS Z (mD Z fY Z Z Z Z Z)<|zb hr fun v1 h_v1 hr => yS Z (zC Z Z Z (by kernel_rfl) (zp (HU h_v1) (.cons zv .nil)))<|yS Z (ab.not Z Z)<|zN<|zT ?_;refine zX Z (fun g1 => ?_)<|fun g1 => ?_
 ·
  refine zi g1 hr fun hr => zQ<|zR<|zM Z<|zN<|zT<|zr<|aj ?_;obtain rfl := zJ hr;exact zf (.one (.tmp Z)) zv
 ·
  refine zo g1 hr fun hr => zk<|zT<|zQ<|zR<|zM Z<|zM Z<|zb hr fun v2 h_v2 hr => yS Z (zC Z Z Z (by kernel_rfl) (zp (Fi h_v2) (.cons zv (.cons zv .nil))))<|zM Z<|zM Z<|zb hr fun v3 h_v3 hr => yS Z (zC Z Z Z (by kernel_rfl) (zp (Fi h_v3) (.cons zv (.cons zv .nil))))<|yS Z (ze Z xn Z Z)<|yS Z (ze Z xn Z Z)<|yS Z (zs Z Z Z Z rh Z Z Z Z)<|yS Z (zs Z Z Z Z rh Z Z Z Z)<|zN<|zT<|zQ<|LW.draw2 (by kernel_rfl) (by kernel_rfl)<|yE Z (zD Z Z Z rh Z Z)<|yE Z (zD Z Z Z rh Z Z)<|yE Z (ab.neqAgg Z Z Z Z Z EH) ?_;refine zH Z ?_;refine LO.cases 27 Z (fun (g2 : (!((v2.1 == v3.1) && ((v2.2 == v3.2) && true))) = true) => ?_) (fun (g2 : (!((v2.1 == v3.1) && ((v2.2 == v3.2) && true))) = false) => ?_)
  ·
   refine zi g2 hr fun hr => LO.gd Z Z Z (gd g2 Z) Z (ab.sliceBox Z Z B5 Z Z Z)<|LO.gd Z Z Z (gd g2 Z) Z (ab.sliceBox Z Z B5 Z Z Z)<|zb hr fun v4 h_v4 hr => LO.gd Z Z Z (gd g2 Z) Z (zC Z Z Z (by kernel_rfl) (LC.lend (Ic h_v4) (.cons (Conv.boxSlice Z Z Z Z) (.cons (Conv.boxSlice Z Z Z Z) .nil)) Z))<|LO.gd Z Z Z (gd g2 Z) Z (aw Z Z Z Z)<|yE Z (eP Z (bL g2 Z) Z)<|zH Z<|LO.nil<|zT<|zr ?_;obtain rfl := zJ hr;exact zf (.one (.tmp Z)) zv
  ·
   refine zo g2 hr fun hr => LO.sk Z Z Z (gd g2 Z) Z Z<|LO.sk Z Z Z (gd g2 Z) Z Z<|LO.sk Z Z Z (gd g2 Z) Z Z<|LO.sk Z Z Z (gd g2 Z) Z Z<|yE Z (db Z (bL g2 Z) Z)<|zH Z<|LO.nil<|zT<|zr ?_;obtain rfl := zJ hr;exact zf (.one (.tmp Z)) zv
open Go.Proofs
def sV (who : Int) (bad : List Int) : Option Bool :=
 (sO bad who).bind fun v1 =>
 some v1
theorem Cp {who : Int} {c : Cf} {bad : List Int} {r_ : Bool} (hr : sV who bad = some r_) : LC Tryz.prog 108 [(iQ who), .ptr 1 0] [.box (bB c), .box [(kI bad)]] (Is (bQ r_) [.box (bB c), .box [(kI bad)]]) := by
 refine dc Tryz.func108 Z Z Z ?_;unfold sV at hr;refine zQ<|zR<|zM Z<|zN<|zT<|zQ<|zR<|yS Z (zD Z Z Z fh Z Z)<|zM Z<|zb hr fun v1 h_v1 hr => yS Z (zC Z Z Z (by kernel_rfl) (zp (Ce h_v1) (.cons zv (.cons zv .nil))))<|zM Z<|zN<|zT<|zr ?_;obtain rfl := zJ hr;exact ap (.one (.tmp Z))<|⟨rfl, rfl⟩
structure dL where
 t10 : Int
 o4 : List Int
 o5 : List Int
def pW (l : List Int) (bad : List Int) (x1 : dL) : Option (dL ⊕ dL) :=
 bif decide (x1.t10 < (l.length : Int)) then
  (ix l x1.t10).bind fun y1 =>
  (sV y1 bad).bind fun v2 =>
  bif v2 then
   bif room x1.o5.length [y1].length 8 then
    some (.inl (dL.mk (IntKind.i64.wrap (x1.t10 + 1)) x1.o4 (x1.o5 ++ [y1])))
   else none
  else
   bif room x1.o4.length [y1].length 8 then
    some (.inl (dL.mk (IntKind.i64.wrap (x1.t10 + 1)) (x1.o4 ++ [y1]) x1.o5))
   else none
 else
  some (.inr (dL.mk x1.t10 x1.o4 x1.o5))
def sT (l : List Int) (bad : List Int) : Option (List Int × List Int) :=
 (iter (pW l bad) bG (dL.mk 0 ([] : List Int) ([] : List Int))).bind fun v1 =>
 some (v1.o4, v1.o5)
theorem Cm {l : List Int} {c : Cf} {bad : List Int} {r_ : List Int × List Int} (hr : sT l bad = some r_) : LC Tryz.prog 107 [(kI l), .fn 108 [] [.ptr 1 0]] [.box (bB c), .box [(kI bad)]] (Is (.agg [(jI 4 r_.1), (jI 5 r_.2)]) [.box (bB c), .box [(kI bad)], .box [(jI 4 r_.1), (jI 5 r_.2)], .box [(jI 4 r_.1), (jI 5 r_.2)], .vec 1 (r_.1.map aE), .vec 1 (r_.2.map aE)]) := by
 refine dc Tryz.func107 Z Z Z ?_;unfold sT at hr;refine zQ<|zR<|yS Z (ze Z xm Z Z)<|zN<|zT<|zQ<|zR<|yS Z (ze Z xm Z Z)<|zN<|zT<|zQ<|zQ<|LW.ent (bM.lazyCell (i := 3) (j := 0) (m := 1) Z Z Z Z Z Z)<|LW.ent (bM.lazyCell (i := 3) (j := 1) (m := 1) Z Z Z Z Z Z)<|zR<|zM Z<|yS Z (dT Z Z (by kernel_rfl))<|zM Z<|zN<|zT ?_;obtain ⟨v1, hb_v1, ho_v1⟩ := zB hr;clear hr;refine LW.tail (E := [(4, .ptr 2 0), (5, .ptr 3 0)]) (O := [.box (bB c), .box [(kI bad)], .box [.zs, .zs], .box [(jI 4 v1.o4), (jI 5 v1.o5)], .vec 1 (v1.o4.map aE), .vec 1 (v1.o5.map aE)]) ?_<|fun env_v1 H_v1 hw_v1 => ?_
 ·refine LW.block ?_;refine LW.iterB (E := fun x1 : dL => [(1, .fn 108 [] [.ptr 1 0]), (4, .ptr 2 0), (5, .ptr 3 0), (8, (kI l)), (9, .p (.int .i64 (l.length : Int))), (10, (iQ x1.t10))]) (O := fun x1 => [.box (bB c), .box [(kI bad)], .box [.zs, .zs], .box [(jI 4 x1.o4), (jI 5 x1.o5)], .vec 1 (x1.o4.map aE), .vec 1 (x1.o5.map aE)]) hb_v1 (zW 6 ⟨rfl, rfl, rfl, rfl, rfl, rfl, trivial⟩ Z Z Z Z)<|fun x1 z_x1 hr hb_x1 => ?_;unfold pW at hr;refine zQ<|zR<|yS Z (aw Z Z Z Z)<|zN<|zT<|zQ ?_;refine zX Z (fun g1 => ?_)<|fun g1 => ?_
  ·
   refine zi g1 hr fun hr => zk<|zT<|zQ<|zl<|zQ<|zR<|zb hr fun y1 h_y1 hr => yS Z (zx Z Z Z fY h_y1 Z)<|yS Z (dS Z Z Z bC Z Z)<|zM Z<|zN<|zT<|zQ<|zR<|zM Z<|zM Z<|zb hr fun v2 h_v2 hr => yS Z (zC Z Z Z (by kernel_rfl) (LC.pre (Cp h_v2) Z Z Z))<|zN<|zT ?_;refine zX Z (fun g2 => ?_)<|fun g2 => ?_
   ·
    refine zi g2 hr fun hr => zR<|yS Z (zA Z Z qq)<|yS Z (zD Z Z Z fh Z Z)<|zM Z<|yS Z (mD Z fY Z Z Z Z Z)<|zg hr fun q1 hr => yS Z (ab.appendX aE x1.o5 [y1] rfl Z Z Z kg.p Z fY q1 Z)<|yS Z (zA Z Z qq)<|yS Z (zs Z Z Z Z fh Z Z Z Z)<|zN<|ai<|zT<|zR<|yS Z (aw Z Z Z Z)<|zM Z<|zN<|zT ?_;obtain rfl := zJ hr;exact ⟨_, rfl, zW 6 ⟨rfl, rfl, rfl, rfl, rfl, rfl, trivial⟩ Z Z Z rfl⟩
   ·
    refine zo g2 hr fun hr => zR<|yS Z (zA Z Z qp)<|yS Z (zD Z Z Z fh Z Z)<|zM Z<|yS Z (mD Z fY Z Z Z Z Z)<|zg hr fun q2 hr => yS Z (ab.appendX aE x1.o4 [y1] rfl Z Z Z kg.p Z fY q2 Z)<|yS Z (zA Z Z qp)<|yS Z (zs Z Z Z Z fh Z Z Z Z)<|zN<|ai<|zT<|zR<|yS Z (aw Z Z Z Z)<|zM Z<|zN<|zT ?_;obtain rfl := zJ hr;exact ⟨_, rfl, zW 6 ⟨rfl, rfl, rfl, rfl, rfl, rfl, trivial⟩ Z Z Z rfl⟩
  ·
   refine zo g1 hr fun hr => zq<|ao<|ao<|zy<|zT ?_;obtain rfl := zJ hr;have hr := congrArg some (hb_x1 _ rfl);obtain rfl := zJ hr;exact zW 6 ⟨Z, Z, trivial⟩ Z Z Z Z
 ·have hr := ho_v1;clear hb_v1;refine zT<|LW.weak hw_v1<|zQ<|zR<|yS Z (zD Z Z Z xh Z Z)<|yS Z (zs Z Z Z Z xh Z Z Z Z)<|zN<|zT<|zr ?_;obtain rfl := zJ hr;exact ap (.one (.cellAgg Z Z (by kernel_rfl) Z))<|⟨rfl, rfl⟩
def AT (c : Cf) (bad : List Int) (slot : Int) : Option (Int × Int) :=
 (E9 c slot).bind fun v1 =>
 (sT v1 bad).bind fun v2 =>
 (Fa c v2.1).bind fun v3 =>
 (Fa c v2.2).bind fun v4 =>
 some (v3, v4)
theorem HP {c : Cf} {bad : List Int} {slot : Int} {r_ : Int × Int} (hr : AT c bad slot = some r_) : av Tryz.prog 58 [jx c, .slice 1 (bad.map aE), .int .i64 slot] [.int .i64 r_.1, .int .i64 r_.2] := by
 refine zh Tryz.func58 Z Z Z Z ?_;unfold AT at hr;refine zQ<|zR<|yS Z (bV Z Z Z Z Z)<|yS Z (bV Z Z Z Z Z)<|zM Z<|zM Z<|zN<|zT<|zQ<|zR<|yS Z (zD Z Z Z bE Z Z)<|zM Z<|zb hr fun v1 h_v1 hr => yS Z (zC Z Z Z (by kernel_rfl) (zp (Kg h_v1) (.cons zv (.cons zv .nil))))<|yS Z (ab.makeFunc Z Z Z)<|zb hr fun v2 h_v2 hr => yS Z (zC Z Z Z (by kernel_rfl) (Cm h_v2))<|yS Z (ze Z xm Z Z)<|yS Z (zs Z Z Z Z xh Z Z Z Z)<|zN<|zT<|zQ<|LW.draw2 (by kernel_rfl) (by kernel_rfl)<|yE Z (zD Z Z Z bE Z Z) ?_;refine yE Z (zA Z Z qp)<|yE Z (zD Z Z Z fh Z Z)<|zb hr fun v3 h_v3 hr => yE Z (zC Z Z Z (by kernel_rfl) (LC.lend (Kh h_v3) (.cons zv (.cons (Conv.vecAll Z Z Z) .nil)) Z))<|yE Z (zD Z Z Z bE Z Z)<|yE Z (zA Z Z qq)<|yE Z (zD Z Z Z fh Z Z)<|zb hr fun v4 h_v4 hr => yE Z (zC Z Z Z (by kernel_rfl) (LC.lend (Kh h_v4) (.cons zv (.cons (Conv.vecAll Z Z Z) .nil)) Z))<|zH Z<|zH Z<|LO.nil<|zT<|zr ?_;obtain rfl := zJ hr;exact zf (.two (.tmp Z) (.tmp Z))<|⟨_, rfl, (.cons zv (.cons zv .nil))⟩
structure fJ where
 s : Int
 strong : Bool
 t27 : Int
def tO (c : Cf) (bad : List Int) (v_from : Int) (upto : Int) (x1 : fJ) : Option (fJ ⊕ fJ) :=
 bif decide (x1.t27 < (IntKind.u64.wrap ((IntKind.u64.wrap ((IntKind.u64.wrap (upto)) - (IntKind.u64.wrap (v_from)))) + 1))) then
  (AT c bad x1.s).bind fun v2 =>
  bif decide (v2.1 ≤ v2.2) then
   some (.inr (fJ.mk x1.s false x1.t27))
  else
   some (.inl (fJ.mk (IntKind.i64.wrap (x1.s + 1)) x1.strong (IntKind.u64.wrap (x1.t27 + 1))))
 else
  some (.inr (fJ.mk x1.s x1.strong x1.t27))
def AV (c : Cf) (bad : List Int) (v_from : Int) (upto : Int) : Option Bool :=
 bif decide (v_from > upto) then
  some true
 else
  bif decide ((IntKind.u64.wrap ((IntKind.u64.wrap (upto)) - (IntKind.u64.wrap (v_from)))) ≥ 1000) then
   some false
  else
   (iter (tO c bad v_from upto) bG (fJ.mk v_from true 0)).bind fun v1 =>
   some v1.strong
theorem HQ {c : Cf} {bad : List Int} {v_from : Int} {upto : Int} {r_ : Bool} (hr : AV c bad v_from upto = some r_) : av Tryz.prog 23 [jx c, .slice 1 (bad.map aE), .int .i64 v_from, .int .i64 upto] [.bool r_] := by
 refine zh Tryz.func23 Z Z Z Z ?_;unfold AV at hr;refine zQ<|zR<|yS Z (bV Z Z Z Z Z)<|zM Z<|zN<|zT<|LW.scope<|zQ<|zQ<|zR<|zM Z<|zM Z<|yS Z (aw Z Z Z Z)<|zN<|zT ?_;refine zX Z (fun g1 => ?_)<|fun g1 => ?_
 ·
  refine zi g1 hr fun hr => zQ<|zR<|zM Z<|zN<|zT<|zr<|aj<|qM ?_;obtain rfl := zJ hr;exact zf (.one (.tmp Z)) zv
 ·
  refine zo g1 hr fun hr => zk<|zT<|zQ<|zR<|zM Z<|yS Z (ab.convert (k' := .u64) Z Z (by kernel_rfl))<|zM Z<|yS Z (ab.convert (k' := .u64) Z Z (by kernel_rfl))<|yS Z (aw Z Z Z Z)<|zM Z<|zM Z<|zM Z<|zM Z<|zN<|zT<|zQ<|zQ<|zR<|zM Z<|yS Z (aw Z Z Z Z)<|zN<|zT ?_;refine zX Z (fun g2 => ?_)<|fun g2 => ?_
  ·
   refine zi g2 hr fun hr => zQ<|zR<|zM Z<|zN<|zT<|zr<|aj<|qM ?_;obtain rfl := zJ hr;exact zf (.one (.tmp Z)) zv
  ·
   refine zo g2 hr fun hr => zk<|zT<|zQ<|LW.label<|zT<|zQ<|zQ<|zR<|zM Z<|yS Z (aw Z Z Z Z)<|zM Z<|zN<|zT ?_;obtain ⟨v1, hb_v1, ho_v1⟩ := zB hr;clear hr;refine LW.tail (E := [(8, (bQ false)), (11, (bQ v1.strong))]) (O := [.box (bB c)]) ?_<|fun env_v1 H_v1 hw_v1 => ?_
   ·refine LW.block ?_;refine LW.iterB (E := fun x1 : fJ => [(1, (kI bad)), (4, .ptr 0 0), (8, (bQ false)), (10, (iQ x1.s)), (11, (bQ x1.strong)), (26, .p (.int .u64 (IntKind.u64.wrap ((IntKind.u64.wrap ((IntKind.u64.wrap (upto)) - (IntKind.u64.wrap (v_from)))) + 1)))), (27, (uQ x1.t27))]) (O := fun x1 => [.box (bB c)]) hb_v1 (zW 1 ⟨rfl, rfl, rfl, rfl, rfl, rfl, rfl, trivial⟩ Z Z Z Z)<|fun x1 z_x1 hr hb_x1 => ?_;unfold tO at hr;refine zQ<|zR<|yS Z (aw Z Z Z Z)<|zN<|zT<|zQ ?_;refine zX Z (fun g3 => ?_)<|fun g3 => ?_
    ·
     refine zi g3 hr fun hr => zk<|zT<|zQ<|zl<|zQ<|zQ<|zR<|yS Z (zD Z Z Z bE Z Z)<|zM Z<|zM Z<|zb hr fun v2 h_v2 hr => yS Z (zC Z Z Z (by kernel_rfl) (zp (HP h_v2) (.cons zv (.cons zv (.cons zv .nil)))))<|zM Z<|yS Z (fA Z Z Z)<|yS Z (fA Z Z Z)<|zM Z<|zM Z<|zN<|zT<|zQ<|zR<|zM Z<|zM Z ?_;refine yS Z (aw Z Z Z Z)<|zN<|zT ?_;refine zX Z (fun g4 => ?_)<|fun g4 => ?_
     ·
      refine zi g4 hr fun hr => zQ<|zR<|zM Z<|zN<|zT<|zq<|ao<|kD (by decide)<|ao<|ao<|zy<|zT ?_;obtain rfl := zJ hr;have hr := congrArg some (hb_x1 _ rfl);obtain rfl := zJ hr;exact zW 1 ⟨Z, Z, trivial⟩ Z Z Z Z
     ·
      refine zo g4 hr fun hr => zk<|zT<|zR<|zM Z<|yS Z (aw Z Z Z Z)<|zM Z<|zN<|ai<|zT<|zR<|yS Z (aw Z Z Z Z)<|zM Z<|zN<|zT ?_;obtain rfl := zJ hr;exact ⟨_, rfl, zW 1 ⟨rfl, rfl, rfl, rfl, rfl, rfl, rfl, trivial⟩ Z Z Z rfl⟩
    ·
     refine zo g3 hr fun hr => zq<|ao<|ao<|zy<|zT ?_;obtain rfl := zJ hr;have hr := congrArg some (hb_x1 _ rfl);obtain rfl := zJ hr;exact zW 1 ⟨Z, Z, trivial⟩ Z Z Z Z
   ·have hr := ho_v1;clear hb_v1;refine zT<|LW.weak hw_v1<|zQ<|zR<|zM Z<|zM Z<|zN<|zT<|zr<|qM ?_;obtain rfl := zJ hr;exact zf (.one (.tmp Z)) zv
theorem A2 (n : Int) : tU n = some (decide (0 ≤ n ∧ n ≤ 4611686018427387904)) := by
 unfold tU;by_cases h : 0 ≤ n
 ·rw [decide_eq_true (show n ≥ 0 from h), ct]; congr 1; exact decide_eq_decide.2 ⟨fun h2 => ⟨h, h2⟩, fun h2 => h2.2⟩
 ·rw [decide_eq_false (show ¬ n ≥ 0 from h), cf, decide_eq_false fun h2 => h h2.1]
theorem Eg {l : List Int} (hl : l.length ≤ 1000) (h : ∀ x ∈ l, 0 ≤ x ∧ x ≤ 4611686018427387904) : tR l = some true := by
 have e := aB (step := lh l) (n := l.length) (fun k => fD.mk (k : Int)) (.inl (fD.mk (l.length : Int))) (fun k hk => by
  obtain ⟨y, hy, hm⟩ := aD hk;unfold lh xt;simp only
  rw [decide_eq_true (show (k : Int) < (l.length : Int) by omega), ct, aG hy, ob, A2, ob, ob, decide_eq_true (h y hm), Bool.not_true, cf, ak (n := k) (by omega)]) (by
  unfold lh;simp only
  rw [decide_eq_false (show ¬ (l.length : Int) < (l.length : Int) by omega), cf]) (by omega)
 have e' : iter (lh l) bG (fD.mk 0) = _ := e;unfold tR Ka Ef;rw [e', ob, sl, ob, ob];rfl
theorem nO {x : Int} (h0 : 0 ≤ x) (h1 : x ≤ 18446744073709551615) : bits .and .u64 x 4294967295 = x % 4294967296 := by
 obtain ⟨n, rfl⟩ : ∃ n : Nat, x = n := ⟨x.toNat, by omega⟩;have e : bits .and .u64 (n : Int) 4294967295 = IntKind.u64.wrap ((BitVec.ofInt 64 (n : Int) &&& BitVec.ofInt 64 4294967295).toNat : Int) := rfl
 have e2 : (BitVec.ofInt 64 4294967295).toNat = 2 ^ 32 - 1 := by decide
 have e3 : (BitVec.ofInt 64 (n : Int)).toNat = n := by
  rw [BitVec.toNat_ofInt]; omega
 rw [e, BitVec.toNat_and, e2, e3, Nat.and_two_pow_sub_one_eq_mod, rj (by omega) (by omega)];omega
theorem oE {x y : Int} (hx : 0 ≤ x) (hx1 : x ≤ 26388279066624) (hy : 0 ≤ y) (hy1 : y ≤ 3000) : tV x y = some (0, x * y) := by
 have e : ∀ z, IntKind.u64.wrap z = z % 18446744073709551616 := fun z => rfl
 have hp : ((2 : Int) ^ (min (Int.toNat 32) IntKind.u64.bits)) = 4294967296 := by decide
 have hd : ∀ z : Int, z.fdiv 4294967296 = z / 4294967296 := fun z => Int.fdiv_eq_ediv_of_nonneg z (by omega)
 have h0 : y / 4294967296 = 0 := by omega
 have h1 : y % 4294967296 = y := by omega
 unfold tV;rw [hp, hd, hd, hd, hd, hd, nO (x := y) hy (by omega), nO (x := x) hx (by omega), h0, h1];have a1 : 0 ≤ x / 4294967296 * y := Int.mul_nonneg (by omega) hy;have a2 : x / 4294967296 * y ≤ 6144 * 3000 := Int.mul_le_mul (by omega) hy1 hy (by omega);have a3 : 0 ≤ x % 4294967296 * y := Int.mul_nonneg (by omega) hy;have a4 : x % 4294967296 * y ≤ 4294967295 * 3000 := Int.mul_le_mul (by omega) hy1 hy (by omega);have a5 : 0 ≤ x * y := Int.mul_nonneg hx hy;have a6 : x * y ≤ 26388279066624 * 3000 := Int.mul_le_mul hx1 hy1 hy (by omega);rw [Int.mul_zero, Int.mul_zero];generalize x / 4294967296 * y = q at a1 a2 ⊢;generalize x % 4294967296 * y = p at a3 a4 ⊢;generalize x * y = r at a5 a6 ⊢
 have ht : IntKind.u64.wrap (IntKind.u64.wrap q + IntKind.u64.wrap p / 4294967296) = q + p / 4294967296 := by simp only [e]; omega
 rw [ht, nO (by omega) (by omega)];refine congrArg some<|Prod.ext ?_ ?_
 ·simp only [e]; omega
 ·simp only [e]; omega
theorem AZ {a b c d : Int} (ha : 0 ≤ a ∧ a ≤ 26388279066624) (hb : 0 ≤ b ∧ b ≤ 3000) (hc : 0 ≤ c ∧ c ≤ 26388279066624) (hd : 0 ≤ d ∧ d ≤ 3000) : tQ a b c d = some (decide (a * b > c * d)) := by
 unfold tQ;rw [Eg (by simp) (by simp; omega), ob, Bool.not_true, cf];unfold tS;rw [rj ha.1 (by omega), rj hb.1 (by omega), rj hc.1 (by omega), rj hd.1 (by omega), oE ha.1 ha.2 hb.1 hb.2, ob, ob, oE hc.1 hc.2 hd.1 hd.2, ob, ob];simp only;rw [ub, ob];generalize a * b = x;generalize c * d = y;unfold jz;by_cases h : x = y
 ·subst h; simp
 ·have hb : (x == y) = false := beq_eq_false_iff_ne.2 h;by_cases h2 : x > y
  ·simp [hb, h2, show ¬ x < y by omega]
  ·simp [hb, h2, show x < y by omega]
inductive AR (B : List Bk) (a : ID) : ID → Prop
 | zero : a = (0, 0) → AR B a (0, 0)
 | self {b : Bk} : b ∈ B → nm b = a → AR B a a
 | up {b : Bk} : b ∈ B → AR B a b.Parent → AR B a (nm b)
def Kn (B : List Bk) (x : ID) : Prop := x = (0, 0) ∨ ∃ b ∈ B, nm b = x
theorem nz {B : List Bk} (h : aO B) : ∃ m, places B = some m := Option.isSome_iff_exists.1 h
theorem lY {B : List Bk} (h : aO B) : aF B (0, 0) = [(0, 0)] := by
 obtain ⟨m, hp⟩ := nz h;unfold aF;rw [hp];simp only;rw [(aQ hp).zero];rfl
theorem jy {B : List Bk} (h : aO B) {b : Bk} (hb : b ∈ B) : aF B (nm b) = nm b :: aF B b.Parent := by
 obtain ⟨m, hp⟩ := nz h;obtain ⟨i, hi⟩ := List.getElem?_of_mem hb;have hI := aQ hp;have hn := hI.names i b (List.getElem?_eq_some_iff.1 hi).1 hi;rcases hI.known _ _ hn with ⟨h1, -⟩ | ⟨b', p, h0, h1, h2, h3, h4, h5, h6, h7⟩
 ·omega
 ·rw [Int.toNat_natCast, hi] at h2;cases h2;unfold aF;rw [hp];simp only;rw [hn, h4];exact kx hp (by omega) h0 (by rw [Int.toNat_natCast]; exact hi) h4 h5 h6
theorem uH {B : List Bk} (h : aO B) {x : ID} : aF B x ≠ [] ↔ Kn B x := by
 constructor
 ·intro hne;obtain ⟨m, hp⟩ := nz h
  cases hf : ah m x with
  | none =>
   refine absurd ?_ hne;unfold aF;rw [hp];simp only;rw [hf]
  | some i =>
   rcases (aQ hp).known _ _ hf with ⟨-, h1⟩ | ⟨b, p, h0, h1, h2, h3, -⟩
   ·exact .inl h1
   ·exact .inr ⟨b, List.mem_of_getElem? h2, h3⟩
 ·rintro (rfl | ⟨b, hb, rfl⟩)
  ·rw [lY h]; simp
  ·rw [jy h hb]; simp
theorem yl {B : List Bk} (h : aO B) {x : ID} {s : Int} (hq : aY B x = some s) : Kn B x := by
 rcases (oA h).1 hq with ⟨e, -⟩ | ⟨b, hb, e, -⟩
 ·exact .inl e
 ·exact .inr ⟨b, hb, e⟩
theorem so {B : List Bk} (h : aO B) {b : Bk} (hb : b ∈ B) : Kn B b.Parent := by
 obtain ⟨s, hs, -⟩ := tG h hb;exact yl h hs
theorem yn {α β : Type} {f : α → β} {l : List α} (h : (l.map f).Nodup) {a b : α} (ha : a ∈ l) (hb : b ∈ l) (e : f a = f b) : a = b := by
 obtain ⟨i, hi⟩ := List.getElem?_of_mem ha;obtain ⟨j, hj⟩ := List.getElem?_of_mem hb
 have h1 : (l.map f)[i]? = some (f a) := by rw [List.getElem?_map, hi]; rfl
 have h2 : (l.map f)[j]? = some (f a) := by rw [List.getElem?_map, hj, e]; rfl
 have := (List.getElem?_inj (List.getElem?_eq_some_iff.1 h1).1 h).1 (h1.trans h2.symm);subst this;rw [hi] at hj;exact Option.some.inj hj
theorem An {B : List Bk} (h : aO B) {a b : Bk} (ha : a ∈ B) (hb : b ∈ B) (e : nm a = nm b) : a = b := yn (List.nodup_cons.1 (kS h)).2 ha hb e
theorem ET {B : List Bk} (h : aO B) {b : Bk} (hb : b ∈ B) : nm b ≠ (0, 0) := fun e =>
 (List.nodup_cons.1 (kS h)).1 (List.mem_map.2 ⟨b, hb, e⟩)
theorem xT {B : List Bk} (h : aO B) {a x : ID} : a ∈ aF B x ↔ AR B a x := by
 constructor
 ·have key : ∀ (n : Nat) (x : ID), (aF B x).length ≤ n → a ∈ aF B x → AR B a x := by
   intro n
   induction n with
   | zero =>
    intro x hl ha;rw [List.length_eq_zero_iff.1 (Nat.le_zero.1 hl)] at ha;cases ha
   | succ n ih =>
    intro x hl ha;rcases (uH h).1 (List.ne_nil_of_mem ha) with rfl | ⟨b, hb, rfl⟩
    ·rw [lY h] at ha;exact .zero<|List.mem_singleton.1 ha
    ·rw [jy h hb] at ha hl;rw [List.length_cons] at hl;rcases List.mem_cons.1 ha with rfl | ha
     ·exact .self hb Z
     ·exact .up hb<|ih _ (by omega) ha
  exact key _ x<|Nat.le_refl _
 ·intro ha
  induction ha with
  | zero e => rw [lY h, e]; simp
  | self hb e => subst e; rw [jy h hb]; simp
  | up hb _ ih => rw [jy h hb]; exact .tail _ ih
theorem B3 {B C : List Bk} (hs : ∀ b ∈ B, b ∈ C) {a x : ID} (h : AR B a x) : AR C a x := by
 induction h with
 | zero e => exact .zero e
 | self hb e => exact .self (hs _ hb) e
 | up hb _ ih => exact .up (hs _ hb) ih
theorem BZ {B C : List Bk} (hB : aO B) (hC : aO C) (hs : ∀ b ∈ B, b ∈ C) {a x : ID} (h : AR C a x) : Kn B x → AR B a x := by
 induction h with
 | zero e => exact fun _ => .zero e
 | self hb e =>
  rintro (rfl | ⟨b', hb', e'⟩)
  ·exact .zero Z
  ·exact .self hb' e'
 | up hb h ih =>
  rintro (e | ⟨b', hb', e'⟩)
  ·exact absurd e<|ET hC hb
  ·have := An hC (hs _ hb') hb e';subst this;exact .up hb'<|ih<|so hB hb'
def xO (B : List Bk) (x k : ID) : Prop := ∃ b ∈ B, b.Parent = x ∧ nm b = k
theorem px {B : List Bk} (h : aO B) {x k : ID} : k ∈ bR B x ↔ xO B x k := by
 obtain ⟨m, hp⟩ := nz h;unfold bR xO;rw [hp];simp only [List.mem_map, List.mem_filter, decide_eq_true_iff];exact ⟨fun ⟨b, ⟨h1, h2⟩, h3⟩ => ⟨b, h1, h2, h3⟩, fun ⟨b, h1, h2, h3⟩ => ⟨b, ⟨h1, h2⟩, h3⟩⟩
theorem CU {B : List Bk} {x k : ID} (h : xO B x k) : Kn B k := by
 obtain ⟨b, hb, -, e⟩ := h;exact .inr ⟨b, hb, e⟩
theorem fu (p q : Rk) : b7 p q = false ↔ ¬ (p.n > q.n ∨ (p.n = q.n ∧ (q.id.1 < p.id.1 ∨ q.id.1 = p.id.1 ∧ q.id.2 < p.id.2))) := by
 unfold b7 ss;by_cases e : p.n = q.n
 ·rw [if_pos e, decide_eq_false_iff_not]; omega
 ·rw [if_neg e, decide_eq_false_iff_not]; omega
theorem zw {f : ID → Int} {k k' : ID} (h1 : b7 ⟨f k', k'⟩ ⟨f k, k⟩ = false) (h2 : b7 ⟨f k, k⟩ ⟨f k', k'⟩ = false) : k = k' := by
 rw [fu] at h1 h2;simp only at h1 h2;exact Prod.ext (by omega) (by omega)
theorem oI {a b d : Rk} (h1 : b7 b a = false) (h2 : b7 d b = false) : b7 d a = false := by
 rw [fu] at h1 h2 ⊢;omega
theorem zu (b : Rk) : b7 b b = false := by rw [fu]; omega
theorem rW {f : ID → Int} : ∀ (a : List ID) (b : Rk), b7 b (f8 f a b) = false ∧ ∀ k ∈ a, b7 ⟨f k, k⟩ (f8 f a b) = false
 | [], b => ⟨zu b, fun k hk => by cases hk⟩
 | k :: r, b => by
  unfold f8;obtain ⟨h1, h2⟩ := rW (f := f) r (bif b7 ⟨f k, k⟩ b then ⟨f k, k⟩ else b)
  have h3 : b7 b (bif b7 ⟨f k, k⟩ b then ⟨f k, k⟩ else b) = false ∧ b7 ⟨f k, k⟩ (bif b7 ⟨f k, k⟩ b then ⟨f k, k⟩ else b) = false := by
   cases h : b7 ⟨f k, k⟩ b with
   | true =>
    rw [ct]
    have h' : ¬ b7 ⟨f k, k⟩ b = false := by rw [h]; simp
    rw [fu] at h';refine ⟨?_, ?_⟩ <;> rw [fu] <;> simp only at h' ⊢ <;> omega
   | false =>
    rw [cf];exact ⟨by rw [fu]; omega, h⟩
  refine ⟨oI h1 h3.1, fun x hx => ?_⟩;rcases List.mem_cons.1 hx with rfl | hx
  ·exact oI h1 h3.2
  ·exact h2 x hx
def DN (f : ID → Int) (B : List Bk) (x k : ID) : Prop := xO B x k ∧ ∀ k', xO B x k' → b7 ⟨f k', k'⟩ ⟨f k, k⟩ = false
theorem B6 {f : ID → Int} {B : List Bk} {x k k' : ID} (h1 : DN f B x k) (h2 : DN f B x k') : k = k' := zw (h1.2 k' h2.1) (h2.2 k h1.1)
inductive Reach (f : ID → Int) (B : List Bk) (y : ID) : ID → Prop
 | refl : Reach f B y y
 | step {x k : ID} : DN f B x k → Reach f B y k → Reach f B y x
theorem wy {c : Cf} {B : List Bk} {v : List Vt} (h : aO B) (x : ID) : ((∀ k, ¬ xO B x k) ∧ ¬ (eQ c B v x).n ≥ 0) ∨ (DN (oR c B v) B x (eQ c B v x).id ∧ (eQ c B v x).n ≥ 0) := by
 rcases kw c B v x with ⟨hk, e⟩ | ⟨k, hk, e⟩
 ·exact .inl ⟨fun k h2 => by have := (px h).2 h2; rw [hk] at this; exact absurd this (by simp), by rw [e]; simp⟩
 ·refine .inr ⟨⟨?_, fun k' hk' => ?_⟩, by rw [e]; exact yq c B v k⟩
  ·rw [e]; exact (px h).1 hk
  ·have := (rW (f := oR c B v) (bR B x) ⟨-1, (0, 0)⟩).2 k' ((px h).2 hk');have e' : f8 (oR c B v) (bR B x) ⟨-1, (0, 0)⟩ = ⟨oR c B v k, k⟩ := e;rw [e'] at this;rw [e];exact this
theorem ma {c : Cf} {B : List Bk} {v : List Vt} (h : aO B) : Reach (oR c B v) B (cE c B v) (0, 0) ∧ ∀ k, ¬ xO B (cE c B v) k := by
 refine ⟨?_, fun k hk => ?_⟩
 ·obtain ⟨m, hp⟩ := nz h
  have key : ∀ (n : Nat) (x : ID), Reach (oR c B v) B (lJ c B v n x) x := by
   intro n
   induction n with
   | zero => intro x; exact .refl
   | succ n ih =>
    intro x;unfold lJ;rcases wy (c := c) (v := v) h x with ⟨-, h2⟩ | ⟨h1, h2⟩
    ·rw [if_neg h2]; exact .refl
    ·rw [if_pos h2]; exact .step h1 (ih _)
  exact key _ _
 ·have := (px h).2 hk;rw [(qF c h).2] at this;cases this
theorem Ax {f : ID → Int} {B : List Bk} {x y z : ID} (hy : ∀ k, ¬ xO B y k) (hz : ∀ k, ¬ xO B z k) (h1 : Reach f B y x) (h2 : Reach f B z x) : y = z := by
 induction h1 with
 | refl =>
  cases h2 with
  | refl => rfl
  | step hb _ => exact absurd hb.1 (hy _)
 | step hb _ ih =>
  cases h2 with
  | refl => exact absurd hb.1 (hz _)
  | step hb2 hr => rw [B6 hb hb2] at ih; exact ih hr
theorem EM {c : Cf} {B : List Bk} {v : List Vt} (h : aO B) {y : ID} (hr : Reach (oR c B v) B y (0, 0)) (hy : ∀ k, ¬ xO B y k) : cE c B v = y :=
 Ax (ma h).2 hy (ma h).1 hr
theorem tm {c : Cf} {B : List Bk} {v : List Vt} (h : aO B) : Kn B (cE c B v) := (uH h).1 (qF c h).1
theorem uX {B : List Bk} (h : aO B) {v : List Vt} {id : ID} {w : Int} : w ∈ mU B v id ↔ ∃ x ∈ v, AR B id x.Head ∧ x.From = w := by
 unfold mU;simp only [List.mem_map, List.mem_filter];constructor
 ·rintro ⟨x, ⟨h1, h2⟩, h3⟩;exact ⟨x, h1, (xT h).1 (of_decide_eq_true h2), h3⟩
 ·rintro ⟨x, h1, h2, h3⟩;exact ⟨x, ⟨h1, decide_eq_true ((xT h).2 h2)⟩, h3⟩
theorem Ad {c : Cf} {B C : List Bk} {v w : List Vt} (hB : aO B) (hC : aO C) {b : Bk} (hs : ∀ x, x ∈ C ↔ x ∈ B ∨ x = b) (hb : b.Parent = cE c B v) (hnew : ¬ Kn B (nm b)) (hv : ∀ x, x ∈ v ↔ x ∈ w) (hk : ∀ x ∈ v, Kn B x.Head) : cE c C w = nm b := by
 have hsub : ∀ x ∈ B, x ∈ C := fun x hx => (hs x).2 (.inl hx);have hbC : b ∈ C := (hs b).2 (.inr rfl)
 have hon : ∀ k, Kn B k → oR c B v k = oR c C w k := fun k hk' => E7 fun x => by
  rw [uX hB, uX hC];constructor
  ·rintro ⟨y, h1, h2, h3⟩;exact ⟨y, (hv y).1 h1, B3 hsub h2, h3⟩
  ·rintro ⟨y, h1, h2, h3⟩;have h1' := (hv y).2 h1;exact ⟨y, h1', BZ hB hC hsub h2 (hk y h1'), h3⟩
 obtain ⟨hr, hl⟩ := ma (c := c) (v := v) hB
 have hkid : ∀ x k, xO C x k → xO B x k ∨ (x = b.Parent ∧ k = nm b) := by
  rintro x k ⟨y, hy, h1, h2⟩;rcases (hs y).1 hy with h | rfl
  ·exact .inl ⟨y, h, h1, h2⟩
  ·exact .inr ⟨h1.symm, h2.symm⟩
 have hup : ∀ x k, xO B x k → xO C x k := fun x k ⟨y, hy, h1, h2⟩ => ⟨y, hsub y hy, h1, h2⟩
 have hlast : Reach (oR c C w) C (nm b) (cE c B v) := by
  refine .step ⟨⟨b, hbC, hb, rfl⟩, fun k' hk' => ?_⟩ .refl;rcases hkid _ _ hk' with h | ⟨-, e⟩
  ·exact absurd h<|hl k'
  ·rw [e, fu]; omega
 refine EM hC ?_ fun k hk' => ?_
 ·have key : ∀ x, Reach (oR c B v) B (cE c B v) x → Reach (oR c C w) C (nm b) x := by
   intro x hx;generalize hy : cE c B v = y at hx hl hlast hb
   induction hx with
   | refl => exact hlast
   | @step x k hbest hr ih =>
    refine .step ⟨hup _ _ hbest.1, fun k' hk' => ?_⟩ ih;rcases hkid _ _ hk' with h | ⟨e, -⟩
    ·rw [← hon k (CU hbest.1), ← hon k' (CU h)];exact hbest.2 k' h
    ·rw [e, hb] at hbest;exact absurd hbest.1<|hl k
  exact key _ hr
 ·rcases hkid _ _ hk' with ⟨y, hy, h1, h2⟩ | ⟨e, -⟩
  ·exact hnew<|h1 ▸ so hB hy
  ·have hpb := tm (c := c) (v := v) hB;rw [← hb, ← e] at hpb;exact hnew hpb
end Go.Mg
