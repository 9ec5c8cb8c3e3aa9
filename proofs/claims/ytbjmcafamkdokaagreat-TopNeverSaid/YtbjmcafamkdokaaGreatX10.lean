/- Laws of views. Plain laws of views: order, and all. Nets, plain: how much nodes have; what they have together. Laws of nets, plain: what all have together, in whatever order. A node behind a tick, plain. A node behind a tick, plain: the phases. A node behind a tick, plain: the whole. NodeKnown, plain. NodeKeeps, plain. What a node is behind a tick: what it has, how much that is. A world behind a tick, plain. Worlds that go on, plain. Worlds that go on: what is so of them goes on. A world that begins; what is begun; worlds that are the same. AuditSeen, plain. What nodes count, where there is room: what one counted all count in phase 2, the proposer in phase 0. PlayHonest. PlayHonest, plain. What more than half of a slot's committee, of the good ones, voted for is under each node's head, ever after. What the laws through the layers share. Laws of nets, plain. Runs: what holds behind each tick. Conditions: none. -/
import Derived.Test.YtbjmcafamkdokaaGreatX7
import Derived.Test.YtbjmcafamkdokaaGreatX9
import Derived.Test.YtbjmcafamkdokaaGreatX8
import Derived.Test.YtbjmcafamkdokaaGreatX3
import Derived.Test.YtbjmcafamkdokaaGreatX6
set_option maxRecDepth 100000
set_option linter.unusedSimpArgs false
set_option linter.unusedVariables false
namespace Go.Mg
open Go.Proofs
open Classical in
theorem sR {S R : Type} {step : S → Option (S ⊕ (S ⊕ R))} {n : Nat} (mk : Nat → S) (r0 : R) (P : Nat → Prop) (hs : ∀ j, j < n → step (mk j) = some (.inr (.inr r0)) ∨ (step (mk j) = some (.inl (mk (j + 1))) ∧ P j))
  (he : step (mk n) = some (.inr (.inl (mk n)))) (hn : n < 4000000000000000000) : iter step bG (mk 0) = some (.inr r0) ∨ (iter step bG (mk 0) = some (.inl (mk n)) ∧ ∀ j, j < n → P j) := by
 have e := eP mk (fun j => if step (mk j) = some (.inl (mk (j + 1))) ∧ P j then none else some r0) (fun j hj => by
  by_cases h : step (mk j) = some (.inl (mk (j + 1))) ∧ P j
  ·simp only [if_pos h]; exact h.1
  ·simp only [if_neg h]; exact (hs j hj).resolve_right h) he hn
 rw [e]
 cases h : cv (fun j => if step (mk j) = some (.inl (mk (j + 1))) ∧ P j then none else some r0) 0 n with
 | none =>
  right;refine ⟨rfl, fun j hj => ?_⟩;have := fI.1 h j (Nat.zero_le _) (by omega);split at this
  ·rename_i h2; exact h2.2
  ·cases this
 | some r =>
  left;obtain ⟨j, -, -, h2, -⟩ := dL h;split at h2
  ·cases h2
  ·cases h2; rfl
def kF (k : Int) (w : Vw) : Prop := (w.B.length : Int) ≤ k ∧ (w.V.length : Int) ≤ k
def mb (k : Int) (n : Nd) : Prop := kF k n.V ∧ kF k n.In ∧ n.O.length ≤ 10 ∧ ∀ o ∈ n.O, kF k o.V
def bX (n : Nd) : Vw := aT n.V n.In
theorem sK {n : Nd} {k : Int} (h : mb k n) : ((bX n).B.length : Int) ≤ 2 * k ∧ ((bX n).V.length : Int) ≤ 2 * k := by
 obtain ⟨⟨a1, a2⟩, ⟨b1, b2⟩, -⟩ := h;have h1 := de n.In.B n.V.B;have h2 := de n.In.V n.V.V;unfold bX aT;simp only;omega
theorem BC {n : Nd} {k : Int} (h : mb k n) (hk : k ≤ 1000) : uv n = some (bX n) := by
 obtain ⟨⟨a1, a2⟩, ⟨b1, b2⟩, -⟩ := h;unfold uv;rw [iC (by omega) (by omega)]; rfl
def gc (l : List Nd) (w : Vw) : Vw := l.foldl (fun w n => aT w (bX n)) w
theorem Aw (l : List Nd) (n : Nd) (w : Vw) : gc (l ++ [n]) w = aT (gc l w) (bX n) := by unfold gc; rw [List.foldl_append]; rfl
theorem qg {k : Int} : ∀ {l : List Nd} {w : Vw}, (∀ n ∈ l, mb k n) → ((gc l w).B.length : Int) ≤ w.B.length + l.length * (2 * k) ∧ ((gc l w).V.length : Int) ≤ w.V.length + l.length * (2 * k)
 | [], w, _ => by simp [gc]
 | n :: r, w, h => by
  have h1 := sK (h n (.head _));have h2 := qg (l := r) (w := aT w (bX n)) fun m hm => h m (.tail _ hm);have h3 := de (bX n).B w.B;have h4 := de (bX n).V w.V;have e : gc (n :: r) w = gc r (aT w (bX n)) := rfl;have e1 : (aT w (bX n)).B = cO w.B (bX n).B := rfl;have e2 : (aT w (bX n)).V = cO w.V (bX n).V := rfl;rw [e, List.length_cons, Int.natCast_add, Int.add_mul];rw [e1, e2] at h2;omega
theorem nq {b : Bk} : ∀ {l : List Nd} {w : Vw}, b ∈ (gc l w).B ↔ b ∈ w.B ∨ ∃ n ∈ l, b ∈ (bX n).B
 | [], w => by simp [gc]
 | n :: r, w => by
  have e : gc (n :: r) w = gc r (aT w (bX n)) := rfl;rw [e, nq];have e1 : (aT w (bX n)).B = cO w.B (bX n).B := rfl;rw [e1, ft];simp [or_assoc]
theorem nr {v : Vt} : ∀ {l : List Nd} {w : Vw}, v ∈ (gc l w).V ↔ v ∈ w.V ∨ ∃ n ∈ l, v ∈ (bX n).V
 | [], w => by simp [gc]
 | n :: r, w => by
  have e : gc (n :: r) w = gc r (aT w (bX n)) := rfl;rw [e, nr];have e1 : (aT w (bX n)).V = cO w.V (bX n).V := rfl;rw [e1, ft];simp [or_assoc]
theorem sj : ∀ {l : List Nd} {w : Vw}, w.B.Nodup → w.V.Nodup → (gc l w).B.Nodup ∧ (gc l w).V.Nodup
 | [], w, h1, h2 => ⟨h1, h2⟩
 | n :: r, w, h1, h2 => sj (l := r) (w := aT w (bX n)) (fQ h1) (fQ h2)
theorem wS {k0 : Int} {l : List Nd} {w : Vw} (h0 : 0 ≤ k0) (hk0 : k0 ≤ 1000) (hl : (l.length : Int) * (2 * k0) ≤ 40000) (hl2 : l.length ≤ 100000) (hs : ∀ n ∈ l, mb k0 n) (h1 : w.B.length ≤ 1000) (h2 : w.V.length ≤ 1000) : p7 l w = some (gc l w) := by
 have e := aB (step := gk l) (n := l.length) (fun k => dB.mk (k : Int) (gc (l.take k) w)) (dB.mk (l.length : Int) (gc l w)) (fun k hk => by
  obtain ⟨y, hy, hm⟩ := aF hk
  have et : l.take (k + 1) = l.take k ++ [y] := by rw [List.take_add_one, hy]; rfl
  have hsy := hs y hm;have hlen := qg (l := l.take k) (w := w) fun m hm => hs m (List.mem_of_mem_take hm);rw [List.length_take] at hlen;have hkn := sK hsy;have hmul : ((Min.min k l.length : Nat) : Int) * (2 * k0) ≤ l.length * (2 * k0) := Int.mul_le_mul_of_nonneg_right (by omega) (by omega);unfold gk;simp only;rw [decide_eq_true (show (k : Int) < (l.length : Int) by omega), ct, aI hy, ob, et, Aw, ak (n := k) (by omega)];unfold yo;rw [BC hsy (by omega), ob, iC (by omega) (by omega), ob]
  rfl) (by
  unfold gk;simp only
  rw [decide_eq_false (show ¬ (l.length : Int) < (l.length : Int) by omega), cf, List.take_length]) (by omega)
 have e' : iter (gk l) bG (dB.mk 0 w) = _ := e;unfold p7;rw [e', ob]
theorem rX {l : List Nd} (hl : l.length ≤ 40) (hs : ∀ n ∈ l, mb 500 n) : rW l = some (gc l ⟨[], []⟩) := by
 unfold rW;rw [wS (k0 := 500) (by omega) (by omega) (by omega) (by omega) hs (Nat.zero_le _) (Nat.zero_le _)]; rfl
theorem xg (l : List Nd) : (cv (fun j => match l[j]? with | some y => if y.Full = true then some (j : Int) else none | none => none) 0 l.length).isSome = l.any Nd.Full := by
 cases h : cv (fun j => match l[j]? with | some y => if y.Full = true then some (j : Int) else none | none => none) 0 l.length with
 | none =>
  symm;rw [Option.isSome_none, List.any_eq_false];intro x hx;obtain ⟨j, hj⟩ := List.getElem?_of_mem hx;have := fI.1 h j (Nat.zero_le _) (by have := (List.getElem?_eq_some_iff.1 hj).1; omega);rw [hj] at this;simp only at this;split at this
  ·cases this
  ·assumption
 | some r =>
  symm;rw [Option.isSome_some, List.any_eq_true];obtain ⟨j, -, -, h3, -⟩ := dL h;split at h3
  ·rename_i y hy;split at h3
   ·rename_i hf; exact ⟨y, List.mem_of_getElem? hy, hf⟩
   ·cases h3
  ·cases h3
theorem B6 {l : List Nd} (hl : l.length ≤ 100000) : uI l = some (l.any Nd.Full) := by
 have e := eP (step := lw l) (n := l.length) (fun k => gb.mk (k : Int)) (fun j => match l[j]? with | some y => if y.Full = true then some (j : Int) else none | none => none) (fun j hj => by
  obtain ⟨y, hy, -⟩ := aF hj;unfold lw yj;simp only;rw [decide_eq_true (show (j : Int) < (l.length : Int) by omega), ct, aI hy, ob, ob, ak (n := j) (by omega), hy]
  cases hf : y.Full with
  | true => rw [ct]; simp [hf]
  | false => rw [cf]; simp [hf]) (by
  unfold lw;simp only
  rw [decide_eq_false (show ¬ (l.length : Int) < (l.length : Int) by omega), cf]) (by omega)
 have e' : iter (lw l) bG (gb.mk 0) = _ := e;unfold uI EV EY;rw [← xg, e', ob]
 cases h : cv (fun j => match l[j]? with | some y => if y.Full = true then some (j : Int) else none | none => none) 0 l.length with
 | none => rw [lT, sl, ob]; rfl
 | some r =>
  have h0 : r ≥ 0 := by
   obtain ⟨j, -, -, h3, -⟩ := dL h;split at h3
   ·split at h3
    ·cases h3; omega
    ·cases h3
   ·cases h3
  rw [lT, sr, ob, decide_eq_true h0]; rfl
def LR : Of := Of.mk 0 0 (Bk.mk 0 0 (0, 0) 0) (Vw.mk [] [])
theorem Cq {n : Nat} (hn : n ≤ 1000) : uU (n : Int) = some (List.replicate n LR) := by
 have e : IntKind.i64.wrap ((n : Int) - (IntKind.i64.wrap (0 - 0))) = n := by
  rw [show IntKind.i64.wrap (0 - 0) = 0 from by decide, cA (by omega) (by omega)]; omega
 unfold uU;rw [decide_eq_false (show ¬ (n : Int) < 0 by omega), cf, e];by_cases h0 : (n : Int) > 0
 ·rw [decide_eq_true h0, ct, show AT (n : Int) 104 = true from decide_eq_true (by omega), ct];simp [LR]
 ·rw [decide_eq_false h0, cf]
  obtain rfl : n = 0 := by omega
  rfl
theorem B8 {a b : List Of} (h : a.length + b.length ≤ 1000) : uK [a, b] = some (a ++ b) := by
 have e1 := aB (step := gA [a, b]) (n := 2) (fun k => match k with | 0 => dt.mk 0 0 | 1 => dt.mk (a.length : Int) 1 | _ => dt.mk ((a.length + b.length : Nat) : Int) 2) (dt.mk ((a.length + b.length : Nat) : Int) 2) (fun k hk => by
  match k, hk with
  | 0, _ =>
   unfold gA;simp only;rw [decide_eq_true (show (0 : Int) < (([a, b] : List (List Of)).length : Int) by simp), ct, show ix [a, b] 0 = some a from rfl, ob, cA (by omega) (by omega), decide_eq_false (show ¬ (0 : Int) + (a.length : Int) < 0 by omega), cf, Int.zero_add];rfl
  | 1, _ =>
   unfold gA;simp only;rw [decide_eq_true (show (1 : Int) < (([a, b] : List (List Of)).length : Int) by simp), ct, show ix [a, b] 1 = some b from rfl, ob, cA (by omega) (by omega), decide_eq_false (show ¬ (a.length : Int) + (b.length : Int) < 0 by omega), cf, Int.natCast_add]
   rfl) (by
  unfold gA;simp only
  rw [decide_eq_false (show ¬ (2 : Int) < (([a, b] : List (List Of)).length : Int) by simp), cf]) (by omega)
 have e1' : iter (gA [a, b]) bG (dt.mk 0 0) = _ := e1;obtain ⟨r, hr⟩ : ∃ r, r = List.replicate (a.length + b.length) LR := ⟨_, rfl⟩
 have hrl : r.length = a.length + b.length := by rw [hr]; simp
 have p1 : fb r 0 a = a ++ r.drop a.length := by unfold fb; simp
 have p1l : (fb r 0 a).length = a.length + b.length := by rw [p1]; simp; omega
 have p2 : (fb (fb r 0 a) a.length b).take (a.length + b.length) = a ++ b := by
  have e : (fb r 0 a).take a.length = a := by rw [p1, List.take_left']; rfl
  unfold fb at e ⊢;rw [e, List.take_left'];simp
 have p2l : (fb (fb r 0 a) a.length b).length = a.length + b.length := by rw [wn (by rw [p1l]; omega), p1l]
 have e2 := aB (step := gB [a, b]) (n := 2) (fun k => match k with | 0 => du.mk 0 0 r | 1 => du.mk a.length 1 (fb r 0 a) | _ => du.mk (a.length + b.length) 2 (fb (fb r 0 a) a.length b)) (du.mk (a.length + b.length) 2 (fb (fb r 0 a) a.length b)) (fun k hk => by
  match k, hk with
  | 0, _ =>
   unfold gB;simp only;rw [decide_eq_true (show (0 : Int) < (([a, b] : List (List Of)).length : Int) by simp), ct, show ix [a, b] 0 = some a from rfl, ob, decide_eq_true (show 0 + a.length ≤ r.length by omega), ct, Nat.zero_add];rfl
  | 1, _ =>
   unfold gB;simp only;rw [decide_eq_true (show (1 : Int) < (([a, b] : List (List Of)).length : Int) by simp), ct, show ix [a, b] 1 = some b from rfl, ob, decide_eq_true (show a.length + b.length ≤ (fb r 0 a).length by omega), ct]
   rfl) (by
  unfold gB;simp only
  rw [decide_eq_false (show ¬ (2 : Int) < (([a, b] : List (List Of)).length : Int) by simp), cf]) (by omega)
 have e2' : iter (gB [a, b]) bG (du.mk 0 0 r) = _ := e2;unfold uK;rw [e1', ob];simp only;rw [Cq h, ob, ← hr, e2', ob];simp only;rw [show Nat.ble (a.length + b.length) (fb (fb r 0 a) a.length b).length = true from Nat.ble_eq_true_of_le (by omega), ct, p2]
def nV (o : Of) : Prop := o.V.B.length ≤ 1000 ∧ o.V.V.length ≤ 1000
theorem pX {v : Vw} (h1 : v.B.length ≤ 1000) (h2 : v.V.length ≤ 1000) : pW v = some v := by
 unfold pW;rw [aO (by omega) (by omega), ct, aO (by omega) (by omega), ct]
theorem pZ {o : Of} (h : nV o) : pY o = some o := by
 unfold pY;rw [pX h.1 h.2];rfl
def HI (t : Int) (c : Cf) (slot : Int) (o : Of) : Bool := decide (¬ t.tmod 3 = 2 ∧ o.Slot = slot ∧ o.From = mD c slot)
def k7 (t : Int) (c : Cf) (slot : Int) (s : List Of × Bool) (o : Of) : List Of × Bool := if HI t c slot o = true then (if s.1.length = 8 then (s.1, true) else (s.1 ++ [o], s.2)) else s
def jg (t : Int) (c : Cf) (slot : Int) (full : Bool) (l : List Of) : List Of × Bool := l.foldl (k7 t c slot) ([], full)
theorem AJ (t : Int) (c : Cf) (slot : Int) (full : Bool) (l : List Of) (o : Of) : jg t c slot full (l ++ [o]) = k7 t c slot (jg t c slot full l) o := by unfold jg; rw [List.foldl_append]; rfl
theorem yR {t : Int} {c : Cf} {slot : Int} : ∀ (l : List Of) (s : List Of × Bool), s.1.length ≤ 8 → (l.foldl (k7 t c slot) s).1.length ≤ 8 ∧ (∀ o ∈ (l.foldl (k7 t c slot) s).1, o ∈ s.1 ∨ (o ∈ l ∧ HI t c slot o = true)) ∧ (s.2 = true → (l.foldl (k7 t c slot) s).2 = true)
 | [], s, h => ⟨h, fun o ho => .inl ho, id⟩
 | x :: r, s, h => by
  rw [List.foldl_cons]
  have hs : (k7 t c slot s x).1.length ≤ 8 ∧ (∀ o ∈ (k7 t c slot s x).1, o ∈ s.1 ∨ (o = x ∧ HI t c slot o = true)) ∧ (s.2 = true → (k7 t c slot s x).2 = true) := by
   unfold k7;split
   ·rename_i hk;split
    ·exact ⟨h, fun o ho => .inl ho, fun _ => rfl⟩
    ·refine ⟨by simp only [List.length_append, List.length_singleton]; omega, fun o ho => ?_, id⟩;rcases List.mem_append.1 ho with ho | ho
     ·exact .inl ho
     ·rw [List.mem_singleton] at ho; subst ho; exact .inr ⟨rfl, hk⟩
   ·exact ⟨h, fun o ho => .inl ho, id⟩
  obtain ⟨h1, h2, h3⟩ := yR r (k7 t c slot s x) hs.1;refine ⟨h1, fun o ho => ?_, fun e => h3 (hs.2.2 e)⟩;rcases h2 o ho with h4 | ⟨h4, h5⟩
  ·rcases hs.2.1 o h4 with h5 | ⟨rfl, h5⟩
   ·exact .inl h5
   ·exact .inr ⟨.head _, h5⟩
  ·exact .inr ⟨.tail _ h4, h5⟩
theorem gP (t : Int) (c : Cf) (slot : Int) (full : Bool) (l : List Of) : (jg t c slot full l).1.length ≤ 8 ∧ (∀ o ∈ (jg t c slot full l).1, o ∈ l ∧ HI t c slot o = true) ∧ (full = true → (jg t c slot full l).2 = true) := by
 obtain ⟨h1, h2, h3⟩ := yR (t := t) (c := c) (slot := slot) l ([], full) (by simp);refine ⟨h1, fun o ho => ?_, h3⟩;rcases h2 o ho with h4 | h4
 ·simp at h4
 ·exact h4
theorem Cr {l : List Of} {x : Nd} {c : Cf} {slot : Int} (hl : x.O.length + l.length ≤ 1000) (hs : ∀ o ∈ x.O ++ l, nV o) : uW l x c slot = some (jg x.Tick c slot x.Full (x.O ++ l)) := by
 unfold uW;rw [B8 hl, ob];generalize hL : x.O ++ l = L at hs
 have hLl : L.length ≤ 1000 := by rw [← hL, List.length_append]; omega
 have e := aB (step := i4 x c slot L) (n := L.length) (fun k => dw.mk (k : Int) (jg x.Tick c slot x.Full (L.take k)).2 (jg x.Tick c slot x.Full (L.take k)).1) (dw.mk (L.length : Int) (jg x.Tick c slot x.Full L).2 (jg x.Tick c slot x.Full L).1) (fun k hk => by
  obtain ⟨y, hy, hm⟩ := aF hk
  have et : L.take (k + 1) = L.take k ++ [y] := by rw [List.take_add_one, hy]; rfl
  have hf := gP x.Tick c slot x.Full (L.take k);unfold i4;simp only;rw [decide_eq_true (show (k : Int) < (L.length : Int) by omega), ct, aI hy, ob, et, AJ, ak (n := k) (by omega)];generalize jg x.Tick c slot x.Full (L.take k) = s at hf ⊢
  have hgate : (bif (x.Tick.tmod 3) == 2 then some ((x.Tick.tmod 3) == 2) else bif y.Slot != slot then some (y.Slot != slot) else (ET c slot).bind fun v4 => some (y.From != v4)) = some (!HI x.Tick c slot y) := by
   rw [tm, ob];unfold HI;by_cases h1 : x.Tick.tmod 3 = 2
   ·rw [beq_iff_eq.2 h1, ct, decide_eq_false fun h => h.1 h1]; rfl
   ·rw [beq_eq_false_iff_ne.2 h1, cf];by_cases h2 : y.Slot = slot
    ·rw [show (y.Slot != slot) = false by simp [h2], cf];by_cases h3 : y.From = mD c slot
     ·rw [show (y.From != mD c slot) = false by simp [h3], decide_eq_true ⟨h1, h2, h3⟩]; rfl
     ·rw [show (y.From != mD c slot) = true by simp [h3], decide_eq_false fun h => h3 h.2.2]; rfl
    ·rw [show (y.Slot != slot) = true by simp [h2], ct, decide_eq_false fun h => h2 h.2.1]; rfl
  rw [hgate, ob];unfold k7
  cases hk2 : HI x.Tick c slot y with
  | false => rw [Bool.not_false, ct]; rfl
  | true =>
   rw [Bool.not_true, cf, if_pos rfl];by_cases h8 : s.1.length = 8
   ·rw [show ((s.1.length : Int) == 8) = true by simp [h8], ct, if_pos h8]
   ·rw [show ((s.1.length : Int) == 8) = false by rw [beq_eq_false_iff_ne]; omega, cf, pZ (hs y hm), ob, aO (by simp only [List.length_singleton]; omega) (by omega), ct, if_neg h8]) (by
  unfold i4;simp only
  rw [decide_eq_false (show ¬ (L.length : Int) < (L.length : Int) by omega), cf, List.take_length]) (by omega)
 have e' : iter (i4 x c slot L) bG (dw.mk 0 x.Full []) = _ := e;rw [e', ob]
theorem tc (c : Cf) (w i : Vw) (s : Int) : w.B.length ≤ (aC c w i s).1.B.length ∧ (aC c w i s).1.B.length ≤ w.B.length + 60 ∧ w.V.length ≤ (aC c w i s).1.V.length ∧ (aC c w i s).1.V.length ≤ w.V.length + 240 ∧ (aC c w i s).2.1.B.length ≤ i.B.length ∧ (aC c w i s).2.1.V.length ≤ i.V.length := by
 by_cases h : ei c w
 ·have ht := rR h i s;have hl := D4 ht;have h1 := ht.may.lenB;have h2 := ht.may.lenV;omega
 ·have e : aC c w i s = (w, i, false) := by unfold aC; rw [if_neg h]
  rw [e];simp only;omega
theorem lu {inp : Vw} {c : Cf} {slot : Int} {v : Vw} {full : Bool} (h1 : v.B.length ≤ 1000) (h2 : v.V.length ≤ 1000) (h3 : inp.B.length ≤ 800) (h4 : inp.V.length ≤ 600) :
  kC inp c slot v full = some ((aC c v inp slot).2.1, (aC c v inp slot).1, full || (aC c v inp slot).2.2) := by
 unfold kC;rw [GO h1 h2 h3 h4, ob];cases full <;> rfl
theorem rr (c : Cf) (w i : Vw) (s : Int) : (aC c w i s).1.B.length ≤ max w.B.length 60 ∧ (aC c w i s).1.V.length ≤ max w.V.length 240 := by
 by_cases h : ei c w
 ·have ht := rR h i s;have h1 := ht.may.lenB;have h2 := ht.may.lenV;omega
 ·have e : aC c w i s = (w, i, false) := by unfold aC; rw [if_neg h]
  rw [e];simp only;omega
theorem Vw.eta (w : Vw) : Vw.mk w.B w.V = w := rfl
noncomputable def kX (x : Nd) (c : Cf) (slot : Int) : Bk := ⟨slot, x.No, bW c (aC c x.V x.In slot).1.B (bH c (aC c x.V x.In slot).1.V (IntKind.i64.wrap (slot - 1))), 0⟩
noncomputable def dj (x : Nd) (c : Cf) (slot : Int) : Vw × Vw × Bool × List Of :=
 if x.No = mD c slot then
  ((aC c (aC c x.V x.In slot).1 ⟨[kX x c slot], []⟩ slot).1, (aC c x.V x.In slot).2.1, (x.Full || (aC c x.V x.In slot).2.2) || (aC c (aC c x.V x.In slot).1 ⟨[kX x c slot], []⟩ slot).2.2, [⟨slot, x.No, kX x c slot, (aC c x.V x.In slot).1⟩])
 else (x.V, x.In, x.Full, [])
theorem Ak {x : Nd} {c : Cf} {slot : Int} (h1 : x.V.B.length ≤ 500) (h2 : x.V.V.length ≤ 500) (h3 : x.In.B.length ≤ 500) (h4 : x.In.V.length ≤ 500) : nT x c slot [] = some (dj x c slot) := by
 have hm := rr c x.V x.In slot;unfold nT dj;rw [tm, ob];by_cases h : x.No = mD c slot
 ·rw [show (x.No != mD c slot) = false by simp [h], cf, if_pos h, lu (by omega) (by omega) (by omega) (by omega), ob];simp only;rw [pU (by omega) (by omega), ob];have hs : nV (Of.mk slot x.No (Bk.mk slot x.No (bW c (aC c x.V x.In slot).1.B (bH c (aC c x.V x.In slot).1.V (IntKind.i64.wrap (slot - 1)))) 0) (aC c x.V x.In slot).1) := ⟨by show (aC c x.V x.In slot).1.B.length ≤ 1000; omega, by show (aC c x.V x.In slot).1.V.length ≤ 1000; omega⟩;rw [pZ hs, ob];unfold sa;rw [ob, lu (by omega) (by omega) (by simp) (by simp), ob];rfl
 ·rw [show (x.No != mD c slot) = true by simp [h], ct, if_neg h]
noncomputable def fB (c : Cf) (slot : Int) (s : Vw × Vw × Bool) (o : Of) : Vw × Vw × Bool :=
 ((aC c s.1 (aT o.V ⟨[o.B], []⟩) slot).1, aT s.2.1 (aC c s.1 (aT o.V ⟨[o.B], []⟩) slot).2.1, s.2.2 || (aC c s.1 (aT o.V ⟨[o.B], []⟩) slot).2.2)
noncomputable def bf (x : Nd) (o : List Of) (c : Cf) (slot : Int) : Vw × Vw × Bool := o.foldl (fB c slot) (x.V, x.In, x.Full)
noncomputable def dY (x : Nd) (o : List Of) (c : Cf) (slot : Int) : Vw × Vw × Bool :=
 if x.No ∈ fS c slot then
  ((bf x o c slot).1, aT (bf x o c slot).2.1 ⟨[], [⟨x.No, slot, bW c (bf x o c slot).1.B (bH c (bf x o c slot).1.V (IntKind.i64.wrap (slot - 1)))⟩]⟩, (bf x o c slot).2.2)
 else bf x o c slot
theorem ww (x : Nd) (o : List Of) (c : Cf) (slot : Int) (y : Of) : bf x (o ++ [y]) c slot = fB c slot (bf x o c slot) y := by unfold bf; rw [List.foldl_append]; rfl
theorem vU (o : Of) : (aT o.V ⟨[o.B], []⟩).B.length ≤ o.V.B.length + 1 ∧ (aT o.V ⟨[o.B], []⟩).V.length ≤ o.V.V.length := by
 have h1 := de [o.B] o.V.B;have h2 := de ([] : List Vt) o.V.V;exact ⟨h1, h2⟩
theorem gr (a b : Vw) : (aT a b).B.length ≤ a.B.length + b.B.length ∧ (aT a b).V.length ≤ a.V.length + b.V.length := ⟨de _ _, de _ _⟩
theorem wv {x : Nd} {c : Cf} {slot : Int} (h1 : x.V.B.length ≤ 500) (h2 : x.V.V.length ≤ 500) (h3 : x.In.B.length ≤ 500) (h4 : x.In.V.length ≤ 500) : ∀ (k : Nat) (o : List Of), o.length ≤ k → (∀ y ∈ o, y.V.B.length ≤ 500 ∧ y.V.V.length ≤ 500) →
  (bf x o c slot).1.B.length ≤ 500 ∧ (bf x o c slot).1.V.length ≤ 500 ∧ (bf x o c slot).2.1.B.length ≤ 500 + 501 * k ∧ (bf x o c slot).2.1.V.length ≤ 500 + 501 * k := by
 intro k
 induction k with
 | zero =>
  intro o ho _;obtain rfl : o = [] := List.length_eq_zero_iff.1 (by omega);exact ⟨h1, h2, Nat.le_trans h3 (by omega), Nat.le_trans h4 (by omega)⟩
 | succ k ih =>
  intro o ho hs;rcases List.eq_nil_or_concat o with rfl | ⟨r, y, rfl⟩
  ·exact ⟨h1, h2, Nat.le_trans h3 (by omega), Nat.le_trans h4 (by omega)⟩
  ·rw [List.concat_eq_append] at ho hs ⊢;rw [List.length_append, List.length_singleton] at ho;obtain ⟨a1, a2, a3, a4⟩ := ih r (by omega) fun z hz => hs z (List.mem_append_left _ hz);have hy := hs y (List.mem_append_right _ (List.mem_singleton.2 rfl));have hl := vU y;rw [ww];unfold fB;generalize bf x r c slot = s at a1 a2 a3 a4 ⊢;have hm := rr c s.1 (aT y.V ⟨[y.B], []⟩) slot;have hz := tc c s.1 (aT y.V ⟨[y.B], []⟩) slot;have hj := gr s.2.1 (aC c s.1 (aT y.V ⟨[y.B], []⟩) slot).2.1;simp only;omega
theorem wU {x : Nd} {o : List Of} {c : Cf} {slot : Int} (h1 : x.V.B.length ≤ 500) (h2 : x.V.V.length ≤ 500) (h3 : x.In.B.length ≤ 500) (h4 : x.In.V.length ≤ 500) (ho : o.length ≤ 8) (hs : ∀ y ∈ o, y.V.B.length ≤ 500 ∧ y.V.V.length ≤ 500) :
  ly x o c slot = some (dY x o c slot) := by
 have e := aB (step := fm o c slot) (n := o.length) (fun k => cP.mk (k : Int) (bf x (o.take k) c slot).1.B (bf x (o.take k) c slot).1.V (bf x (o.take k) c slot).2.1.B (bf x (o.take k) c slot).2.1.V (bf x (o.take k) c slot).2.2)
  (cP.mk (o.length : Int) (bf x o c slot).1.B (bf x o c slot).1.V (bf x o c slot).2.1.B (bf x o c slot).2.1.V (bf x o c slot).2.2) (fun k hk => by
  obtain ⟨y, hy, hm⟩ := aF hk
  have et : o.take (k + 1) = o.take k ++ [y] := by rw [List.take_add_one, hy]; rfl
  have hsz := wv (c := c) (slot := slot) h1 h2 h3 h4 8 (o.take k) (by rw [List.length_take]; omega) fun z hz => hs z (List.mem_of_mem_take hz);have hy2 := hs y hm;have hl := vU y;unfold fm;simp only;rw [decide_eq_true (show (k : Int) < (o.length : Int) by omega), ct, aI hy, ob, et, ww, ak (n := k) (by omega)];generalize bf x (o.take k) c slot = s at hsz ⊢;have hz := tc c s.1 (aT y.V ⟨[y.B], []⟩) slot;unfold sa;rw [ob, iC (by simp only [List.length_singleton]; omega) (by simp only [List.length_nil]; omega), ob, Vw.eta, Vw.eta, lu (by omega) (by omega) (by omega) (by omega), ob];simp only;rw [iC (by omega) (by omega), ob]
  rfl) (by
  unfold fm;simp only
  rw [decide_eq_false (show ¬ (o.length : Int) < (o.length : Int) by omega), cf, List.take_length]) (by omega)
 have e' : iter (fm o c slot) bG (cP.mk 0 x.V.B x.V.V x.In.B x.In.V x.Full) = _ := e;have hsz := wv (c := c) (slot := slot) h1 h2 h3 h4 8 o ho hs;unfold ly dY;rw [e', ob, Ck, ob];simp only [Vw.eta];generalize bf x o c slot = s at hsz ⊢;by_cases h : x.No ∈ fS c slot
 ·rw [decide_eq_true h, ct, if_pos h, pU (by omega) (by omega), ob, iC (by simp only [List.length_nil]; omega) (by simp only [List.length_singleton]; omega), ob]
 ·rw [decide_eq_false h, cf, if_neg h]
def u7 (c : Cf) (w : Vw) (slot : Int) (id : ID) : Prop := fR c (fS c slot) * (c.Den + 2 * c.Num) < 2 * mB c w.B (bH c w.V slot) id * c.Den
theorem Ai {c : Cf} {w : Vw} {slot : Int} {head : ID} (hm : cD c) (h1 : w.B.length ≤ 1000) (h2 : w.V.length ≤ 1000) : ∃ r, sb c w slot head = some r ∧ (r.2 = true → u7 c w slot r.1) := by
 have hg := vJ c w.V slot;have hc := tE c slot;unfold sb Cx;rw [uy (by omega), ob, tp, ob, tq (by omega), ob, ob, show few w.B = true from decide_eq_true h1, ct];have hwt := ti c (fS c slot)
 obtain ⟨b, hb, hs⟩ := cZ (step := jy c w) (fun x => x.v = bH c w.V slot ∧ x.al = fR c (fS c slot)) (fun x => x.l.length) (fun r => r.2 = true → u7 c w slot r.1) (by
  rintro ⟨l, v, al⟩ ⟨e1, e2⟩;simp only at e1 e2;subst e1 e2;by_cases hl : (l.length : Int) < 2
  ·right;refine ⟨((0, 0), false), ?_, fun h => by cases h⟩;unfold jy;simp only;rw [decide_eq_true hl, ct]
  ·obtain ⟨y, hy, -⟩ := aF (l := l) (n := 0) (by omega);have hy' : ix l 0 = some y := aI hy;obtain ⟨-, -, -, -, -, m1, m2, m3, m4⟩ := hm;have hon : 0 ≤ mB c w.B (bH c w.V slot) y ∧ mB c w.B (bH c w.V slot) y ≤ 13194139533312 := ti _ _
   have hstep : jy c w ⟨l, bH c w.V slot, fR c (fS c slot)⟩ = bif decide (2 * mB c w.B (bH c w.V slot) y * c.Den > fR c (fS c slot) * (c.Den + 2 * c.Num)) then some (.inr (y, true)) else some (.inl ⟨l.drop 1, bH c w.V slot, fR c (fS c slot)⟩) := by
    unfold jy E1 tt;simp only
    rw [decide_eq_false hl, cf, hy', ob, x7 h1 (by omega), ob, ob, cA (by omega) (by omega), cA (n := 2 * c.Num) (by omega) (by omega), cA (by omega) (by omega), ur ⟨by omega, by omega⟩ ⟨by omega, by omega⟩ ⟨by omega, by omega⟩ ⟨by omega, by omega⟩, ob, ob, ob,
     show HZ l 1 l.length = true from decide_eq_true (by omega), ct]
    rfl
   cases hd : decide (2 * mB c w.B (bH c w.V slot) y * c.Den > fR c (fS c slot) * (c.Den + 2 * c.Num)) with
   | true => rw [hd, ct] at hstep; exact .inr ⟨_, hstep, fun _ => show fR c (fS c slot) * (c.Den + 2 * c.Num) < _ from of_decide_eq_true hd⟩
   | false =>
    rw [hd, cf] at hstep;refine .inl ⟨_, hstep, ⟨rfl, rfl⟩, ?_⟩;simp only [List.length_drop]
    omega) (n := bG) (x := lz.mk (am w.B head) (bH c w.V slot) (fR c (fS c slot))) ⟨rfl, rfl⟩ (dK (by have : (am w.B head).length ≤ w.B.length + 1 := AB head; simp only; omega))
 exact ⟨b, hb, hs⟩
theorem qb {x : Nd} {c : Cf} {slot : Int} (hm : cD c) (h1 : x.V.B.length ≤ 500) (h2 : x.V.V.length ≤ 500) (h3 : x.In.B.length ≤ 500) (h4 : x.In.V.length ≤ 500) :
  ∃ r, sb c (aC c x.V x.In slot).1 slot (bW c (aC c x.V x.In slot).1.B (bH c (aC c x.V x.In slot).1.V slot)) = some r ∧ (r.2 = true → u7 c (aC c x.V x.In slot).1 slot r.1) ∧ ma x c slot = some ((aC c x.V x.In slot).1, (aC c x.V x.In slot).2.1, c8 x.C (aC c x.V x.In slot).1.B (bW c (aC c x.V x.In slot).1.B (bH c (aC c x.V x.In slot).1.V slot)) r.1 r.2 slot, x.Full || (aC c x.V x.In slot).2.2) := by
 have hx := rr c x.V x.In slot;obtain ⟨r, hr, hs⟩ := Ai (slot := slot) (head := bW c (aC c x.V x.In slot).1.B (bH c (aC c x.V x.In slot).1.V slot)) hm (w := (aC c x.V x.In slot).1) (by omega) (by omega);refine ⟨r, hr, hs, ?_⟩;unfold ma;rw [lu (by omega) (by omega) (by omega) (by omega), ob];simp only;rw [pU (by omega) (by omega), ob, hr, ob, show few (aC c x.V x.In slot).1.B = true from decide_eq_true (by omega), ct]
theorem Ap {x : Nd} {c : Cf} {slot : Int} (hm : cD c) (h1 : x.V.B.length ≤ 500) (h2 : x.V.V.length ≤ 500) (h3 : x.In.B.length ≤ 500) (h4 : x.In.V.length ≤ 500) :
  ∃ cu, ma x c slot = some ((aC c x.V x.In slot).1, (aC c x.V x.In slot).2.1, cu, x.Full || (aC c x.V x.In slot).2.2) :=
 have ⟨_, _, _, e⟩ := qb hm h1 h2 h3 h4
 ⟨_, e⟩
structure Ma (c : Cf) (n : Nd) (inp : Vw) (o : List Of) : Prop where
 n : mb 30 n
 inp : kF 30 inp
 len : o.length ≤ 10
 o : ∀ y ∈ o, kF 30 y.V
theorem wA {k : Int} (hk : k ≤ 1000) {l : List Of} (h : ∀ y ∈ l, kF k y.V) : ∀ y ∈ l, nV y := fun y hy => by
 obtain ⟨a, b⟩ := h y hy;exact ⟨by omega, by omega⟩
structure kE (c : Cf) (n : Nd) (inp : Vw) (o : List Of) : Prop where
 vw : n.V.B.length ≤ 500 ∧ n.V.V.length ≤ 500
 inw : n.In.B.length ≤ 1000 ∧ n.In.V.length ≤ 1000
 came : inp.B.length ≤ 2000 ∧ inp.V.length ≤ 2000
 ins : (aT n.In (a7 c inp)).B.length ≤ 500 ∧ (aT n.In (a7 c inp)).V.length ≤ 500
 len : n.O.length + o.length ≤ 1000
 offs : ∀ y ∈ n.O ++ o, y.V.B.length ≤ 500 ∧ y.V.V.length ≤ 500
theorem AC {n : Nd} (hl : n.O.length ≤ 1000) (hs : ∀ y ∈ n.O, nV y) : iter (iS n) bG (dF.mk 0 []) = some (dF.mk (n.O.length : Int) n.O) := by
 have e := aB (step := iS n) (n := n.O.length) (fun k => dF.mk (k : Int) (n.O.take k)) (dF.mk (n.O.length : Int) n.O) (fun k hk => by
  obtain ⟨y, hy, hm⟩ := aF hk
  have et : n.O.take (k + 1) = n.O.take k ++ [y] := by rw [List.take_add_one, hy]; rfl
  unfold iS;simp only
  rw [decide_eq_true (show (k : Int) < (n.O.length : Int) by omega), ct, aI hy, ob, pZ (hs y hm), ob, aO (by rw [List.length_take]; simp only [List.length_singleton]; omega) (by omega), ct, et, ak (n := k) (by omega)]) (by
  unfold iS;simp only
  rw [decide_eq_false (show ¬ (n.O.length : Int) < (n.O.length : Int) by omega), cf, List.take_length]) (by omega)
 exact e
def eo (c : Cf) (n : Nd) : Bool := decide (¬ cD c ∨ n.Tick < 3 ∨ IntKind.i64.wrap (n.Tick.tdiv 3) > 1048576)
theorem sF (c : Cf) (n : Nd) : ((ym c).bind fun v2 => bif !v2 then some true else bif decide (n.Tick < 3) then some true else some (decide ((IntKind.i64.wrap (n.Tick.tdiv 3)) > 1048576))) = some (eo c n) := by
 rw [kA, ob];unfold eo;by_cases h1 : cD c
 ·rw [decide_eq_true h1, Bool.not_true, cf];by_cases h2 : n.Tick < 3
  ·rw [decide_eq_true h2, ct, decide_eq_true (.inr (.inl h2))]
  ·rw [decide_eq_false h2, cf];by_cases h3 : IntKind.i64.wrap (n.Tick.tdiv 3) > 1048576
   ·rw [decide_eq_true h3, decide_eq_true (.inr (.inr h3))]
   ·rw [decide_eq_false h3, decide_eq_false];rintro (h | h | h)
    ·exact h h1
    ·exact h2 h
    ·exact h3 h
 ·rw [decide_eq_false h1, Bool.not_false, ct, decide_eq_true (.inl h1)]
theorem uH {c : Cf} {n : Nd} {inp : Vw} {o : List Of} (hf : kE c n inp o) (h : eo c n = true) : iR c n inp o = some (n, []) := by
 obtain ⟨⟨a1, a2⟩, ⟨b1, b2⟩, -, -, c1, c2⟩ := hf;unfold iR;rw [sF, ob, h, ct, pX (by omega) (by omega), ob, pX (by omega) (by omega), ob, AC (by omega) (fun y hy => by have := c2 y (List.mem_append_left _ hy); exact ⟨by omega, by omega⟩), ob]
def jL (c : Cf) (n : Nd) (inp : Vw) : Vw := aT n.In (a7 c inp)
def az (n : Nd) : Int := IntKind.i64.wrap (n.Tick.tdiv 3)
def fL (c : Cf) (n : Nd) (o : List Of) : List Of × Bool := jg n.Tick c (az n) n.Full (n.O ++ o)
def bN (c : Cf) (n : Nd) (inp : Vw) (o : List Of) : Nd := ⟨n.No, n.Tick, n.V, jL c n inp, [], n.C, (fL c n o).2⟩
theorem mY {c : Cf} {n : Nd} {inp : Vw} {o : List Of} (hf : kE c n inp o) (h : eo c n = false) : iR c n inp o =
  bif (n.Tick.tmod 3) == 0 then
   (nT (bN c n inp o) c (az n) []).bind fun v10 => some (Nd.mk n.No (IntKind.i64.wrap (n.Tick + 1)) v10.1 v10.2.1 (fL c n o).1 n.C v10.2.2.1, v10.2.2.2)
  else bif (n.Tick.tmod 3) == 1 then
   (ly (bN c n inp o) (fL c n o).1 c (az n)).bind fun v11 => some (Nd.mk n.No (IntKind.i64.wrap (n.Tick + 1)) v11.1 v11.2.1 [] n.C v11.2.2, [])
  else bif (n.Tick.tmod 3) == 2 then
   (ma (bN c n inp o) c (az n)).bind fun v12 => some (Nd.mk n.No (IntKind.i64.wrap (n.Tick + 1)) v12.1 v12.2.1 [] v12.2.2.1 v12.2.2.2, [])
  else none := by
 obtain ⟨⟨a1, a2⟩, ⟨b1, b2⟩, ⟨e1, e2⟩, -, g1, g2⟩ := hf;have h2 := DN c inp;unfold iR;rw [sF, ob, h, cf, Cn (by omega) (by omega), ob, iC (by omega) (by omega), ob];rw [Cr (by show n.O.length + o.length ≤ 1000; omega) (fun y hy => by have := g2 y hy; exact ⟨by omega, by omega⟩), ob];rfl
theorem xm {c : Cf} {n : Nd} {inp : Vw} {o : List Of} (hf : kE c n inp o) : (fL c n o).1.length ≤ 8 ∧ ∀ y ∈ (fL c n o).1, y.V.B.length ≤ 500 ∧ y.V.V.length ≤ 500 := by
 obtain ⟨h1, h2, -⟩ := gP n.Tick c (az n) n.Full (n.O ++ o);exact ⟨h1, fun y hy => hf.offs y (h2 y hy).1⟩
theorem B3 {c : Cf} {n : Nd} {inp : Vw} {o : List Of} (hf : kE c n inp o) (h : eo c n = false) (h0 : n.Tick.tmod 3 = 0) :
  iR c n inp o = some (Nd.mk n.No (IntKind.i64.wrap (n.Tick + 1)) (dj (bN c n inp o) c (az n)).1 (dj (bN c n inp o) c (az n)).2.1 (fL c n o).1 n.C (dj (bN c n inp o) c (az n)).2.2.1, (dj (bN c n inp o) c (az n)).2.2.2) := by
 have hi : (jL c n inp).B.length ≤ 500 ∧ (jL c n inp).V.length ≤ 500 := hf.ins;rw [mY hf h];obtain ⟨⟨a1, a2⟩, -⟩ := hf;rw [beq_iff_eq.2 h0, ct, Ak (by show n.V.B.length ≤ 500; omega) (by show n.V.V.length ≤ 500; omega) (by show (jL c n inp).B.length ≤ 500; omega) (by show (jL c n inp).V.length ≤ 500; omega), ob]
theorem B4 {c : Cf} {n : Nd} {inp : Vw} {o : List Of} (hf : kE c n inp o) (h : eo c n = false) (h1 : n.Tick.tmod 3 = 1) :
  iR c n inp o = some (Nd.mk n.No (IntKind.i64.wrap (n.Tick + 1)) (dY (bN c n inp o) (fL c n o).1 c (az n)).1 (dY (bN c n inp o) (fL c n o).1 c (az n)).2.1 [] n.C (dY (bN c n inp o) (fL c n o).1 c (az n)).2.2, []) := by
 have hi : (jL c n inp).B.length ≤ 500 ∧ (jL c n inp).V.length ≤ 500 := hf.ins;obtain ⟨hr1, hr2⟩ := xm hf;rw [mY hf h];obtain ⟨⟨a1, a2⟩, -⟩ := hf;rw [show ((n.Tick.tmod 3) == 0) = false by rw [h1]; rfl, cf, beq_iff_eq.2 h1, ct, wU (by show n.V.B.length ≤ 500; omega) (by show n.V.V.length ≤ 500; omega) (by show (jL c n inp).B.length ≤ 500; omega) (by show (jL c n inp).V.length ≤ 500; omega) hr1 hr2, ob]
theorem B5 {c : Cf} {n : Nd} {inp : Vw} {o : List Of} (hf : kE c n inp o) (h : eo c n = false) (h2 : n.Tick.tmod 3 = 2) :
  ∃ cu, iR c n inp o = some (Nd.mk n.No (IntKind.i64.wrap (n.Tick + 1)) (aC c n.V (jL c n inp) (az n)).1 (aC c n.V (jL c n inp) (az n)).2.1 [] cu ((fL c n o).2 || (aC c n.V (jL c n inp) (az n)).2.2), []) := by
 have hi : (jL c n inp).B.length ≤ 500 ∧ (jL c n inp).V.length ≤ 500 := hf.ins
 have hm : cD c := by
  have := of_decide_eq_false h;exact Decidable.not_not.1 fun h => this (.inl h)
 rw [mY hf h];obtain ⟨⟨a1, a2⟩, -⟩ := hf;obtain ⟨cu, e⟩ := Ap (x := bN c n inp o) (slot := az n) hm (by show n.V.B.length ≤ 500; omega) (by show n.V.V.length ≤ 500; omega) (by show (jL c n inp).B.length ≤ 500; omega) (by show (jL c n inp).V.length ≤ 500; omega);rw [show ((n.Tick.tmod 3) == 0) = false by rw [h2]; rfl, cf, show ((n.Tick.tmod 3) == 1) = false by rw [h2]; rfl, cf, beq_iff_eq.2 h2, ct, e, ob];exact ⟨cu, rfl⟩
theorem D1 {n : Nd} {c : Cf} (h : eo c n = false) : n.Tick.tmod 3 = 0 ∨ n.Tick.tmod 3 = 1 ∨ n.Tick.tmod 3 = 2 := by
 have h3 : ¬ n.Tick < 3 := fun h2 => (of_decide_eq_false h) (.inr (.inl h2));rw [Int.tmod_eq_emod_of_nonneg (by omega)];omega
theorem mz {b : Bk} {n : Nd} : b ∈ (bX n).B ↔ b ∈ n.V.B ∨ b ∈ n.In.B := ft b _ _
theorem mA {v : Vt} {n : Nd} : v ∈ (bX n).V ↔ v ∈ n.V.V ∨ v ∈ n.In.V := ft v _ _
theorem gt {b : Bk} {x y : Vw} : b ∈ (aT x y).B ↔ b ∈ x.B ∨ b ∈ y.B := ft b _ _
theorem fq {v : Vt} {x y : Vw} : v ∈ (aT x y).V ↔ v ∈ x.V ∨ v ∈ y.V := ft v _ _
theorem rj {n : Nd} (h1 : 3 ≤ n.Tick) (h2 : n.Tick ≤ 1000000) : az n = n.Tick / 3 ∧ 1 ≤ az n ∧ az n ≤ 333333 := by
 unfold az;rw [Int.tdiv_eq_ediv_of_nonneg (by omega), cA (by omega) (by omega)];omega
theorem Fb {c : Cf} {n : Nd} (hm : cD c) (h1 : 3 ≤ n.Tick) (h2 : n.Tick ≤ 1000000) : eo c n = false := by
 have := rj h1 h2;unfold az at this;refine decide_eq_false ?_;rintro (h | h | h)
 ·exact h hm
 ·omega
 ·omega
def kb (c : Cf) (v w : Vw) : Prop := ei c w ∧ w.B.take v.B.length = v.B ∧ w.V.take v.V.length = v.V
theorem mu {c : Cf} {v : Vw} (h : ei c v) : kb c v v := ⟨h, List.take_length, List.take_length⟩
theorem wG {α : Type} {a b d : List α} (h1 : b.take a.length = a) (h2 : d.take b.length = b) : d.take a.length = a := by
 have hl := congrArg List.length h1;rw [List.length_take] at hl
 have e : d.take a.length = (d.take b.length).take a.length := by
  rw [List.take_take];congr 1;omega
 rw [e, h2, h1]
theorem ph {c : Cf} {u v w : Vw} (h1 : kb c u v) (h2 : kb c v w) : kb c u w := ⟨h2.1, wG h1.2.1 h2.2.1, wG h1.2.2 h2.2.2⟩
theorem dk {c : Cf} {v : Vw} (h : ei c v) (i : Vw) (s : Int) : kb c v (aC c v i s).1 := by
 have ht := rR h i s;obtain ⟨h1, h2⟩ := Bh ht;exact ⟨ht.may, h1, h2⟩
theorem vR {x : Nd} {c : Cf} {slot : Int} (h : ei c x.V) : kb c x.V (dj x c slot).1 := by
 unfold dj;split
 ·exact ph (dk h _ _) (dk (dk h _ _).1 _ _)
 ·exact mu h
theorem mt {c : Cf} {slot : Int} : ∀ (o : List Of) (s : Vw × Vw × Bool), ei c s.1 → kb c s.1 (o.foldl (fB c slot) s).1
 | [], s, h => mu h
 | y :: r, s, h => by
  rw [List.foldl_cons];have h1 : kb c s.1 (fB c slot s y).1 := dk h _ _;exact ph h1 (mt r _ h1.1)
theorem tQ {x : Nd} {o : List Of} {c : Cf} {slot : Int} (h : ei c x.V) : kb c x.V (dY x o c slot).1 := by
 unfold dY;split
 ·exact mt o _ h
 ·exact mt o _ h
noncomputable def b8 (c : Cf) (n : Nd) (inp : Vw) (o : List Of) : Nd × List Of := (iR c n inp o).getD (n, [])
theorem ta {c : Cf} {n : Nd} {inp : Vw} {o : List Of} (hf : kE c n inp o) (h : eo c n = true) : iR c n inp o = some (b8 c n inp o) ∧ b8 c n inp o = (n, []) := by
 have e := uH hf h;unfold b8;rw [e];exact ⟨rfl, rfl⟩
theorem jp {c : Cf} {n : Nd} {inp : Vw} {o : List Of} (hf : kE c n inp o) : iR c n inp o = some (b8 c n inp o) ∧
    ((eo c n = true ∧ b8 c n inp o = (n, [])) ∨
     (eo c n = false ∧ n.Tick.tmod 3 = 0 ∧ b8 c n inp o = (Nd.mk n.No (IntKind.i64.wrap (n.Tick + 1)) (dj (bN c n inp o) c (az n)).1 (dj (bN c n inp o) c (az n)).2.1 (fL c n o).1 n.C (dj (bN c n inp o) c (az n)).2.2.1, (dj (bN c n inp o) c (az n)).2.2.2)) ∨
     (eo c n = false ∧ n.Tick.tmod 3 = 1 ∧ b8 c n inp o = (Nd.mk n.No (IntKind.i64.wrap (n.Tick + 1)) (dY (bN c n inp o) (fL c n o).1 c (az n)).1 (dY (bN c n inp o) (fL c n o).1 c (az n)).2.1 [] n.C (dY (bN c n inp o) (fL c n o).1 c (az n)).2.2, [])) ∨
     (eo c n = false ∧ n.Tick.tmod 3 = 2 ∧ ∃ cu, b8 c n inp o = (Nd.mk n.No (IntKind.i64.wrap (n.Tick + 1)) (aC c n.V (jL c n inp) (az n)).1 (aC c n.V (jL c n inp) (az n)).2.1 [] cu ((fL c n o).2 || (aC c n.V (jL c n inp) (az n)).2.2), []))) := by
  cases hid : eo c n with
  | true => exact ⟨(ta hf hid).1, .inl ⟨rfl, (ta hf hid).2⟩⟩
  | false =>
    rcases D1 hid with h | h | h
    · have e := B3 hf hid h;unfold b8;rw [e];exact ⟨rfl, .inr (.inl ⟨rfl, h, rfl⟩)⟩
    · have e := B4 hf hid h;unfold b8;rw [e];exact ⟨rfl, .inr (.inr (.inl ⟨rfl, h, rfl⟩))⟩
    · obtain ⟨cu, e⟩ := B5 hf hid h;unfold b8;rw [e];exact ⟨rfl, .inr (.inr (.inr ⟨rfl, h, cu, rfl⟩))⟩
def eS (P : Bk → Prop) (Q : Vt → Prop) (v : Vw) : Prop := (∀ b ∈ v.B, P b) ∧ ∀ x ∈ v.V, Q x
def lN (P : Bk → Prop) (Q : Vt → Prop) (o : Of) : Prop := P o.B ∧ eS P Q o.V
def rG (P : Bk → Prop) (Q : Vt → Prop) (n : Nd) : Prop := eS P Q n.V ∧ eS P Q n.In ∧ ∀ o ∈ n.O, lN P Q o
section
variable {P : Bk → Prop} {Q : Vt → Prop}
theorem qh : eS P Q ⟨[], []⟩ := ⟨fun b hb => (by cases hb), fun x hx => (by cases hx)⟩
theorem eJ {a b : Vw} (h1 : eS P Q a) (h2 : eS P Q b) : eS P Q (aT a b) := ⟨fun x hx => (gt.1 hx).elim (h1.1 x) (h2.1 x), fun x hx => (fq.1 hx).elim (h1.2 x) (h2.2 x)⟩
theorem si {c : Cf} {a : Vw} (h : eS P Q a) : eS P Q (a7 c a) := ⟨fun x hx => h.1 x (List.mem_filter.1 hx).1, fun x hx => h.2 x (List.mem_filter.1 hx).1⟩
theorem lC (c : Cf) {w i : Vw} (s : Int) (h1 : eS P Q w) (h2 : eS P Q i) : eS P Q (aC c w i s).1 ∧ eS P Q (aC c w i s).2.1 := by
 by_cases h : ei c w
 ·have ht := rR h i s;obtain ⟨t, e, h3⟩ := ht.preB;obtain ⟨u, e2, h4⟩ := ht.preV;refine ⟨⟨fun b hb => ?_, fun v hv => ?_⟩, fun b hb => h2.1 b (List.mem_filter.1 (ht.subB.subset hb)).1, fun v hv => h2.2 v (List.mem_filter.1 (ht.subV.subset hv)).1⟩
  ·rw [e] at hb;rcases List.mem_append.1 hb with hb | hb
   ·exact h1.1 b hb
   ·exact h2.1 b (List.mem_filter.1 (h3 b hb).1).1
  ·rw [e2] at hv;rcases List.mem_append.1 hv with hv | hv
   ·exact h1.2 v hv
   ·exact h2.2 v (List.mem_filter.1 (h4 v hv).1).1
 ·have e : aC c w i s = (w, i, false) := by unfold aC; rw [if_neg h]
  rw [e];exact ⟨h1, h2⟩
theorem sh (c : Cf) (s : Int) : ∀ (o : List Of) (x : Vw × Vw × Bool), (∀ y ∈ o, lN P Q y) → eS P Q x.1 → eS P Q x.2.1 → eS P Q (o.foldl (fB c s) x).1 ∧ eS P Q (o.foldl (fB c s) x).2.1
 | [], x, _, h1, h2 => ⟨h1, h2⟩
 | y :: r, x, h, h1, h2 => by
  rw [List.foldl_cons];have hy := h y (List.mem_cons_self ..);obtain ⟨a1, a2⟩ := lC c (i := aT y.V ⟨[y.B], []⟩) s h1 (eJ hy.2 ⟨fun b hb => by rw [List.mem_singleton.1 hb]; exact hy.1, fun x hx => (by cases hx)⟩);exact sh c s r _ (fun z hz => h z (List.mem_cons_of_mem _ hz)) a1 (eJ h2 a2)
noncomputable def te (c : Cf) (n : Nd) (inp : Vw) (o : List Of) : Vt := ⟨n.No, az n, bW c (bf (bN c n inp o) (fL c n o).1 c (az n)).1.B (bH c (bf (bN c n inp o) (fL c n o).1 c (az n)).1.V (IntKind.i64.wrap (az n - 1)))⟩
theorem wD {c : Cf} {n : Nd} {inp : Vw} {o : List Of} (hf : kE c n inp o) (hn : rG P Q n) (hi : eS P Q inp) (ho : ∀ y ∈ o, lN P Q y)
  (hp : eo c n = false → n.Tick.tmod 3 = 0 → n.No = mD c (az n) → P (kX (bN c n inp o) c (az n)))
  (hv : eo c n = false → n.Tick.tmod 3 = 1 → n.No ∈ fS c (az n) → Q (te c n inp o)) : rG P Q (b8 c n inp o).1 ∧ ∀ y ∈ (b8 c n inp o).2, lN P Q y := by
 obtain ⟨n1, n2, n3⟩ := id hn;have hin : eS P Q (jL c n inp) := eJ n2 (si hi)
 have hh : ∀ y ∈ (fL c n o).1, lN P Q y := fun y hy => by
  rcases List.mem_append.1 ((gP n.Tick c (az n) n.Full (n.O ++ o)).2.1 y hy).1 with h | h
  ·exact n3 y h
  ·exact ho y h
 rcases (jp hf).2 with ⟨-, e⟩ | ⟨hid, ht, e⟩ | ⟨hid, ht, e⟩ | ⟨hid, ht, cu, e⟩
 ·rw [e];exact ⟨hn, fun y hy => by cases hy⟩
 ·rw [e];by_cases h : n.No = mD c (az n)
  ·have hb := hp hid ht h;unfold dj;rw [if_pos (show (bN c n inp o).No = mD c (az n) from h)];obtain ⟨a1, a2⟩ := lC c (az n) n1 hin;have a3 := (lC c (i := ⟨[kX (bN c n inp o) c (az n)], []⟩) (az n) a1 ⟨fun b hb' => by rw [List.mem_singleton.1 hb']; exact hb, fun x hx => (by cases hx)⟩).1;refine ⟨⟨a3, a2, hh⟩, fun y hy => ?_⟩;rw [List.mem_singleton.1 hy];exact ⟨hb, a1⟩
  ·unfold dj;rw [if_neg (show (bN c n inp o).No ≠ mD c (az n) from h)];exact ⟨⟨n1, hin, hh⟩, fun y hy => by cases hy⟩
 ·rw [e];obtain ⟨a1, a2⟩ := sh c (az n) (fL c n o).1 (n.V, jL c n inp, (fL c n o).2) hh n1 hin;refine ⟨?_, fun y hy => by cases hy⟩;unfold dY;by_cases h : n.No ∈ fS c (az n)
  ·rw [if_pos (show (bN c n inp o).No ∈ fS c (az n) from h)];refine ⟨a1, eJ a2 ⟨fun b hb => (by cases hb), fun x hx => ?_⟩, fun y hy => by cases hy⟩;rw [List.mem_singleton.1 hx];exact hv hid ht h
  ·rw [if_neg (show (bN c n inp o).No ∉ fS c (az n) from h)];exact ⟨a1, a2, fun y hy => by cases hy⟩
 ·rw [e];obtain ⟨a1, a2⟩ := lC c (az n) n1 hin;exact ⟨⟨a1, a2, fun y hy => by cases hy⟩, fun y hy => by cases hy⟩
end
def wK (v : Vw) : Prop := v.B.Nodup ∧ v.V.Nodup
theorem kT {a b : Vw} (h : wK a) : wK (aT a b) := ⟨fQ h.1, fQ h.2⟩
theorem we {c : Cf} {a : Vw} (h : wK a) : wK (a7 c a) := ⟨h.1.sublist List.filter_sublist, h.2.sublist List.filter_sublist⟩
theorem wd {c : Cf} {w i : Vw} {s : Int} (hw : ei c w) (h : wK i) : wK (aC c w i s).2.1 := by
 have ht := rR hw i s;exact ⟨(we h).1.sublist ht.subB, (we h).2.sublist ht.subV⟩
theorem wc (c : Cf) (s : Int) : ∀ (o : List Of) (x : Vw × Vw × Bool), wK x.2.1 → wK (o.foldl (fB c s) x).2.1
 | [], x, h => h
 | y :: r, x, h => by
  rw [List.foldl_cons];exact wc c s r _ (kT h)
theorem lL {c : Cf} {n : Nd} {inp : Vw} {o : List Of} (hf : kE c n inp o) (hm : ei c n.V) (hd : wK n.In) (h8 : n.O.length ≤ 8) :
  (b8 c n inp o).1.No = n.No ∧ ((b8 c n inp o).1.Tick = if eo c n = true then n.Tick else IntKind.i64.wrap (n.Tick + 1)) ∧ kb c n.V (b8 c n inp o).1.V ∧ wK (b8 c n inp o).1.In ∧ (b8 c n inp o).1.O.length ≤ 8 ∧
   ((b8 c n inp o).2 ≠ [] → eo c n = false ∧ n.Tick.tmod 3 = 0 ∧ n.No = mD c (az n)) ∧ (b8 c n inp o).2.length ≤ 1 ∧ (∀ y ∈ (b8 c n inp o).1.O, y ∈ n.O ++ o) ∧ ∀ y ∈ (b8 c n inp o).2, ei c y.V := by
 have hdi : wK (jL c n inp) := kT hd;have hh := (gP n.Tick c (az n) n.Full (n.O ++ o)).1;have ho := fun y hy => ((gP n.Tick c (az n) n.Full (n.O ++ o)).2.1 y hy).1;rcases (jp hf).2 with ⟨hid, e⟩ | ⟨hid, ht, e⟩ | ⟨hid, ht, e⟩ | ⟨hid, ht, cu, e⟩
 ·rw [e, hid];exact ⟨rfl, rfl, mu hm, hd, h8, fun h => absurd Z h, by simp, fun y hy => List.mem_append_left _ hy, fun y hy => by cases hy⟩
 ·rw [e, hid];refine ⟨rfl, rfl, vR (x := bN c n inp o) hm, ?_, hh, ?_, ?_, ho, ?_⟩
  ·unfold dj;split
   ·exact wd hm hdi
   ·exact hdi
  ·unfold dj;split
   ·rename_i h;exact fun _ => ⟨rfl, ht, h⟩
   ·exact fun h => absurd Z h
  ·unfold dj;split <;> simp
  ·unfold dj;split
   ·intro y hy;rw [List.mem_singleton.1 hy];exact (dk hm _ _).1
   ·exact fun y hy => by cases hy
 ·rw [e, hid];refine ⟨rfl, rfl, tQ (x := bN c n inp o) hm, ?_, by simp, fun h => absurd Z h, by simp, fun y hy => (by cases hy), fun y hy => (by cases hy)⟩;have := wc c (az n) (fL c n o).1 (n.V, jL c n inp, (fL c n o).2) hdi;unfold dY;split
  ·exact kT this
  ·exact this
 ·rw [e, hid];exact ⟨rfl, rfl, dk hm _ _, wd hm hdi, by simp, fun h => absurd Z h, by simp, fun y hy => (by cases hy), fun y hy => (by cases hy)⟩
def HH (to at_ : Int) : Bool := (bits .and .i64 (to.fdiv (2 ^ (min (Int.toNat at_) IntKind.i64.bits))) 1) == 0
def lY (bad : List Int) (al : Vw) (a : Ac) : Vw := ⟨a.B.filter fun b => decide (b.From ∈ bad ∨ b ∈ al.B), a.V.filter fun v => decide (v.From ∈ bad ∨ v ∈ al.V)⟩
def cG (slot wh : Int) (bad : List Int) (al : Vw) (me : Bool) (at_ : Int) (s : Vw × List Of) (a : Ac) : Vw × List Of :=
 if HH a.To at_ = true then s
 else if a.Offer = false then (aT s.1 (lY bad al a), s.2)
 else if me = true then
  match (lY bad al a).B with
  | [] => s
  | b :: r => (s.1, s.2 ++ [⟨slot, wh, b, ⟨r, (lY bad al a).V⟩⟩])
 else s
def sV (w : Wd) : Int := IntKind.i64.wrap (w.Tick.tdiv 3)
def eG (w : Wd) (l : List Ac) : List Ac := l.filter fun a => decide (a.Tick = w.Tick ∧ a.To ≥ 0)
def cB (w : Wd) : Vw := gc w.N ⟨[], []⟩
def hZ (w : Wd) : Int := mD w.C (sV w)
def aD (w : Wd) (l : List Ac) (k : Nat) : Vw × List Of := (eG w l).foldl (cG (sV w) (hZ w) w.Bad (cB w) (decide (hZ w ∈ w.Bad)) (k : Int)) (cB w, w.O)
noncomputable def fY (w : Wd) (l : List Ac) : List (Nd × List Of) := w.N.zipIdx.map fun p => b8 w.C p.1 (aD w l p.2).1 (aD w l p.2).2
def pd (w : Wd) : Bool := decide (¬ cD w.C ∨ w.Tick < 3 ∨ w.Tick ≥ 3145728)
noncomputable def eV (w : Wd) (l : List Ac) : Wd := if pd w = true then w else ⟨w.C, w.Bad, IntKind.i64.wrap (w.Tick + 1), (fY w l).map (·.1), (fY w l).flatMap (·.2)⟩
structure rH (w : Wd) : Prop where
 n : w.N.length ≤ 10
 nodes : ∀ n ∈ w.N, mb 500 n
 o : w.O.length ≤ 20
 offs : ∀ o ∈ w.O, kF 500 o.V
 bad : w.Bad.length ≤ 100
structure lO (l : List Ac) : Prop where
 len : l.length ≤ 30
 each : ∀ a ∈ l, a.B.length ≤ 8 ∧ a.V.length ≤ 8
theorem p3 {v : Vw} (h1 : v.B.length ≤ 1000) (h2 : v.V.length ≤ 1000) : m0 v = some v := by
 unfold m0;rw [aO (by omega) (by omega), ct, aO (by omega) (by omega), ct]
theorem uO {l : List Of} (hl : l.length ≤ 1000) (hs : ∀ o ∈ l, nV o) : oY l = some l := by
 have e := aB (step := iY l) (n := l.length) (fun k => eh.mk (k : Int)) (eh.mk (l.length : Int)) (fun k hk => by
  obtain ⟨y, hy, hm⟩ := aF hk;have := hs y hm;unfold iY;simp only
  rw [decide_eq_true (show (k : Int) < (l.length : Int) by omega), ct, aI hy, ob, p3 this.1 this.2, ob, ob, ak (n := k) (by omega)]) (by
  unfold iY;simp only
  rw [decide_eq_false (show ¬ (l.length : Int) < (l.length : Int) by omega), cf]) (by omega)
 have e' : iter (iY l) bG (eh.mk 0) = _ := e;unfold oY;rw [aO (by omega) (by omega), ct, e', ob]
theorem Ci {w : Wd} (h : rH w) : oX w = some w := by
 have hN : w.N.length ≤ 10 := h.n
 have e := aB (step := iX w) (n := w.N.length) (fun k => eg.mk (k : Int)) (eg.mk (w.N.length : Int)) (fun k hk => by
  obtain ⟨y, hy, hm⟩ := aF hk;obtain ⟨⟨a1, a2⟩, ⟨b1, b2⟩, c1, c2⟩ := h.nodes y hm;unfold iX;simp only
  rw [decide_eq_true (show (k : Int) < (w.N.length : Int) by omega), ct, aI hy, ob, p3 (by omega) (by omega), ob, p3 (by omega) (by omega), ob, uO (by omega) (wA (by omega) c2), ob, ak (n := k) (by omega)]) (by
  unfold iX;simp only
  rw [decide_eq_false (show ¬ (w.N.length : Int) < (w.N.length : Int) by omega), cf]) (by omega)
 have e' : iter (iX w) bG (eg.mk 0) = _ := e;unfold oX;have := h.bad;have := h.o;rw [aO (by omega) (by omega), ct, aO (by omega) (by omega), ct, uO (by omega) (wA (by omega) h.offs), ob, e', ob]
theorem Cv {w : Wd} {al : Vw} (x : Bk) (hb : w.Bad.length ≤ 100) (hl : al.B.length ≤ 100000) : uY x w al = some (decide (x.From ∈ w.Bad ∨ x ∈ al.B)) := by
 unfold uY Al;rw [lc (by omega), ob, ob];by_cases h : x.From ∈ w.Bad
 ·rw [decide_eq_true h, ct, decide_eq_true (.inl h)]
 ·rw [decide_eq_false h, cf, yf hl, ob];by_cases h2 : x ∈ al.B
  ·rw [decide_eq_true h2, decide_eq_true (.inr h2)]
  ·rw [decide_eq_false h2, decide_eq_false fun h3 => h3.elim h h2]
theorem Cw {w : Wd} {al : Vw} (x : Vt) (hb : w.Bad.length ≤ 100) (hl : al.V.length ≤ 100000) : uZ x w al = some (decide (x.From ∈ w.Bad ∨ x ∈ al.V)) := by
 unfold uZ Al;rw [lc (by omega), ob, ob];by_cases h : x.From ∈ w.Bad
 ·rw [decide_eq_true h, ct, decide_eq_true (.inl h)]
 ·rw [decide_eq_false h, cf, yg hl, ob];by_cases h2 : x ∈ al.V
  ·rw [decide_eq_true h2, decide_eq_true (.inr h2)]
  ·rw [decide_eq_false h2, decide_eq_false fun h3 => h3.elim h h2]
theorem An {l : List Bk} {w : Wd} {al : Vw} (hl : l.length ≤ 100000) (hb : w.Bad.length ≤ 100) (ha : al.B.length ≤ 100000) : p9 l w al = some (l.filter fun x => decide (x.From ∈ w.Bad ∨ x ∈ al.B)) := by
 have e := aB (step := gm l w al) (n := l.length) (fun k => cV.mk (k : Int) ((l.take k).filter fun x => decide (x.From ∈ w.Bad ∨ x ∈ al.B))) (cV.mk (l.length : Int) (l.filter fun x => decide (x.From ∈ w.Bad ∨ x ∈ al.B))) (fun k hk => by
  obtain ⟨y, hy, -⟩ := aF hk;have hlen := dy (p := fun x : Bk => decide (x.From ∈ w.Bad ∨ x ∈ al.B)) (l := l) k;unfold gm;simp only;rw [decide_eq_true (show (k : Int) < (l.length : Int) by omega), ct, aI hy, ob, Cv y hb ha, ob, bP hy, ak (n := k) (by omega)]
  cases decide (y.From ∈ w.Bad ∨ y ∈ al.B) with
  | true => rw [ct, aO (by simp only [List.length_singleton]; omega) (by omega), ct, ct]
  | false => rw [cf, cf, List.append_nil]) (by
  unfold gm;simp only
  rw [decide_eq_false (show ¬ (l.length : Int) < (l.length : Int) by omega), cf, List.take_length]) (by omega)
 have e' : iter (gm l w al) bG (cV.mk 0 []) = _ := e;unfold p9;rw [e', ob]
theorem Ao {l : List Vt} {w : Wd} {al : Vw} (hl : l.length ≤ 100000) (hb : w.Bad.length ≤ 100) (ha : al.V.length ≤ 100000) : qa l w al = some (l.filter fun x => decide (x.From ∈ w.Bad ∨ x ∈ al.V)) := by
 have e := aB (step := gn l w al) (n := l.length) (fun k => cW.mk (k : Int) ((l.take k).filter fun x => decide (x.From ∈ w.Bad ∨ x ∈ al.V))) (cW.mk (l.length : Int) (l.filter fun x => decide (x.From ∈ w.Bad ∨ x ∈ al.V))) (fun k hk => by
  obtain ⟨y, hy, -⟩ := aF hk;have hlen := dy (p := fun x : Vt => decide (x.From ∈ w.Bad ∨ x ∈ al.V)) (l := l) k;unfold gn;simp only;rw [decide_eq_true (show (k : Int) < (l.length : Int) by omega), ct, aI hy, ob, Cw y hb ha, ob, bP hy, ak (n := k) (by omega)]
  cases decide (y.From ∈ w.Bad ∨ y ∈ al.V) with
  | true => rw [ct, aO (by simp only [List.length_singleton]; omega) (by omega), ct, ct]
  | false => rw [cf, cf, List.append_nil]) (by
  unfold gn;simp only
  rw [decide_eq_false (show ¬ (l.length : Int) < (l.length : Int) by omega), cf, List.take_length]) (by omega)
 have e' : iter (gn l w al) bG (cW.mk 0 []) = _ := e;unfold qa;rw [e', ob]
theorem Cp {a : Ac} {w : Wd} {al : Vw} (h1 : a.B.length ≤ 1000) (h2 : a.V.length ≤ 1000) (hb : w.Bad.length ≤ 100) (h3 : al.B.length ≤ 100000) (h4 : al.V.length ≤ 100000) : uT a w al = some (lY w.Bad al a) := by
 unfold uT;rw [An (by omega) hb h3, ob, Ao (by omega) hb h4, ob];rfl
theorem Am {l : List Ac} {w : Wd} (hl : l.length ≤ 100000) : p8 l w = some (eG w l) := by
 have e := aB (step := gl l w) (n := l.length) (fun k => cU.mk (k : Int) (eG w (l.take k))) (cU.mk (l.length : Int) (eG w l)) (fun k hk => by
  obtain ⟨y, hy, -⟩ := aF hk;have hlen := dy (p := fun a : Ac => decide (a.Tick = w.Tick ∧ a.To ≥ 0)) (l := l) k;unfold eG at hlen ⊢;unfold gl EZ;simp only;rw [decide_eq_true (show (k : Int) < (l.length : Int) by omega), ct, aI hy, ob, bP hy, ak (n := k) (by omega)];by_cases h1 : y.Tick = w.Tick
  ·rw [beq_iff_eq.2 h1, ct, ob];by_cases h2 : y.To ≥ 0
   ·rw [decide_eq_true h2, ct, decide_eq_true ⟨h1, h2⟩, ct, aO (by simp only [List.length_singleton]; omega) (by omega), ct]
   ·rw [decide_eq_false h2, cf, decide_eq_false fun h => h2 h.2, cf, List.append_nil]
  ·rw [show (y.Tick == w.Tick) = false by simp [h1], cf, ob, cf, decide_eq_false fun h => h1 h.1, cf, List.append_nil]) (by
  unfold gl;simp only
  rw [decide_eq_false (show ¬ (l.length : Int) < (l.length : Int) by omega), cf, List.take_length]) (by omega)
 have e' : iter (gl l w) bG (cU.mk 0 []) = _ := e;unfold p8;rw [e', ob]
theorem tz {w : Wd} (h : rH w) : (cB w).B.length ≤ 10000 ∧ (cB w).V.length ≤ 10000 := by
 have h1 := qg (l := w.N) (w := ⟨[], []⟩) (k := 500) h.nodes;have h2 := h.n;unfold cB;simp only [List.length_nil] at h1;omega
theorem Ct {w : Wd} {l : List Ac} (h : rH w) (hl : l.length ≤ 100000) : uX w l = some (cB w, hZ w, decide (hZ w ∈ w.Bad), eG w l) := by
 unfold uX;rw [rX (by have := h.n; omega) h.nodes, ob, tm, ob, lc (by have := h.bad; omega), ob, Am hl, ob];rfl
theorem qD (bad : List Int) (al : Vw) (a : Ac) : (lY bad al a).B.length ≤ a.B.length ∧ (lY bad al a).V.length ≤ a.V.length := ⟨List.length_filter_le _ _, List.length_filter_le _ _⟩
theorem xO {slot wh : Int} {bad : List Int} {al : Vw} {me : Bool} {k : Int} : ∀ {l : List Ac} {s : Vw × List Of}, (∀ a ∈ l, a.B.length ≤ 8 ∧ a.V.length ≤ 8) → (l.foldl (cG slot wh bad al me k) s).1.B.length ≤ s.1.B.length + 8 * l.length ∧ (l.foldl (cG slot wh bad al me k) s).1.V.length ≤ s.1.V.length + 8 * l.length ∧ (l.foldl (cG slot wh bad al me k) s).2.length ≤ s.2.length + l.length
 | [], s, _ => by simp
 | a :: r, s, h => by
  rw [List.foldl_cons, List.length_cons];obtain ⟨h1, h2⟩ := h a (List.mem_cons_self ..);have ih := xO (slot := slot) (wh := wh) (bad := bad) (al := al) (me := me) (k := k) (l := r) (s := cG slot wh bad al me k s a) fun b hb => h b (List.mem_cons_of_mem _ hb);have hf := qD bad al a;have hj := gr s.1 (lY bad al a)
  have : (cG slot wh bad al me k s a).1.B.length ≤ s.1.B.length + 8 ∧ (cG slot wh bad al me k s a).1.V.length ≤ s.1.V.length + 8 ∧ (cG slot wh bad al me k s a).2.length ≤ s.2.length + 1 := by
   unfold cG;split
   ·omega
   ·split
    ·simp only; omega
    ·split
     ·split
      ·omega
      ·simp only [List.length_append, List.length_singleton]; omega
     ·omega
  omega
theorem GS {w : Wd} {l : List Ac} (h : rH w) (hl : lO l) (k : Nat) : Iw w (cB w) (hZ w) (decide (hZ w ∈ w.Bad)) (eG w l) (k : Int) = some (aD w l k) := by
 have hal := tz h;have hcl : (eG w l).length ≤ 30 := Nat.le_trans (List.length_filter_le _ _) hl.len;have hce : ∀ a ∈ eG w l, a.B.length ≤ 8 ∧ a.V.length ≤ 8 := fun a ha => hl.each a (List.mem_filter.1 ha).1;unfold aD;generalize eG w l = cl at hcl hce;generalize hst : cG (sV w) (hZ w) w.Bad (cB w) (decide (hZ w ∈ w.Bad)) (k : Int) = st;have ho := h.o;have hb := h.bad
 have e := aB (step := nU w (cB w) (hZ w) (decide (hZ w ∈ w.Bad)) cl (k : Int)) (n := cl.length) (fun j => fp.mk (j : Int) ((cl.take j).foldl st (cB w, w.O)).1 ((cl.take j).foldl st (cB w, w.O)).2) (fp.mk (cl.length : Int) (cl.foldl st (cB w, w.O)).1 (cl.foldl st (cB w, w.O)).2) (fun j hj => by
  obtain ⟨y, hy, hm⟩ := aF hj
  have et : cl.take (j + 1) = cl.take j ++ [y] := by rw [List.take_add_one, hy]; rfl
  have hlen := xO (slot := sV w) (wh := hZ w) (bad := w.Bad) (al := cB w) (me := decide (hZ w ∈ w.Bad)) (k := (k : Int)) (l := cl.take j) (s := (cB w, w.O)) fun a ha => hce a (List.mem_of_mem_take ha);rw [hst, List.length_take] at hlen;obtain ⟨y1, y2⟩ := hce y hm;have hf := qD w.Bad (cB w) y;unfold nU;simp only;rw [et, List.foldl_append, List.foldl_cons, List.foldl_nil];generalize (cl.take j).foldl st (cB w, w.O) = s at hlen ⊢;simp only at hlen;rw [decide_eq_true (show (j : Int) < (cl.length : Int) by omega), ct, aI hy, ob, decide_eq_true (show (0 : Int) ≤ (k : Int) by omega), ct, ak (n := j) (by omega), ← hst];show (bif HH y.To (k : Int) then _ else _) = _;unfold cG
  cases hof : HH y.To (k : Int) with
  | true => rw [ct, if_pos rfl]
  | false =>
   rw [cf, if_neg (by simp), Cp (by omega) (by omega) hb (by omega) (by omega), ob]
   cases hoff : y.Offer with
   | false => rw [Bool.not_false, ct, if_pos rfl, iC (by omega) (by omega), ob]
   | true =>
    rw [Bool.not_true, cf, if_neg (by simp)]
    cases hme : decide (hZ w ∈ w.Bad) with
    | false => rw [cf, ob, cf, if_neg (by simp)]
    | true =>
     rw [ct, ob, if_pos rfl]
     cases hB : (lY w.Bad (cB w) y).B with
     | nil => rfl
     | cons b r =>
      rw [decide_eq_true (by simp), ct];show (bif HZ (b :: r) 1 (b :: r).length then _ else none) = _;rw [show HZ (b :: r) 1 ((b :: r).length : Int) = true from decide_eq_true (by simp only [List.length_cons]; omega), ct, aO (by simp only [List.length_singleton]; omega) (by omega), ct]
      rfl) (by
  unfold nU;simp only
  rw [decide_eq_false (show ¬ (cl.length : Int) < (cl.length : Int) by omega), cf, List.take_length]) (by omega)
 have e' : iter (nU w (cB w) (hZ w) (decide (hZ w ∈ w.Bad)) cl (k : Int)) bG (fp.mk 0 (cB w) w.O) = _ := e;unfold Iw;rw [aO (by omega) (by omega), ct, e', ob]
theorem jq {w : Wd} {l : List Ac} {k : Nat} {n : Nd} (h : w.N[k]? = some n) : (fY w l)[k]? = some (b8 w.C n (aD w l k).1 (aD w l k).2) := by
 unfold fY;rw [List.getElem?_map, List.getElem?_zipIdx, h];simp
theorem gv (w : Wd) (l : List Ac) : (fY w l).length = w.N.length := by
 unfold fY;rw [List.length_map, List.length_zipIdx]
theorem xn (w : Wd) : ((ym w.C).bind fun v2 => bif !v2 then some true else bif decide (w.Tick < 3) then some true else some (decide (w.Tick ≥ 3145728))) = some (pd w) := by
 rw [kA, ob];unfold pd;by_cases h1 : cD w.C
 ·rw [decide_eq_true h1, Bool.not_true, cf];by_cases h2 : w.Tick < 3
  ·rw [decide_eq_true h2, ct, decide_eq_true (.inr (.inl h2))]
  ·rw [decide_eq_false h2, cf];by_cases h3 : w.Tick ≥ 3145728
   ·rw [decide_eq_true h3, decide_eq_true (.inr (.inr h3))]
   ·rw [decide_eq_false h3, decide_eq_false];rintro (h | h | h)
    ·exact h h1
    ·exact h2 h
    ·exact h3 h
 ·rw [decide_eq_false h1, Bool.not_false, ct, decide_eq_true (.inl h1)]
theorem Cc {w : Wd} {l : List Ac} (h : rH w) (hl : lO l) (hG : ∀ k n, w.N[k]? = some n → kE w.C n (aD w l k).1 (aD w l k).2) (hT : ∀ k n, w.N[k]? = some n → (b8 w.C n (aD w l k).1 (aD w l k).2).2.length ≤ 1) : oW w l = some (eV w l) := by
 have hN := h.n;unfold oW eV;rw [xn, ob]
 cases hi : pd w with
 | true => rw [ct, Ci h, ob, if_pos rfl]
 | false =>
  have hsl := gv w l
  have hfl : ∀ k, k ≤ w.N.length → (((fY w l).take k).flatMap (·.2)).length ≤ k := by
   intro k
   induction k with
   | zero => intro _; simp
   | succ k ih =>
    intro hk;obtain ⟨n, hn⟩ : ∃ n, w.N[k]? = some n := ⟨_, List.getElem?_eq_getElem (by omega)⟩;rw [List.take_add_one, jq hn, List.flatMap_append, List.length_append];have := ih (by omega);have := hT k n hn;simp only [Option.toList_some, List.flatMap_cons, List.flatMap_nil, List.append_nil];omega
  have e := aB (step := iW w (cB w, hZ w, decide (hZ w ∈ w.Bad), eG w l)) (n := w.N.length) (fun k => ed.mk (k : Int) (((fY w l).take k).map (·.1)) (((fY w l).take k).flatMap (·.2))) (ed.mk (w.N.length : Int) ((fY w l).map (·.1)) ((fY w l).flatMap (·.2))) (fun k hk => by
   obtain ⟨y, hy, hm⟩ := aF hk;have hk2 := hfl k (by omega);have hT1 := hT k y hy;have hw := (jp (hG k y hy)).1;unfold iW;simp only;rw [decide_eq_true (show (k : Int) < (w.N.length : Int) by omega), ct, GS h hl k, ob, aI hy, ob, hw, ob, aO (by rw [List.length_map, List.length_take]; simp only [List.length_singleton]; omega) (by omega), ct, aO (by omega) (by omega), ct, ak (n := k) (by omega)];rw [List.take_add_one, jq hy, List.map_append, List.flatMap_append]
   simp) (by
   unfold iW;simp only
   rw [decide_eq_false (show ¬ (w.N.length : Int) < (w.N.length : Int) by omega), cf, List.take_of_length_le (by omega)]) (by omega)
  have e' : iter (iW w (cB w, hZ w, decide (hZ w ∈ w.Bad), eG w l)) bG (ed.mk 0 [] []) = _ := e;have := h.bad;rw [cf, Ct h (by have := hl.len; omega), ob, aO (by omega) (by omega), ct, e', ob, if_neg (by simp)]
def HY (o : Of) : Prop := o.V.B.length ≤ 60 ∧ o.V.V.length ≤ 240
structure K7 (c : Cf) (U : Vw) (n : Nd) : Prop where
 may : ei c n.V
 nd : wK n.In
 few : n.O.length ≤ 8
 all : rG (· ∈ U.B) (· ∈ U.V) n
 sz : ∀ o ∈ n.O, HY o
structure yq (U : Vw) (w : Wd) : Prop where
 len : w.N.length ≤ 6
 bad : w.Bad.length ≤ 10
 nodes : ∀ n ∈ w.N, K7 w.C U n
 told : w.O.length ≤ 6
 offs : ∀ o ∈ w.O, lN (· ∈ U.B) (· ∈ U.V) o ∧ HY o
def ir (l : List Ac) : Vw := ⟨l.flatMap Ac.B, l.flatMap Ac.V⟩
def ej (a b : Vw) : Prop := (∀ x ∈ a.B, x ∈ b.B) ∧ ∀ x ∈ a.V, x ∈ b.V
theorem e8 (a : Vw) : ej a a := ⟨fun _ h => h, fun _ h => h⟩
theorem gw {a b d : Vw} (h1 : ej a b) (h2 : ej b d) : ej a d := ⟨fun x h => h2.1 x (h1.1 x h), fun x h => h2.2 x (h1.2 x h)⟩
theorem lA {P P' : Bk → Prop} {Q Q' : Vt → Prop} (hP : ∀ b, P b → P' b) (hQ : ∀ v, Q v → Q' v) {n : Nd} (h : rG P Q n) : rG P' Q' n :=
 ⟨⟨fun b hb => hP b (h.1.1 b hb), fun v hv => hQ v (h.1.2 v hv)⟩, ⟨fun b hb => hP b (h.2.1.1 b hb), fun v hv => hQ v (h.2.1.2 v hv)⟩, fun o ho => ⟨hP _ (h.2.2 o ho).1, fun b hb => hP b ((h.2.2 o ho).2.1 b hb), fun v hv => hQ v ((h.2.2 o ho).2.2 v hv)⟩⟩
theorem nY {P P' : Bk → Prop} {Q Q' : Vt → Prop} (hP : ∀ b, P b → P' b) (hQ : ∀ v, Q v → Q' v) {o : Of} (h : lN P Q o) : lN P' Q' o :=
 ⟨hP _ h.1, fun b hb => hP b (h.2.1 b hb), fun v hv => hQ v (h.2.2 v hv)⟩
theorem DI {c : Cf} {U U' : Vw} (h : ej U U') {n : Nd} (hn : K7 c U n) : K7 c U' n := ⟨hn.may, hn.nd, hn.few, lA h.1 h.2 hn.all, hn.sz⟩
theorem Eh {U U' : Vw} (h : ej U U') {w : Wd} (hw : yq U w) : yq U' w := ⟨hw.len, hw.bad, fun n hn => DI h (hw.nodes n hn), hw.told, fun o ho => ⟨nY h.1 h.2 (hw.offs o ho).1, (hw.offs o ho).2⟩⟩
section
variable {P : Bk → Prop} {Q : Vt → Prop}
theorem yt : ∀ {l : List Nd} {w : Vw}, eS P Q w → (∀ n ∈ l, rG P Q n) → eS P Q (gc l w)
 | [], w, h, _ => h
 | n :: r, w, h, hs => by
  have hn := hs n (List.mem_cons_self ..);exact yt (l := r) (w := aT w (bX n)) (eJ h (eJ hn.1 hn.2.1)) fun m hm => hs m (List.mem_cons_of_mem _ hm)
theorem Ax {bad : List Int} {al : Vw} {a : Ac} (hal : eS P Q al) (hB : ∀ b ∈ a.B, b.From ∈ bad → P b) (hV : ∀ v ∈ a.V, v.From ∈ bad → Q v) : eS P Q (lY bad al a) := by
 refine ⟨fun b hb => ?_, fun v hv => ?_⟩
 ·obtain ⟨h1, h2⟩ := List.mem_filter.1 hb;rcases of_decide_eq_true h2 with h | h
  ·exact hB b h1 h
  ·exact hal.1 b h
 ·obtain ⟨h1, h2⟩ := List.mem_filter.1 hv;rcases of_decide_eq_true h2 with h | h
  ·exact hV v h1 h
  ·exact hal.2 v h
theorem D3 {slot wh : Int} {bad : List Int} {al : Vw} {me : Bool} {k : Int} (hal : eS P Q al) : ∀ {l : List Ac} {s : Vw × List Of}, (∀ a ∈ l, (∀ b ∈ a.B, b.From ∈ bad → P b) ∧ ∀ v ∈ a.V, v.From ∈ bad → Q v) → eS P Q s.1 → (∀ o ∈ s.2, lN P Q o) → eS P Q (l.foldl (cG slot wh bad al me k) s).1 ∧ ∀ o ∈ (l.foldl (cG slot wh bad al me k) s).2, lN P Q o
 | [], s, _, h1, h2 => ⟨h1, h2⟩
 | a :: r, s, h, h1, h2 => by
  rw [List.foldl_cons];have hf := Ax hal (h a (List.mem_cons_self ..)).1 (h a (List.mem_cons_self ..)).2
  have : eS P Q (cG slot wh bad al me k s a).1 ∧ ∀ o ∈ (cG slot wh bad al me k s a).2, lN P Q o := by
   unfold cG;split
   ·exact ⟨h1, h2⟩
   ·split
    ·exact ⟨eJ h1 hf, h2⟩
    ·split
     ·split
      ·exact ⟨h1, h2⟩
      ·rename_i b q hB;refine ⟨h1, fun o ho => ?_⟩;rcases List.mem_append.1 ho with ho | ho
       ·exact h2 o ho
       ·rw [List.mem_singleton.1 ho];exact ⟨hf.1 b (by rw [hB]; exact List.mem_cons_self ..), fun x hx => hf.1 x (by rw [hB]; exact List.mem_cons_of_mem _ hx), hf.2⟩
     ·exact ⟨h1, h2⟩
  exact D3 hal (fun b hb => h b (List.mem_cons_of_mem _ hb)) this.1 this.2
theorem Gu {slot wh : Int} {bad : List Int} {al : Vw} {me : Bool} {k : Int} : ∀ {l : List Ac} {s : Vw × List Of}, wK s.1 → wK (l.foldl (cG slot wh bad al me k) s).1
 | [], s, h => h
 | a :: r, s, h => by
  rw [List.foldl_cons];refine Gu ?_;unfold cG;split
  ·exact h
  ·split
   ·exact kT h
   ·split
    ·split <;> exact h
    ·exact h
theorem Gv {slot wh : Int} {bad : List Int} {al : Vw} {me : Bool} {k : Int} : ∀ {l : List Ac} {s : Vw × List Of}, (∀ a ∈ l, a.B.length ≤ 8 ∧ a.V.length ≤ 8) → (∀ o ∈ s.2, HY o) → ∀ o ∈ (l.foldl (cG slot wh bad al me k) s).2, HY o
 | [], s, _, h => h
 | a :: r, s, hl, h => by
  rw [List.foldl_cons];refine Gv (fun b hb => hl b (List.mem_cons_of_mem _ hb)) ?_;have hf := qD bad al a;have ha := hl a (List.mem_cons_self ..);unfold cG;split
  ·exact h
  ·split
   ·exact h
   ·split
    ·split
     ·exact h
     ·rename_i b q hB;intro o ho;rcases List.mem_append.1 ho with ho | ho
      ·exact h o ho
      ·rw [List.mem_singleton.1 ho];have := congrArg List.length hB;rw [List.length_cons] at this;exact ⟨show q.length ≤ 60 by omega, show (lY bad al a).V.length ≤ 240 by omega⟩
    ·exact h
end
def FU (U : Vw) : Prop := U.B.length ≤ 400 ∧ U.V.length ≤ 400
theorem zP {U : Vw} {w : Wd} (hw : yq U w) (hU : FU U) : rH w := by
 refine ⟨by have := hw.len; omega, fun n hn => ?_, by have := hw.told; omega, fun o ho => ?_, by have := hw.bad; omega⟩
 ·have h := hw.nodes n hn;have h1 := h.may.lenB;have h2 := h.may.lenV;have h3 := dW h.nd.1 h.all.2.1.1;have h4 := dW h.nd.2 h.all.2.1.2;have h5 := h.few;obtain ⟨u1, u2⟩ := hU;exact ⟨⟨by omega, by omega⟩, ⟨by omega, by omega⟩, by omega, fun o ho => by have := h.sz o ho; exact ⟨by have := this.1; omega, by have := this.2; omega⟩⟩
 ·have := (hw.offs o ho).2;exact ⟨by have := this.1; omega, by have := this.2; omega⟩
theorem qu {P : Bk → Prop} {Q : Vt → Prop} {w : Wd} {l : List Ac} (hn : ∀ n ∈ w.N, rG P Q n) (ho : ∀ o ∈ w.O, lN P Q o) (ha : ∀ a ∈ l, (∀ b ∈ a.B, b.From ∈ w.Bad → P b) ∧ ∀ v ∈ a.V, v.From ∈ w.Bad → Q v) (k : Nat) :
  eS P Q (aD w l k).1 ∧ ∀ o ∈ (aD w l k).2, lN P Q o := by
 have hal : eS P Q (cB w) := yt qh hn;exact D3 hal (fun a h => ha a (List.mem_filter.1 h).1) hal ho
theorem Fm (w : Wd) (l : List Ac) (k : Nat) : wK (aD w l k).1 := Gu (sj List.nodup_nil List.nodup_nil)
theorem CZ {w : Wd} {l : List Ac} (hl : lO l) (k : Nat) : (aD w l k).2.length ≤ w.O.length + 30 := by
 have h := (xO (slot := sV w) (wh := hZ w) (bad := w.Bad) (al := cB w) (me := decide (hZ w ∈ w.Bad)) (k := (k : Int)) (l := eG w l) (s := (cB w, w.O)) fun a ha => hl.each a (List.mem_filter.1 ha).1).2.2;have h2 : (eG w l).length ≤ l.length := List.length_filter_le _ _;have h3 := hl.len;unfold aD;simp only at h;omega
theorem yx {U : Vw} {w : Wd} {l : List Ac} (hw : yq U w) (hl : lO l) (k : Nat) : ∀ o ∈ (aD w l k).2, HY o := Gv (fun a ha => hl.each a (List.mem_filter.1 ha).1) fun o ho => (hw.offs o ho).2
theorem yr {l : List Ac} {U : Vw} (hs : ej (ir l) U) (bad : List Int) : ∀ a ∈ l, (∀ b ∈ a.B, b.From ∈ bad → b ∈ U.B) ∧ ∀ v ∈ a.V, v.From ∈ bad → v ∈ U.V :=
 fun a ha => ⟨fun b hb _ => hs.1 b (List.mem_flatMap.2 ⟨a, ha, hb⟩), fun v hv _ => hs.2 v (List.mem_flatMap.2 ⟨a, ha, hv⟩)⟩
theorem Fr {U : Vw} {w : Wd} {l : List Ac} (hw : yq U w) (hU : FU U) (hl : lO l) (hs : ej (ir l) U) {k : Nat} {n : Nd} (hk : w.N[k]? = some n) : kE w.C n (aD w l k).1 (aD w l k).2 := by
 have hn := hw.nodes n (List.mem_of_getElem? hk);obtain ⟨u1, u2⟩ := hU;have hc := qu (fun n hn => (hw.nodes n hn).all) (fun o ho => (hw.offs o ho).1) (yr hs w.Bad) k;have hd := Fm w l k;have hi := dW hd.1 hc.1.1;have hi2 := dW hd.2 hc.1.2;have hj : wK (aT n.In (a7 w.C (aD w l k).1)) := kT hn.nd;have hja : eS (· ∈ U.B) (· ∈ U.V) (aT n.In (a7 w.C (aD w l k).1)) := eJ hn.all.2.1 (si hc.1);have h1 := hn.may.lenB;have h2 := hn.may.lenV;have h3 := dW hn.nd.1 hn.all.2.1.1;have h4 := dW hn.nd.2 hn.all.2.1.2;have h5 := dW hj.1 hja.1;have h6 := dW hj.2 hja.2;have h7 := CZ (w := w) hl k;have h8 := hw.told;have h9 := hn.few;refine ⟨by omega, by omega, by omega, by omega, by omega, fun y hy => ?_⟩
 have : HY y := by
  rcases List.mem_append.1 hy with hy | hy
  ·exact hn.sz y hy
  ·exact yx hw hl k y hy
 exact ⟨by have := this.1; omega, by have := this.2; omega⟩
noncomputable def J4 (w : Wd) (l : List Ac) : List Bk := w.N.zipIdx.map fun p => kX (bN w.C p.1 (aD w l p.2).1 (aD w l p.2).2) w.C (az p.1)
noncomputable def J5 (w : Wd) (l : List Ac) : List Vt := w.N.zipIdx.map fun p => te w.C p.1 (aD w l p.2).1 (aD w l p.2).2
noncomputable def l0 (U : Vw) (w : Wd) (l : List Ac) : Vw := ⟨U.B ++ J4 w l, U.V ++ J5 w l⟩
theorem fN (U : Vw) (w : Wd) (l : List Ac) : ej U (l0 U w l) := ⟨fun _ h => List.mem_append_left _ h, fun _ h => List.mem_append_left _ h⟩
theorem DK {U : Vw} {w : Wd} (hw : w.N.length ≤ 6) (l : List Ac) : (l0 U w l).B.length ≤ U.B.length + 6 ∧ (l0 U w l).V.length ≤ U.V.length + 6 := by
 unfold l0 J4 J5;simp only [List.length_append, List.length_map, List.length_zipIdx];omega
theorem zZ {w : Wd} {k : Nat} {n : Nd} (h : w.N[k]? = some n) : (n, k) ∈ w.N.zipIdx := by
 refine List.mem_of_getElem? (i := k) ?_;rw [List.getElem?_zipIdx, h];simp
theorem lF {w : Wd} {l : List Ac} (hi : pd w = false) {k : Nat} : ((eV w l).N[k]? = (w.N[k]?).map fun n => (b8 w.C n (aD w l k).1 (aD w l k).2).1) := by
 unfold eV;rw [if_neg (by simp [hi])];simp only;rw [List.getElem?_map]
 cases h : w.N[k]? with
 | none =>
  have := List.getElem?_eq_none_iff.1 h;rw [List.getElem?_eq_none (by rw [gv]; exact this)];rfl
 | some n => rw [jq h]; rfl
theorem yy {w : Wd} {l : List Ac} (hi : pd w = false) {o : Of} (ho : o ∈ (eV w l).O) : ∃ k n, w.N[k]? = some n ∧ o ∈ (b8 w.C n (aD w l k).1 (aD w l k).2).2 := by
 unfold eV at ho;rw [if_neg (by simp [hi])] at ho;obtain ⟨p, hp, h⟩ := List.mem_flatMap.1 ho;obtain ⟨k, hk, e⟩ := List.getElem_of_mem hp;rw [gv] at hk;obtain ⟨n, hn⟩ : ∃ n, w.N[k]? = some n := ⟨_, List.getElem?_eq_getElem hk⟩;refine ⟨k, n, hn, ?_⟩;have h1 := jq (l := l) hn;rw [List.getElem?_eq_getElem (by rw [gv]; exact hk), e] at h1;rw [← Option.some.inj h1];exact h
theorem C2 (w : Wd) (l : List Ac) : (eV w l).N.length = w.N.length := by
 unfold eV;split
 ·rfl
 ·simp only [List.length_map, gv]
theorem Gi {U : Vw} {w : Wd} {l : List Ac} (hw : yq U w) (hU : FU U) (hl : lO l) (hs : ej (ir l) U) : oW w l = some (eV w l) ∧ yq (l0 U w l) (eV w l) := by
 have hfit := zP hw hU;have hG : ∀ k n, w.N[k]? = some n → kE w.C n (aD w l k).1 (aD w l k).2 := fun k n h => Fr hw hU hl hs h;have hsame := fun k n (h : w.N[k]? = some n) => lL (hG k n h) (hw.nodes n (List.mem_of_getElem? h)).may (hw.nodes n (List.mem_of_getElem? h)).nd (hw.nodes n (List.mem_of_getElem? h)).few;have hc := fun k => qu (fun n hn => (hw.nodes n hn).all) (fun o ho => (hw.offs o ho).1) (yr hs w.Bad) k;refine ⟨Cc hfit hl hG fun k n h => (hsame k n h).2.2.2.2.2.2.1, ?_⟩
 cases hi : pd w with
 | true => unfold eV; rw [if_pos hi]; exact Eh (fN U w l) hw
 | false =>
  have hall := fun k n (h : w.N[k]? = some n) => wD (P := (· ∈ (l0 U w l).B)) (Q := (· ∈ (l0 U w l).V)) (hG k n h)
   (lA (fN U w l).1 (fN U w l).2 (hw.nodes n (List.mem_of_getElem? h)).all)
   ⟨fun b hb => (fN U w l).1 b ((hc k).1.1 b hb), fun v hv => (fN U w l).2 v ((hc k).1.2 v hv)⟩
   (fun y hy => nY (fN U w l).1 (fN U w l).2 ((hc k).2 y hy))
   (fun _ _ _ => List.mem_append_right _ (List.mem_map.2 ⟨_, zZ h, rfl⟩)) (fun _ _ _ => List.mem_append_right _ (List.mem_map.2 ⟨_, zZ h, rfl⟩))
  have hC : (eV w l).C = w.C := by unfold eV; rw [if_neg (by simp [hi])]
  have hB : (eV w l).Bad = w.Bad := by unfold eV; rw [if_neg (by simp [hi])]
  have hO : (eV w l).O.length ≤ 6 := by
   have : ∀ k, k ≤ w.N.length → (((fY w l).take k).flatMap (·.2)).length ≤ k := by
    intro k
    induction k with
    | zero => intro _; simp
    | succ k ih =>
     intro hk;obtain ⟨n, hn⟩ : ∃ n, w.N[k]? = some n := ⟨_, List.getElem?_eq_getElem (by omega)⟩;rw [List.take_add_one, jq hn, List.flatMap_append, List.length_append];have := ih (by omega);have := (hsame k n hn).2.2.2.2.2.2.1;simp only [Option.toList_some, List.flatMap_cons, List.flatMap_nil, List.append_nil];omega
   have h2 := this w.N.length (Nat.le_refl _);rw [List.take_of_length_le (by rw [gv]; omega)] at h2;have h3 := hw.len;unfold eV;rw [if_neg (by simp [hi])];simp only;omega
  refine ⟨by rw [C2]; exact hw.len, by rw [hB]; exact hw.bad, fun x hx => ?_, hO, fun o ho => ?_⟩
  ·obtain ⟨k, hk, e⟩ := List.getElem_of_mem hx
   have h1 : (eV w l).N[k]? = some x := by rw [List.getElem?_eq_getElem hk, e]
   rw [lF hi] at h1
   cases hn : w.N[k]? with
   | none => rw [hn] at h1; cases h1
   | some n =>
    rw [hn] at h1;have e2 := Option.some.inj h1;subst e2;obtain ⟨s1, s2, s3, s4, s5, s6, s7, s8, s9⟩ := hsame k n hn;rw [hC];refine ⟨s3.1, s4, s5, (hall k n hn).1, fun o ho => ?_⟩;rcases List.mem_append.1 (s8 o ho) with h | h
    ·exact (hw.nodes n (List.mem_of_getElem? hn)).sz o h
    ·exact yx hw hl k o h
  ·obtain ⟨k, n, hn, h⟩ := yy hi ho;obtain ⟨s1, s2, s3, s4, s5, s6, s7, s8, s9⟩ := hsame k n hn;exact ⟨(hall k n hn).2 o h, (s9 o h).lenB, (s9 o h).lenV⟩
structure E7 (w : Wd) : Prop where
 may : cD w.C
 lo : 3 ≤ w.Tick
 hi : w.Tick ≤ 100000
 at_ : ∀ n ∈ w.N, n.Tick = w.Tick
theorem nJ {w : Wd} (h : E7 w) : pd w = false := by
 refine decide_eq_false ?_;have h1 := h.lo;have h2 := h.hi;rintro (h3 | h3 | h3)
 ·exact h3 h.may
 ·omega
 ·omega
theorem k8 {w : Wd} (h : E7 w) {n : Nd} (hn : n ∈ w.N) : eo w.C n = false := by
 have h1 := h.lo;have h2 := h.hi;have h3 := h.at_ n hn;exact Fb h.may (by omega) (by omega)
theorem tG {U : Vw} {w : Wd} {l : List Ac} (hw : yq U w) (hU : FU U) (hl : lO l) (hs : ej (ir l) U) (ht : E7 w) : (eV w l).C = w.C ∧ (eV w l).Bad = w.Bad ∧ (eV w l).Tick = w.Tick + 1 ∧ (∀ n ∈ (eV w l).N, n.Tick = w.Tick + 1) ∧ (eV w l).N.map Nd.No = w.N.map Nd.No := by
 have hi := nJ ht;have h1 := ht.lo;have h2 := ht.hi;have hG : ∀ k n, w.N[k]? = some n → kE w.C n (aD w l k).1 (aD w l k).2 := fun k n h => Fr hw hU hl hs h;have hsame := fun k n (h : w.N[k]? = some n) => lL (hG k n h) (hw.nodes n (List.mem_of_getElem? h)).may (hw.nodes n (List.mem_of_getElem? h)).nd (hw.nodes n (List.mem_of_getElem? h)).few;refine ⟨by unfold eV; rw [if_neg (by simp [hi])], by unfold eV; rw [if_neg (by simp [hi])], by unfold eV; rw [if_neg (by simp [hi])]; exact cA (by omega) (by omega), fun x hx => ?_, ?_⟩
 ·obtain ⟨k, hk, e⟩ := List.getElem_of_mem hx
  have h1 : (eV w l).N[k]? = some x := by rw [List.getElem?_eq_getElem hk, e]
  rw [lF hi] at h1
  cases hn : w.N[k]? with
  | none => rw [hn] at h1; cases h1
  | some n =>
   rw [hn] at h1;have e2 := Option.some.inj h1;subst e2;have hm := List.mem_of_getElem? hn;have := (hsame k n hn).2.1;rw [k8 ht hm, if_neg (by simp), ht.at_ n hm, cA (by omega) (by omega)] at this;exact this
 ·apply List.ext_getElem?;intro k;rw [List.getElem?_map, List.getElem?_map, lF hi]
  cases hn : w.N[k]? with
  | none => rfl
  | some n =>
   simp only [Option.map_some];rw [(hsame k n hn).1]
noncomputable def bi (w : Wd) (l : List Ac) : Nat → Wd
 | 0 => w
 | n + 1 => eV (bi w l n) l
noncomputable def rP (U : Vw) (w : Wd) (l : List Ac) : Nat → Vw
 | 0 => U
 | n + 1 => l0 (rP U w l n) (bi w l n) l
structure LZ (U : Vw) (w : Wd) (l : List Ac) (k : Nat) : Prop where
 ok : yq (rP U w l k) (bi w l k)
 B : (rP U w l k).B.length ≤ U.B.length + 6 * k
 V : (rP U w l k).V.length ≤ U.V.length + 6 * k
 sub : ej U (rP U w l k)
 time : E7 (bi w l k)
 tick : (bi w l k).Tick = w.Tick + k
 conf : (bi w l k).C = w.C
 bad : (bi w l k).Bad = w.Bad
 nos : (bi w l k).N.map Nd.No = w.N.map Nd.No
theorem DT {U : Vw} {w : Wd} {l : List Ac} (hw : yq U w) (hl : lO l) (hs : ej (ir l) U) (ht : E7 w) (hB : U.B.length ≤ 300) (hV : U.V.length ≤ 300) (hT : w.Tick ≤ 1000) : ∀ k, k ≤ 15 → LZ U w l k
 | 0, _ => ⟨hw, by simp [rP], by simp [rP], e8 U, ht, by simp [bi], rfl, rfl, rfl⟩
 | k + 1, h => by
  obtain ⟨r1, r2, r3, r4, r5, r6, r7, r8, r9⟩ := DT hw hl hs ht hB hV hT k (by omega);have hU : FU (rP U w l k) := ⟨by omega, by omega⟩;have hs' := gw hs r4;have hd := Gi r1 hU hl hs';obtain ⟨t1, t2, t3, t4, t5⟩ := tG r1 hU hl hs' r5;have hn := DK (U := rP U w l k) r1.len l;have h1 := r5.lo;refine ⟨hd.2, ?_, ?_, gw r4 (fN _ _ _), ⟨by show cD (eV _ _).C; rw [t1]; exact r5.may, by show 3 ≤ (eV _ _).Tick; omega, by show (eV _ _).Tick ≤ _; omega, fun n hn => by rw [t4 n hn]; exact t3.symm⟩, ?_, t1.trans r7, t2.trans r8, t5.trans r9⟩
  ·show (l0 _ _ _).B.length ≤ _; omega
  ·show (l0 _ _ _).V.length ≤ _; omega
  ·show (eV _ _).Tick = _; rw [t3, r6]; omega
theorem Ch (l : List Ac) {k : Int} (hk : k ≤ 100) : sf l k = some false ∨ (sf l k = some true ∧ (l.length : Int) ≤ k ∧ ∀ a ∈ l, a.B.length ≤ 8 ∧ a.V.length ≤ 8) := by
 unfold sf;by_cases h : (l.length : Int) > k
 ·rw [decide_eq_true h, ct]; exact .inl rfl
 ·rw [decide_eq_false h, cf]
  have e := sR (step := gE l) (n := l.length) (fun j => dJ.mk (j : Int)) false (fun j => ∀ a, l[j]? = some a → a.B.length ≤ 8 ∧ a.V.length ≤ 8) (fun j hj => by
   obtain ⟨y, hy, -⟩ := aF hj;unfold gE;simp only;rw [decide_eq_true (show (j : Int) < (l.length : Int) by omega), ct, aI hy, ob, ob];by_cases h1 : (y.B.length : Int) > 8
   ·rw [decide_eq_true h1, ct]; exact .inl rfl
   ·rw [decide_eq_false h1, cf];by_cases h2 : (y.V.length : Int) > 8
    ·rw [decide_eq_true h2, ct]; exact .inl rfl
    ·rw [decide_eq_false h2, cf, ak (n := j) (by omega)];refine .inr ⟨rfl, fun a ha => ?_⟩;rw [hy] at ha;obtain rfl := Option.some.inj ha
     omega) (by
   unfold gE;simp only
   rw [decide_eq_false (show ¬ (l.length : Int) < (l.length : Int) by omega), cf]) (by omega)
  have e2 : iter (gE l) bG (dJ.mk 0) = some (.inr false) ∨ (iter (gE l) bG (dJ.mk 0) = some (.inl (dJ.mk (l.length : Int))) ∧ _) := e;rcases e2 with e2 | ⟨e2, h3⟩
  ·rw [e2, ob]; exact .inl rfl
  ·rw [e2, ob];refine .inr ⟨rfl, by omega, fun a ha => ?_⟩;obtain ⟨j, hj⟩ := List.getElem?_of_mem ha;exact h3 j (List.getElem?_eq_some_iff.1 hj).1 a hj
structure iJ (c : Cf) (bad : List Int) (l : List Ac) : Prop where
 acts : lO l
 len : l.length ≤ 25
 may : cD c
 w : c.W.length ≤ 6
 bad : bad.length ≤ 6
theorem Ce (c : Cf) (bad : List Int) (l : List Ac) : se c bad l = some false ∨ (se c bad l = some true ∧ iJ c bad l) := by
 unfold se;rcases Ch l (k := 25) (by omega) with e | ⟨e, h1, h2⟩
 ·rw [e, ob, cf]; exact .inl rfl
 ·rw [e, ob, ct, kA, ob];by_cases hm : cD c
  ·rw [decide_eq_true hm, ct];by_cases hw : (c.W.length : Int) ≤ 6
   ·rw [decide_eq_true hw, ct];by_cases hb : (bad.length : Int) ≤ 6
    ·rw [decide_eq_true hb]; exact .inr ⟨rfl, ⟨by omega, h2⟩, by omega, hm, by omega, by omega⟩
    ·rw [decide_eq_false hb]; exact .inl rfl
   ·rw [decide_eq_false hw, cf]; exact .inl rfl
  ·rw [decide_eq_false hm, cf]; exact .inl rfl
def jf (bad : List Int) (n : Nat) : List Int := ((List.range n).map Int.ofNat).filter fun i => decide (i ∉ bad)
theorem xj (bad : List Int) (n : Nat) : jf bad (n + 1) = jf bad n ++ if (n : Int) ∈ bad then [] else [(n : Int)] := by
 unfold jf;rw [List.range_succ, List.map_append, List.filter_append];by_cases h : (n : Int) ∈ bad <;> simp [h]
theorem sA (bad : List Int) (n : Nat) : (jf bad n).length ≤ n := Nat.le_trans (List.length_filter_le _ _) (by simp)
def xx (i : Int) : Nd := ⟨i, 3, ⟨[], []⟩, ⟨[], []⟩, [], ⟨(0, 0), 0, 0⟩, false⟩
def bg (c : Cf) (bad : List Int) : Wd := ⟨c, bad, 3, (jf bad c.W.length).map xx, []⟩
theorem Cb {c : Cf} {bad : List Int} (hm : cD c) (hb : bad.length ≤ 100) : p0 c bad = some (bg c bad) := by
 have hw := hm.2.1
 have e := aB (step := iV c bad) (n := c.W.length) (fun k => dI.mk (k : Int) ((jf bad k).map xx)) (dI.mk (c.W.length : Int) ((jf bad c.W.length).map xx)) (fun k hk => by
  have hg := sA bad k;unfold iV;simp only;rw [decide_eq_true (show (k : Int) < (c.W.length : Int) by omega), ct, lc (by omega), ob, xj, ak (n := k) (by omega)];by_cases h : (k : Int) ∈ bad
  ·rw [decide_eq_true h, Bool.not_true, cf, if_pos h, List.append_nil]
  ·rw [decide_eq_false h, Bool.not_false, ct, if_neg h];unfold yi;rw [ob, aO (by rw [List.length_map]; simp only [List.length_singleton]; omega) (by omega), ct, List.map_append]
   rfl) (by
  unfold iV;simp only
  rw [decide_eq_false (show ¬ (c.W.length : Int) < (c.W.length : Int) by omega), cf]) (by omega)
 have e' : iter (iV c bad) bG (dI.mk 0 []) = _ := e;unfold p0;rw [aO (by omega) (by omega), ct, kA, ob, decide_eq_true hm, Bool.not_true, cf, e', ob];rfl
theorem y6 (c : Cf) (bad : List Int) : (bg c bad).N.map Nd.No = jf bad c.W.length := by
 show ((jf bad c.W.length).map xx).map Nd.No = _;rw [List.map_map, show Nd.No ∘ xx = id from rfl, List.map_id]
theorem Dy {c : Cf} (hm : cD c) : ei c ⟨[], []⟩ := ⟨hm, Bm, by simp, by simp, fun b hb => (by cases hb), fun v hv => (by cases hv), List.nodup_nil, fun v hv => (by cases hv)⟩
theorem nX {l : List Ac} {k : Nat} (hk : l.length ≤ k) (h : ∀ a ∈ l, a.B.length ≤ 8 ∧ a.V.length ≤ 8) : (ir l).B.length ≤ 8 * k ∧ (ir l).V.length ≤ 8 * k := by
 have : ∀ m : List Ac, (∀ a ∈ m, a.B.length ≤ 8 ∧ a.V.length ≤ 8) → (m.flatMap Ac.B).length ≤ 8 * m.length ∧ (m.flatMap Ac.V).length ≤ 8 * m.length := by
  intro m
  induction m with
  | nil => intro _; simp
  | cons a r ih =>
   intro h;have h1 := ih fun b hb => h b (List.mem_cons_of_mem _ hb);have h2 := h a (List.mem_cons_self ..);rw [List.flatMap_cons, List.flatMap_cons, List.length_append, List.length_append, List.length_cons];omega
 have := this l h;unfold ir;simp only;omega
theorem DJ {c : Cf} {bad : List Int} (hm : cD c) (hw : c.W.length ≤ 6) (hb : bad.length ≤ 10) (U : Vw) : yq U (bg c bad) ∧ E7 (bg c bad) := by
 have hg := sA bad c.W.length
 have hN : ∀ n ∈ (bg c bad).N, ∃ i, n = xx i := fun n hn => by
  obtain ⟨i, -, h⟩ := List.mem_map.1 hn;exact ⟨i, h.symm⟩
 refine ⟨⟨by show ((jf bad c.W.length).map xx).length ≤ 6; rw [List.length_map]; omega, hb, fun n hn => ?_, Nat.zero_le _, fun o ho => by cases ho⟩, ⟨hm, Int.le_refl _, by show (3 : Int) ≤ 100000; omega, fun n hn => ?_⟩⟩
 ·obtain ⟨i, rfl⟩ := hN n hn;exact ⟨Dy hm, ⟨List.nodup_nil, List.nodup_nil⟩, Nat.zero_le _, ⟨qh, qh, fun o ho => (by cases ho)⟩, fun o ho => (by cases ho)⟩
 ·obtain ⟨i, rfl⟩ := hN n hn;rfl
theorem m8 {c : Cf} {bad : List Int} {l : List Ac} (hm : cD c) (hw : c.W.length ≤ 6) (hb : bad.length ≤ 10) (hl : lO l) : ∀ k, k ≤ 15 → LZ (ir l) (bg c bad) l k := by
 have h := DJ hm hw hb (ir l);have h1 := nX hl.len hl.each;exact DT h.1 hl (e8 _) h.2 (by omega) (by omega) (by show (3 : Int) ≤ 1000; omega)
def l4 (w : Wd) (v : Vw) : Vw := w.O.foldl (fun v o => aT (aT v o.V) ⟨[o.B], []⟩) v
def nG (l : List Ac) (v : Vw) : Vw := l.foldl (fun v a => aT v ⟨a.B, a.V⟩) v
def kj (w : Wd) (l : List Ac) : Vw := nG l (l4 w (cB w))
theorem lK : ∀ {l : List Of} {v : Vw}, (∀ o ∈ l, kF 500 o.V) → (l.foldl (fun v o => aT (aT v o.V) ⟨[o.B], []⟩) v).B.length ≤ v.B.length + 501 * l.length ∧ (l.foldl (fun v o => aT (aT v o.V) ⟨[o.B], []⟩) v).V.length ≤ v.V.length + 501 * l.length
 | [], v, _ => by simp
 | o :: r, v, h => by
  rw [List.foldl_cons, List.length_cons];have ih := lK (l := r) (v := aT (aT v o.V) ⟨[o.B], []⟩) fun q hq => h q (List.mem_cons_of_mem _ hq);obtain ⟨h1, h2⟩ := h o (List.mem_cons_self ..);have h3 := gr v o.V;have h4 := gr (aT v o.V) ⟨[o.B], []⟩;simp only [List.length_singleton, List.length_nil] at h4;omega
theorem oN : ∀ {l : List Ac} {v : Vw}, (∀ a ∈ l, a.B.length ≤ 8 ∧ a.V.length ≤ 8) → (nG l v).B.length ≤ v.B.length + 8 * l.length ∧ (nG l v).V.length ≤ v.V.length + 8 * l.length
 | [], v, _ => by simp [nG]
 | a :: r, v, h => by
  have ih := oN (l := r) (v := aT v ⟨a.B, a.V⟩) fun q hq => h q (List.mem_cons_of_mem _ hq);have e : nG (a :: r) v = nG r (aT v ⟨a.B, a.V⟩) := rfl;obtain ⟨h1, h2⟩ := h a (List.mem_cons_self ..);have h3 := gr v ⟨a.B, a.V⟩;rw [e, List.length_cons];simp only at h3;omega
theorem DU {w : Wd} {l : List Ac} (h : rH w) (hl : lO l) : (kj w l).B.length ≤ 30000 ∧ (kj w l).V.length ≤ 30000 := by
 have h1 := tz h;have h2 := lK (v := cB w) h.offs;have h3 := oN (v := l4 w (cB w)) hl.each;have h4 := h.o;have h5 := hl.len;unfold kj;unfold l4 at h3 ⊢;omega
theorem By {w : Wd} {l : List Ac} (h : rH w) (hl : lO l) : uq w l = some (kj w l) := by
 have h1 := tz h;have ho := h.o;have hal := hl.len;have hoff := h.offs
 have e1 := aB (step := gy w) (n := w.O.length) (fun k => dE.mk (k : Int) ((w.O.take k).foldl (fun v o => aT (aT v o.V) ⟨[o.B], []⟩) (cB w))) (dE.mk (w.O.length : Int) (l4 w (cB w))) (fun k hk => by
  obtain ⟨y, hy, hm⟩ := aF hk
  have et : w.O.take (k + 1) = w.O.take k ++ [y] := by rw [List.take_add_one, hy]; rfl
  have hlen := lK (l := w.O.take k) (v := cB w) fun o ho => hoff o (List.mem_of_mem_take ho);rw [List.length_take] at hlen;have hyo := hoff y hm;have hj := gr ((w.O.take k).foldl (fun v o => aT (aT v o.V) ⟨[o.B], []⟩) (cB w)) y.V;unfold gy;simp only
  rw [decide_eq_true (show (k : Int) < (w.O.length : Int) by omega), ct, aI hy, ob, et, List.foldl_append, List.foldl_cons, List.foldl_nil, iC (by have := hyo.1; omega) (by have := hyo.2; omega), ob, iC (by have := hyo.1; simp only [List.length_singleton]; omega) (by have := hyo.2; simp only [List.length_nil]; omega), ob, ak (n := k) (by omega)]) (by
  unfold gy;simp only;rw [decide_eq_false (show ¬ (w.O.length : Int) < (w.O.length : Int) by omega), cf, List.take_length]
  rfl) (by omega)
 have e1' : iter (gy w) bG (dE.mk 0 (cB w)) = _ := e1;have h2 := lK (v := cB w) h.offs;have h2' : (l4 w (cB w)).B.length ≤ (cB w).B.length + 501 * w.O.length ∧ (l4 w (cB w)).V.length ≤ (cB w).V.length + 501 * w.O.length := h2
 have e2 := aB (step := iK l) (n := l.length) (fun k => d8.mk (k : Int) (nG (l.take k) (l4 w (cB w)))) (d8.mk (l.length : Int) (kj w l)) (fun k hk => by
  obtain ⟨y, hy, hm⟩ := aF hk
  have et : l.take (k + 1) = l.take k ++ [y] := by rw [List.take_add_one, hy]; rfl
  have hlen := oN (l := l.take k) (v := l4 w (cB w)) fun o ho => hl.each o (List.mem_of_mem_take ho);rw [List.length_take] at hlen;have hya := hl.each y hm;unfold iK;simp only;rw [decide_eq_true (show (k : Int) < (l.length : Int) by omega), ct, aI hy, ob, et, iC (by simp only; omega) (by simp only; omega), ob, ak (n := k) (by omega)];unfold nG;rw [List.foldl_append]
  rfl) (by
  unfold iK;simp only;rw [decide_eq_false (show ¬ (l.length : Int) < (l.length : Int) by omega), cf, List.take_length]
  rfl) (by omega)
 have e2' : iter (iK l) bG (d8.mk 0 (l4 w (cB w))) = _ := e2;unfold uq;rw [rX (by have := h.n; omega) h.nodes, ob];show ((iter (gy w) bG (dE.mk 0 (cB w))).bind _) = _;rw [e1', ob, e2', ob]
theorem sS : ∀ (l : List Ac) (v : Vw), ej v (nG l v)
 | [], v => e8 v
 | a :: r, v => by
  have h : ej v (aT v ⟨a.B, a.V⟩) := ⟨fun b hb => gt.2 (.inl hb), fun x hx => fq.2 (.inl hx)⟩;exact gw h (sS r _)
theorem JK {c : Cf} {w i : Vw} {u : Int} (hm : ei c w) (hf : (aC c w i u).2.2 = false) {b : Bk} (hb : b ∈ i.B) (hmb : mayB c b = true) (hu : b.Slot ≤ u) {s : Int} (hq : aX (aC c w i u).1.B b.Parent = some s) (hs : s < b.Slot) : ∃ y ∈ (aC c w i u).1.B, nm y = nm b := by
 have ht := rR hm i u;have h0 := (of_decide_eq_true hmb).2.2;rcases ht.allB b (List.mem_filter.2 ⟨hb, hmb⟩) with hl | hg
 ·obtain ⟨-, hw | ⟨-, hw⟩⟩ := ht.endB b hl
  ·unfold eR at hw;rw [hq] at hw;have := of_decide_eq_true hw;omega
  ·rw [hf] at hw; cases hw
 ·unfold cx at hg;rw [Bool.or_eq_true, hq] at hg;rcases hg with hg | hg
  ·obtain ⟨q, hq2⟩ := Option.isSome_iff_exists.1 hg;rcases oP hq2 with ⟨e, -⟩ | ⟨-, y, hy, e, -⟩
   ·exact absurd e h0
   ·exact ⟨y, hy, e⟩
  ·have := of_decide_eq_true hg;omega
theorem Gh {c : Cf} {w i : Vw} {u : Int} (hm : ei c w) (hf : (aC c w i u).2.2 = false) {v : Vt} (hv : v ∈ i.V) (hmv : mayV c v = true) (hu : v.Slot ≤ u) (hb : forB (aC c w i u).1.B v) : v ∈ (aC c w i u).1.V := by
 have ht := rR hm i u;obtain ⟨s, hq, hle⟩ := hb;rcases ht.allV v (List.mem_filter.2 ⟨hv, hmv⟩) with hl | hg
 ·obtain ⟨-, hw | ⟨-, hw⟩⟩ := ht.endV v hl
  ·unfold fg at hw;rw [hq] at hw;have := of_decide_eq_true hw;omega
  ·rw [hf] at hw; cases hw
 ·unfold cL at hg;rw [Bool.or_eq_true, hq] at hg;rcases hg with hg | hg
  ·exact of_decide_eq_true hg
  ·have := of_decide_eq_true hg;omega
theorem yD {B C : List Bk} (h : aK B) (h2 : aK C) (hs : ∀ b ∈ B, b ∈ C) {v : Vt} (hf : forB B v) : forB C v := by
 obtain ⟨s, h3, h4⟩ := hf;exact ⟨s, sU h h2 hs h3, h4⟩
theorem qU {c : Cf} {v w : Vw} (h : kb c v w) : ej v w :=
 ⟨fun b hb => List.mem_of_mem_take (by rw [h.2.1]; exact hb), fun b hb => List.mem_of_mem_take (by rw [h.2.2]; exact hb)⟩
theorem CY {c : Cf} {w i x : Vw} {u : Int} (hm : ei c w) (hf : (aC c w i u).2.2 = false) (hx : ei c x) (hB : ∀ b ∈ x.B, b ∈ w.B ∨ b ∈ i.B) (hV : ∀ v ∈ x.V, v ∈ w.V ∨ v ∈ i.V) (uB : ∀ b ∈ x.B, b.Slot ≤ u) (uV : ∀ v ∈ x.V, v.Slot ≤ u)
  (inj : ∀ b ∈ x.B, ∀ y ∈ (aC c w i u).1.B, nm y = nm b → y = b) : ej x (aC c w i u).1 := by
 have ht := rR hm i u;have hsub := qU (dk hm i u)
 have key : ∀ k, k ≤ x.B.length → ∀ b ∈ x.B.take k, b ∈ (aC c w i u).1.B := by
  intro k
  induction k with
  | zero => intro _ b hb; simp at hb
  | succ k ih =>
   intro hk b hb;obtain ⟨y, hy, hym⟩ := aF (l := x.B) (n := k) (by omega);have hv := mK hx.valid (k + 1);rw [aY hy] at hb hv;rcases List.mem_append.1 hb with hb | hb
   ·exact ih (by omega) b hb
   ·rw [List.mem_singleton.1 hb];rcases hB y hym with h | h
    ·exact hsub.1 y h
    ·obtain ⟨hv0, ⟨s, hs1, hs2⟩, -⟩ := j3.1 hv;obtain ⟨z, hz, e⟩ := JK hm hf h (hx.mayB y hym) (uB y hym) (sU hv0 ht.may.valid (ih (by omega)) hs1) hs2;rw [← inj y hym z hz e];exact hz
 have hall : ∀ b ∈ x.B, b ∈ (aC c w i u).1.B := fun b hb => key x.B.length (Nat.le_refl _) b (by rw [List.take_length]; exact hb);refine ⟨hall, fun v hv => ?_⟩;rcases hV v hv with h | h
 ·exact hsub.2 v h
 ·exact Gh hm hf h (hx.mayV v hv) (uV v hv) (yD hx.valid ht.may.valid hall (hx.forB v hv))
structure Gw (U : Vw) (w : Wd) (l : List Ac) : Prop where
 ok : yq U w
 sz : FU U
 acts : lO l
 sub : ej (ir l) U
 time : E7 w
 soon : w.Tick ≤ 1000
theorem jK {c : Cf} {bad : List Int} {l : List Ac} (hb : iJ c bad l) {k : Nat} (hk : k ≤ 15) : Gw (rP (ir l) (bg c bad) l k) (bi (bg c bad) l k) l := by
 have hR := m8 (bad := bad) hb.may hb.w (by have := hb.bad; omega) hb.acts k hk;have hal := nX hb.len hb.acts.each;have h1 := hR.B;have h2 := hR.V;have h3 := hR.tick;have h4 : (bg c bad).Tick = 3 := rfl;exact ⟨hR.ok, ⟨by omega, by omega⟩, hb.acts, hR.sub, hR.time, by omega⟩
section
variable {U : Vw} {w : Wd} {l : List Ac}
noncomputable def cy (w : Wd) (l : List Ac) (k : Nat) (n : Nd) : Nd := (b8 w.C n (aD w l k).1 (aD w l k).2).1
theorem Gw.few (G : Gw U w l) {k : Nat} {n : Nd} (hn : w.N[k]? = some n) : kE w.C n (aD w l k).1 (aD w l k).2 := Fr G.ok G.sz G.acts G.sub hn
theorem Gw.may (G : Gw U w l) {n : Nd} (hn : n ∈ w.N) : ei w.C n.V := (G.ok.nodes n hn).may
theorem Gw.next (G : Gw U w l) {k : Nat} {n : Nd} (hn : w.N[k]? = some n) : (eV w l).N[k]? = some (cy w l k n) := by
 rw [lF (nJ G.time), hn]; rfl
theorem Gw.keeps (G : Gw U w l) {k : Nat} {n : Nd} (hn : w.N[k]? = some n) : kb w.C n.V (cy w l k n).V :=
 have hm := List.mem_of_getElem? hn
 (lL (G.few hn) (G.may hm) (G.ok.nodes n hm).nd (G.ok.nodes n hm).few).2.2.1
theorem Gw.prev (G : Gw U w l) {x : Nd} (hx : x ∈ (eV w l).N) : ∃ k n, w.N[k]? = some n ∧ x = cy w l k n := by
 obtain ⟨k, hk⟩ := List.getElem?_of_mem hx;rw [lF (nJ G.time)] at hk
 cases hn : w.N[k]? with
 | none => rw [hn] at hk; cases hk
 | some n => rw [hn] at hk; exact ⟨k, n, hn, (Option.some.inj hk).symm⟩
theorem Gw.slot (G : Gw U w l) {n : Nd} (hn : n ∈ w.N) : az n = w.Tick / 3 := by
 have h1 := G.time.at_ n hn;have h2 := G.time.lo;have h3 := G.soon;have := (rj (n := n) (by omega) (by omega)).1;omega
theorem Gw.conf (G : Gw U w l) : (eV w l).C = w.C ∧ (eV w l).Bad = w.Bad ∧ (eV w l).Tick = w.Tick + 1 :=
 have h := tG G.ok G.sz G.acts G.sub G.time
 ⟨h.1, h.2.1, h.2.2.1⟩
theorem Gw.mod (G : Gw U w l) {n : Nd} (hn : n ∈ w.N) : n.Tick.tmod 3 = w.Tick % 3 := by
 have h1 := G.time.at_ n hn;have h2 := G.time.lo;rw [Int.tmod_eq_emod_of_nonneg (by omega), h1]
noncomputable def jE (w : Wd) (l : List Ac) (k : Nat) (n : Nd) : Vw × Vw × Bool := aC w.C n.V (jL w.C n (aD w l k).1) (az n)
theorem Gw.third (G : Gw U w l) {k : Nat} {n : Nd} (hn : w.N[k]? = some n) (ht : w.Tick % 3 = 2) :
  (cy w l k n).V = (jE w l k n).1 ∧ (cy w l k n).In = (jE w l k n).2.1 ∧ (cy w l k n).O = [] ∧ ((cy w l k n).Full = false → (jE w l k n).2.2 = false) ∧ (b8 w.C n (aD w l k).1 (aD w l k).2).2 = [] := by
 have hm := List.mem_of_getElem? hn;have hmod := G.mod hm;unfold cy jE;rcases (jp (G.few hn)).2 with ⟨h, -⟩ | ⟨-, h, -⟩ | ⟨-, h, -⟩ | ⟨-, -, cu, e⟩
 ·rw [k8 G.time hm] at h; cases h
 ·omega
 ·omega
 ·rw [e];refine ⟨rfl, rfl, rfl, fun h => ?_, rfl⟩;have h' : ((fL w.C n (aD w l k).2).2 || (aC w.C n.V (jL w.C n (aD w l k).1) (az n)).2.2) = false := h;exact (Bool.or_eq_false_iff.1 h').2
theorem Gw.first (G : Gw U w l) {k : Nat} {n : Nd} (hn : w.N[k]? = some n) (ht : w.Tick % 3 = 0) :
  (cy w l k n).C = n.C ∧ (cy w l k n).O = (fL w.C n (aD w l k).2).1 ∧
  ((n.No = mD w.C (az n) ∧ ∃ b : Bk, b = ⟨az n, n.No, bW w.C (jE w l k n).1.B (bH w.C (jE w l k n).1.V (az n - 1)), 0⟩ ∧ (cy w l k n).V = (aC w.C (jE w l k n).1 ⟨[b], []⟩ (az n)).1 ∧
    ((cy w l k n).Full = false → (jE w l k n).2.2 = false ∧ (aC w.C (jE w l k n).1 ⟨[b], []⟩ (az n)).2.2 = false) ∧ (b8 w.C n (aD w l k).1 (aD w l k).2).2 = [⟨az n, n.No, b, (jE w l k n).1⟩]) ∨
   (n.No ≠ mD w.C (az n) ∧ (cy w l k n).V = n.V ∧ (b8 w.C n (aD w l k).1 (aD w l k).2).2 = [])) := by
 have hm := List.mem_of_getElem? hn;have hmod := G.mod hm;have hsl := G.slot hm;have h1 := G.time.lo;have h2 := G.soon;unfold cy jE;rcases (jp (G.few hn)).2 with ⟨h, -⟩ | ⟨-, -, e⟩ | ⟨-, h, -⟩ | ⟨-, h, -⟩
 ·rw [k8 G.time hm] at h; cases h
 ·rw [e];refine ⟨rfl, rfl, ?_⟩;unfold dj;by_cases h : n.No = mD w.C (az n)
  ·left;rw [if_pos (show (bN w.C n (aD w l k).1 (aD w l k).2).No = mD w.C (az n) from h)]
   have eb : kX (bN w.C n (aD w l k).1 (aD w l k).2) w.C (az n) = ⟨az n, n.No, bW w.C (aC w.C n.V (jL w.C n (aD w l k).1) (az n)).1.B (bH w.C (aC w.C n.V (jL w.C n (aD w l k).1) (az n)).1.V (az n - 1)), 0⟩ := by
    unfold kX;rw [cA (n := az n - 1) (by omega) (by omega)];rfl
   rw [eb];refine ⟨h, _, rfl, rfl, fun hf => ?_, rfl⟩;have hf' := Bool.or_eq_false_iff.1 hf;exact ⟨(Bool.or_eq_false_iff.1 hf'.1).2, hf'.2⟩
  ·right;rw [if_neg (show (bN w.C n (aD w l k).1 (aD w l k).2).No ≠ mD w.C (az n) from h)];exact ⟨h, rfl, rfl⟩
 ·omega
 ·omega
theorem Gw.second (G : Gw U w l) {k : Nat} {n : Nd} (hn : w.N[k]? = some n) (ht : w.Tick % 3 = 1) :
  (cy w l k n).C = n.C ∧ (cy w l k n).O = [] ∧ (b8 w.C n (aD w l k).1 (aD w l k).2).2 = [] ∧
  ∃ s : Vw × Vw × Bool, s = (fL w.C n (aD w l k).2).1.foldl (fB w.C (az n)) (n.V, jL w.C n (aD w l k).1, (fL w.C n (aD w l k).2).2) ∧ (cy w l k n).V = s.1 ∧ (cy w l k n).Full = s.2.2 ∧
   (n.No ∈ fS w.C (az n) → Vt.mk n.No (az n) (bW w.C s.1.B (bH w.C s.1.V (az n - 1))) ∈ (cy w l k n).In.V) := by
 have hm := List.mem_of_getElem? hn;have hmod := G.mod hm;have hsl := G.slot hm;have h1 := G.time.lo;have h2 := G.soon;unfold cy;rcases (jp (G.few hn)).2 with ⟨h, -⟩ | ⟨-, h, -⟩ | ⟨-, -, e⟩ | ⟨-, h, -⟩
 ·rw [k8 G.time hm] at h; cases h
 ·omega
 ·rw [e];refine ⟨rfl, rfl, rfl, _, rfl, ?_⟩;unfold dY;by_cases h : n.No ∈ fS w.C (az n)
  ·rw [if_pos (show (bN w.C n (aD w l k).1 (aD w l k).2).No ∈ fS w.C (az n) from h)];refine ⟨rfl, rfl, fun _ => fq.2 (.inr (List.mem_singleton.2 ?_))⟩;rw [cA (n := az n - 1) (by omega) (by omega)];rfl
  ·rw [if_neg (show (bN w.C n (aD w l k).1 (aD w l k).2).No ∉ fS w.C (az n) from h)];exact ⟨rfl, rfl, fun h2 => absurd h2 h⟩
 ·omega
structure qe (w : Wd) (l : List Ac) : Prop where
 room : ∀ n ∈ w.N, n.Full = false
 names : ((0, 0) :: (kj w l).B.map nm).Nodup
theorem qe.inj (T : qe w l) {a b : Bk} (ha : a ∈ (kj w l).B) (hb : b ∈ (kj w l).B) (e : nm a = nm b) : a = b := y0 (List.nodup_cons.1 T.names).2 ha hb e
theorem Ba {w : Wd} (v : Vw) : ej v (l4 w v) := by
 have : ∀ (l : List Of) (v : Vw), ej v (l.foldl (fun v o => aT (aT v o.V) ⟨[o.B], []⟩) v) := by
  intro l
  induction l with
  | nil => exact fun v => e8 v
  | cons o r ih => exact fun v => gw ⟨fun b hb => gt.2 (.inl (gt.2 (.inl hb))), fun x hx => fq.2 (.inl (fq.2 (.inl hx)))⟩ (ih _)
 exact this w.O v
theorem sT {n : Nd} (hn : n ∈ w.N) : ej n.V (kj w l) ∧ ej n.In (kj w l) := by
 have h : ej (cB w) (kj w l) := gw (Ba _) (sS _ _)
 exact ⟨⟨fun b hb => h.1 b (nq.2 (.inr ⟨n, hn, mz.2 (.inl hb)⟩)), fun b hb => h.2 b (nr.2 (.inr ⟨n, hn, mA.2 (.inl hb)⟩))⟩,
  ⟨fun b hb => h.1 b (nq.2 (.inr ⟨n, hn, mz.2 (.inr hb)⟩)), fun b hb => h.2 b (nr.2 (.inr ⟨n, hn, mA.2 (.inr hb)⟩))⟩⟩
theorem C0 (w : Wd) (l : List Ac) (k : Nat) : ej (cB w) (aD w l k).1 := by
 have : ∀ (m : List Ac) (s : Vw × List Of), ej s.1 (m.foldl (cG (sV w) (hZ w) w.Bad (cB w) (decide (hZ w ∈ w.Bad)) (k : Int)) s).1 := by
  intro m
  induction m with
  | nil => exact fun s => e8 _
  | cons a r ih =>
   intro s;refine gw ?_ (ih _);unfold cG;split
   ·exact e8 _
   ·split
    ·exact ⟨fun b hb => gt.2 (.inl hb), fun x hx => fq.2 (.inl hx)⟩
    ·split
     ·split <;> exact e8 _
     ·exact e8 _
 exact this (eG w l) (cB w, w.O)
def nW (t : Int) (v : Vw) : Prop := (∀ b ∈ v.B, b.Slot ≤ t) ∧ ∀ x ∈ v.V, x.Slot ≤ t
theorem Gw.meet (G : Gw U w l) (T : qe (eV w l) l) {k : Nat} {n : Nd} (hn : w.N[k]? = some n) (hf : (jE w l k n).2.2 = false) (hs : ej (jE w l k n).1 (cy w l k n).V) {m : Nd} (hm : m ∈ w.N) (hu : nW (w.Tick / 3) m.V) :
  ej m.V (jE w l k n).1 ∧ ∀ v ∈ m.In.V, mayV w.C v = true → v.Slot ≤ w.Tick / 3 → forB m.V.B v → v ∈ (jE w l k n).1.V := by
 have hnm := List.mem_of_getElem? hn;have hmay := G.may hnm;have hmm := G.may hm;have hsl := G.slot hnm;obtain ⟨j, hj⟩ := List.getElem?_of_mem hm;have hall := C0 w l k;have hinB : ∀ b ∈ m.V.B, b ∈ (jL w.C n (aD w l k).1).B := fun b hb => gt.2 (.inr (List.mem_filter.2 ⟨hall.1 b (nq.2 (.inr ⟨m, hm, mz.2 (.inl hb)⟩)), hmm.mayB b hb⟩));have hinV : ∀ v, v ∈ m.V.V ∨ v ∈ m.In.V → mayV w.C v = true → v ∈ (jL w.C n (aD w l k).1).V := fun v hv hmv => fq.2 (.inr (List.mem_filter.2 ⟨hall.2 v (nr.2 (.inr ⟨m, hm, mA.2 hv⟩)), hmv⟩))
 have hmain : ej m.V (jE w l k n).1 := by
  unfold jE at hf hs ⊢;refine CY hmay hf hmm (fun b hb => .inr (hinB b hb)) (fun v hv => .inr (hinV v (.inl hv) (hmm.mayV v hv))) (fun b hb => by rw [hsl]; exact hu.1 b hb) (fun v hv => by rw [hsl]; exact hu.2 v hv) fun b hb y hy e => ?_;refine T.inj ((sT (List.mem_of_getElem? (G.next hn))).1.1 y (hs.1 y hy)) ((sT (List.mem_of_getElem? (G.next hj))).1.1 b ?_) e;exact (qU (G.keeps hj)).1 b hb
 refine ⟨hmain, fun v hv hmv hle hfb => ?_⟩;unfold jE at hf hmain ⊢;exact Gh hmay hf (hinV v (.inr hv) hmv) hmv (by rw [hsl]; exact hle) (yD hmm.valid (rR hmay _ _).may.valid hmain.1 hfb)
theorem oQ {c : Cf} {v i : Vw} {s t : Int} (hm : ei c v) (h : nW t v) (hs : s ≤ t) : nW t (aC c v i s).1 := by
 have ht := rR hm i s;obtain ⟨a, e, h1⟩ := ht.preB;obtain ⟨d, e2, h2⟩ := ht.preV;refine ⟨fun b hb => ?_, fun x hx => ?_⟩
 ·rw [e] at hb;rcases List.mem_append.1 hb with hb | hb
  ·exact h.1 b hb
  ·have := (h1 b hb).2; omega
 ·rw [e2] at hx;rcases List.mem_append.1 hx with hx | hx
  ·exact h.2 x hx
  ·have := (h2 x hx).2; omega
theorem td {c : Cf} {s t : Int} (hs : s ≤ t) : ∀ (o : List Of) (x : Vw × Vw × Bool), ei c x.1 → nW t x.1 → nW t (o.foldl (fB c s) x).1
 | [], x, _, h => h
 | y :: r, x, hm, h => by
  rw [List.foldl_cons];exact td hs r _ (dk hm _ _).1 (oQ hm h hs)
theorem Gw.upto (G : Gw U w l) (h : ∀ n ∈ w.N, nW ((w.Tick - 1) / 3) n.V) : ∀ x ∈ (eV w l).N, nW (w.Tick / 3) x.V := by
 intro x hx;obtain ⟨k, n, hn, rfl⟩ := G.prev hx;have hm := List.mem_of_getElem? hn;have hmay := G.may hm;have hsl := G.slot hm;have h1 := G.time.lo;have hu : nW (w.Tick / 3) n.V := ⟨fun b hb => by have := (h n hm).1 b hb; omega, fun v hv => by have := (h n hm).2 v hv; omega⟩;have hc : nW (w.Tick / 3) (jE w l k n).1 := oQ hmay hu (by omega)
 have h3 : w.Tick % 3 = 0 ∨ w.Tick % 3 = 1 ∨ w.Tick % 3 = 2 := by omega
 rcases h3 with h3 | h3 | h3
 ·rcases (G.first hn h3).2.2 with ⟨-, b, -, e, -⟩ | ⟨-, e, -⟩
  ·rw [e]; exact oQ (dk hmay _ _).1 hc (by omega)
  ·rw [e]; exact hu
 ·obtain ⟨-, -, -, s, e, e2, -⟩ := G.second hn h3;rw [e2, e];exact td (by omega) _ _ hmay hu
 ·rw [(G.third hn h3).1]; exact hc
end
open Go.Proofs
structure Ie where
 i : Int
structure If where
 k : Int
structure Ig where
 i : Int
structure Ih where
 k : Int
theorem Hx {U : Vw} {w : Wd} {l : List Ac} {P P' : Bk → Prop} {Q Q' : Vt → Prop} (hw : yq U w) (hU : FU U) (hl : lO l) (hs : ej (ir l) U) (ht : E7 w) (hP : ∀ b, P b → P' b) (hQ : ∀ v, Q v → Q' v)
  (hn : ∀ n ∈ w.N, rG P Q n) (ho : ∀ o ∈ w.O, lN P Q o) (ha : ∀ a ∈ l, (∀ b ∈ a.B, b.From ∈ w.Bad → P b) ∧ ∀ v ∈ a.V, v.From ∈ w.Bad → Q v)
  (hp : ∀ k n, w.N[k]? = some n → n.Tick.tmod 3 = 0 → n.No = mD w.C (az n) → P' (kX (bN w.C n (aD w l k).1 (aD w l k).2) w.C (az n)))
  (hv : ∀ k n, w.N[k]? = some n → n.Tick.tmod 3 = 1 → n.No ∈ fS w.C (az n) → Q' (te w.C n (aD w l k).1 (aD w l k).2)) :
  (∀ n ∈ (eV w l).N, rG P' Q' n) ∧ ∀ o ∈ (eV w l).O, lN P' Q' o := by
 have hi := nJ ht;have hG : ∀ k n, w.N[k]? = some n → kE w.C n (aD w l k).1 (aD w l k).2 := fun k n h => Fr hw hU hl hs h;have hc := fun k => qu hn ho ha k
 have hall := fun k n (h : w.N[k]? = some n) => wD (P := P') (Q := Q') (hG k n h) (lA hP hQ (hn n (List.mem_of_getElem? h)))
  ⟨fun b hb => hP b ((hc k).1.1 b hb), fun v hv => hQ v ((hc k).1.2 v hv)⟩ (fun y hy => nY hP hQ ((hc k).2 y hy)) (fun _ => hp k n h) fun _ => hv k n h
 refine ⟨fun x hx => ?_, fun o ho => ?_⟩
 ·obtain ⟨k, hk, e⟩ := List.getElem_of_mem hx
  have h1 : (eV w l).N[k]? = some x := by rw [List.getElem?_eq_getElem hk, e]
  rw [lF hi] at h1
  cases hn : w.N[k]? with
  | none => rw [hn] at h1; cases h1
  | some n =>
   rw [hn] at h1;have e2 := Option.some.inj h1;subst e2;exact (hall k n hn).1
 ·obtain ⟨k, n, hn, h⟩ := yy hi ho;exact (hall k n hn).2 o h
def GV (c : Cf) (bad : List Int) (G : Int → Bk) (T : Int) (b : Bk) : Prop := b.From ∈ bad ∨ (b = G b.Slot ∧ mD c b.Slot = b.From ∧ b.Salt = 0 ∧ 1 ≤ b.Slot ∧ 3 * b.Slot < T)
def Cy (c : Cf) (bad : List Int) (W : Int → Int → Vt) (T : Int) (v : Vt) : Prop := v.From ∈ bad ∨ (v = W v.From v.Slot ∧ v.From ∈ fS c v.Slot ∧ 1 ≤ v.Slot ∧ 3 * v.Slot + 1 < T)
def gF (c : Cf) (bad : List Int) (w : Wd) : Prop := ∃ G W, (∀ n ∈ w.N, rG (GV c bad G w.Tick) (Cy c bad W w.Tick) n) ∧ ∀ o ∈ w.O, lN (GV c bad G w.Tick) (Cy c bad W w.Tick) o
theorem vK (bad : List Int) (n : Nat) : (jf bad n).Nodup := by
 unfold jf;refine List.Nodup.sublist List.filter_sublist ?_;refine List.Pairwise.map (R := fun a b => a ≠ b) _ (fun a b h h2 => h (Int.ofNat.inj h2)) List.nodup_range
theorem y7 {w : Wd} (h : (w.N.map Nd.No).Nodup) {k j : Nat} {n m : Nd} (hn : w.N[k]? = some n) (hm : w.N[j]? = some m) (e : n.No = m.No) : k = j := by
 have hk := (List.getElem?_eq_some_iff.1 hn).1
 have h1 : (w.N.map Nd.No)[k]? = (w.N.map Nd.No)[j]? := by rw [List.getElem?_map, List.getElem?_map, hn, hm]; simp [e]
 exact (List.getElem?_inj (by rw [List.length_map]; exact hk) h).1 h1
open Classical in
theorem AM {U : Vw} {w : Wd} {l : List Ac} (hw : yq U w) (hU : FU U) (hl : lO l) (hs : ej (ir l) U) (ht : E7 w) (hno : (w.N.map Nd.No).Nodup) (hbig : w.Tick ≤ 1000) (h : gF w.C w.Bad w) : gF w.C w.Bad (eV w l) := by
 obtain ⟨G, W, h1, h2⟩ := h;obtain ⟨t1, t2, t3, t4, t5⟩ := tG hw hU hl hs ht;have hlo := ht.lo;obtain ⟨s, hs0⟩ : ∃ s, s = w.Tick / 3 := ⟨_, rfl⟩
 have hsl : ∀ n ∈ w.N, az n = s := fun n hn => by
  have := ht.at_ n hn;have := (rj (n := n) (by omega) (by omega)).1;omega
 obtain ⟨b0, hb0⟩ : ∃ b0 : Bk, ∀ k n, w.N[k]? = some n → n.No = mD w.C s → kX (bN w.C n (aD w l k).1 (aD w l k).2) w.C s = b0 := by
  by_cases he : ∃ (k : Nat) (n : Nd), w.N[k]? = some n ∧ n.No = mD w.C s
  ·obtain ⟨k, n, hk, e⟩ := he;refine ⟨kX (bN w.C n (aD w l k).1 (aD w l k).2) w.C s, fun j m hj e2 => ?_⟩;have e3 := y7 hno hj hk (e2.trans e.symm);subst e3;rw [hk] at hj;rw [← Option.some.inj hj]
  ·exact ⟨⟨0, 0, (0, 0), 0⟩, fun k n hk e => absurd ⟨k, n, hk, e⟩ he⟩
 obtain ⟨v0, hv0⟩ : ∃ v0 : Int → Vt, ∀ f k n, w.N[k]? = some n → n.No = f → te w.C n (aD w l k).1 (aD w l k).2 = v0 f := by
  refine Classical.axiomOfChoice (r := fun f v => ∀ k n, w.N[k]? = some n → n.No = f → te w.C n (aD w l k).1 (aD w l k).2 = v) fun f => ?_;by_cases he : ∃ (k : Nat) (n : Nd), w.N[k]? = some n ∧ n.No = f
  ·obtain ⟨k, n, hk, e⟩ := he;refine ⟨te w.C n (aD w l k).1 (aD w l k).2, fun j m hj e2 => ?_⟩;have e3 := y7 hno hj hk (e2.trans e.symm);subst e3;rw [hk] at hj;rw [← Option.some.inj hj]
  ·exact ⟨⟨0, 0, (0, 0)⟩, fun k n hk e => absurd ⟨k, n, hk, e⟩ he⟩
 let G' : Int → Bk := fun x => if x = s ∧ w.Tick.tmod 3 = 0 then b0 else G x
 let W' : Int → Int → Vt := fun f x => if x = s ∧ w.Tick.tmod 3 = 1 then v0 f else W f x
 have hmod : w.Tick.tmod 3 = w.Tick % 3 := Int.tmod_eq_emod_of_nonneg (by omega);have hres := Hx (P' := GV w.C w.Bad G' (w.Tick + 1)) (Q' := Cy w.C w.Bad W' (w.Tick + 1)) hw hU hl hs ht (fun b hb => ?_) (fun v hv => ?_) h1 h2 (fun a ha => ⟨fun b _ hb => .inl hb, fun v _ hv => .inl hv⟩) (fun k n hk h3 h4 => ?_) (fun k n hk h3 h4 => ?_)
 ·refine ⟨G', W', ?_⟩;rw [t3];exact hres
 ·rcases hb with hb | ⟨a1, a2, a3, a4, a5⟩
  ·exact .inl hb
  ·refine .inr ⟨?_, a2, a3, a4, by omega⟩;exact a1.trans (if_neg (c := b.Slot = s ∧ w.Tick.tmod 3 = 0) fun h => by obtain ⟨e1, e2⟩ := h; omega).symm
 ·rcases hv with hv | ⟨a1, a2, a3, a4⟩
  ·exact .inl hv
  ·refine .inr ⟨?_, a2, a3, by omega⟩;exact a1.trans (if_neg (c := v.Slot = s ∧ w.Tick.tmod 3 = 1) fun h => by obtain ⟨e1, e2⟩ := h; omega).symm
 ·have hm := List.mem_of_getElem? hk;have hT := ht.at_ n hm;rw [hsl n hm] at h4 ⊢;rw [hT] at h3;refine .inr ⟨?_, h4.symm, rfl, by show 1 ≤ s; omega, by show 3 * s < _; omega⟩;exact (hb0 k n hk h4).trans (if_pos (c := s = s ∧ w.Tick.tmod 3 = 0) ⟨rfl, h3⟩).symm
 ·have hm := List.mem_of_getElem? hk;have hT := ht.at_ n hm;rw [hT] at h3;have hsn := hsl n hm;refine .inr ⟨?_, h4, by show 1 ≤ az n; omega, by show 3 * az n + 1 < _; omega⟩;exact (hv0 _ k n hk Z).trans (if_pos (c := az n = s ∧ w.Tick.tmod 3 = 1) ⟨hsn, h3⟩).symm
theorem mp {c : Cf} {bad : List Int} {l : List Ac} (hb : iJ c bad l) : ∀ k, k ≤ 15 → gF c bad (bi (bg c bad) l k)
 | 0, _ => by
  have h := (DJ hb.may hb.w (bad := bad) (by have := hb.bad; omega) ⟨[], []⟩).1;refine ⟨fun _ => ⟨0, 0, (0, 0), 0⟩, fun _ _ => ⟨0, 0, (0, 0)⟩, fun n hn => lA (fun b hb => by cases hb) (fun v hv => by cases hv) (h.nodes n hn).all, fun o ho => by cases ho⟩
 | k + 1, hk => by
  have ih := mp hb k (by omega);have hR := m8 (bad := bad) hb.may hb.w (by have := hb.bad; omega) hb.acts k (by omega);have hal := nX hb.len hb.acts.each;have r1 := hR.B;have r2 := hR.V;have r3 := hR.tick;have r4 : (bg c bad).Tick = 3 := rfl;have e1 : (bi (bg c bad) l k).C = c := hR.conf;have e2 : (bi (bg c bad) l k).Bad = bad := hR.bad;have h := AM hR.ok ⟨by omega, by omega⟩ hb.acts hR.sub hR.time (by rw [hR.nos, y6]; exact vK _ _) (by omega) (by rw [e1, e2]; exact ih);rw [e1, e2] at h;exact h
def E4 (c : Cf) (bad : List Int) (V : Vw) (s : Int) (id : ID) : Prop := Kn V.B id ∧ ∃ G : List Int, (∀ k ∈ G, k ∉ bad ∧ k ∈ fS c s ∧ ∃ v ∈ V.V, v.From = k ∧ v.Slot = s ∧ kw V.B id v.Head) ∧ fR c (fS c s) < 2 * fR c G
theorem DP {c : Cf} {bad : List Int} {V W : Vw} (h : ej V W) {s : Int} {id : ID} (hp : E4 c bad V s id) : E4 c bad W s id := by
 obtain ⟨h1, G, h2, h3⟩ := hp;refine ⟨tR h.1 h1, G, fun k hk => ?_, h3⟩;obtain ⟨a, b, v, hv, e1, e2, e3⟩ := h2 k hk;exact ⟨a, b, v, h.2 v hv, e1, e2, qi h.1 e3⟩
def K8 (bad : List Int) (V : List Vt) : Prop := ∀ x ∈ V, ∀ y ∈ V, x.From ∉ bad → kf y = kf x → y = x
theorem wk {c : Cf} {bad : List Int} {V : Vw} (hm : ei c V) (h1 : K8 bad V.V) {s : Int} {id : ID} (hp : E4 c bad V s id) : kw V.B id (bW c V.B (bH c V.V s)) := by
 obtain ⟨hk, G, hG, hw⟩ := hp;refine Dn (cm := fS c s) hm.valid Dm (fun x hx => (je.1 hx).2.2.1) hk ?_
 have : fR c G ≤ mB c V.B (bH c V.V s) id := uh fun k hk => by
  obtain ⟨a, b, v, hv, e1, e2, e3⟩ := hG k hk;exact (gL hm.valid).2 ⟨v, je.2 ⟨hv, e2, by rw [e1]; exact b, fun y hy e => by rw [h1 v hv y hy (by rw [e1]; exact a) e]⟩, e3, e1⟩
 omega
theorem Ft {c : Cf} {bad : List Int} {W : Int → Int → Vt} {T : Int} {x y : Vt} (h1 : Cy c bad W T x) (h2 : Cy c bad W T y) (hb : x.From ∉ bad) (e : kf y = kf x) : y = x := by
 have e1 : y.From = x.From := congrArg Du.frm e;have e2 : y.Slot = x.Slot := congrArg Du.slot e;rcases h1 with h1 | ⟨h1, -⟩
 ·exact absurd h1 hb
 ·rcases h2 with h2 | ⟨h2, -⟩
  ·rw [e1] at h2; exact absurd h2 hb
  ·rw [h2, e1, e2, ← h1]
section
variable {U : Vw} {w : Wd} {l : List Ac}
theorem mo (h : gF w.C w.Bad w) : ∀ n ∈ w.N, ∀ m ∈ w.N, ∀ x, x ∈ n.V.V ∨ x ∈ n.In.V → ∀ y, y ∈ m.V.V ∨ y ∈ m.In.V → x.From ∉ w.Bad → kf y = kf x → y = x := by
 obtain ⟨G, W, h1, -⟩ := h;intro n hn m hm x hx y hy;exact Ft (hx.elim ((h1 n hn).1.2 x) ((h1 n hn).2.1.2 x)) (hy.elim ((h1 m hm).1.2 y) ((h1 m hm).2.1.2 y))
def km (w : Wd) : Int := if (w.Tick - 1) % 3 = 2 then (w.Tick - 1) / 3 else (w.Tick - 1) / 3 - 1
theorem wy {t : Int} (h1 : 3 ≤ t) (h2 : t ≤ 100000) : DV t = if (t - 1) % 3 = 2 then (t - 1) / 3 else (t - 1) / 3 - 1 := by
 unfold DV;rw [cA (n := t - 1) (by omega) (by omega), Int.tmod_eq_emod_of_nonneg (by omega), Int.tdiv_eq_ediv_of_nonneg (by omega), cA (n := (t - 1) / 3) (by omega) (by omega), cA (n := (t - 1) / 3 - 1) (by omega) (by omega)];by_cases h : (t - 1) % 3 = 2
 ·rw [if_pos h, show ((t - 1) % 3 != 2) = false by simp [h], cf]
 ·rw [if_neg h, show ((t - 1) % 3 != 2) = true by simp [h], ct]
def As (w : Wd) (id : ID) : Prop := ∀ n ∈ w.N, E4 w.C w.Bad n.V (km w) id
theorem A3 (G : Gw U w l) (hh : gF w.C w.Bad w) {id : ID} (hp : As w id) {n : Nd} (hn : n ∈ w.N) : kw n.V.B id (jk w.C n) := by
 have h1 := G.time.lo;have h2 := G.soon
 have e : jk w.C n = bW w.C n.V.B (bH w.C n.V.V (km w)) := by
  unfold jk km;rw [G.time.at_ n hn, wy (by omega) (by omega)]
 rw [e];exact wk (G.may hn) (fun x hx y hy => mo hh n hn n hn x (.inl hx) y (.inl hy)) (hp n hn)
theorem DQ (G : Gw U w l) (ht : w.Tick % 3 ≠ 2) {id : ID} (hp : As w id) : As (eV w l) id := by
 obtain ⟨c1, c2, c3⟩ := G.conf;intro x hx;obtain ⟨k, n, hn, rfl⟩ := G.prev hx
 have e : km (eV w l) = km w := by
  unfold km;rw [c3]
  have : w.Tick % 3 = 0 ∨ w.Tick % 3 = 1 := by omega
  have := G.time.lo;rcases ‹_ ∨ _› with h | h
  ·rw [if_neg (by omega), if_pos (by omega)]; omega
  ·rw [if_neg (by omega), if_neg (by omega)]; omega
 rw [c1, c2, e];exact DP (qU (G.keeps hn)) (hp n (List.mem_of_getElem? hn))
def u8 (w : Wd) (s : Int) : Prop := ∀ n ∈ w.N, n.No ∈ fS w.C s → Vt.mk n.No s (bW w.C n.V.B (bH w.C n.V.V (s - 1))) ∈ n.In.V
theorem D8 (G : Gw U w l) (ht : w.Tick % 3 = 1) : u8 (eV w l) (w.Tick / 3) := by
 obtain ⟨c1, -, -⟩ := G.conf;intro x hx;obtain ⟨k, n, hn, rfl⟩ := G.prev hx;have hm := List.mem_of_getElem? hn;obtain ⟨-, -, -, s, -, e2, -, h⟩ := G.second hn ht;have hno : (cy w l k n).No = n.No := (lL (G.few hn) (G.may hm) (G.ok.nodes n hm).nd (G.ok.nodes n hm).few).1;rw [G.slot hm] at h;rw [c1, hno, e2];exact h
theorem oT (G : Gw U w l) (T : qe (eV w l) l) (ht : w.Tick % 3 = 2) (hu : ∀ n ∈ w.N, nW ((w.Tick - 1) / 3) n.V) (hv : u8 w (w.Tick / 3)) : ∀ x ∈ (eV w l).N, ∀ m ∈ w.N, ej m.V x.V ∧ (m.No ∈ fS w.C (w.Tick / 3) → Vt.mk m.No (w.Tick / 3) (bW w.C m.V.B (bH w.C m.V.V (w.Tick / 3 - 1))) ∈ x.V.V) := by
 intro x hx m hm;obtain ⟨k, n, hn, rfl⟩ := G.prev hx;obtain ⟨e1, -, -, e2, -⟩ := G.third hn ht;have hmt := G.meet T hn (e2 (T.room _ hx)) (by rw [e1]; exact e8 _) hm ⟨fun b hb => by have := (hu m hm).1 b hb; omega, fun v hv => by have := (hu m hm).2 v hv; omega⟩;rw [e1];refine ⟨hmt.1, fun hc => hmt.2 _ (hv m hm hc) (decide_eq_true hc) (Int.le_refl _) ?_⟩;have hmay := G.may hm;have hk : Kn m.V.B (bW w.C m.V.B (bH w.C m.V.V (w.Tick / 3 - 1))) := tM hmay.valid;have hlo := G.time.lo;rcases hk with e | ⟨b, hb, e⟩
 ·refine ⟨0, ?_, by show 0 ≤ w.Tick / 3; omega⟩;show aX _ (bW _ _ _) = _;rw [e]; exact xI _
 ·refine ⟨b.Slot, ?_, by show b.Slot ≤ w.Tick / 3; have := (hu m hm).1 b hb; omega⟩;show aX _ (bW _ _ _) = _;rw [← e]; exact rz hmay.valid hb
def xY (w : Wd) : Prop := ∀ s, ∀ k ∈ fS w.C s, k ∉ w.Bad → ∃ n ∈ w.N, n.No = k
theorem A2 (G : Gw U w l) (T : qe (eV w l) l) (hh : gF w.C w.Bad w) (hA : xY w) (ht : w.Tick % 3 = 2) (hu : ∀ n ∈ w.N, nW ((w.Tick - 1) / 3) n.V) (hv : u8 w (w.Tick / 3)) (hs : ge w.C w.Bad (w.Tick / 3) < fe w.C w.Bad (w.Tick / 3)) {id : ID} (hp : As w id) : As (eV w l) id := by
 obtain ⟨c1, c2, c3⟩ := G.conf;have hlo := G.time.lo
 have es : km w = w.Tick / 3 - 1 := by unfold km; rw [if_neg (by omega)]; omega
 have es' : km (eV w l) = w.Tick / 3 := by unfold km; rw [c3, if_pos (by omega)]; omega
 intro x hx;have hall := oT G T ht hu hv x hx;rw [c1, c2, es'];refine ⟨?_, (fS w.C (w.Tick / 3)).filter fun k => !mO w.Bad k, fun k hk => ?_, ?_⟩
 ·obtain ⟨k, n, hn, rfl⟩ := G.prev hx;have hm := List.mem_of_getElem? hn;exact tR (hall n hm).1.1 (hp n hm).1
 ·obtain ⟨h1, h2⟩ := List.mem_filter.1 hk;have h3 := pJ.1 h2;obtain ⟨m, hm, e⟩ := hA _ k h1 h3;obtain ⟨h4, h5⟩ := hall m hm;refine ⟨h3, h1, _, h5 (by rw [e]; exact h1), e, rfl, qi h4.1 ?_⟩;have := wk (G.may hm) (fun x hx y hy => mo hh m hm m hm x (.inl hx) y (.inl hy)) (hp m hm);rw [es] at this;exact this
 ·have := oU w.C w.Bad (w.Tick / 3);unfold fe at hs this;omega
theorem FD (G : Gw U w l) (T : qe (eV w l) l) (hh : gF w.C w.Bad w) (hh' : gF w.C w.Bad (eV w l)) (hA : xY w) (ht : w.Tick % 3 = 2) (hu : ∀ n ∈ w.N, nW ((w.Tick - 1) / 3) n.V) (hv : u8 w (w.Tick / 3)) {x : Nd} (hx : x ∈ (eV w l).N) (hmx : ei w.C x.V) {id : ID}
  (hsure : fR w.C (fS w.C (w.Tick / 3)) * (w.C.Den + 2 * w.C.Num) < 2 * mB w.C x.V.B (bH w.C x.V.V (w.Tick / 3)) id * w.C.Den)
  (hcalm : ge w.C w.Bad (w.Tick / 3) * w.C.Den ≤ (fe w.C w.Bad (w.Tick / 3) + ge w.C w.Bad (w.Tick / 3)) * w.C.Num) : As (eV w l) id := by
 obtain ⟨c1, c2, c3⟩ := G.conf;have hlo := G.time.lo
 have es' : km (eV w l) = w.Tick / 3 := by unfold km; rw [c3, if_pos (by omega)]; omega
 have hsum := oU w.C w.Bad (w.Tick / 3);have hden : 1 ≤ w.C.Den := G.time.may.2.2.2.2.2.2.2.1;obtain ⟨L, hL⟩ : ∃ L, L = lQ x.V.B (bH w.C x.V.V (w.Tick / 3)) id := ⟨_, rfl⟩;have hLm : ∀ k ∈ L, ∃ v ∈ bH w.C x.V.V (w.Tick / 3), kw x.V.B id v.Head ∧ v.From = k := fun k hk => (gL hmx.valid).1 (hL ▸ hk)
 have hLc : ∀ k ∈ L, k ∈ fS w.C (w.Tick / 3) := fun k hk => by
  obtain ⟨v, h1, -, h3⟩ := hLm k hk;exact h3 ▸ (je.1 h1).2.2.1
 -- the good part
 have hw : fR w.C L ≤ fR w.C (L.filter fun k => !mO w.Bad k) + ge w.C w.Bad (w.Tick / 3) := by
  have e : fR w.C L = fR w.C (L.filter (fun k => !mO w.Bad k) ++ L.filter (mO w.Bad)) := zY fun k => by
   rw [List.mem_append, List.mem_filter, List.mem_filter];cases mO w.Bad k <;> simp
  have h1 := (Eo w.C (L.filter fun k => !mO w.Bad k) (L.filter (mO w.Bad))).1;have h2 : fR w.C (L.filter (mO w.Bad)) ≤ ge w.C w.Bad (w.Tick / 3) := uh fun k hk => List.mem_filter.2 ⟨hLc k (List.mem_filter.1 hk).1, (List.mem_filter.1 hk).2⟩;omega
 have hmaj : fR w.C (fS w.C (w.Tick / 3)) < 2 * fR w.C (L.filter fun k => !mO w.Bad k) := by
  have hon : mB w.C x.V.B (bH w.C x.V.V (w.Tick / 3)) id = fR w.C L := by rw [hL]; rfl
  rw [hon] at hsure;rw [hsum] at hcalm;generalize fR w.C (fS w.C (w.Tick / 3)) = A at hsure hcalm ⊢;generalize fR w.C L = o at hsure hw;generalize fR w.C (L.filter fun k => !mO w.Bad k) = g at hw ⊢;generalize ge w.C w.Bad (w.Tick / 3) = q at hcalm hw;generalize w.C.Den = D at hsure hcalm hden;generalize w.C.Num = N at hsure hcalm;by_cases h : A < 2 * g
  ·exact h
  ·exfalso
   have h1 : 2 * o ≤ A + 2 * q := by omega
   have h2 : 2 * o * D ≤ (A + 2 * q) * D := Int.mul_le_mul_of_nonneg_right h1 (by omega)
   have h3 : (A + 2 * q) * D = A * D + 2 * (q * D) := by rw [Int.add_mul, Int.mul_assoc]
   have h4 : A * (D + 2 * N) = A * D + 2 * (A * N) := by rw [Int.mul_add, ← Int.mul_assoc A 2 N, Int.mul_comm A 2, Int.mul_assoc]
   omega
 -- each good vote was sent by a node, and is had by all
 have hgood : ∀ k ∈ L.filter (fun k => !mO w.Bad k), k ∉ w.Bad ∧ k ∈ fS w.C (w.Tick / 3) ∧ ∃ m ∈ w.N, m.No = k ∧ kw m.V.B id (bW w.C m.V.B (bH w.C m.V.V (w.Tick / 3 - 1))) := by
  intro k hk;obtain ⟨h1, h2⟩ := List.mem_filter.1 hk;have h3 := pJ.1 h2;have h4 := hLc k h1;obtain ⟨m, hm, e⟩ := hA _ k h4 h3;obtain ⟨v, hv1, hv2, hv3⟩ := hLm k h1;obtain ⟨g1, g2, -, -⟩ := je.1 hv1;obtain ⟨a1, a2⟩ := oT G T ht hu hv x hx m hm;have a3 := a2 (by rw [e]; exact h4);have hone := mo (w := eV w l) (by rw [c1, c2]; exact hh') x hx x hx v (.inl g1) _ (.inl a3) (by rw [c2, hv3]; exact h3) (by unfold kf; simp only; rw [e, hv3, g2]);refine ⟨h3, h4, m, hm, e, ?_⟩;rw [← hone] at hv2;exact CC (G.may hm).valid hmx.valid a1.1 hv2 (tM (G.may hm).valid)
 intro y hy;rw [c1, c2, es'];have hall := oT G T ht hu hv y hy;refine ⟨?_, L.filter fun k => !mO w.Bad k, fun k hk => ?_, hmaj⟩
 ·cases hc : L.filter fun k => !mO w.Bad k with
  | nil =>
   rw [hc, HR] at hmaj;have := (ti w.C (fS w.C (w.Tick / 3))).1;omega
  | cons k r =>
   obtain ⟨-, -, m, hm, -, ha⟩ := hgood k (by rw [hc]; exact .head _);exact tR (hall m hm).1.1 (Fa ha)
 ·obtain ⟨h3, h4, m, hm, e, ha⟩ := hgood k hk;obtain ⟨a1, a2⟩ := hall m hm;exact ⟨h3, h4, _, a2 (by rw [e]; exact h4), e, rfl, qi a1.1 ha⟩
end
open Go.Proofs
def uL : Option Bool :=
 (GH ).bind fun v1 =>
 (p0 v1 ([] : List Int)).bind fun v2 =>
 (Cg v2 ([] : List Ac) 3).bind fun v3 =>
 (Bx v3 (nm (Bk.mk 1 0 (0, 0) 0))).bind fun v4 =>
 bif v4 then
  (ix v3.N 0).bind fun y1 =>
  bif ((y1.C.ID.1 == ((nm (Bk.mk 1 0 (0, 0) 0)).1)) && ((y1.C.ID.2 == ((nm (Bk.mk 1 0 (0, 0) 0)).2)) && true)) then
   (rU v3.C ([] : List Int) 1 9).bind fun v5 =>
   some v5
  else
   some false
 else
  some false
theorem Jh {r_ : Bool} (hr : uL = some r_) : aw Tryz.prog 14 [] [.bool r_] := by
 refine zh Tryz.func14 Z Z Z Z ?_;unfold uL at hr;refine zQ (zR (zM Z (zN (zT (zQ (zR (zb hr fun v1 h_v1 hr => yS Z (zC Z Z Z (by kernel_rfl) (zp (Lj h_v1) .nil)) (zb hr fun v2 h_v2 hr => yS Z (zC Z Z Z (by kernel_rfl) (zp (F5 h_v2) (.cons zv (.cons Conv.zs .nil)))) (zb hr fun v3 h_v3 hr => yS Z (zC Z Z Z (by kernel_rfl) (zp (Jl h_v3) (.cons zv (.cons Conv.zs (.cons zv .nil))))) (yS Z (ze Z j9 Z Z) (yS Z (zs Z Z Z Z bK Z Z Z Z) (zN (zT (zQ (zR (yS Z (ab.build Z IE Z Z Z) (yS Z (zC Z Z Z (by kernel_rfl) (zp (Ha (b := (Bk.mk 1 0 (0, 0) 0))) (.cons zv .nil))) (yS Z (ze Z ka Z Z) (yS Z (zs Z Z Z Z aR Z Z Z Z) (zN ?_))))))))))))))))))));refine zT (zQ (LW.draw2 (by kernel_rfl) (by kernel_rfl) (yE Z (zD Z Z Z bK Z Z) (yE Z (zD Z Z Z aR Z Z) (zb hr fun v4 h_v4 hr => yE Z (zC Z Z Z (by kernel_rfl) (zp (IH h_v4) (.cons zv (.cons zv .nil)))) (zH Z ?_))))));refine LO.cases 11 Z (fun (g1 : v4 = true) => ?_) (fun (g1 : v4 = false) => ?_)
 ·
  refine zi g1 hr fun hr => LO.gd Z Z Z (gd g1 Z) Z (zA Z Z bF) (LO.gd Z Z Z (gd g1 Z) Z (zD Z Z Z db Z Z) (zb hr fun y1 h_y1 hr => LO.gd Z Z Z (gd g1 Z) Z (zx Z Z Z dP h_y1 Z) (LO.gd Z Z Z (gd g1 Z) Z (ab.fieldAddrC Z Z jc Z) (LO.gd Z Z Z (gd g1 Z) Z (ab.fieldAddrC Z Z oq Z) (LO.gd Z Z Z (gd g1 Z) Z (d6 Z Z Z aR Z Z) (LO.gd Z Z Z (gd g1 Z) Z (zD Z Z Z aR Z Z) (LO.gd Z Z Z (gd g1 Z) Z (ab.eqlAgg Z Z Z Z Z vo) (yE Z (eF Z (bM g1 Z) Z) (zH Z ?_)))))))));refine LO.cases 21 Z (fun (g2 : ((y1.C.ID.1 == ((nm (Bk.mk 1 0 (0, 0) 0)).1)) && ((y1.C.ID.2 == ((nm (Bk.mk 1 0 (0, 0) 0)).2)) && true)) = true) => ?_) (fun (g2 : ((y1.C.ID.1 == ((nm (Bk.mk 1 0 (0, 0) 0)).1)) && ((y1.C.ID.2 == ((nm (Bk.mk 1 0 (0, 0) 0)).2)) && true)) = false) => ?_)
  ·
   refine zi g2 hr fun hr => LO.gd Z Z Z (gd g2 Z) Z (zA Z Z i9) (LO.gd Z Z Z (gd g2 Z) Z (zD Z Z Z bA Z Z) (zb hr fun v5 h_v5 hr => LO.gd Z Z Z (gd g2 Z) Z (zC Z Z Z (by kernel_rfl) (zp (FY h_v5) (.cons zv (.cons Conv.zs (.cons zv (.cons zv .nil)))))) (yE Z (eF Z (bM g2 Z) Z) (zH Z (LO.nil (zT (zr ?_)))))));obtain rfl := zJ hr;exact zf (.one (.tmp Z)) zv
  ·
   refine zo g2 hr fun hr => LO.sk Z Z Z (gd g2 Z) Z Z (LO.sk Z Z Z (gd g2 Z) Z Z (LO.sk Z Z Z (gd g2 Z) Z Z (yE Z (df Z (bM g2 Z) Z) (zH Z (LO.nil (zT (zr ?_)))))));obtain rfl := zJ hr;exact zf (.one (.tmp Z)) zv
 ·
  refine zo g1 hr fun hr => LO.sk Z Z Z (gd g1 Z) Z Z (LO.sk Z Z Z (gd g1 Z) Z Z (LO.sk Z Z Z (gd g1 Z) Z Z (LO.sk Z Z Z (gd g1 Z) Z Z (LO.sk Z Z Z (gd g1 Z) Z Z (LO.sk Z Z Z (gd g1 Z) Z Z (LO.sk Z Z Z (gd g1 Z) Z Z (LO.sk Z Z Z (gd g1 Z) Z Z (yE Z (df Z (bM g1 Z) Z) (zH Z (LO.sk Z Z Z Z Z Z (LO.sk Z Z Z Z Z Z (LO.sk Z Z Z Z Z Z (yE Z (df Z Z Z) (zH Z (LO.nil (zT (zr ?_)))))))))))))))));obtain rfl := zJ hr;exact zf (.one (.tmp Z)) zv
def sc (c : Cf) (bad : List Int) (l : List Ac) (slots : Int) : Option Bool :=
 (se c bad l).bind fun v1 =>
 bif v1 then
  bif decide (slots ≥ 1) then
   some (decide (slots ≤ 4))
  else
   some false
 else
  some false
theorem Ji {c : Cf} {bad : List Int} {l : List Ac} {slots : Int} {r_ : Bool} (hr : sc c bad l slots = some r_) : aw Tryz.prog 15 [jC c, .slice 1 (bad.map aG), .slice 5 (l.map kq), .int .i64 slots] [.bool r_] := by
 refine zh Tryz.func15 Z Z Z Z ?_;unfold sc at hr;refine zQ (zR (yS Z (b6 Z Z Z Z Z) (zM Z (zN (zT (zQ (zR (yS Z (zD Z Z Z bA Z Z) (zM Z (zM Z (zb hr fun v1 h_v1 hr => yS Z (zC Z Z Z (by kernel_rfl) (zp (Jk h_v1) (.cons zv (.cons zv (.cons zv .nil))))) (zM Z (zN (zT (zQ (zR (zM Z (zM Z ?_))))))))))))))))));refine zc 15 Z (fun g1 => ?_) (fun g1 => ?_)
 ·
  refine zi g1 hr fun hr => yV Z (gd g1 Z) (zm Z Z) (yV Z (gd g1 Z) (ax Z Z Z Z) (yS Z (eF Z (bM g1 Z) Z) (zM Z ?_)));refine zc 19 Z (fun g2 => ?_) (fun g2 => ?_)
  ·
   refine zi g2 hr fun hr => yV Z (gd g2 Z) (zm Z Z) (yV Z (gd g2 Z) (ax Z Z Z Z) (yS Z (eF Z (bM g2 Z) Z) (zM Z (zN (zT (zr ?_))))));obtain rfl := zJ hr;exact zf (.one (.tmp Z)) zv
  ·
   refine zo g2 hr fun hr => yU Z (gd g2 Z) Z (yU Z (gd g2 Z) Z (yS Z (df Z (bM g2 Z) Z) (zM Z (zN (zT (zr ?_))))));obtain rfl := zJ hr;exact zf (.one (.tmp Z)) zv
 ·
  refine zo g1 hr fun hr => yU Z (gd g1 Z) Z (yU Z (gd g1 Z) Z (yS Z (df Z (bM g1 Z) Z) (zM Z (yU Z Z Z (yU Z Z Z (yS Z (df Z Z Z) (zM Z (zN (zT (zr ?_))))))))));obtain rfl := zJ hr;exact zf (.one (.tmp Z)) zv
def sd (w : Wd) (l : List Ac) : Option Bool :=
 (uI w.N).bind fun v1 =>
 bif v1 then
  some true
 else
  (uq w l).bind fun v2 =>
  (uJ v2).bind fun v3 =>
  some v3
theorem Jj {w : Wd} {l : List Ac} {r_ : Bool} (hr : sd w l = some r_) : aw Tryz.prog 18 [Ei w, .slice 5 (l.map kq)] [.bool r_] := by
 refine zh Tryz.func18 Z Z Z Z ?_;unfold sd at hr;refine zQ (zR (yS Z (b6 Z Z Z Z Z) (zM Z (zN (zT (zQ (zR (yS Z (zA Z Z bF) (yS Z (zD Z Z Z db Z Z) (zb hr fun v1 h_v1 hr => yS Z (zC Z Z Z (by kernel_rfl) (zp (Ja h_v1) (.cons zv .nil))) (zM Z ?_)))))))))));refine zc 8 Z (fun g1 => ?_) (fun g1 => ?_)
 ·
  refine zi g1 hr fun hr => yU Z (gd g1 Z) Z (yU Z (gd g1 Z) Z (yU Z (gd g1 Z) Z (yU Z (gd g1 Z) Z (yS Z (eF Z (bM g1 Z) Z) (zM Z (zN (zT (zr ?_))))))));obtain rfl := zJ hr;exact zf (.one (.tmp Z)) zv
 ·
  refine zo g1 hr fun hr => yV Z (gd g1 Z) (zD Z Z Z bK Z Z) (yV Z (gd g1 Z) (zm Z Z) (zb hr fun v2 h_v2 hr => yV Z (gd g1 Z) (zC Z Z Z (by kernel_rfl) (zp (II h_v2) (.cons zv (.cons zv .nil)))) (zb hr fun v3 h_v3 hr => yV Z (gd g1 Z) (zC Z Z Z (by kernel_rfl) (zp (Jb h_v3) (.cons zv .nil))) (yS Z (df Z (bM g1 Z) Z) (zM Z (zN (zT (zr ?_))))))));obtain rfl := zJ hr;exact zf (.one (.tmp Z)) zv
def jQ (l : List Bk) : List (ID × Bool) := l.foldl (fun m b => aP m (nm b) true) (aP [] (0, 0) true)
theorem vZ (l : List Bk) (b : Bk) : jQ (l ++ [b]) = aP (jQ l) (nm b) true := by unfold jQ; rw [List.foldl_append]; rfl
theorem wa : ∀ (l : List Bk) (m : List (ID × Bool)), (l.foldl (fun m b => aP m (nm b) true) m).length ≤ m.length + l.length ∧
  ((l.foldl (fun m b => aP m (nm b) true) m).length = m.length + l.length ↔ (l.map nm).Nodup ∧ ∀ x ∈ l.map nm, x ∉ m.map Prod.fst)
 | [], m => by simp
 | b :: r, m => by
  have ih := wa r (aP m (nm b) true);have hk := nk (nm b) true m;have hlen := congrArg List.length hk;rw [List.length_map] at hlen;simp only [List.foldl_cons, List.length_cons, List.map_cons, List.nodup_cons, List.mem_cons, forall_eq_or_imp];by_cases h : nm b ∈ m.map Prod.fst
  ·rw [if_pos h] at hlen hk;rw [List.length_map] at hlen;refine ⟨by omega, ⟨fun e => by omega, fun e => absurd h e.2.1⟩⟩
  ·rw [if_neg h] at hlen hk;rw [List.length_append, List.length_map, List.length_singleton] at hlen;refine ⟨by omega, ?_⟩;rw [show m.length + (r.length + 1) = (aP m (nm b) true).length + r.length by omega, ih.2, hk];constructor
   ·rintro ⟨h1, h2⟩;refine ⟨⟨fun h3 => ?_, h1⟩, h, fun x hx h3 => h2 x hx (List.mem_append_left _ h3)⟩;exact h2 _ h3 (List.mem_append_right _ (List.mem_singleton.2 Z))
   ·rintro ⟨⟨h1, h2⟩, -, h4⟩;refine ⟨h2, fun x hx h5 => ?_⟩;rcases List.mem_append.1 h5 with h6 | h6
    ·exact h4 x hx h6
    ·rw [List.mem_singleton] at h6; subst h6; exact h1 hx
theorem AV (l : List Bk) : (jQ l).length ≤ l.length + 1 ∧ ((jQ l).length = l.length + 1 ↔ ((0, 0) :: l.map nm).Nodup) := by
 have h := wa l (aP [] (0, 0) true);have e : aP ([] : List (ID × Bool)) (0, 0) true = [((0, 0), true)] := rfl;rw [e] at h;simp only [List.length_singleton, List.map_cons, List.map_nil, List.mem_singleton] at h;have e2 : jQ l = l.foldl (fun m b => aP m (nm b) true) [((0, 0), true)] := rfl;rw [e2];refine ⟨by omega, ?_⟩;rw [show l.length + 1 = 1 + l.length by omega, h.2, List.nodup_cons];exact ⟨fun ⟨h1, h2⟩ => ⟨fun h3 => h2 _ h3 rfl, h1⟩, fun ⟨h1, h2⟩ => ⟨h2, fun x hx e => h1 (e ▸ hx)⟩⟩
def tB (l : List Bk) : Bool := decide (¬ ((0, 0) :: l.map nm).Nodup)
theorem B7 {w : Vw} (hl : w.B.length ≤ 90000) : uJ w = some (tB w.B) := by
 have e := aB (step := iT w) (n := w.B.length) (fun k => ec.mk (k : Int) (jQ (w.B.take k))) (ec.mk (w.B.length : Int) (jQ w.B)) (fun k hk => by
  obtain ⟨y, hy, -⟩ := aF hk
  have et : w.B.take (k + 1) = w.B.take k ++ [y] := by rw [List.take_add_one, hy]; rfl
  unfold iT;simp only
  rw [decide_eq_true (show (k : Int) < (w.B.length : Int) by omega), ct, aI hy, ob, et, vZ, ak (n := k) (by omega)]) (by
  unfold iT;simp only
  rw [decide_eq_false (show ¬ (w.B.length : Int) < (w.B.length : Int) by omega), cf, List.take_length]) (by omega)
 have e' : iter (iT w) bG (ec.mk 0 (aP [] (0, 0) true)) = _ := e;have hn := AV w.B;unfold uJ;rw [e', ob];simp only;rw [show qy (jQ w.B) = true from decide_eq_true (by omega), ct, ak (n := w.B.length) (by omega)];congr 1;unfold tB;rw [Bool.eq_iff_iff, decide_eq_true_iff, ← hn.2, bne_iff_ne];omega
theorem DY {c : Cf} {n : Nd} {inp : Vw} {o : List Of} (hf : kE c n inp o) (h : eo c n = false) (h2 : n.Tick.tmod 3 = 2) :
  ∃ r : ID × Bool, (r.2 = true → u7 c (aC c n.V (jL c n inp) (az n)).1 (az n) r.1) ∧
   (b8 c n inp o).1.C = c8 n.C (aC c n.V (jL c n inp) (az n)).1.B (bW c (aC c n.V (jL c n inp) (az n)).1.B (bH c (aC c n.V (jL c n inp) (az n)).1.V (az n))) r.1 r.2 (az n) := by
 have hi : (jL c n inp).B.length ≤ 500 ∧ (jL c n inp).V.length ≤ 500 := hf.ins
 have hm : cD c := by
  have := of_decide_eq_false h;exact Decidable.not_not.1 fun h => this (.inl h)
 have hv := hf.vw;obtain ⟨r, hr, hs, e⟩ := qb (x := bN c n inp o) (slot := az n) hm (by show n.V.B.length ≤ 500; omega) (by show n.V.V.length ≤ 500; omega) (by show (jL c n inp).B.length ≤ 500; omega) (by show (jL c n inp).V.length ≤ 500; omega);refine ⟨r, hs, ?_⟩;have e0 := mY hf h;rw [show ((n.Tick.tmod 3) == 0) = false by rw [h2]; rfl, cf, show ((n.Tick.tmod 3) == 1) = false by rw [h2]; rfl, cf, beq_iff_eq.2 h2, ct, e, ob] at e0;unfold b8;rw [e0];rfl
structure E3 (w : Wd) : Prop where
 upto : ∀ n ∈ w.N, nW ((w.Tick - 1) / 3) n.V
 voted : w.Tick % 3 = 2 → u8 w (w.Tick / 3)
theorem Fx {U : Vw} {w : Wd} {l : List Ac} (G : Gw U w l) (h : E3 w) : E3 (eV w l) := by
 obtain ⟨-, -, e⟩ := G.conf;refine ⟨?_, fun ht => ?_⟩
 ·rw [e, show (w.Tick + 1 - 1) / 3 = w.Tick / 3 by rw [Int.add_sub_cancel]];exact G.upto h.upto
 ·rw [e] at ht ⊢;rw [show (w.Tick + 1) / 3 = w.Tick / 3 by omega];exact D8 G (by omega)
section
variable {c : Cf} {bad : List Int} {l : List Ac}
theorem qZ (hb : iJ c bad l) : ∀ k, k ≤ 15 → E3 (bi (bg c bad) l k)
 | 0, _ => by
  refine ⟨fun n hn => ?_, fun ht => ?_⟩
  ·obtain ⟨i, -, h⟩ := List.mem_map.1 hn;subst h;exact ⟨fun b hb => (by cases hb), fun v hv => (by cases hv)⟩
  ·exact absurd ht (by show ¬ (3 : Int) % 3 = 2; omega)
 | k + 1, hk => Fx (jK hb (by omega)) (qZ hb k (by omega))
theorem gY (hb : iJ c bad l) {k : Nat} (hk : k ≤ 15) : (bi (bg c bad) l k).C = c ∧ (bi (bg c bad) l k).Bad = bad ∧ (bi (bg c bad) l k).Tick = 3 + k :=
 have h := m8 (bad := bad) hb.may hb.w (by have := hb.bad; omega) hb.acts k hk
 ⟨h.conf, h.bad, h.tick⟩
theorem DS (hb : iJ c bad l) {k : Nat} (hk : k ≤ 15) : xY (bi (bg c bad) l k) := by
 have h := m8 (bad := bad) hb.may hb.w (by have := hb.bad; omega) hb.acts k hk;obtain ⟨e1, e2, -⟩ := gY hb hk;intro s i hi hib;rw [e1] at hi;rw [e2] at hib;unfold fS at hi;split at hi
 ·obtain ⟨q, hq, -, rfl⟩ := (sQ _ _ _).1 hi;have hm : (q : Int) ∈ jf bad c.W.length := List.mem_filter.2 ⟨List.mem_map.2 ⟨q, List.mem_range.2 hq, rfl⟩, decide_eq_true hib⟩;rw [← y6, ← h.nos] at hm;obtain ⟨n, hn, e⟩ := List.mem_map.1 hm;exact ⟨n, hn, e⟩
 ·cases hi
theorem tZ (hb : iJ c bad l) {k : Nat} (hk : k ≤ 15) : gF (bi (bg c bad) l k).C (bi (bg c bad) l k).Bad (bi (bg c bad) l k) := by
 obtain ⟨e1, e2, -⟩ := gY hb hk;rw [e1, e2];exact mp hb k hk
theorem y9 (hb : iJ c bad l) {k : Nat} (hk : k ≤ 15) : rH (bi (bg c bad) l k) := zP (jK hb hk).ok (jK hb hk).sz
theorem HM (hb : iJ c bad l) {k : Nat} (hk : k ≤ 15) : oW (bi (bg c bad) l k) l = some (bi (bg c bad) l (k + 1)) :=
 have G := jK hb hk
 (Gi G.ok G.sz G.acts G.sub).1
theorem B9 : uL = some true := by kernel_rfl
theorem Ca (c : Cf) (bad : List Int) (l : List Ac) (slots : Int) : sc c bad l slots = some false ∨ (sc c bad l slots = some true ∧ iJ c bad l ∧ 1 ≤ slots ∧ slots ≤ 4) := by
 unfold sc;rcases Ce c bad l with e | ⟨e, hb⟩
 ·rw [e, ob, cf]; exact .inl rfl
 ·rw [e, ob, ct];by_cases h1 : slots ≥ 1
  ·rw [decide_eq_true h1, ct];by_cases h2 : slots ≤ 4
   ·rw [decide_eq_true h2]; exact .inr ⟨rfl, hb, h1, h2⟩
   ·rw [decide_eq_false h2]; exact .inl rfl
  ·rw [decide_eq_false h1, cf]; exact .inl rfl
theorem Cd {w : Wd} (h : rH w) (hl : lO l) : sd w l = some true ∨ (sd w l = some false ∧ qe w l) := by
 have hs := DU h hl;have hn := h.n;unfold sd;rw [B6 (by omega), ob]
 cases hf : w.N.any Nd.Full with
 | true => rw [ct]; exact .inl rfl
 | false =>
  rw [cf, By h hl, ob, B7 (by omega), ob]
  cases hc : tB (kj w l).B with
  | true => exact .inl rfl
  | false =>
   refine .inr ⟨rfl, fun n hn => ?_, ?_⟩
   ·have := List.any_eq_false.1 hf n hn
    cases hq : n.Full with
    | true => exact absurd hq this
    | false => rfl
   ·unfold tB at hc;exact Decidable.not_not.1 (of_decide_eq_false hc)
end
end Go.Mg
