/- Laws of views. Plain laws of views: order, and all. Nets, plain: how much nodes have; what they have together. Laws of nets, plain: what all have together, in whatever order. A node behind a tick, plain. A node behind a tick, plain: the phases. A node behind a tick, plain: the whole. NodeKnown, plain. NodeKeeps, plain. What a node is behind a tick: what it has, how much that is. A world behind a tick, plain. Worlds that go on, plain. Worlds that go on: what is so of them goes on. A world that begins; what is begun; worlds that are the same. AuditSeen, plain. What nodes count, where there is room: what one counted all count in phase 2, the proposer in phase 0. PlayHonest. PlayHonest, plain. What more than half of a slot's committee, of the good ones, voted for is under each node's head, ever after. What the laws through the layers share. Laws of nets, plain. Runs: what holds behind each tick. Conditions: none. -/
import Derived.Test.YtbjmcafamkdokaaGreatX7
import Derived.Test.YtbjmcafamkdokaaGreatX9
import Derived.Test.YtbjmcafamkdokaaGreatX8
import Derived.Test.YtbjmcafamkdokaaGreatX3
import Derived.Test.YtbjmcafamkdokaaGreatX6
set_option maxRecDepth 100000
set_option linter.unusedSimpArgs false
set_option linter.unusedVariables false
namespace Go.Mg
open Go.Proofs
open Classical in
theorem A7 {S R : Type} {step : S → Option (S ⊕ (S ⊕ R))} {n : Nat} (mk : Nat → S) (r0 : R) (P : Nat → Prop) (hs : ∀ j, j < n → step (mk j) = some (.inr (.inr r0)) ∨ (step (mk j) = some (.inl (mk (j + 1))) ∧ P j))
  (he : step (mk n) = some (.inr (.inl (mk n)))) (hn : n < 4000000000000000000) : iter step bD (mk 0) = some (.inr r0) ∨ (iter step bD (mk 0) = some (.inl (mk n)) ∧ ∀ j, j < n → P j) := by
 have e := eN mk (fun j => if step (mk j) = some (.inl (mk (j + 1))) ∧ P j then none else some r0) (fun j hj => by
  by_cases h : step (mk j) = some (.inl (mk (j + 1))) ∧ P j
  ·simp only [if_pos h]; exact h.1
  ·simp only [if_neg h]; exact (hs j hj).resolve_right h) he hn
 rw [e]
 cases h : cv (fun j => if step (mk j) = some (.inl (mk (j + 1))) ∧ P j then none else some r0) 0 n with
 | none =>
  right;refine ⟨rfl, fun j hj => ?_⟩;have := fI.1 h j (Nat.zero_le _) (by omega);split at this
  ·rename_i h2; exact h2.2
  ·cases this
 | some r =>
  left;obtain ⟨j, -, -, h2, -⟩ := dI h;split at h2
  ·cases h2
  ·cases h2; rfl
def kC (k : Int) (w : Vw) : Prop := (w.B.length : Int) ≤ k ∧ (w.V.length : Int) ≤ k
def l8 (k : Int) (n : Nd) : Prop := kC k n.V ∧ kC k n.In ∧ n.O.length ≤ 10 ∧ ∀ o ∈ n.O, kC k o.V
def bW (n : Nd) : Vw := aT n.V n.In
theorem sK {n : Nd} {k : Int} (h : l8 k n) : ((bW n).B.length : Int) ≤ 2 * k ∧ ((bW n).V.length : Int) ≤ 2 * k := by
 obtain ⟨⟨a1, a2⟩, ⟨b1, b2⟩, -⟩ := h;have h1 := db n.In.B n.V.B;have h2 := db n.In.V n.V.V;unfold bW aT;simp only;omega
theorem Bz {n : Nd} {k : Int} (h : l8 k n) (hk : k ≤ 1000) : uu n = some (bW n) := by
 obtain ⟨⟨a1, a2⟩, ⟨b1, b2⟩, -⟩ := h;unfold uu;rw [iD (by omega) (by omega)]; rfl
def ge (l : List Nd) (w : Vw) : Vw := l.foldl (fun w n => aT w (bW n)) w
theorem Aq (l : List Nd) (n : Nd) (w : Vw) : ge (l ++ [n]) w = aT (ge l w) (bW n) := by unfold ge; rw [List.foldl_append]; rfl
theorem qi {k : Int} : ∀ {l : List Nd} {w : Vw}, (∀ n ∈ l, l8 k n) → ((ge l w).B.length : Int) ≤ w.B.length + l.length * (2 * k) ∧ ((ge l w).V.length : Int) ≤ w.V.length + l.length * (2 * k)
 | [], w, _ => by simp [ge]
 | n :: r, w, h => by
  have h1 := sK (h n (.head _));have h2 := qi (l := r) (w := aT w (bW n)) fun m hm => h m (.tail _ hm);have h3 := db (bW n).B w.B;have h4 := db (bW n).V w.V;have e : ge (n :: r) w = ge r (aT w (bW n)) := rfl;have e1 : (aT w (bW n)).B = cP w.B (bW n).B := rfl;have e2 : (aT w (bW n)).V = cP w.V (bW n).V := rfl;rw [e, List.length_cons, Int.natCast_add, Int.add_mul];rw [e1, e2] at h2;omega
theorem nk {b : Bk} : ∀ {l : List Nd} {w : Vw}, b ∈ (ge l w).B ↔ b ∈ w.B ∨ ∃ n ∈ l, b ∈ (bW n).B
 | [], w => by simp [ge]
 | n :: r, w => by
  have e : ge (n :: r) w = ge r (aT w (bW n)) := rfl;rw [e, nk];have e1 : (aT w (bW n)).B = cP w.B (bW n).B := rfl;rw [e1, fr];simp [or_assoc]
theorem nl {v : Vt} : ∀ {l : List Nd} {w : Vw}, v ∈ (ge l w).V ↔ v ∈ w.V ∨ ∃ n ∈ l, v ∈ (bW n).V
 | [], w => by simp [ge]
 | n :: r, w => by
  have e : ge (n :: r) w = ge r (aT w (bW n)) := rfl;rw [e, nl];have e1 : (aT w (bW n)).V = cP w.V (bW n).V := rfl;rw [e1, fr];simp [or_assoc]
theorem sn : ∀ {l : List Nd} {w : Vw}, w.B.Nodup → w.V.Nodup → (ge l w).B.Nodup ∧ (ge l w).V.Nodup
 | [], w, h1, h2 => ⟨h1, h2⟩
 | n :: r, w, h1, h2 => sn (l := r) (w := aT w (bW n)) (fR h1) (fR h2)
theorem wO {k0 : Int} {l : List Nd} {w : Vw} (h0 : 0 ≤ k0) (hk0 : k0 ≤ 1000) (hl : (l.length : Int) * (2 * k0) ≤ 40000) (hl2 : l.length ≤ 100000) (hs : ∀ n ∈ l, l8 k0 n) (h1 : w.B.length ≤ 1000) (h2 : w.V.length ≤ 1000) : p9 l w = some (ge l w) := by
 have e := az (step := gl l) (n := l.length) (fun k => dx.mk (k : Int) (ge (l.take k) w)) (dx.mk (l.length : Int) (ge l w)) (fun k hk => by
  obtain ⟨y, hy, hm⟩ := aE hk
  have et : l.take (k + 1) = l.take k ++ [y] := by rw [List.take_add_one, hy]; rfl
  have hsy := hs y hm;have hlen := qi (l := l.take k) (w := w) fun m hm => hs m (List.mem_of_mem_take hm);rw [List.length_take] at hlen;have hkn := sK hsy;have hmul : ((Min.min k l.length : Nat) : Int) * (2 * k0) ≤ l.length * (2 * k0) := Int.mul_le_mul_of_nonneg_right (by omega) (by omega);unfold gl;simp only;rw [decide_eq_true (show (k : Int) < (l.length : Int) by omega), ct, aH hy, ob, et, Aq, aj (n := k) (by omega)];unfold yj;rw [Bz hsy (by omega), ob, iD (by omega) (by omega), ob]
  rfl) (by
  unfold gl;simp only
  rw [decide_eq_false (show ¬ (l.length : Int) < (l.length : Int) by omega), cf, List.take_length]) (by omega)
 have e' : iter (gl l) bD (dx.mk 0 w) = _ := e;unfold p9;rw [e', ob]
theorem rW {l : List Nd} (hl : l.length ≤ 40) (hs : ∀ n ∈ l, l8 500 n) : rV l = some (ge l ⟨[], []⟩) := by
 unfold rV;rw [wO (k0 := 500) (by omega) (by omega) (by omega) (by omega) hs (Nat.zero_le _) (Nat.zero_le _)]; rfl
theorem xd (l : List Nd) : (cv (fun j => match l[j]? with | some y => if y.Full = true then some (j : Int) else none | none => none) 0 l.length).isSome = l.any Nd.Full := by
 cases h : cv (fun j => match l[j]? with | some y => if y.Full = true then some (j : Int) else none | none => none) 0 l.length with
 | none =>
  symm;rw [Option.isSome_none, List.any_eq_false];intro x hx;obtain ⟨j, hj⟩ := List.getElem?_of_mem hx;have := fI.1 h j (Nat.zero_le _) (by have := (List.getElem?_eq_some_iff.1 hj).1; omega);rw [hj] at this;simp only at this;split at this
  ·cases this
  ·assumption
 | some r =>
  symm;rw [Option.isSome_some, List.any_eq_true];obtain ⟨j, -, -, h3, -⟩ := dI h;split at h3
  ·rename_i y hy;split at h3
   ·rename_i hf; exact ⟨y, List.mem_of_getElem? hy, hf⟩
   ·cases h3
  ·cases h3
theorem B4 {l : List Nd} (hl : l.length ≤ 100000) : uH l = some (l.any Nd.Full) := by
 have e := eN (step := lv l) (n := l.length) (fun k => gc.mk (k : Int)) (fun j => match l[j]? with | some y => if y.Full = true then some (j : Int) else none | none => none) (fun j hj => by
  obtain ⟨y, hy, -⟩ := aE hj;unfold lv yf;simp only;rw [decide_eq_true (show (j : Int) < (l.length : Int) by omega), ct, aH hy, ob, ob, aj (n := j) (by omega), hy]
  cases hf : y.Full with
  | true => rw [ct]; simp [hf]
  | false => rw [cf]; simp [hf]) (by
  unfold lv;simp only
  rw [decide_eq_false (show ¬ (l.length : Int) < (l.length : Int) by omega), cf]) (by omega)
 have e' : iter (lv l) bD (gc.mk 0) = _ := e;unfold uH EQ EU;rw [← xd, e', ob]
 cases h : cv (fun j => match l[j]? with | some y => if y.Full = true then some (j : Int) else none | none => none) 0 l.length with
 | none => rw [lQ, sl, ob]; rfl
 | some r =>
  have h0 : r ≥ 0 := by
   obtain ⟨j, -, -, h3, -⟩ := dI h;split at h3
   ·split at h3
    ·cases h3; omega
    ·cases h3
   ·cases h3
  rw [lQ, sr, ob, decide_eq_true h0]; rfl
def LL : Of := Of.mk 0 0 (Bk.mk 0 0 (0, 0) 0) (Vw.mk [] [])
theorem Co {n : Nat} (hn : n ≤ 1000) : uT (n : Int) = some (List.replicate n LL) := by
 have e : IntKind.i64.wrap ((n : Int) - (IntKind.i64.wrap (0 - 0))) = n := by
  rw [show IntKind.i64.wrap (0 - 0) = 0 from by decide, cA (by omega) (by omega)]; omega
 unfold uT;rw [decide_eq_false (show ¬ (n : Int) < 0 by omega), cf, e];by_cases h0 : (n : Int) > 0
 ·rw [decide_eq_true h0, ct, show AP (n : Int) 104 = true from decide_eq_true (by omega), ct];simp [LL]
 ·rw [decide_eq_false h0, cf]
  obtain rfl : n = 0 := by omega
  rfl
theorem B6 {a b : List Of} (h : a.length + b.length ≤ 1000) : uJ [a, b] = some (a ++ b) := by
 have e1 := az (step := gC [a, b]) (n := 2) (fun k => match k with | 0 => dp.mk 0 0 | 1 => dp.mk (a.length : Int) 1 | _ => dp.mk ((a.length + b.length : Nat) : Int) 2) (dp.mk ((a.length + b.length : Nat) : Int) 2) (fun k hk => by
  match k, hk with
  | 0, _ =>
   unfold gC;simp only;rw [decide_eq_true (show (0 : Int) < (([a, b] : List (List Of)).length : Int) by simp), ct, show ix [a, b] 0 = some a from rfl, ob, cA (by omega) (by omega), decide_eq_false (show ¬ (0 : Int) + (a.length : Int) < 0 by omega), cf, Int.zero_add];rfl
  | 1, _ =>
   unfold gC;simp only;rw [decide_eq_true (show (1 : Int) < (([a, b] : List (List Of)).length : Int) by simp), ct, show ix [a, b] 1 = some b from rfl, ob, cA (by omega) (by omega), decide_eq_false (show ¬ (a.length : Int) + (b.length : Int) < 0 by omega), cf, Int.natCast_add]
   rfl) (by
  unfold gC;simp only
  rw [decide_eq_false (show ¬ (2 : Int) < (([a, b] : List (List Of)).length : Int) by simp), cf]) (by omega)
 have e1' : iter (gC [a, b]) bD (dp.mk 0 0) = _ := e1;obtain ⟨r, hr⟩ : ∃ r, r = List.replicate (a.length + b.length) LL := ⟨_, rfl⟩
 have hrl : r.length = a.length + b.length := by rw [hr]; simp
 have p1 : fb r 0 a = a ++ r.drop a.length := by unfold fb; simp
 have p1l : (fb r 0 a).length = a.length + b.length := by rw [p1]; simp; omega
 have p2 : (fb (fb r 0 a) a.length b).take (a.length + b.length) = a ++ b := by
  have e : (fb r 0 a).take a.length = a := by rw [p1, List.take_left']; rfl
  unfold fb at e ⊢;rw [e, List.take_left'];simp
 have p2l : (fb (fb r 0 a) a.length b).length = a.length + b.length := by rw [wk (by rw [p1l]; omega), p1l]
 have e2 := az (step := gD [a, b]) (n := 2) (fun k => match k with | 0 => dq.mk 0 0 r | 1 => dq.mk a.length 1 (fb r 0 a) | _ => dq.mk (a.length + b.length) 2 (fb (fb r 0 a) a.length b)) (dq.mk (a.length + b.length) 2 (fb (fb r 0 a) a.length b)) (fun k hk => by
  match k, hk with
  | 0, _ =>
   unfold gD;simp only;rw [decide_eq_true (show (0 : Int) < (([a, b] : List (List Of)).length : Int) by simp), ct, show ix [a, b] 0 = some a from rfl, ob, decide_eq_true (show 0 + a.length ≤ r.length by omega), ct, Nat.zero_add];rfl
  | 1, _ =>
   unfold gD;simp only;rw [decide_eq_true (show (1 : Int) < (([a, b] : List (List Of)).length : Int) by simp), ct, show ix [a, b] 1 = some b from rfl, ob, decide_eq_true (show a.length + b.length ≤ (fb r 0 a).length by omega), ct]
   rfl) (by
  unfold gD;simp only
  rw [decide_eq_false (show ¬ (2 : Int) < (([a, b] : List (List Of)).length : Int) by simp), cf]) (by omega)
 have e2' : iter (gD [a, b]) bD (dq.mk 0 0 r) = _ := e2;unfold uJ;rw [e1', ob];simp only;rw [Co h, ob, ← hr, e2', ob];simp only;rw [show Nat.ble (a.length + b.length) (fb (fb r 0 a) a.length b).length = true from Nat.ble_eq_true_of_le (by omega), ct, p2]
def nV (o : Of) : Prop := o.V.B.length ≤ 1000 ∧ o.V.V.length ≤ 1000
theorem p0 {v : Vw} (h1 : v.B.length ≤ 1000) (h2 : v.V.length ≤ 1000) : pZ v = some v := by
 unfold pZ;rw [aL (by omega) (by omega), ct, aL (by omega) (by omega), ct]
theorem p4 {o : Of} (h : nV o) : p3 o = some o := by
 unfold p3;rw [p0 h.1 h.2];rfl
def HJ (t : Int) (c : Cf) (slot : Int) (o : Of) : Bool := decide (¬ t.tmod 3 = 2 ∧ o.Slot = slot ∧ o.From = mA c slot)
def k5 (t : Int) (c : Cf) (slot : Int) (s : List Of × Bool) (o : Of) : List Of × Bool := if HJ t c slot o = true then (if s.1.length = 8 then (s.1, true) else (s.1 ++ [o], s.2)) else s
def jf (t : Int) (c : Cf) (slot : Int) (full : Bool) (l : List Of) : List Of × Bool := l.foldl (k5 t c slot) ([], full)
theorem AF (t : Int) (c : Cf) (slot : Int) (full : Bool) (l : List Of) (o : Of) : jf t c slot full (l ++ [o]) = k5 t c slot (jf t c slot full l) o := by unfold jf; rw [List.foldl_append]; rfl
theorem yO {t : Int} {c : Cf} {slot : Int} : ∀ (l : List Of) (s : List Of × Bool), s.1.length ≤ 8 → (l.foldl (k5 t c slot) s).1.length ≤ 8 ∧ (∀ o ∈ (l.foldl (k5 t c slot) s).1, o ∈ s.1 ∨ (o ∈ l ∧ HJ t c slot o = true)) ∧ (s.2 = true → (l.foldl (k5 t c slot) s).2 = true)
 | [], s, h => ⟨h, fun o ho => .inl ho, id⟩
 | x :: r, s, h => by
  rw [List.foldl_cons]
  have hs : (k5 t c slot s x).1.length ≤ 8 ∧ (∀ o ∈ (k5 t c slot s x).1, o ∈ s.1 ∨ (o = x ∧ HJ t c slot o = true)) ∧ (s.2 = true → (k5 t c slot s x).2 = true) := by
   unfold k5;split
   ·rename_i hk;split
    ·exact ⟨h, fun o ho => .inl ho, fun _ => rfl⟩
    ·refine ⟨by simp only [List.length_append, List.length_singleton]; omega, fun o ho => ?_, id⟩;rcases List.mem_append.1 ho with ho | ho
     ·exact .inl ho
     ·rw [List.mem_singleton] at ho; subst ho; exact .inr ⟨rfl, hk⟩
   ·exact ⟨h, fun o ho => .inl ho, id⟩
  obtain ⟨h1, h2, h3⟩ := yO r (k5 t c slot s x) hs.1;refine ⟨h1, fun o ho => ?_, fun e => h3 (hs.2.2 e)⟩;rcases h2 o ho with h4 | ⟨h4, h5⟩
  ·rcases hs.2.1 o h4 with h5 | ⟨rfl, h5⟩
   ·exact .inl h5
   ·exact .inr ⟨.head _, h5⟩
  ·exact .inr ⟨.tail _ h4, h5⟩
theorem gQ (t : Int) (c : Cf) (slot : Int) (full : Bool) (l : List Of) : (jf t c slot full l).1.length ≤ 8 ∧ (∀ o ∈ (jf t c slot full l).1, o ∈ l ∧ HJ t c slot o = true) ∧ (full = true → (jf t c slot full l).2 = true) := by
 obtain ⟨h1, h2, h3⟩ := yO (t := t) (c := c) (slot := slot) l ([], full) (by simp);refine ⟨h1, fun o ho => ?_, h3⟩;rcases h2 o ho with h4 | h4
 ·simp at h4
 ·exact h4
theorem Cp {l : List Of} {x : Nd} {c : Cf} {slot : Int} (hl : x.O.length + l.length ≤ 1000) (hs : ∀ o ∈ x.O ++ l, nV o) : uU l x c slot = some (jf x.Tick c slot x.Full (x.O ++ l)) := by
 unfold uU;rw [B6 hl, ob];generalize hL : x.O ++ l = L at hs
 have hLl : L.length ≤ 1000 := by rw [← hL, List.length_append]; omega
 have e := az (step := i4 x c slot L) (n := L.length) (fun k => dt.mk (k : Int) (jf x.Tick c slot x.Full (L.take k)).2 (jf x.Tick c slot x.Full (L.take k)).1) (dt.mk (L.length : Int) (jf x.Tick c slot x.Full L).2 (jf x.Tick c slot x.Full L).1) (fun k hk => by
  obtain ⟨y, hy, hm⟩ := aE hk
  have et : L.take (k + 1) = L.take k ++ [y] := by rw [List.take_add_one, hy]; rfl
  have hf := gQ x.Tick c slot x.Full (L.take k);unfold i4;simp only;rw [decide_eq_true (show (k : Int) < (L.length : Int) by omega), ct, aH hy, ob, et, AF, aj (n := k) (by omega)];generalize jf x.Tick c slot x.Full (L.take k) = s at hf ⊢
  have hgate : (bif (x.Tick.tmod 3) == 2 then some ((x.Tick.tmod 3) == 2) else bif y.Slot != slot then some (y.Slot != slot) else (EN c slot).bind fun v4 => some (y.From != v4)) = some (!HJ x.Tick c slot y) := by
   rw [tk, ob];unfold HJ;by_cases h1 : x.Tick.tmod 3 = 2
   ·rw [beq_iff_eq.2 h1, ct, decide_eq_false fun h => h.1 h1]; rfl
   ·rw [beq_eq_false_iff_ne.2 h1, cf];by_cases h2 : y.Slot = slot
    ·rw [show (y.Slot != slot) = false by simp [h2], cf];by_cases h3 : y.From = mA c slot
     ·rw [show (y.From != mA c slot) = false by simp [h3], decide_eq_true ⟨h1, h2, h3⟩]; rfl
     ·rw [show (y.From != mA c slot) = true by simp [h3], decide_eq_false fun h => h3 h.2.2]; rfl
    ·rw [show (y.Slot != slot) = true by simp [h2], ct, decide_eq_false fun h => h2 h.2.1]; rfl
  rw [hgate, ob];unfold k5
  cases hk2 : HJ x.Tick c slot y with
  | false => rw [Bool.not_false, ct]; rfl
  | true =>
   rw [Bool.not_true, cf, if_pos rfl];by_cases h8 : s.1.length = 8
   ·rw [show ((s.1.length : Int) == 8) = true by simp [h8], ct, if_pos h8]
   ·rw [show ((s.1.length : Int) == 8) = false by rw [beq_eq_false_iff_ne]; omega, cf, p4 (hs y hm), ob, aL (by simp only [List.length_singleton]; omega) (by omega), ct, if_neg h8]) (by
  unfold i4;simp only
  rw [decide_eq_false (show ¬ (L.length : Int) < (L.length : Int) by omega), cf, List.take_length]) (by omega)
 have e' : iter (i4 x c slot L) bD (dt.mk 0 x.Full []) = _ := e;rw [e', ob]
theorem tb (c : Cf) (w i : Vw) (s : Int) : w.B.length ≤ (aB c w i s).1.B.length ∧ (aB c w i s).1.B.length ≤ w.B.length + 60 ∧ w.V.length ≤ (aB c w i s).1.V.length ∧ (aB c w i s).1.V.length ≤ w.V.length + 240 ∧ (aB c w i s).2.1.B.length ≤ i.B.length ∧ (aB c w i s).2.1.V.length ≤ i.V.length := by
 by_cases h : ec c w
 ·have ht := rQ h i s;have hl := DZ ht;have h1 := ht.may.lenB;have h2 := ht.may.lenV;omega
 ·have e : aB c w i s = (w, i, false) := by unfold aB; rw [if_neg h]
  rw [e];simp only;omega
theorem lq {inp : Vw} {c : Cf} {slot : Int} {v : Vw} {full : Bool} (h1 : v.B.length ≤ 1000) (h2 : v.V.length ≤ 1000) (h3 : inp.B.length ≤ 800) (h4 : inp.V.length ≤ 600) :
  kz inp c slot v full = some ((aB c v inp slot).2.1, (aB c v inp slot).1, full || (aB c v inp slot).2.2) := by
 unfold kz;rw [GP h1 h2 h3 h4, ob];cases full <;> rfl
theorem rr (c : Cf) (w i : Vw) (s : Int) : (aB c w i s).1.B.length ≤ max w.B.length 60 ∧ (aB c w i s).1.V.length ≤ max w.V.length 240 := by
 by_cases h : ec c w
 ·have ht := rQ h i s;have h1 := ht.may.lenB;have h2 := ht.may.lenV;omega
 ·have e : aB c w i s = (w, i, false) := by unfold aB; rw [if_neg h]
  rw [e];simp only;omega
theorem Vw.eta (w : Vw) : Vw.mk w.B w.V = w := rfl
noncomputable def kU (x : Nd) (c : Cf) (slot : Int) : Bk := ⟨slot, x.No, ca c (aB c x.V x.In slot).1.B (bJ c (aB c x.V x.In slot).1.V (IntKind.i64.wrap (slot - 1))), 0⟩
noncomputable def dg (x : Nd) (c : Cf) (slot : Int) : Vw × Vw × Bool × List Of :=
 if x.No = mA c slot then
  ((aB c (aB c x.V x.In slot).1 ⟨[kU x c slot], []⟩ slot).1, (aB c x.V x.In slot).2.1, (x.Full || (aB c x.V x.In slot).2.2) || (aB c (aB c x.V x.In slot).1 ⟨[kU x c slot], []⟩ slot).2.2, [⟨slot, x.No, kU x c slot, (aB c x.V x.In slot).1⟩])
 else (x.V, x.In, x.Full, [])
theorem Af {x : Nd} {c : Cf} {slot : Int} (h1 : x.V.B.length ≤ 500) (h2 : x.V.V.length ≤ 500) (h3 : x.In.B.length ≤ 500) (h4 : x.In.V.length ≤ 500) : nT x c slot [] = some (dg x c slot) := by
 have hm := rr c x.V x.In slot;unfold nT dg;rw [tk, ob];by_cases h : x.No = mA c slot
 ·rw [show (x.No != mA c slot) = false by simp [h], cf, if_pos h, lq (by omega) (by omega) (by omega) (by omega), ob];simp only;rw [ks (by omega) (by omega), ob];have hs : nV (Of.mk slot x.No (Bk.mk slot x.No (ca c (aB c x.V x.In slot).1.B (bJ c (aB c x.V x.In slot).1.V (IntKind.i64.wrap (slot - 1)))) 0) (aB c x.V x.In slot).1) := ⟨by show (aB c x.V x.In slot).1.B.length ≤ 1000; omega, by show (aB c x.V x.In slot).1.V.length ≤ 1000; omega⟩;rw [p4 hs, ob];unfold rZ;rw [ob, lq (by omega) (by omega) (by simp) (by simp), ob];rfl
 ·rw [show (x.No != mA c slot) = true by simp [h], ct, if_neg h]
noncomputable def fB (c : Cf) (slot : Int) (s : Vw × Vw × Bool) (o : Of) : Vw × Vw × Bool :=
 ((aB c s.1 (aT o.V ⟨[o.B], []⟩) slot).1, aT s.2.1 (aB c s.1 (aT o.V ⟨[o.B], []⟩) slot).2.1, s.2.2 || (aB c s.1 (aT o.V ⟨[o.B], []⟩) slot).2.2)
noncomputable def bf (x : Nd) (o : List Of) (c : Cf) (slot : Int) : Vw × Vw × Bool := o.foldl (fB c slot) (x.V, x.In, x.Full)
noncomputable def dU (x : Nd) (o : List Of) (c : Cf) (slot : Int) : Vw × Vw × Bool :=
 if x.No ∈ fT c slot then
  ((bf x o c slot).1, aT (bf x o c slot).2.1 ⟨[], [⟨x.No, slot, ca c (bf x o c slot).1.B (bJ c (bf x o c slot).1.V (IntKind.i64.wrap (slot - 1)))⟩]⟩, (bf x o c slot).2.2)
 else bf x o c slot
theorem wt (x : Nd) (o : List Of) (c : Cf) (slot : Int) (y : Of) : bf x (o ++ [y]) c slot = fB c slot (bf x o c slot) y := by unfold bf; rw [List.foldl_append]; rfl
theorem vR (o : Of) : (aT o.V ⟨[o.B], []⟩).B.length ≤ o.V.B.length + 1 ∧ (aT o.V ⟨[o.B], []⟩).V.length ≤ o.V.V.length := by
 have h1 := db [o.B] o.V.B;have h2 := db ([] : List Vt) o.V.V;exact ⟨h1, h2⟩
theorem gt (a b : Vw) : (aT a b).B.length ≤ a.B.length + b.B.length ∧ (aT a b).V.length ≤ a.V.length + b.V.length := ⟨db _ _, db _ _⟩
theorem wq {x : Nd} {c : Cf} {slot : Int} (h1 : x.V.B.length ≤ 500) (h2 : x.V.V.length ≤ 500) (h3 : x.In.B.length ≤ 500) (h4 : x.In.V.length ≤ 500) : ∀ (k : Nat) (o : List Of), o.length ≤ k → (∀ y ∈ o, y.V.B.length ≤ 500 ∧ y.V.V.length ≤ 500) →
  (bf x o c slot).1.B.length ≤ 500 ∧ (bf x o c slot).1.V.length ≤ 500 ∧ (bf x o c slot).2.1.B.length ≤ 500 + 501 * k ∧ (bf x o c slot).2.1.V.length ≤ 500 + 501 * k := by
 intro k
 induction k with
 | zero =>
  intro o ho _;obtain rfl : o = [] := List.length_eq_zero_iff.1 (by omega);exact ⟨h1, h2, Nat.le_trans h3 (by omega), Nat.le_trans h4 (by omega)⟩
 | succ k ih =>
  intro o ho hs;rcases List.eq_nil_or_concat o with rfl | ⟨r, y, rfl⟩
  ·exact ⟨h1, h2, Nat.le_trans h3 (by omega), Nat.le_trans h4 (by omega)⟩
  ·rw [List.concat_eq_append] at ho hs ⊢;rw [List.length_append, List.length_singleton] at ho;obtain ⟨a1, a2, a3, a4⟩ := ih r (by omega) fun z hz => hs z (List.mem_append_left _ hz);have hy := hs y (List.mem_append_right _ (List.mem_singleton.2 rfl));have hl := vR y;rw [wt];unfold fB;generalize bf x r c slot = s at a1 a2 a3 a4 ⊢;have hm := rr c s.1 (aT y.V ⟨[y.B], []⟩) slot;have hz := tb c s.1 (aT y.V ⟨[y.B], []⟩) slot;have hj := gt s.2.1 (aB c s.1 (aT y.V ⟨[y.B], []⟩) slot).2.1;simp only;omega
theorem wQ {x : Nd} {o : List Of} {c : Cf} {slot : Int} (h1 : x.V.B.length ≤ 500) (h2 : x.V.V.length ≤ 500) (h3 : x.In.B.length ≤ 500) (h4 : x.In.V.length ≤ 500) (ho : o.length ≤ 8) (hs : ∀ y ∈ o, y.V.B.length ≤ 500 ∧ y.V.V.length ≤ 500) :
  lw x o c slot = some (dU x o c slot) := by
 have e := az (step := fl o c slot) (n := o.length) (fun k => cQ.mk (k : Int) (bf x (o.take k) c slot).1.B (bf x (o.take k) c slot).1.V (bf x (o.take k) c slot).2.1.B (bf x (o.take k) c slot).2.1.V (bf x (o.take k) c slot).2.2)
  (cQ.mk (o.length : Int) (bf x o c slot).1.B (bf x o c slot).1.V (bf x o c slot).2.1.B (bf x o c slot).2.1.V (bf x o c slot).2.2) (fun k hk => by
  obtain ⟨y, hy, hm⟩ := aE hk
  have et : o.take (k + 1) = o.take k ++ [y] := by rw [List.take_add_one, hy]; rfl
  have hsz := wq (c := c) (slot := slot) h1 h2 h3 h4 8 (o.take k) (by rw [List.length_take]; omega) fun z hz => hs z (List.mem_of_mem_take hz);have hy2 := hs y hm;have hl := vR y;unfold fl;simp only;rw [decide_eq_true (show (k : Int) < (o.length : Int) by omega), ct, aH hy, ob, et, wt, aj (n := k) (by omega)];generalize bf x (o.take k) c slot = s at hsz ⊢;have hz := tb c s.1 (aT y.V ⟨[y.B], []⟩) slot;unfold rZ;rw [ob, iD (by simp only [List.length_singleton]; omega) (by simp only [List.length_nil]; omega), ob, Vw.eta, Vw.eta, lq (by omega) (by omega) (by omega) (by omega), ob];simp only;rw [iD (by omega) (by omega), ob]
  rfl) (by
  unfold fl;simp only
  rw [decide_eq_false (show ¬ (o.length : Int) < (o.length : Int) by omega), cf, List.take_length]) (by omega)
 have e' : iter (fl o c slot) bD (cQ.mk 0 x.V.B x.V.V x.In.B x.In.V x.Full) = _ := e;have hsz := wq (c := c) (slot := slot) h1 h2 h3 h4 8 o ho hs;unfold lw dU;rw [e', ob, Ci, ob];simp only [Vw.eta];generalize bf x o c slot = s at hsz ⊢;by_cases h : x.No ∈ fT c slot
 ·rw [decide_eq_true h, ct, if_pos h, ks (by omega) (by omega), ob, iD (by simp only [List.length_nil]; omega) (by simp only [List.length_singleton]; omega), ob]
 ·rw [decide_eq_false h, cf, if_neg h]
def yl (c : Cf) (w : Vw) (slot : Int) (id : ID) : Prop := fS c (fT c slot) * (c.Den + 2 * c.Num) < 2 * my c w.B (bJ c w.V slot) id * c.Den
theorem sa {c : Cf} {w : Vw} {slot : Int} {head : ID} (hm : cH c) (h1 : w.B.length ≤ 1000) (h2 : w.V.length ≤ 1000) : ∃ r, oV c w slot head = some r ∧ (r.2 = true → yl c w slot r.1) := by
 have hg := vG c w.V slot;have hc := tC c slot;unfold oV Cv;rw [ux (by omega), ob, tm, ob, tp (by omega), ob, ob, show few w.B = true from decide_eq_true h1, ct];have hwt := th c (fT c slot)
 obtain ⟨b, hb, hs⟩ := cN (step := jx c w) (fun x => x.v = bJ c w.V slot ∧ x.al = fS c (fT c slot)) (fun x => x.l.length) (fun r => r.2 = true → yl c w slot r.1) (by
  rintro ⟨l, v, al⟩ ⟨e1, e2⟩;simp only at e1 e2;subst e1 e2;by_cases hl : (l.length : Int) < 2
  ·right;refine ⟨((0, 0), false), ?_, fun h => by cases h⟩;unfold jx;simp only;rw [decide_eq_true hl, ct]
  ·obtain ⟨y, hy, -⟩ := aE (l := l) (n := 0) (by omega);have hy' : ix l 0 = some y := aH hy;obtain ⟨-, -, -, -, -, m1, m2, m3, m4⟩ := hm;have hon : 0 ≤ my c w.B (bJ c w.V slot) y ∧ my c w.B (bJ c w.V slot) y ≤ 13194139533312 := th _ _
   have hstep : jx c w ⟨l, bJ c w.V slot, fS c (fT c slot)⟩ = bif decide (2 * my c w.B (bJ c w.V slot) y * c.Den > fS c (fT c slot) * (c.Den + 2 * c.Num)) then some (.inr (y, true)) else some (.inl ⟨l.drop 1, bJ c w.V slot, fS c (fT c slot)⟩) := by
    unfold jx EX tq;simp only
    rw [decide_eq_false hl, cf, hy', ob, xZ h1 (by omega), ob, ob, cA (by omega) (by omega), cA (n := 2 * c.Num) (by omega) (by omega), cA (by omega) (by omega), uo ⟨by omega, by omega⟩ ⟨by omega, by omega⟩ ⟨by omega, by omega⟩ ⟨by omega, by omega⟩, ob, ob, ob,
     show H4 l 1 l.length = true from decide_eq_true (by omega), ct]
    rfl
   cases hd : decide (2 * my c w.B (bJ c w.V slot) y * c.Den > fS c (fT c slot) * (c.Den + 2 * c.Num)) with
   | true => rw [hd, ct] at hstep; exact .inr ⟨_, hstep, fun _ => show fS c (fT c slot) * (c.Den + 2 * c.Num) < _ from of_decide_eq_true hd⟩
   | false =>
    rw [hd, cf] at hstep;refine .inl ⟨_, hstep, ⟨rfl, rfl⟩, ?_⟩;simp only [List.length_drop]
    omega) (n := bD) (x := ly.mk (aq w.B head) (bJ c w.V slot) (fS c (fT c slot))) ⟨rfl, rfl⟩ (dy (by have : (aq w.B head).length ≤ w.B.length + 1 := Aw head; simp only; omega))
 exact ⟨b, hb, hs⟩
theorem wR {x : Nd} {c : Cf} {slot : Int} (hm : cH c) (h1 : x.V.B.length ≤ 500) (h2 : x.V.V.length ≤ 500) (h3 : x.In.B.length ≤ 500) (h4 : x.In.V.length ≤ 500) :
  ∃ r, oV c (aB c x.V x.In slot).1 slot (ca c (aB c x.V x.In slot).1.B (bJ c (aB c x.V x.In slot).1.V slot)) = some r ∧ (r.2 = true → yl c (aB c x.V x.In slot).1 slot r.1) ∧ l7 x c slot = some ((aB c x.V x.In slot).1, (aB c x.V x.In slot).2.1, eC x.C (aB c x.V x.In slot).1.B (ca c (aB c x.V x.In slot).1.B (bJ c (aB c x.V x.In slot).1.V slot)) r.1 r.2 slot, x.Full || (aB c x.V x.In slot).2.2) := by
 have hx := rr c x.V x.In slot;obtain ⟨r, hr, hs⟩ := sa (slot := slot) (head := ca c (aB c x.V x.In slot).1.B (bJ c (aB c x.V x.In slot).1.V slot)) hm (w := (aB c x.V x.In slot).1) (by omega) (by omega);refine ⟨r, hr, hs, ?_⟩;unfold l7;rw [lq (by omega) (by omega) (by omega) (by omega), ob];simp only;rw [ks (by omega) (by omega), ob, hr, ob, show few (aB c x.V x.In slot).1.B = true from decide_eq_true (by omega), ct]
theorem Ak {x : Nd} {c : Cf} {slot : Int} (hm : cH c) (h1 : x.V.B.length ≤ 500) (h2 : x.V.V.length ≤ 500) (h3 : x.In.B.length ≤ 500) (h4 : x.In.V.length ≤ 500) :
  ∃ cu, l7 x c slot = some ((aB c x.V x.In slot).1, (aB c x.V x.In slot).2.1, cu, x.Full || (aB c x.V x.In slot).2.2) :=
 have ⟨_, _, _, e⟩ := wR hm h1 h2 h3 h4
 ⟨_, e⟩
structure L4 (c : Cf) (n : Nd) (inp : Vw) (o : List Of) : Prop where
 n : l8 30 n
 inp : kC 30 inp
 len : o.length ≤ 10
 o : ∀ y ∈ o, kC 30 y.V
theorem ww {k : Int} (hk : k ≤ 1000) {l : List Of} (h : ∀ y ∈ l, kC k y.V) : ∀ y ∈ l, nV y := fun y hy => by
 obtain ⟨a, b⟩ := h y hy;exact ⟨by omega, by omega⟩
structure lK (c : Cf) (n : Nd) (inp : Vw) (o : List Of) : Prop where
 vw : n.V.B.length ≤ 500 ∧ n.V.V.length ≤ 500
 inw : n.In.B.length ≤ 1000 ∧ n.In.V.length ≤ 1000
 came : inp.B.length ≤ 2000 ∧ inp.V.length ≤ 2000
 ins : (aT n.In (a7 c inp)).B.length ≤ 500 ∧ (aT n.In (a7 c inp)).V.length ≤ 500
 len : n.O.length + o.length ≤ 1000
 offs : ∀ y ∈ n.O ++ o, y.V.B.length ≤ 500 ∧ y.V.V.length ≤ 500
theorem Ay {n : Nd} (hl : n.O.length ≤ 1000) (hs : ∀ y ∈ n.O, nV y) : iter (iS n) bD (dE.mk 0 []) = some (dE.mk (n.O.length : Int) n.O) := by
 have e := az (step := iS n) (n := n.O.length) (fun k => dE.mk (k : Int) (n.O.take k)) (dE.mk (n.O.length : Int) n.O) (fun k hk => by
  obtain ⟨y, hy, hm⟩ := aE hk
  have et : n.O.take (k + 1) = n.O.take k ++ [y] := by rw [List.take_add_one, hy]; rfl
  unfold iS;simp only
  rw [decide_eq_true (show (k : Int) < (n.O.length : Int) by omega), ct, aH hy, ob, p4 (hs y hm), ob, aL (by rw [List.length_take]; simp only [List.length_singleton]; omega) (by omega), ct, et, aj (n := k) (by omega)]) (by
  unfold iS;simp only
  rw [decide_eq_false (show ¬ (n.O.length : Int) < (n.O.length : Int) by omega), cf, List.take_length]) (by omega)
 exact e
def eK (c : Cf) (n : Nd) : Bool := decide (¬ cH c ∨ n.Tick < 3 ∨ IntKind.i64.wrap (n.Tick.tdiv 3) > 1048576)
theorem sF (c : Cf) (n : Nd) : ((yh c).bind fun v2 => bif !v2 then some true else bif decide (n.Tick < 3) then some true else some (decide ((IntKind.i64.wrap (n.Tick.tdiv 3)) > 1048576))) = some (eK c n) := by
 rw [ky, ob];unfold eK;by_cases h1 : cH c
 ·rw [decide_eq_true h1, Bool.not_true, cf];by_cases h2 : n.Tick < 3
  ·rw [decide_eq_true h2, ct, decide_eq_true (.inr (.inl h2))]
  ·rw [decide_eq_false h2, cf];by_cases h3 : IntKind.i64.wrap (n.Tick.tdiv 3) > 1048576
   ·rw [decide_eq_true h3, decide_eq_true (.inr (.inr h3))]
   ·rw [decide_eq_false h3, decide_eq_false];rintro (h | h | h)
    ·exact h h1
    ·exact h2 h
    ·exact h3 h
 ·rw [decide_eq_false h1, Bool.not_false, ct, decide_eq_true (.inl h1)]
theorem uG {c : Cf} {n : Nd} {inp : Vw} {o : List Of} (hf : lK c n inp o) (h : eK c n = true) : iR c n inp o = some (n, []) := by
 obtain ⟨⟨a1, a2⟩, ⟨b1, b2⟩, -, -, c1, c2⟩ := hf;unfold iR;rw [sF, ob, h, ct, p0 (by omega) (by omega), ob, p0 (by omega) (by omega), ob, Ay (by omega) (fun y hy => by have := c2 y (List.mem_append_left _ hy); exact ⟨by omega, by omega⟩), ob]
def mN (c : Cf) (n : Nd) (inp : Vw) : Vw := aT n.In (a7 c inp)
def aA (n : Nd) : Int := IntKind.i64.wrap (n.Tick.tdiv 3)
def fL (c : Cf) (n : Nd) (o : List Of) : List Of × Bool := jf n.Tick c (aA n) n.Full (n.O ++ o)
def bO (c : Cf) (n : Nd) (inp : Vw) (o : List Of) : Nd := ⟨n.No, n.Tick, n.V, mN c n inp, [], n.C, (fL c n o).2⟩
theorem pY {c : Cf} {n : Nd} {inp : Vw} {o : List Of} (hf : lK c n inp o) (h : eK c n = false) : iR c n inp o =
  bif (n.Tick.tmod 3) == 0 then
   (nT (bO c n inp o) c (aA n) []).bind fun v10 => some (Nd.mk n.No (IntKind.i64.wrap (n.Tick + 1)) v10.1 v10.2.1 (fL c n o).1 n.C v10.2.2.1, v10.2.2.2)
  else bif (n.Tick.tmod 3) == 1 then
   (lw (bO c n inp o) (fL c n o).1 c (aA n)).bind fun v11 => some (Nd.mk n.No (IntKind.i64.wrap (n.Tick + 1)) v11.1 v11.2.1 [] n.C v11.2.2, [])
  else bif (n.Tick.tmod 3) == 2 then
   (l7 (bO c n inp o) c (aA n)).bind fun v12 => some (Nd.mk n.No (IntKind.i64.wrap (n.Tick + 1)) v12.1 v12.2.1 [] v12.2.2.1 v12.2.2.2, [])
  else none := by
 obtain ⟨⟨a1, a2⟩, ⟨b1, b2⟩, ⟨e1, e2⟩, -, g1, g2⟩ := hf;have h2 := DI c inp;unfold iR;rw [sF, ob, h, cf, Cl (by omega) (by omega), ob, iD (by omega) (by omega), ob];rw [Cp (by show n.O.length + o.length ≤ 1000; omega) (fun y hy => by have := g2 y hy; exact ⟨by omega, by omega⟩), ob];rfl
theorem xj {c : Cf} {n : Nd} {inp : Vw} {o : List Of} (hf : lK c n inp o) : (fL c n o).1.length ≤ 8 ∧ ∀ y ∈ (fL c n o).1, y.V.B.length ≤ 500 ∧ y.V.V.length ≤ 500 := by
 obtain ⟨h1, h2, -⟩ := gQ n.Tick c (aA n) n.Full (n.O ++ o);exact ⟨h1, fun y hy => hf.offs y (h2 y hy).1⟩
theorem BY {c : Cf} {n : Nd} {inp : Vw} {o : List Of} (hf : lK c n inp o) (h : eK c n = false) (h0 : n.Tick.tmod 3 = 0) :
  iR c n inp o = some (Nd.mk n.No (IntKind.i64.wrap (n.Tick + 1)) (dg (bO c n inp o) c (aA n)).1 (dg (bO c n inp o) c (aA n)).2.1 (fL c n o).1 n.C (dg (bO c n inp o) c (aA n)).2.2.1, (dg (bO c n inp o) c (aA n)).2.2.2) := by
 have hi : (mN c n inp).B.length ≤ 500 ∧ (mN c n inp).V.length ≤ 500 := hf.ins;rw [pY hf h];obtain ⟨⟨a1, a2⟩, -⟩ := hf;rw [beq_iff_eq.2 h0, ct, Af (by show n.V.B.length ≤ 500; omega) (by show n.V.V.length ≤ 500; omega) (by show (mN c n inp).B.length ≤ 500; omega) (by show (mN c n inp).V.length ≤ 500; omega), ob]
theorem BZ {c : Cf} {n : Nd} {inp : Vw} {o : List Of} (hf : lK c n inp o) (h : eK c n = false) (h1 : n.Tick.tmod 3 = 1) :
  iR c n inp o = some (Nd.mk n.No (IntKind.i64.wrap (n.Tick + 1)) (dU (bO c n inp o) (fL c n o).1 c (aA n)).1 (dU (bO c n inp o) (fL c n o).1 c (aA n)).2.1 [] n.C (dU (bO c n inp o) (fL c n o).1 c (aA n)).2.2, []) := by
 have hi : (mN c n inp).B.length ≤ 500 ∧ (mN c n inp).V.length ≤ 500 := hf.ins;obtain ⟨hr1, hr2⟩ := xj hf;rw [pY hf h];obtain ⟨⟨a1, a2⟩, -⟩ := hf;rw [show ((n.Tick.tmod 3) == 0) = false by rw [h1]; rfl, cf, beq_iff_eq.2 h1, ct, wQ (by show n.V.B.length ≤ 500; omega) (by show n.V.V.length ≤ 500; omega) (by show (mN c n inp).B.length ≤ 500; omega) (by show (mN c n inp).V.length ≤ 500; omega) hr1 hr2, ob]
theorem B3 {c : Cf} {n : Nd} {inp : Vw} {o : List Of} (hf : lK c n inp o) (h : eK c n = false) (h2 : n.Tick.tmod 3 = 2) :
  ∃ cu, iR c n inp o = some (Nd.mk n.No (IntKind.i64.wrap (n.Tick + 1)) (aB c n.V (mN c n inp) (aA n)).1 (aB c n.V (mN c n inp) (aA n)).2.1 [] cu ((fL c n o).2 || (aB c n.V (mN c n inp) (aA n)).2.2), []) := by
 have hi : (mN c n inp).B.length ≤ 500 ∧ (mN c n inp).V.length ≤ 500 := hf.ins
 have hm : cH c := by
  have := of_decide_eq_false h;exact Decidable.not_not.1 fun h => this (.inl h)
 rw [pY hf h];obtain ⟨⟨a1, a2⟩, -⟩ := hf;obtain ⟨cu, e⟩ := Ak (x := bO c n inp o) (slot := aA n) hm (by show n.V.B.length ≤ 500; omega) (by show n.V.V.length ≤ 500; omega) (by show (mN c n inp).B.length ≤ 500; omega) (by show (mN c n inp).V.length ≤ 500; omega);rw [show ((n.Tick.tmod 3) == 0) = false by rw [h2]; rfl, cf, show ((n.Tick.tmod 3) == 1) = false by rw [h2]; rfl, cf, beq_iff_eq.2 h2, ct, e, ob];exact ⟨cu, rfl⟩
theorem DW {n : Nd} {c : Cf} (h : eK c n = false) : n.Tick.tmod 3 = 0 ∨ n.Tick.tmod 3 = 1 ∨ n.Tick.tmod 3 = 2 := by
 have h3 : ¬ n.Tick < 3 := fun h2 => (of_decide_eq_false h) (.inr (.inl h2));rw [Int.tmod_eq_emod_of_nonneg (by omega)];omega
theorem mu {b : Bk} {n : Nd} : b ∈ (bW n).B ↔ b ∈ n.V.B ∨ b ∈ n.In.B := fr b _ _
theorem mw {v : Vt} {n : Nd} : v ∈ (bW n).V ↔ v ∈ n.V.V ∨ v ∈ n.In.V := fr v _ _
theorem gu {b : Bk} {x y : Vw} : b ∈ (aT x y).B ↔ b ∈ x.B ∨ b ∈ y.B := fr b _ _
theorem fp {v : Vt} {x y : Vw} : v ∈ (aT x y).V ↔ v ∈ x.V ∨ v ∈ y.V := fr v _ _
theorem rk {n : Nd} (h1 : 3 ≤ n.Tick) (h2 : n.Tick ≤ 1000000) : aA n = n.Tick / 3 ∧ 1 ≤ aA n ∧ aA n ≤ 333333 := by
 unfold aA;rw [Int.tdiv_eq_ediv_of_nonneg (by omega), cA (by omega) (by omega)];omega
theorem E7 {c : Cf} {n : Nd} (hm : cH c) (h1 : 3 ≤ n.Tick) (h2 : n.Tick ≤ 1000000) : eK c n = false := by
 have := rk h1 h2;unfold aA at this;refine decide_eq_false ?_;rintro (h | h | h)
 ·exact h hm
 ·omega
 ·omega
def j8 (c : Cf) (v w : Vw) : Prop := ec c w ∧ w.B.take v.B.length = v.B ∧ w.V.take v.V.length = v.V
theorem mq {c : Cf} {v : Vw} (h : ec c v) : j8 c v v := ⟨h, List.take_length, List.take_length⟩
theorem wC {α : Type} {a b d : List α} (h1 : b.take a.length = a) (h2 : d.take b.length = b) : d.take a.length = a := by
 have hl := congrArg List.length h1;rw [List.length_take] at hl
 have e : d.take a.length = (d.take b.length).take a.length := by
  rw [List.take_take];congr 1;omega
 rw [e, h2, h1]
theorem ph {c : Cf} {u v w : Vw} (h1 : j8 c u v) (h2 : j8 c v w) : j8 c u w := ⟨h2.1, wC h1.2.1 h2.2.1, wC h1.2.2 h2.2.2⟩
theorem dh {c : Cf} {v : Vw} (h : ec c v) (i : Vw) (s : Int) : j8 c v (aB c v i s).1 := by
 have ht := rQ h i s;obtain ⟨h1, h2⟩ := Bg ht;exact ⟨ht.may, h1, h2⟩
theorem vO {x : Nd} {c : Cf} {slot : Int} (h : ec c x.V) : j8 c x.V (dg x c slot).1 := by
 unfold dg;split
 ·exact ph (dh h _ _) (dh (dh h _ _).1 _ _)
 ·exact mq h
theorem mp {c : Cf} {slot : Int} : ∀ (o : List Of) (s : Vw × Vw × Bool), ec c s.1 → j8 c s.1 (o.foldl (fB c slot) s).1
 | [], s, h => mq h
 | y :: r, s, h => by
  rw [List.foldl_cons];have h1 : j8 c s.1 (fB c slot s y).1 := dh h _ _;exact ph h1 (mp r _ h1.1)
theorem tP {x : Nd} {o : List Of} {c : Cf} {slot : Int} (h : ec c x.V) : j8 c x.V (dU x o c slot).1 := by
 unfold dU;split
 ·exact mp o _ h
 ·exact mp o _ h
noncomputable def ci (c : Cf) (n : Nd) (inp : Vw) (o : List Of) : Nd × List Of := (iR c n inp o).getD (n, [])
theorem s0 {c : Cf} {n : Nd} {inp : Vw} {o : List Of} (hf : lK c n inp o) (h : eK c n = true) : iR c n inp o = some (ci c n inp o) ∧ ci c n inp o = (n, []) := by
 have e := uG hf h;unfold ci;rw [e];exact ⟨rfl, rfl⟩
theorem jo {c : Cf} {n : Nd} {inp : Vw} {o : List Of} (hf : lK c n inp o) : iR c n inp o = some (ci c n inp o) ∧
    ((eK c n = true ∧ ci c n inp o = (n, [])) ∨
     (eK c n = false ∧ n.Tick.tmod 3 = 0 ∧ ci c n inp o = (Nd.mk n.No (IntKind.i64.wrap (n.Tick + 1)) (dg (bO c n inp o) c (aA n)).1 (dg (bO c n inp o) c (aA n)).2.1 (fL c n o).1 n.C (dg (bO c n inp o) c (aA n)).2.2.1, (dg (bO c n inp o) c (aA n)).2.2.2)) ∨
     (eK c n = false ∧ n.Tick.tmod 3 = 1 ∧ ci c n inp o = (Nd.mk n.No (IntKind.i64.wrap (n.Tick + 1)) (dU (bO c n inp o) (fL c n o).1 c (aA n)).1 (dU (bO c n inp o) (fL c n o).1 c (aA n)).2.1 [] n.C (dU (bO c n inp o) (fL c n o).1 c (aA n)).2.2, [])) ∨
     (eK c n = false ∧ n.Tick.tmod 3 = 2 ∧ ∃ cu, ci c n inp o = (Nd.mk n.No (IntKind.i64.wrap (n.Tick + 1)) (aB c n.V (mN c n inp) (aA n)).1 (aB c n.V (mN c n inp) (aA n)).2.1 [] cu ((fL c n o).2 || (aB c n.V (mN c n inp) (aA n)).2.2), []))) := by
  cases hid : eK c n with
  | true => exact ⟨(s0 hf hid).1, .inl ⟨rfl, (s0 hf hid).2⟩⟩
  | false =>
    rcases DW hid with h | h | h
    · have e := BY hf hid h;unfold ci;rw [e];exact ⟨rfl, .inr (.inl ⟨rfl, h, rfl⟩)⟩
    · have e := BZ hf hid h;unfold ci;rw [e];exact ⟨rfl, .inr (.inr (.inl ⟨rfl, h, rfl⟩))⟩
    · obtain ⟨cu, e⟩ := B3 hf hid h;unfold ci;rw [e];exact ⟨rfl, .inr (.inr (.inr ⟨rfl, h, cu, rfl⟩))⟩
def eQ (P : Bk → Prop) (Q : Vt → Prop) (v : Vw) : Prop := (∀ b ∈ v.B, P b) ∧ ∀ x ∈ v.V, Q x
def lJ (P : Bk → Prop) (Q : Vt → Prop) (o : Of) : Prop := P o.B ∧ eQ P Q o.V
def rG (P : Bk → Prop) (Q : Vt → Prop) (n : Nd) : Prop := eQ P Q n.V ∧ eQ P Q n.In ∧ ∀ o ∈ n.O, lJ P Q o
section
variable {P : Bk → Prop} {Q : Vt → Prop}
theorem qj : eQ P Q ⟨[], []⟩ := ⟨fun b hb => (by cases hb), fun x hx => (by cases hx)⟩
theorem eF {a b : Vw} (h1 : eQ P Q a) (h2 : eQ P Q b) : eQ P Q (aT a b) := ⟨fun x hx => (gu.1 hx).elim (h1.1 x) (h2.1 x), fun x hx => (fp.1 hx).elim (h1.2 x) (h2.2 x)⟩
theorem sj {c : Cf} {a : Vw} (h : eQ P Q a) : eQ P Q (a7 c a) := ⟨fun x hx => h.1 x (List.mem_filter.1 hx).1, fun x hx => h.2 x (List.mem_filter.1 hx).1⟩
theorem lA (c : Cf) {w i : Vw} (s : Int) (h1 : eQ P Q w) (h2 : eQ P Q i) : eQ P Q (aB c w i s).1 ∧ eQ P Q (aB c w i s).2.1 := by
 by_cases h : ec c w
 ·have ht := rQ h i s;obtain ⟨t, e, h3⟩ := ht.preB;obtain ⟨u, e2, h4⟩ := ht.preV;refine ⟨⟨fun b hb => ?_, fun v hv => ?_⟩, fun b hb => h2.1 b (List.mem_filter.1 (ht.subB.subset hb)).1, fun v hv => h2.2 v (List.mem_filter.1 (ht.subV.subset hv)).1⟩
  ·rw [e] at hb;rcases List.mem_append.1 hb with hb | hb
   ·exact h1.1 b hb
   ·exact h2.1 b (List.mem_filter.1 (h3 b hb).1).1
  ·rw [e2] at hv;rcases List.mem_append.1 hv with hv | hv
   ·exact h1.2 v hv
   ·exact h2.2 v (List.mem_filter.1 (h4 v hv).1).1
 ·have e : aB c w i s = (w, i, false) := by unfold aB; rw [if_neg h]
  rw [e];exact ⟨h1, h2⟩
theorem si (c : Cf) (s : Int) : ∀ (o : List Of) (x : Vw × Vw × Bool), (∀ y ∈ o, lJ P Q y) → eQ P Q x.1 → eQ P Q x.2.1 → eQ P Q (o.foldl (fB c s) x).1 ∧ eQ P Q (o.foldl (fB c s) x).2.1
 | [], x, _, h1, h2 => ⟨h1, h2⟩
 | y :: r, x, h, h1, h2 => by
  rw [List.foldl_cons];have hy := h y (List.mem_cons_self ..);obtain ⟨a1, a2⟩ := lA c (i := aT y.V ⟨[y.B], []⟩) s h1 (eF hy.2 ⟨fun b hb => by rw [List.mem_singleton.1 hb]; exact hy.1, fun x hx => (by cases hx)⟩);exact si c s r _ (fun z hz => h z (List.mem_cons_of_mem _ hz)) a1 (eF h2 a2)
noncomputable def td (c : Cf) (n : Nd) (inp : Vw) (o : List Of) : Vt := ⟨n.No, aA n, ca c (bf (bO c n inp o) (fL c n o).1 c (aA n)).1.B (bJ c (bf (bO c n inp o) (fL c n o).1 c (aA n)).1.V (IntKind.i64.wrap (aA n - 1)))⟩
theorem wy {c : Cf} {n : Nd} {inp : Vw} {o : List Of} (hf : lK c n inp o) (hn : rG P Q n) (hi : eQ P Q inp) (ho : ∀ y ∈ o, lJ P Q y)
  (hp : eK c n = false → n.Tick.tmod 3 = 0 → n.No = mA c (aA n) → P (kU (bO c n inp o) c (aA n)))
  (hv : eK c n = false → n.Tick.tmod 3 = 1 → n.No ∈ fT c (aA n) → Q (td c n inp o)) : rG P Q (ci c n inp o).1 ∧ ∀ y ∈ (ci c n inp o).2, lJ P Q y := by
 obtain ⟨n1, n2, n3⟩ := id hn;have hin : eQ P Q (mN c n inp) := eF n2 (sj hi)
 have hh : ∀ y ∈ (fL c n o).1, lJ P Q y := fun y hy => by
  rcases List.mem_append.1 ((gQ n.Tick c (aA n) n.Full (n.O ++ o)).2.1 y hy).1 with h | h
  ·exact n3 y h
  ·exact ho y h
 rcases (jo hf).2 with ⟨-, e⟩ | ⟨hid, ht, e⟩ | ⟨hid, ht, e⟩ | ⟨hid, ht, cu, e⟩
 ·rw [e];exact ⟨hn, fun y hy => by cases hy⟩
 ·rw [e];by_cases h : n.No = mA c (aA n)
  ·have hb := hp hid ht h;unfold dg;rw [if_pos (show (bO c n inp o).No = mA c (aA n) from h)];obtain ⟨a1, a2⟩ := lA c (aA n) n1 hin;have a3 := (lA c (i := ⟨[kU (bO c n inp o) c (aA n)], []⟩) (aA n) a1 ⟨fun b hb' => by rw [List.mem_singleton.1 hb']; exact hb, fun x hx => (by cases hx)⟩).1;refine ⟨⟨a3, a2, hh⟩, fun y hy => ?_⟩;rw [List.mem_singleton.1 hy];exact ⟨hb, a1⟩
  ·unfold dg;rw [if_neg (show (bO c n inp o).No ≠ mA c (aA n) from h)];exact ⟨⟨n1, hin, hh⟩, fun y hy => by cases hy⟩
 ·rw [e];obtain ⟨a1, a2⟩ := si c (aA n) (fL c n o).1 (n.V, mN c n inp, (fL c n o).2) hh n1 hin;refine ⟨?_, fun y hy => by cases hy⟩;unfold dU;by_cases h : n.No ∈ fT c (aA n)
  ·rw [if_pos (show (bO c n inp o).No ∈ fT c (aA n) from h)];refine ⟨a1, eF a2 ⟨fun b hb => (by cases hb), fun x hx => ?_⟩, fun y hy => by cases hy⟩;rw [List.mem_singleton.1 hx];exact hv hid ht h
  ·rw [if_neg (show (bO c n inp o).No ∉ fT c (aA n) from h)];exact ⟨a1, a2, fun y hy => by cases hy⟩
 ·rw [e];obtain ⟨a1, a2⟩ := lA c (aA n) n1 hin;exact ⟨⟨a1, a2, fun y hy => by cases hy⟩, fun y hy => by cases hy⟩
end
def wG (v : Vw) : Prop := v.B.Nodup ∧ v.V.Nodup
theorem kR {a b : Vw} (h : wG a) : wG (aT a b) := ⟨fR h.1, fR h.2⟩
theorem wb {c : Cf} {a : Vw} (h : wG a) : wG (a7 c a) := ⟨h.1.sublist List.filter_sublist, h.2.sublist List.filter_sublist⟩
theorem wa {c : Cf} {w i : Vw} {s : Int} (hw : ec c w) (h : wG i) : wG (aB c w i s).2.1 := by
 have ht := rQ hw i s;exact ⟨(wb h).1.sublist ht.subB, (wb h).2.sublist ht.subV⟩
theorem vZ (c : Cf) (s : Int) : ∀ (o : List Of) (x : Vw × Vw × Bool), wG x.2.1 → wG (o.foldl (fB c s) x).2.1
 | [], x, h => h
 | y :: r, x, h => by
  rw [List.foldl_cons];exact vZ c s r _ (kR h)
theorem lI {c : Cf} {n : Nd} {inp : Vw} {o : List Of} (hf : lK c n inp o) (hm : ec c n.V) (hd : wG n.In) (h8 : n.O.length ≤ 8) :
  (ci c n inp o).1.No = n.No ∧ ((ci c n inp o).1.Tick = if eK c n = true then n.Tick else IntKind.i64.wrap (n.Tick + 1)) ∧ j8 c n.V (ci c n inp o).1.V ∧ wG (ci c n inp o).1.In ∧ (ci c n inp o).1.O.length ≤ 8 ∧
   ((ci c n inp o).2 ≠ [] → eK c n = false ∧ n.Tick.tmod 3 = 0 ∧ n.No = mA c (aA n)) ∧ (ci c n inp o).2.length ≤ 1 ∧ (∀ y ∈ (ci c n inp o).1.O, y ∈ n.O ++ o) ∧ ∀ y ∈ (ci c n inp o).2, ec c y.V := by
 have hdi : wG (mN c n inp) := kR hd;have hh := (gQ n.Tick c (aA n) n.Full (n.O ++ o)).1;have ho := fun y hy => ((gQ n.Tick c (aA n) n.Full (n.O ++ o)).2.1 y hy).1;rcases (jo hf).2 with ⟨hid, e⟩ | ⟨hid, ht, e⟩ | ⟨hid, ht, e⟩ | ⟨hid, ht, cu, e⟩
 ·rw [e, hid];exact ⟨rfl, rfl, mq hm, hd, h8, fun h => absurd Z h, by simp, fun y hy => List.mem_append_left _ hy, fun y hy => by cases hy⟩
 ·rw [e, hid];refine ⟨rfl, rfl, vO (x := bO c n inp o) hm, ?_, hh, ?_, ?_, ho, ?_⟩
  ·unfold dg;split
   ·exact wa hm hdi
   ·exact hdi
  ·unfold dg;split
   ·rename_i h;exact fun _ => ⟨rfl, ht, h⟩
   ·exact fun h => absurd Z h
  ·unfold dg;split <;> simp
  ·unfold dg;split
   ·intro y hy;rw [List.mem_singleton.1 hy];exact (dh hm _ _).1
   ·exact fun y hy => by cases hy
 ·rw [e, hid];refine ⟨rfl, rfl, tP (x := bO c n inp o) hm, ?_, by simp, fun h => absurd Z h, by simp, fun y hy => (by cases hy), fun y hy => (by cases hy)⟩;have := vZ c (aA n) (fL c n o).1 (n.V, mN c n inp, (fL c n o).2) hdi;unfold dU;split
  ·exact kR this
  ·exact this
 ·rw [e, hid];exact ⟨rfl, rfl, dh hm _ _, wa hm hdi, by simp, fun h => absurd Z h, by simp, fun y hy => (by cases hy), fun y hy => (by cases hy)⟩
def HI (to at_ : Int) : Bool := (bits .and .i64 (to.fdiv (2 ^ (min (Int.toNat at_) IntKind.i64.bits))) 1) == 0
def lU (bad : List Int) (al : Vw) (a : Ac) : Vw := ⟨a.B.filter fun b => decide (b.From ∈ bad ∨ b ∈ al.B), a.V.filter fun v => decide (v.From ∈ bad ∨ v ∈ al.V)⟩
def cF (slot wh : Int) (bad : List Int) (al : Vw) (me : Bool) (at_ : Int) (s : Vw × List Of) (a : Ac) : Vw × List Of :=
 if HI a.To at_ = true then s
 else if a.Offer = false then (aT s.1 (lU bad al a), s.2)
 else if me = true then
  match (lU bad al a).B with
  | [] => s
  | b :: r => (s.1, s.2 ++ [⟨slot, wh, b, ⟨r, (lU bad al a).V⟩⟩])
 else s
def sU (w : Wd) : Int := IntKind.i64.wrap (w.Tick.tdiv 3)
def eB (w : Wd) (l : List Ac) : List Ac := l.filter fun a => decide (a.Tick = w.Tick ∧ a.To ≥ 0)
def cB (w : Wd) : Vw := ge w.N ⟨[], []⟩
def ia (w : Wd) : Int := mA w.C (sU w)
def aC (w : Wd) (l : List Ac) (k : Nat) : Vw × List Of := (eB w l).foldl (cF (sU w) (ia w) w.Bad (cB w) (decide (ia w ∈ w.Bad)) (k : Int)) (cB w, w.O)
noncomputable def fZ (w : Wd) (l : List Ac) : List (Nd × List Of) := w.N.zipIdx.map fun p => ci w.C p.1 (aC w l p.2).1 (aC w l p.2).2
def pd (w : Wd) : Bool := decide (¬ cH w.C ∨ w.Tick < 3 ∨ w.Tick ≥ 3145728)
noncomputable def eT (w : Wd) (l : List Ac) : Wd := if pd w = true then w else ⟨w.C, w.Bad, IntKind.i64.wrap (w.Tick + 1), (fZ w l).map (·.1), (fZ w l).flatMap (·.2)⟩
structure qd (w : Wd) : Prop where
 n : w.N.length ≤ 10
 nodes : ∀ n ∈ w.N, l8 500 n
 o : w.O.length ≤ 20
 offs : ∀ o ∈ w.O, kC 500 o.V
 bad : w.Bad.length ≤ 100
structure lL (l : List Ac) : Prop where
 len : l.length ≤ 30
 each : ∀ a ∈ l, a.B.length ≤ 8 ∧ a.V.length ≤ 8
theorem p5 {v : Vw} (h1 : v.B.length ≤ 1000) (h2 : v.V.length ≤ 1000) : mX v = some v := by
 unfold mX;rw [aL (by omega) (by omega), ct, aL (by omega) (by omega), ct]
theorem uN {l : List Of} (hl : l.length ≤ 1000) (hs : ∀ o ∈ l, nV o) : oY l = some l := by
 have e := az (step := iY l) (n := l.length) (fun k => ea.mk (k : Int)) (ea.mk (l.length : Int)) (fun k hk => by
  obtain ⟨y, hy, hm⟩ := aE hk;have := hs y hm;unfold iY;simp only
  rw [decide_eq_true (show (k : Int) < (l.length : Int) by omega), ct, aH hy, ob, p5 this.1 this.2, ob, ob, aj (n := k) (by omega)]) (by
  unfold iY;simp only
  rw [decide_eq_false (show ¬ (l.length : Int) < (l.length : Int) by omega), cf]) (by omega)
 have e' : iter (iY l) bD (ea.mk 0) = _ := e;unfold oY;rw [aL (by omega) (by omega), ct, e', ob]
theorem Cg {w : Wd} (h : qd w) : oX w = some w := by
 have hN : w.N.length ≤ 10 := h.n
 have e := az (step := iX w) (n := w.N.length) (fun k => d9.mk (k : Int)) (d9.mk (w.N.length : Int)) (fun k hk => by
  obtain ⟨y, hy, hm⟩ := aE hk;obtain ⟨⟨a1, a2⟩, ⟨b1, b2⟩, c1, c2⟩ := h.nodes y hm;unfold iX;simp only
  rw [decide_eq_true (show (k : Int) < (w.N.length : Int) by omega), ct, aH hy, ob, p5 (by omega) (by omega), ob, p5 (by omega) (by omega), ob, uN (by omega) (ww (by omega) c2), ob, aj (n := k) (by omega)]) (by
  unfold iX;simp only
  rw [decide_eq_false (show ¬ (w.N.length : Int) < (w.N.length : Int) by omega), cf]) (by omega)
 have e' : iter (iX w) bD (d9.mk 0) = _ := e;unfold oX;have := h.bad;have := h.o;rw [aL (by omega) (by omega), ct, aL (by omega) (by omega), ct, uN (by omega) (ww (by omega) h.offs), ob, e', ob]
theorem Cr {w : Wd} {al : Vw} (x : Bk) (hb : w.Bad.length ≤ 100) (hl : al.B.length ≤ 100000) : uX x w al = some (decide (x.From ∈ w.Bad ∨ x ∈ al.B)) := by
 unfold uX Ag;rw [la (by omega), ob, ob];by_cases h : x.From ∈ w.Bad
 ·rw [decide_eq_true h, ct, decide_eq_true (.inl h)]
 ·rw [decide_eq_false h, cf, yb hl, ob];by_cases h2 : x ∈ al.B
  ·rw [decide_eq_true h2, decide_eq_true (.inr h2)]
  ·rw [decide_eq_false h2, decide_eq_false fun h3 => h3.elim h h2]
theorem Ct {w : Wd} {al : Vw} (x : Vt) (hb : w.Bad.length ≤ 100) (hl : al.V.length ≤ 100000) : uY x w al = some (decide (x.From ∈ w.Bad ∨ x ∈ al.V)) := by
 unfold uY Ag;rw [la (by omega), ob, ob];by_cases h : x.From ∈ w.Bad
 ·rw [decide_eq_true h, ct, decide_eq_true (.inl h)]
 ·rw [decide_eq_false h, cf, yc hl, ob];by_cases h2 : x ∈ al.V
  ·rw [decide_eq_true h2, decide_eq_true (.inr h2)]
  ·rw [decide_eq_false h2, decide_eq_false fun h3 => h3.elim h h2]
theorem Ai {l : List Bk} {w : Wd} {al : Vw} (hl : l.length ≤ 100000) (hb : w.Bad.length ≤ 100) (ha : al.B.length ≤ 100000) : qb l w al = some (l.filter fun x => decide (x.From ∈ w.Bad ∨ x ∈ al.B)) := by
 have e := az (step := gn l w al) (n := l.length) (fun k => cX.mk (k : Int) ((l.take k).filter fun x => decide (x.From ∈ w.Bad ∨ x ∈ al.B))) (cX.mk (l.length : Int) (l.filter fun x => decide (x.From ∈ w.Bad ∨ x ∈ al.B))) (fun k hk => by
  obtain ⟨y, hy, -⟩ := aE hk;have hlen := dv (p := fun x : Bk => decide (x.From ∈ w.Bad ∨ x ∈ al.B)) (l := l) k;unfold gn;simp only;rw [decide_eq_true (show (k : Int) < (l.length : Int) by omega), ct, aH hy, ob, Cr y hb ha, ob, bP hy, aj (n := k) (by omega)]
  cases decide (y.From ∈ w.Bad ∨ y ∈ al.B) with
  | true => rw [ct, aL (by simp only [List.length_singleton]; omega) (by omega), ct, ct]
  | false => rw [cf, cf, List.append_nil]) (by
  unfold gn;simp only
  rw [decide_eq_false (show ¬ (l.length : Int) < (l.length : Int) by omega), cf, List.take_length]) (by omega)
 have e' : iter (gn l w al) bD (cX.mk 0 []) = _ := e;unfold qb;rw [e', ob]
theorem Aj {l : List Vt} {w : Wd} {al : Vw} (hl : l.length ≤ 100000) (hb : w.Bad.length ≤ 100) (ha : al.V.length ≤ 100000) : qc l w al = some (l.filter fun x => decide (x.From ∈ w.Bad ∨ x ∈ al.V)) := by
 have e := az (step := gp l w al) (n := l.length) (fun k => cY.mk (k : Int) ((l.take k).filter fun x => decide (x.From ∈ w.Bad ∨ x ∈ al.V))) (cY.mk (l.length : Int) (l.filter fun x => decide (x.From ∈ w.Bad ∨ x ∈ al.V))) (fun k hk => by
  obtain ⟨y, hy, -⟩ := aE hk;have hlen := dv (p := fun x : Vt => decide (x.From ∈ w.Bad ∨ x ∈ al.V)) (l := l) k;unfold gp;simp only;rw [decide_eq_true (show (k : Int) < (l.length : Int) by omega), ct, aH hy, ob, Ct y hb ha, ob, bP hy, aj (n := k) (by omega)]
  cases decide (y.From ∈ w.Bad ∨ y ∈ al.V) with
  | true => rw [ct, aL (by simp only [List.length_singleton]; omega) (by omega), ct, ct]
  | false => rw [cf, cf, List.append_nil]) (by
  unfold gp;simp only
  rw [decide_eq_false (show ¬ (l.length : Int) < (l.length : Int) by omega), cf, List.take_length]) (by omega)
 have e' : iter (gp l w al) bD (cY.mk 0 []) = _ := e;unfold qc;rw [e', ob]
theorem Cn {a : Ac} {w : Wd} {al : Vw} (h1 : a.B.length ≤ 1000) (h2 : a.V.length ≤ 1000) (hb : w.Bad.length ≤ 100) (h3 : al.B.length ≤ 100000) (h4 : al.V.length ≤ 100000) : uS a w al = some (lU w.Bad al a) := by
 unfold uS;rw [Ai (by omega) hb h3, ob, Aj (by omega) hb h4, ob];rfl
theorem Ah {l : List Ac} {w : Wd} (hl : l.length ≤ 100000) : qa l w = some (eB w l) := by
 have e := az (step := gm l w) (n := l.length) (fun k => cW.mk (k : Int) (eB w (l.take k))) (cW.mk (l.length : Int) (eB w l)) (fun k hk => by
  obtain ⟨y, hy, -⟩ := aE hk;have hlen := dv (p := fun a : Ac => decide (a.Tick = w.Tick ∧ a.To ≥ 0)) (l := l) k;unfold eB at hlen ⊢;unfold gm EV;simp only;rw [decide_eq_true (show (k : Int) < (l.length : Int) by omega), ct, aH hy, ob, bP hy, aj (n := k) (by omega)];by_cases h1 : y.Tick = w.Tick
  ·rw [beq_iff_eq.2 h1, ct, ob];by_cases h2 : y.To ≥ 0
   ·rw [decide_eq_true h2, ct, decide_eq_true ⟨h1, h2⟩, ct, aL (by simp only [List.length_singleton]; omega) (by omega), ct]
   ·rw [decide_eq_false h2, cf, decide_eq_false fun h => h2 h.2, cf, List.append_nil]
  ·rw [show (y.Tick == w.Tick) = false by simp [h1], cf, ob, cf, decide_eq_false fun h => h1 h.1, cf, List.append_nil]) (by
  unfold gm;simp only
  rw [decide_eq_false (show ¬ (l.length : Int) < (l.length : Int) by omega), cf, List.take_length]) (by omega)
 have e' : iter (gm l w) bD (cW.mk 0 []) = _ := e;unfold qa;rw [e', ob]
theorem tw {w : Wd} (h : qd w) : (cB w).B.length ≤ 10000 ∧ (cB w).V.length ≤ 10000 := by
 have h1 := qi (l := w.N) (w := ⟨[], []⟩) (k := 500) h.nodes;have h2 := h.n;unfold cB;simp only [List.length_nil] at h1;omega
theorem Cq {w : Wd} {l : List Ac} (h : qd w) (hl : l.length ≤ 100000) : uW w l = some (cB w, ia w, decide (ia w ∈ w.Bad), eB w l) := by
 unfold uW;rw [rW (by have := h.n; omega) h.nodes, ob, tk, ob, la (by have := h.bad; omega), ob, Ah hl, ob];rfl
theorem qE (bad : List Int) (al : Vw) (a : Ac) : (lU bad al a).B.length ≤ a.B.length ∧ (lU bad al a).V.length ≤ a.V.length := ⟨List.length_filter_le _ _, List.length_filter_le _ _⟩
theorem xK {slot wh : Int} {bad : List Int} {al : Vw} {me : Bool} {k : Int} : ∀ {l : List Ac} {s : Vw × List Of}, (∀ a ∈ l, a.B.length ≤ 8 ∧ a.V.length ≤ 8) → (l.foldl (cF slot wh bad al me k) s).1.B.length ≤ s.1.B.length + 8 * l.length ∧ (l.foldl (cF slot wh bad al me k) s).1.V.length ≤ s.1.V.length + 8 * l.length ∧ (l.foldl (cF slot wh bad al me k) s).2.length ≤ s.2.length + l.length
 | [], s, _ => by simp
 | a :: r, s, h => by
  rw [List.foldl_cons, List.length_cons];obtain ⟨h1, h2⟩ := h a (List.mem_cons_self ..);have ih := xK (slot := slot) (wh := wh) (bad := bad) (al := al) (me := me) (k := k) (l := r) (s := cF slot wh bad al me k s a) fun b hb => h b (List.mem_cons_of_mem _ hb);have hf := qE bad al a;have hj := gt s.1 (lU bad al a)
  have : (cF slot wh bad al me k s a).1.B.length ≤ s.1.B.length + 8 ∧ (cF slot wh bad al me k s a).1.V.length ≤ s.1.V.length + 8 ∧ (cF slot wh bad al me k s a).2.length ≤ s.2.length + 1 := by
   unfold cF;split
   ·omega
   ·split
    ·simp only; omega
    ·split
     ·split
      ·omega
      ·simp only [List.length_append, List.length_singleton]; omega
     ·omega
  omega
theorem GR {w : Wd} {l : List Ac} (h : qd w) (hl : lL l) (k : Nat) : Iu w (cB w) (ia w) (decide (ia w ∈ w.Bad)) (eB w l) (k : Int) = some (aC w l k) := by
 have hal := tw h;have hcl : (eB w l).length ≤ 30 := Nat.le_trans (List.length_filter_le _ _) hl.len;have hce : ∀ a ∈ eB w l, a.B.length ≤ 8 ∧ a.V.length ≤ 8 := fun a ha => hl.each a (List.mem_filter.1 ha).1;unfold aC;generalize eB w l = cl at hcl hce;generalize hst : cF (sU w) (ia w) w.Bad (cB w) (decide (ia w ∈ w.Bad)) (k : Int) = st;have ho := h.o;have hb := h.bad
 have e := az (step := nU w (cB w) (ia w) (decide (ia w ∈ w.Bad)) cl (k : Int)) (n := cl.length) (fun j => fm.mk (j : Int) ((cl.take j).foldl st (cB w, w.O)).1 ((cl.take j).foldl st (cB w, w.O)).2) (fm.mk (cl.length : Int) (cl.foldl st (cB w, w.O)).1 (cl.foldl st (cB w, w.O)).2) (fun j hj => by
  obtain ⟨y, hy, hm⟩ := aE hj
  have et : cl.take (j + 1) = cl.take j ++ [y] := by rw [List.take_add_one, hy]; rfl
  have hlen := xK (slot := sU w) (wh := ia w) (bad := w.Bad) (al := cB w) (me := decide (ia w ∈ w.Bad)) (k := (k : Int)) (l := cl.take j) (s := (cB w, w.O)) fun a ha => hce a (List.mem_of_mem_take ha);rw [hst, List.length_take] at hlen;obtain ⟨y1, y2⟩ := hce y hm;have hf := qE w.Bad (cB w) y;unfold nU;simp only;rw [et, List.foldl_append, List.foldl_cons, List.foldl_nil];generalize (cl.take j).foldl st (cB w, w.O) = s at hlen ⊢;simp only at hlen;rw [decide_eq_true (show (j : Int) < (cl.length : Int) by omega), ct, aH hy, ob, decide_eq_true (show (0 : Int) ≤ (k : Int) by omega), ct, aj (n := j) (by omega), ← hst];show (bif HI y.To (k : Int) then _ else _) = _;unfold cF
  cases hof : HI y.To (k : Int) with
  | true => rw [ct, if_pos rfl]
  | false =>
   rw [cf, if_neg (by simp), Cn (by omega) (by omega) hb (by omega) (by omega), ob]
   cases hoff : y.Offer with
   | false => rw [Bool.not_false, ct, if_pos rfl, iD (by omega) (by omega), ob]
   | true =>
    rw [Bool.not_true, cf, if_neg (by simp)]
    cases hme : decide (ia w ∈ w.Bad) with
    | false => rw [cf, ob, cf, if_neg (by simp)]
    | true =>
     rw [ct, ob, if_pos rfl]
     cases hB : (lU w.Bad (cB w) y).B with
     | nil => rfl
     | cons b r =>
      rw [decide_eq_true (by simp), ct];show (bif H4 (b :: r) 1 (b :: r).length then _ else none) = _;rw [show H4 (b :: r) 1 ((b :: r).length : Int) = true from decide_eq_true (by simp only [List.length_cons]; omega), ct, aL (by simp only [List.length_singleton]; omega) (by omega), ct]
      rfl) (by
  unfold nU;simp only
  rw [decide_eq_false (show ¬ (cl.length : Int) < (cl.length : Int) by omega), cf, List.take_length]) (by omega)
 have e' : iter (nU w (cB w) (ia w) (decide (ia w ∈ w.Bad)) cl (k : Int)) bD (fm.mk 0 (cB w) w.O) = _ := e;unfold Iu;rw [aL (by omega) (by omega), ct, e', ob]
theorem jp {w : Wd} {l : List Ac} {k : Nat} {n : Nd} (h : w.N[k]? = some n) : (fZ w l)[k]? = some (ci w.C n (aC w l k).1 (aC w l k).2) := by
 unfold fZ;rw [List.getElem?_map, List.getElem?_zipIdx, h];simp
theorem gw (w : Wd) (l : List Ac) : (fZ w l).length = w.N.length := by
 unfold fZ;rw [List.length_map, List.length_zipIdx]
theorem xk (w : Wd) : ((yh w.C).bind fun v2 => bif !v2 then some true else bif decide (w.Tick < 3) then some true else some (decide (w.Tick ≥ 3145728))) = some (pd w) := by
 rw [ky, ob];unfold pd;by_cases h1 : cH w.C
 ·rw [decide_eq_true h1, Bool.not_true, cf];by_cases h2 : w.Tick < 3
  ·rw [decide_eq_true h2, ct, decide_eq_true (.inr (.inl h2))]
  ·rw [decide_eq_false h2, cf];by_cases h3 : w.Tick ≥ 3145728
   ·rw [decide_eq_true h3, decide_eq_true (.inr (.inr h3))]
   ·rw [decide_eq_false h3, decide_eq_false];rintro (h | h | h)
    ·exact h h1
    ·exact h2 h
    ·exact h3 h
 ·rw [decide_eq_false h1, Bool.not_false, ct, decide_eq_true (.inl h1)]
theorem Ca {w : Wd} {l : List Ac} (h : qd w) (hl : lL l) (hG : ∀ k n, w.N[k]? = some n → lK w.C n (aC w l k).1 (aC w l k).2) (hT : ∀ k n, w.N[k]? = some n → (ci w.C n (aC w l k).1 (aC w l k).2).2.length ≤ 1) : oW w l = some (eT w l) := by
 have hN := h.n;unfold oW eT;rw [xk, ob]
 cases hi : pd w with
 | true => rw [ct, Cg h, ob, if_pos rfl]
 | false =>
  have hsl := gw w l
  have hfl : ∀ k, k ≤ w.N.length → (((fZ w l).take k).flatMap (·.2)).length ≤ k := by
   intro k
   induction k with
   | zero => intro _; simp
   | succ k ih =>
    intro hk;obtain ⟨n, hn⟩ : ∃ n, w.N[k]? = some n := ⟨_, List.getElem?_eq_getElem (by omega)⟩;rw [List.take_add_one, jp hn, List.flatMap_append, List.length_append];have := ih (by omega);have := hT k n hn;simp only [Option.toList_some, List.flatMap_cons, List.flatMap_nil, List.append_nil];omega
  have e := az (step := iW w (cB w, ia w, decide (ia w ∈ w.Bad), eB w l)) (n := w.N.length) (fun k => d8.mk (k : Int) (((fZ w l).take k).map (·.1)) (((fZ w l).take k).flatMap (·.2))) (d8.mk (w.N.length : Int) ((fZ w l).map (·.1)) ((fZ w l).flatMap (·.2))) (fun k hk => by
   obtain ⟨y, hy, hm⟩ := aE hk;have hk2 := hfl k (by omega);have hT1 := hT k y hy;have hw := (jo (hG k y hy)).1;unfold iW;simp only;rw [decide_eq_true (show (k : Int) < (w.N.length : Int) by omega), ct, GR h hl k, ob, aH hy, ob, hw, ob, aL (by rw [List.length_map, List.length_take]; simp only [List.length_singleton]; omega) (by omega), ct, aL (by omega) (by omega), ct, aj (n := k) (by omega)];rw [List.take_add_one, jp hy, List.map_append, List.flatMap_append]
   simp) (by
   unfold iW;simp only
   rw [decide_eq_false (show ¬ (w.N.length : Int) < (w.N.length : Int) by omega), cf, List.take_of_length_le (by omega)]) (by omega)
  have e' : iter (iW w (cB w, ia w, decide (ia w ∈ w.Bad), eB w l)) bD (d8.mk 0 [] []) = _ := e;have := h.bad;rw [cf, Cq h (by have := hl.len; omega), ob, aL (by omega) (by omega), ct, e', ob, if_neg (by simp)]
def HZ (o : Of) : Prop := o.V.B.length ≤ 60 ∧ o.V.V.length ≤ 240
structure K2 (c : Cf) (U : Vw) (n : Nd) : Prop where
 may : ec c n.V
 nd : wG n.In
 few : n.O.length ≤ 8
 all : rG (· ∈ U.B) (· ∈ U.V) n
 sz : ∀ o ∈ n.O, HZ o
structure ym (U : Vw) (w : Wd) : Prop where
 len : w.N.length ≤ 6
 bad : w.Bad.length ≤ 10
 nodes : ∀ n ∈ w.N, K2 w.C U n
 told : w.O.length ≤ 6
 offs : ∀ o ∈ w.O, lJ (· ∈ U.B) (· ∈ U.V) o ∧ HZ o
def iu (l : List Ac) : Vw := ⟨l.flatMap Ac.B, l.flatMap Ac.V⟩
def ed (a b : Vw) : Prop := (∀ x ∈ a.B, x ∈ b.B) ∧ ∀ x ∈ a.V, x ∈ b.V
theorem eY (a : Vw) : ed a a := ⟨fun _ h => h, fun _ h => h⟩
theorem gx {a b d : Vw} (h1 : ed a b) (h2 : ed b d) : ed a d := ⟨fun x h => h2.1 x (h1.1 x h), fun x h => h2.2 x (h1.2 x h)⟩
theorem lz {P P' : Bk → Prop} {Q Q' : Vt → Prop} (hP : ∀ b, P b → P' b) (hQ : ∀ v, Q v → Q' v) {n : Nd} (h : rG P Q n) : rG P' Q' n :=
 ⟨⟨fun b hb => hP b (h.1.1 b hb), fun v hv => hQ v (h.1.2 v hv)⟩, ⟨fun b hb => hP b (h.2.1.1 b hb), fun v hv => hQ v (h.2.1.2 v hv)⟩, fun o ho => ⟨hP _ (h.2.2 o ho).1, fun b hb => hP b ((h.2.2 o ho).2.1 b hb), fun v hv => hQ v ((h.2.2 o ho).2.2 v hv)⟩⟩
theorem nY {P P' : Bk → Prop} {Q Q' : Vt → Prop} (hP : ∀ b, P b → P' b) (hQ : ∀ v, Q v → Q' v) {o : Of} (h : lJ P Q o) : lJ P' Q' o :=
 ⟨hP _ h.1, fun b hb => hP b (h.2.1 b hb), fun v hv => hQ v (h.2.2 v hv)⟩
theorem DD {c : Cf} {U U' : Vw} (h : ed U U') {n : Nd} (hn : K2 c U n) : K2 c U' n := ⟨hn.may, hn.nd, hn.few, lz h.1 h.2 hn.all, hn.sz⟩
theorem Eb {U U' : Vw} (h : ed U U') {w : Wd} (hw : ym U w) : ym U' w := ⟨hw.len, hw.bad, fun n hn => DD h (hw.nodes n hn), hw.told, fun o ho => ⟨nY h.1 h.2 (hw.offs o ho).1, (hw.offs o ho).2⟩⟩
section
variable {P : Bk → Prop} {Q : Vt → Prop}
theorem yo : ∀ {l : List Nd} {w : Vw}, eQ P Q w → (∀ n ∈ l, rG P Q n) → eQ P Q (ge l w)
 | [], w, h, _ => h
 | n :: r, w, h, hs => by
  have hn := hs n (List.mem_cons_self ..);exact yo (l := r) (w := aT w (bW n)) (eF h (eF hn.1 hn.2.1)) fun m hm => hs m (List.mem_cons_of_mem _ hm)
theorem Ar {bad : List Int} {al : Vw} {a : Ac} (hal : eQ P Q al) (hB : ∀ b ∈ a.B, b.From ∈ bad → P b) (hV : ∀ v ∈ a.V, v.From ∈ bad → Q v) : eQ P Q (lU bad al a) := by
 refine ⟨fun b hb => ?_, fun v hv => ?_⟩
 ·obtain ⟨h1, h2⟩ := List.mem_filter.1 hb;rcases of_decide_eq_true h2 with h | h
  ·exact hB b h1 h
  ·exact hal.1 b h
 ·obtain ⟨h1, h2⟩ := List.mem_filter.1 hv;rcases of_decide_eq_true h2 with h | h
  ·exact hV v h1 h
  ·exact hal.2 v h
theorem DY {slot wh : Int} {bad : List Int} {al : Vw} {me : Bool} {k : Int} (hal : eQ P Q al) : ∀ {l : List Ac} {s : Vw × List Of}, (∀ a ∈ l, (∀ b ∈ a.B, b.From ∈ bad → P b) ∧ ∀ v ∈ a.V, v.From ∈ bad → Q v) → eQ P Q s.1 → (∀ o ∈ s.2, lJ P Q o) → eQ P Q (l.foldl (cF slot wh bad al me k) s).1 ∧ ∀ o ∈ (l.foldl (cF slot wh bad al me k) s).2, lJ P Q o
 | [], s, _, h1, h2 => ⟨h1, h2⟩
 | a :: r, s, h, h1, h2 => by
  rw [List.foldl_cons];have hf := Ar hal (h a (List.mem_cons_self ..)).1 (h a (List.mem_cons_self ..)).2
  have : eQ P Q (cF slot wh bad al me k s a).1 ∧ ∀ o ∈ (cF slot wh bad al me k s a).2, lJ P Q o := by
   unfold cF;split
   ·exact ⟨h1, h2⟩
   ·split
    ·exact ⟨eF h1 hf, h2⟩
    ·split
     ·split
      ·exact ⟨h1, h2⟩
      ·rename_i b q hB;refine ⟨h1, fun o ho => ?_⟩;rcases List.mem_append.1 ho with ho | ho
       ·exact h2 o ho
       ·rw [List.mem_singleton.1 ho];exact ⟨hf.1 b (by rw [hB]; exact List.mem_cons_self ..), fun x hx => hf.1 x (by rw [hB]; exact List.mem_cons_of_mem _ hx), hf.2⟩
     ·exact ⟨h1, h2⟩
  exact DY hal (fun b hb => h b (List.mem_cons_of_mem _ hb)) this.1 this.2
theorem Gv {slot wh : Int} {bad : List Int} {al : Vw} {me : Bool} {k : Int} : ∀ {l : List Ac} {s : Vw × List Of}, wG s.1 → wG (l.foldl (cF slot wh bad al me k) s).1
 | [], s, h => h
 | a :: r, s, h => by
  rw [List.foldl_cons];refine Gv ?_;unfold cF;split
  ·exact h
  ·split
   ·exact kR h
   ·split
    ·split <;> exact h
    ·exact h
theorem Gx {slot wh : Int} {bad : List Int} {al : Vw} {me : Bool} {k : Int} : ∀ {l : List Ac} {s : Vw × List Of}, (∀ a ∈ l, a.B.length ≤ 8 ∧ a.V.length ≤ 8) → (∀ o ∈ s.2, HZ o) → ∀ o ∈ (l.foldl (cF slot wh bad al me k) s).2, HZ o
 | [], s, _, h => h
 | a :: r, s, hl, h => by
  rw [List.foldl_cons];refine Gx (fun b hb => hl b (List.mem_cons_of_mem _ hb)) ?_;have hf := qE bad al a;have ha := hl a (List.mem_cons_self ..);unfold cF;split
  ·exact h
  ·split
   ·exact h
   ·split
    ·split
     ·exact h
     ·rename_i b q hB;intro o ho;rcases List.mem_append.1 ho with ho | ho
      ·exact h o ho
      ·rw [List.mem_singleton.1 ho];have := congrArg List.length hB;rw [List.length_cons] at this;exact ⟨show q.length ≤ 60 by omega, show (lU bad al a).V.length ≤ 240 by omega⟩
    ·exact h
end
def FS (U : Vw) : Prop := U.B.length ≤ 400 ∧ U.V.length ≤ 400
theorem zu {U : Vw} {w : Wd} (hw : ym U w) (hU : FS U) : qd w := by
 refine ⟨by have := hw.len; omega, fun n hn => ?_, by have := hw.told; omega, fun o ho => ?_, by have := hw.bad; omega⟩
 ·have h := hw.nodes n hn;have h1 := h.may.lenB;have h2 := h.may.lenV;have h3 := dS h.nd.1 h.all.2.1.1;have h4 := dS h.nd.2 h.all.2.1.2;have h5 := h.few;obtain ⟨u1, u2⟩ := hU;exact ⟨⟨by omega, by omega⟩, ⟨by omega, by omega⟩, by omega, fun o ho => by have := h.sz o ho; exact ⟨by have := this.1; omega, by have := this.2; omega⟩⟩
 ·have := (hw.offs o ho).2;exact ⟨by have := this.1; omega, by have := this.2; omega⟩
theorem qw {P : Bk → Prop} {Q : Vt → Prop} {w : Wd} {l : List Ac} (hn : ∀ n ∈ w.N, rG P Q n) (ho : ∀ o ∈ w.O, lJ P Q o) (ha : ∀ a ∈ l, (∀ b ∈ a.B, b.From ∈ w.Bad → P b) ∧ ∀ v ∈ a.V, v.From ∈ w.Bad → Q v) (k : Nat) :
  eQ P Q (aC w l k).1 ∧ ∀ o ∈ (aC w l k).2, lJ P Q o := by
 have hal : eQ P Q (cB w) := yo qj hn;exact DY hal (fun a h => ha a (List.mem_filter.1 h).1) hal ho
theorem Fh (w : Wd) (l : List Ac) (k : Nat) : wG (aC w l k).1 := Gv (sn List.nodup_nil List.nodup_nil)
theorem CY {w : Wd} {l : List Ac} (hl : lL l) (k : Nat) : (aC w l k).2.length ≤ w.O.length + 30 := by
 have h := (xK (slot := sU w) (wh := ia w) (bad := w.Bad) (al := cB w) (me := decide (ia w ∈ w.Bad)) (k := (k : Int)) (l := eB w l) (s := (cB w, w.O)) fun a ha => hl.each a (List.mem_filter.1 ha).1).2.2;have h2 : (eB w l).length ≤ l.length := List.length_filter_le _ _;have h3 := hl.len;unfold aC;simp only at h;omega
theorem yt {U : Vw} {w : Wd} {l : List Ac} (hw : ym U w) (hl : lL l) (k : Nat) : ∀ o ∈ (aC w l k).2, HZ o := Gx (fun a ha => hl.each a (List.mem_filter.1 ha).1) fun o ho => (hw.offs o ho).2
theorem yn {l : List Ac} {U : Vw} (hs : ed (iu l) U) (bad : List Int) : ∀ a ∈ l, (∀ b ∈ a.B, b.From ∈ bad → b ∈ U.B) ∧ ∀ v ∈ a.V, v.From ∈ bad → v ∈ U.V :=
 fun a ha => ⟨fun b hb _ => hs.1 b (List.mem_flatMap.2 ⟨a, ha, hb⟩), fun v hv _ => hs.2 v (List.mem_flatMap.2 ⟨a, ha, hv⟩)⟩
theorem Fn {U : Vw} {w : Wd} {l : List Ac} (hw : ym U w) (hU : FS U) (hl : lL l) (hs : ed (iu l) U) {k : Nat} {n : Nd} (hk : w.N[k]? = some n) : lK w.C n (aC w l k).1 (aC w l k).2 := by
 have hn := hw.nodes n (List.mem_of_getElem? hk);obtain ⟨u1, u2⟩ := hU;have hc := qw (fun n hn => (hw.nodes n hn).all) (fun o ho => (hw.offs o ho).1) (yn hs w.Bad) k;have hd := Fh w l k;have hi := dS hd.1 hc.1.1;have hi2 := dS hd.2 hc.1.2;have hj : wG (aT n.In (a7 w.C (aC w l k).1)) := kR hn.nd;have hja : eQ (· ∈ U.B) (· ∈ U.V) (aT n.In (a7 w.C (aC w l k).1)) := eF hn.all.2.1 (sj hc.1);have h1 := hn.may.lenB;have h2 := hn.may.lenV;have h3 := dS hn.nd.1 hn.all.2.1.1;have h4 := dS hn.nd.2 hn.all.2.1.2;have h5 := dS hj.1 hja.1;have h6 := dS hj.2 hja.2;have h7 := CY (w := w) hl k;have h8 := hw.told;have h9 := hn.few;refine ⟨by omega, by omega, by omega, by omega, by omega, fun y hy => ?_⟩
 have : HZ y := by
  rcases List.mem_append.1 hy with hy | hy
  ·exact hn.sz y hy
  ·exact yt hw hl k y hy
 exact ⟨by have := this.1; omega, by have := this.2; omega⟩
noncomputable def JZ (w : Wd) (l : List Ac) : List Bk := w.N.zipIdx.map fun p => kU (bO w.C p.1 (aC w l p.2).1 (aC w l p.2).2) w.C (aA p.1)
noncomputable def J0 (w : Wd) (l : List Ac) : List Vt := w.N.zipIdx.map fun p => td w.C p.1 (aC w l p.2).1 (aC w l p.2).2
noncomputable def lX (U : Vw) (w : Wd) (l : List Ac) : Vw := ⟨U.B ++ JZ w l, U.V ++ J0 w l⟩
theorem fN (U : Vw) (w : Wd) (l : List Ac) : ed U (lX U w l) := ⟨fun _ h => List.mem_append_left _ h, fun _ h => List.mem_append_left _ h⟩
theorem DF {U : Vw} {w : Wd} (hw : w.N.length ≤ 6) (l : List Ac) : (lX U w l).B.length ≤ U.B.length + 6 ∧ (lX U w l).V.length ≤ U.V.length + 6 := by
 unfold lX JZ J0;simp only [List.length_append, List.length_map, List.length_zipIdx];omega
theorem zS {w : Wd} {k : Nat} {n : Nd} (h : w.N[k]? = some n) : (n, k) ∈ w.N.zipIdx := by
 refine List.mem_of_getElem? (i := k) ?_;rw [List.getElem?_zipIdx, h];simp
theorem lC {w : Wd} {l : List Ac} (hi : pd w = false) {k : Nat} : ((eT w l).N[k]? = (w.N[k]?).map fun n => (ci w.C n (aC w l k).1 (aC w l k).2).1) := by
 unfold eT;rw [if_neg (by simp [hi])];simp only;rw [List.getElem?_map]
 cases h : w.N[k]? with
 | none =>
  have := List.getElem?_eq_none_iff.1 h;rw [List.getElem?_eq_none (by rw [gw]; exact this)];rfl
 | some n => rw [jp h]; rfl
theorem yu {w : Wd} {l : List Ac} (hi : pd w = false) {o : Of} (ho : o ∈ (eT w l).O) : ∃ k n, w.N[k]? = some n ∧ o ∈ (ci w.C n (aC w l k).1 (aC w l k).2).2 := by
 unfold eT at ho;rw [if_neg (by simp [hi])] at ho;obtain ⟨p, hp, h⟩ := List.mem_flatMap.1 ho;obtain ⟨k, hk, e⟩ := List.getElem_of_mem hp;rw [gw] at hk;obtain ⟨n, hn⟩ : ∃ n, w.N[k]? = some n := ⟨_, List.getElem?_eq_getElem hk⟩;refine ⟨k, n, hn, ?_⟩;have h1 := jp (l := l) hn;rw [List.getElem?_eq_getElem (by rw [gw]; exact hk), e] at h1;rw [← Option.some.inj h1];exact h
theorem Hx (w : Wd) (l : List Ac) : (eT w l).N.length = w.N.length := by
 unfold eT;split
 ·rfl
 ·simp only [List.length_map, gw]
theorem Gj {U : Vw} {w : Wd} {l : List Ac} (hw : ym U w) (hU : FS U) (hl : lL l) (hs : ed (iu l) U) : oW w l = some (eT w l) ∧ ym (lX U w l) (eT w l) := by
 have hfit := zu hw hU;have hG : ∀ k n, w.N[k]? = some n → lK w.C n (aC w l k).1 (aC w l k).2 := fun k n h => Fn hw hU hl hs h;have hsame := fun k n (h : w.N[k]? = some n) => lI (hG k n h) (hw.nodes n (List.mem_of_getElem? h)).may (hw.nodes n (List.mem_of_getElem? h)).nd (hw.nodes n (List.mem_of_getElem? h)).few;have hc := fun k => qw (fun n hn => (hw.nodes n hn).all) (fun o ho => (hw.offs o ho).1) (yn hs w.Bad) k;refine ⟨Ca hfit hl hG fun k n h => (hsame k n h).2.2.2.2.2.2.1, ?_⟩
 cases hi : pd w with
 | true => unfold eT; rw [if_pos hi]; exact Eb (fN U w l) hw
 | false =>
  have hall := fun k n (h : w.N[k]? = some n) => wy (P := (· ∈ (lX U w l).B)) (Q := (· ∈ (lX U w l).V)) (hG k n h)
   (lz (fN U w l).1 (fN U w l).2 (hw.nodes n (List.mem_of_getElem? h)).all)
   ⟨fun b hb => (fN U w l).1 b ((hc k).1.1 b hb), fun v hv => (fN U w l).2 v ((hc k).1.2 v hv)⟩
   (fun y hy => nY (fN U w l).1 (fN U w l).2 ((hc k).2 y hy))
   (fun _ _ _ => List.mem_append_right _ (List.mem_map.2 ⟨_, zS h, rfl⟩)) (fun _ _ _ => List.mem_append_right _ (List.mem_map.2 ⟨_, zS h, rfl⟩))
  have hC : (eT w l).C = w.C := by unfold eT; rw [if_neg (by simp [hi])]
  have hB : (eT w l).Bad = w.Bad := by unfold eT; rw [if_neg (by simp [hi])]
  have hO : (eT w l).O.length ≤ 6 := by
   have : ∀ k, k ≤ w.N.length → (((fZ w l).take k).flatMap (·.2)).length ≤ k := by
    intro k
    induction k with
    | zero => intro _; simp
    | succ k ih =>
     intro hk;obtain ⟨n, hn⟩ : ∃ n, w.N[k]? = some n := ⟨_, List.getElem?_eq_getElem (by omega)⟩;rw [List.take_add_one, jp hn, List.flatMap_append, List.length_append];have := ih (by omega);have := (hsame k n hn).2.2.2.2.2.2.1;simp only [Option.toList_some, List.flatMap_cons, List.flatMap_nil, List.append_nil];omega
   have h2 := this w.N.length (Nat.le_refl _);rw [List.take_of_length_le (by rw [gw]; omega)] at h2;have h3 := hw.len;unfold eT;rw [if_neg (by simp [hi])];simp only;omega
  refine ⟨by rw [Hx]; exact hw.len, by rw [hB]; exact hw.bad, fun x hx => ?_, hO, fun o ho => ?_⟩
  ·obtain ⟨k, hk, e⟩ := List.getElem_of_mem hx
   have h1 : (eT w l).N[k]? = some x := by rw [List.getElem?_eq_getElem hk, e]
   rw [lC hi] at h1
   cases hn : w.N[k]? with
   | none => rw [hn] at h1; cases h1
   | some n =>
    rw [hn] at h1;have e2 := Option.some.inj h1;subst e2;obtain ⟨s1, s2, s3, s4, s5, s6, s7, s8, s9⟩ := hsame k n hn;rw [hC];refine ⟨s3.1, s4, s5, (hall k n hn).1, fun o ho => ?_⟩;rcases List.mem_append.1 (s8 o ho) with h | h
    ·exact (hw.nodes n (List.mem_of_getElem? hn)).sz o h
    ·exact yt hw hl k o h
  ·obtain ⟨k, n, hn, h⟩ := yu hi ho;obtain ⟨s1, s2, s3, s4, s5, s6, s7, s8, s9⟩ := hsame k n hn;exact ⟨(hall k n hn).2 o h, (s9 o h).lenB, (s9 o h).lenV⟩
structure E3 (w : Wd) : Prop where
 may : cH w.C
 lo : 3 ≤ w.Tick
 hi : w.Tick ≤ 100000
 at_ : ∀ n ∈ w.N, n.Tick = w.Tick
theorem nI {w : Wd} (h : E3 w) : pd w = false := by
 refine decide_eq_false ?_;have h1 := h.lo;have h2 := h.hi;rintro (h3 | h3 | h3)
 ·exact h3 h.may
 ·omega
 ·omega
theorem nJ {w : Wd} (h : E3 w) {n : Nd} (hn : n ∈ w.N) : eK w.C n = false := by
 have h1 := h.lo;have h2 := h.hi;have h3 := h.at_ n hn;exact E7 h.may (by omega) (by omega)
theorem tE {U : Vw} {w : Wd} {l : List Ac} (hw : ym U w) (hU : FS U) (hl : lL l) (hs : ed (iu l) U) (ht : E3 w) : (eT w l).C = w.C ∧ (eT w l).Bad = w.Bad ∧ (eT w l).Tick = w.Tick + 1 ∧ (∀ n ∈ (eT w l).N, n.Tick = w.Tick + 1) ∧ (eT w l).N.map Nd.No = w.N.map Nd.No := by
 have hi := nI ht;have h1 := ht.lo;have h2 := ht.hi;have hG : ∀ k n, w.N[k]? = some n → lK w.C n (aC w l k).1 (aC w l k).2 := fun k n h => Fn hw hU hl hs h;have hsame := fun k n (h : w.N[k]? = some n) => lI (hG k n h) (hw.nodes n (List.mem_of_getElem? h)).may (hw.nodes n (List.mem_of_getElem? h)).nd (hw.nodes n (List.mem_of_getElem? h)).few;refine ⟨by unfold eT; rw [if_neg (by simp [hi])], by unfold eT; rw [if_neg (by simp [hi])], by unfold eT; rw [if_neg (by simp [hi])]; exact cA (by omega) (by omega), fun x hx => ?_, ?_⟩
 ·obtain ⟨k, hk, e⟩ := List.getElem_of_mem hx
  have h1 : (eT w l).N[k]? = some x := by rw [List.getElem?_eq_getElem hk, e]
  rw [lC hi] at h1
  cases hn : w.N[k]? with
  | none => rw [hn] at h1; cases h1
  | some n =>
   rw [hn] at h1;have e2 := Option.some.inj h1;subst e2;have hm := List.mem_of_getElem? hn;have := (hsame k n hn).2.1;rw [nJ ht hm, if_neg (by simp), ht.at_ n hm, cA (by omega) (by omega)] at this;exact this
 ·apply List.ext_getElem?;intro k;rw [List.getElem?_map, List.getElem?_map, lC hi]
  cases hn : w.N[k]? with
  | none => rfl
  | some n =>
   simp only [Option.map_some];rw [(hsame k n hn).1]
noncomputable def cy (w : Wd) (l : List Ac) : Nat → Wd
 | 0 => w
 | n + 1 => eT (cy w l n) l
noncomputable def rO (U : Vw) (w : Wd) (l : List Ac) : Nat → Vw
 | 0 => U
 | n + 1 => lX (rO U w l n) (cy w l n) l
structure LS (U : Vw) (w : Wd) (l : List Ac) (k : Nat) : Prop where
 ok : ym (rO U w l k) (cy w l k)
 B : (rO U w l k).B.length ≤ U.B.length + 6 * k
 V : (rO U w l k).V.length ≤ U.V.length + 6 * k
 sub : ed U (rO U w l k)
 time : E3 (cy w l k)
 tick : (cy w l k).Tick = w.Tick + k
 conf : (cy w l k).C = w.C
 bad : (cy w l k).Bad = w.Bad
 nos : (cy w l k).N.map Nd.No = w.N.map Nd.No
theorem DO {U : Vw} {w : Wd} {l : List Ac} (hw : ym U w) (hl : lL l) (hs : ed (iu l) U) (ht : E3 w) (hB : U.B.length ≤ 300) (hV : U.V.length ≤ 300) (hT : w.Tick ≤ 1000) : ∀ k, k ≤ 15 → LS U w l k
 | 0, _ => ⟨hw, by simp [rO], by simp [rO], eY U, ht, by simp [cy], rfl, rfl, rfl⟩
 | k + 1, h => by
  obtain ⟨r1, r2, r3, r4, r5, r6, r7, r8, r9⟩ := DO hw hl hs ht hB hV hT k (by omega);have hU : FS (rO U w l k) := ⟨by omega, by omega⟩;have hs' := gx hs r4;have hd := Gj r1 hU hl hs';obtain ⟨t1, t2, t3, t4, t5⟩ := tE r1 hU hl hs' r5;have hn := DF (U := rO U w l k) r1.len l;have h1 := r5.lo;refine ⟨hd.2, ?_, ?_, gx r4 (fN _ _ _), ⟨by show cH (eT _ _).C; rw [t1]; exact r5.may, by show 3 ≤ (eT _ _).Tick; omega, by show (eT _ _).Tick ≤ _; omega, fun n hn => by rw [t4 n hn]; exact t3.symm⟩, ?_, t1.trans r7, t2.trans r8, t5.trans r9⟩
  ·show (lX _ _ _).B.length ≤ _; omega
  ·show (lX _ _ _).V.length ≤ _; omega
  ·show (eT _ _).Tick = _; rw [t3, r6]; omega
theorem Ce (l : List Ac) {k : Int} (hk : k ≤ 100) : sf l k = some false ∨ (sf l k = some true ∧ (l.length : Int) ≤ k ∧ ∀ a ∈ l, a.B.length ≤ 8 ∧ a.V.length ≤ 8) := by
 unfold sf;by_cases h : (l.length : Int) > k
 ·rw [decide_eq_true h, ct]; exact .inl rfl
 ·rw [decide_eq_false h, cf]
  have e := A7 (step := gF l) (n := l.length) (fun j => dH.mk (j : Int)) false (fun j => ∀ a, l[j]? = some a → a.B.length ≤ 8 ∧ a.V.length ≤ 8) (fun j hj => by
   obtain ⟨y, hy, -⟩ := aE hj;unfold gF;simp only;rw [decide_eq_true (show (j : Int) < (l.length : Int) by omega), ct, aH hy, ob, ob];by_cases h1 : (y.B.length : Int) > 8
   ·rw [decide_eq_true h1, ct]; exact .inl rfl
   ·rw [decide_eq_false h1, cf];by_cases h2 : (y.V.length : Int) > 8
    ·rw [decide_eq_true h2, ct]; exact .inl rfl
    ·rw [decide_eq_false h2, cf, aj (n := j) (by omega)];refine .inr ⟨rfl, fun a ha => ?_⟩;rw [hy] at ha;obtain rfl := Option.some.inj ha
     omega) (by
   unfold gF;simp only
   rw [decide_eq_false (show ¬ (l.length : Int) < (l.length : Int) by omega), cf]) (by omega)
  have e2 : iter (gF l) bD (dH.mk 0) = some (.inr false) ∨ (iter (gF l) bD (dH.mk 0) = some (.inl (dH.mk (l.length : Int))) ∧ _) := e;rcases e2 with e2 | ⟨e2, h3⟩
  ·rw [e2, ob]; exact .inl rfl
  ·rw [e2, ob];refine .inr ⟨rfl, by omega, fun a ha => ?_⟩;obtain ⟨j, hj⟩ := List.getElem?_of_mem ha;exact h3 j (List.getElem?_eq_some_iff.1 hj).1 a hj
structure gy (c : Cf) (bad : List Int) (l : List Ac) : Prop where
 acts : lL l
 len : l.length ≤ 25
 may : cH c
 w : c.W.length ≤ 6
 bad : bad.length ≤ 6
theorem Cc (c : Cf) (bad : List Int) (l : List Ac) : se c bad l = some false ∨ (se c bad l = some true ∧ gy c bad l) := by
 unfold se;rcases Ce l (k := 25) (by omega) with e | ⟨e, h1, h2⟩
 ·rw [e, ob, cf]; exact .inl rfl
 ·rw [e, ob, ct, ky, ob];by_cases hm : cH c
  ·rw [decide_eq_true hm, ct];by_cases hw : (c.W.length : Int) ≤ 6
   ·rw [decide_eq_true hw, ct];by_cases hb : (bad.length : Int) ≤ 6
    ·rw [decide_eq_true hb]; exact .inr ⟨rfl, ⟨by omega, h2⟩, by omega, hm, by omega, by omega⟩
    ·rw [decide_eq_false hb]; exact .inl rfl
   ·rw [decide_eq_false hw, cf]; exact .inl rfl
  ·rw [decide_eq_false hm, cf]; exact .inl rfl
def je (bad : List Int) (n : Nat) : List Int := ((List.range n).map Int.ofNat).filter fun i => decide (i ∉ bad)
theorem xg (bad : List Int) (n : Nat) : je bad (n + 1) = je bad n ++ if (n : Int) ∈ bad then [] else [(n : Int)] := by
 unfold je;rw [List.range_succ, List.map_append, List.filter_append];by_cases h : (n : Int) ∈ bad <;> simp [h]
theorem sA (bad : List Int) (n : Nat) : (je bad n).length ≤ n := Nat.le_trans (List.length_filter_le _ _) (by simp)
def xt (i : Int) : Nd := ⟨i, 3, ⟨[], []⟩, ⟨[], []⟩, [], ⟨(0, 0), 0, 0⟩, false⟩
def ck (c : Cf) (bad : List Int) : Wd := ⟨c, bad, 3, (je bad c.W.length).map xt, []⟩
theorem B9 {c : Cf} {bad : List Int} (hm : cH c) (hb : bad.length ≤ 100) : sc c bad = some (ck c bad) := by
 have hw := hm.2.1
 have e := az (step := iV c bad) (n := c.W.length) (fun k => dG.mk (k : Int) ((je bad k).map xt)) (dG.mk (c.W.length : Int) ((je bad c.W.length).map xt)) (fun k hk => by
  have hg := sA bad k;unfold iV;simp only;rw [decide_eq_true (show (k : Int) < (c.W.length : Int) by omega), ct, la (by omega), ob, xg, aj (n := k) (by omega)];by_cases h : (k : Int) ∈ bad
  ·rw [decide_eq_true h, Bool.not_true, cf, if_pos h, List.append_nil]
  ·rw [decide_eq_false h, Bool.not_false, ct, if_neg h];unfold ye;rw [ob, aL (by rw [List.length_map]; simp only [List.length_singleton]; omega) (by omega), ct, List.map_append]
   rfl) (by
  unfold iV;simp only
  rw [decide_eq_false (show ¬ (c.W.length : Int) < (c.W.length : Int) by omega), cf]) (by omega)
 have e' : iter (iV c bad) bD (dG.mk 0 []) = _ := e;unfold sc;rw [aL (by omega) (by omega), ct, ky, ob, decide_eq_true hm, Bool.not_true, cf, e', ob];rfl
theorem yZ (c : Cf) (bad : List Int) : (ck c bad).N.map Nd.No = je bad c.W.length := by
 show ((je bad c.W.length).map xt).map Nd.No = _;rw [List.map_map, show Nd.No ∘ xt = id from rfl, List.map_id]
theorem Dv {c : Cf} (hm : cH c) : ec c ⟨[], []⟩ := ⟨hm, Bl, by simp, by simp, fun b hb => (by cases hb), fun v hv => (by cases hv), List.nodup_nil, fun v hv => (by cases hv)⟩
theorem nX {l : List Ac} {k : Nat} (hk : l.length ≤ k) (h : ∀ a ∈ l, a.B.length ≤ 8 ∧ a.V.length ≤ 8) : (iu l).B.length ≤ 8 * k ∧ (iu l).V.length ≤ 8 * k := by
 have : ∀ m : List Ac, (∀ a ∈ m, a.B.length ≤ 8 ∧ a.V.length ≤ 8) → (m.flatMap Ac.B).length ≤ 8 * m.length ∧ (m.flatMap Ac.V).length ≤ 8 * m.length := by
  intro m
  induction m with
  | nil => intro _; simp
  | cons a r ih =>
   intro h;have h1 := ih fun b hb => h b (List.mem_cons_of_mem _ hb);have h2 := h a (List.mem_cons_self ..);rw [List.flatMap_cons, List.flatMap_cons, List.length_append, List.length_append, List.length_cons];omega
 have := this l h;unfold iu;simp only;omega
theorem DE {c : Cf} {bad : List Int} (hm : cH c) (hw : c.W.length ≤ 6) (hb : bad.length ≤ 10) (U : Vw) : ym U (ck c bad) ∧ E3 (ck c bad) := by
 have hg := sA bad c.W.length
 have hN : ∀ n ∈ (ck c bad).N, ∃ i, n = xt i := fun n hn => by
  obtain ⟨i, -, h⟩ := List.mem_map.1 hn;exact ⟨i, h.symm⟩
 refine ⟨⟨by show ((je bad c.W.length).map xt).length ≤ 6; rw [List.length_map]; omega, hb, fun n hn => ?_, Nat.zero_le _, fun o ho => by cases ho⟩, ⟨hm, Int.le_refl _, by show (3 : Int) ≤ 100000; omega, fun n hn => ?_⟩⟩
 ·obtain ⟨i, rfl⟩ := hN n hn;exact ⟨Dv hm, ⟨List.nodup_nil, List.nodup_nil⟩, Nat.zero_le _, ⟨qj, qj, fun o ho => (by cases ho)⟩, fun o ho => (by cases ho)⟩
 ·obtain ⟨i, rfl⟩ := hN n hn;rfl
theorem m5 {c : Cf} {bad : List Int} {l : List Ac} (hm : cH c) (hw : c.W.length ≤ 6) (hb : bad.length ≤ 10) (hl : lL l) : ∀ k, k ≤ 15 → LS (iu l) (ck c bad) l k := by
 have h := DE hm hw hb (iu l);have h1 := nX hl.len hl.each;exact DO h.1 hl (eY _) h.2 (by omega) (by omega) (by show (3 : Int) ≤ 1000; omega)
def lY (w : Wd) (v : Vw) : Vw := w.O.foldl (fun v o => aT (aT v o.V) ⟨[o.B], []⟩) v
def nD (l : List Ac) (v : Vw) : Vw := l.foldl (fun v a => aT v ⟨a.B, a.V⟩) v
def kf (w : Wd) (l : List Ac) : Vw := nD l (lY w (cB w))
theorem lH : ∀ {l : List Of} {v : Vw}, (∀ o ∈ l, kC 500 o.V) → (l.foldl (fun v o => aT (aT v o.V) ⟨[o.B], []⟩) v).B.length ≤ v.B.length + 501 * l.length ∧ (l.foldl (fun v o => aT (aT v o.V) ⟨[o.B], []⟩) v).V.length ≤ v.V.length + 501 * l.length
 | [], v, _ => by simp
 | o :: r, v, h => by
  rw [List.foldl_cons, List.length_cons];have ih := lH (l := r) (v := aT (aT v o.V) ⟨[o.B], []⟩) fun q hq => h q (List.mem_cons_of_mem _ hq);obtain ⟨h1, h2⟩ := h o (List.mem_cons_self ..);have h3 := gt v o.V;have h4 := gt (aT v o.V) ⟨[o.B], []⟩;simp only [List.length_singleton, List.length_nil] at h4;omega
theorem oM : ∀ {l : List Ac} {v : Vw}, (∀ a ∈ l, a.B.length ≤ 8 ∧ a.V.length ≤ 8) → (nD l v).B.length ≤ v.B.length + 8 * l.length ∧ (nD l v).V.length ≤ v.V.length + 8 * l.length
 | [], v, _ => by simp [nD]
 | a :: r, v, h => by
  have ih := oM (l := r) (v := aT v ⟨a.B, a.V⟩) fun q hq => h q (List.mem_cons_of_mem _ hq);have e : nD (a :: r) v = nD r (aT v ⟨a.B, a.V⟩) := rfl;obtain ⟨h1, h2⟩ := h a (List.mem_cons_self ..);have h3 := gt v ⟨a.B, a.V⟩;rw [e, List.length_cons];simp only at h3;omega
theorem DP {w : Wd} {l : List Ac} (h : qd w) (hl : lL l) : (kf w l).B.length ≤ 30000 ∧ (kf w l).V.length ≤ 30000 := by
 have h1 := tw h;have h2 := lH (v := cB w) h.offs;have h3 := oM (v := lY w (cB w)) hl.each;have h4 := h.o;have h5 := hl.len;unfold kf;unfold lY at h3 ⊢;omega
theorem Bx {w : Wd} {l : List Ac} (h : qd w) (hl : lL l) : un w l = some (kf w l) := by
 have h1 := tw h;have ho := h.o;have hal := hl.len;have hoff := h.offs
 have e1 := az (step := gA w) (n := w.O.length) (fun k => dD.mk (k : Int) ((w.O.take k).foldl (fun v o => aT (aT v o.V) ⟨[o.B], []⟩) (cB w))) (dD.mk (w.O.length : Int) (lY w (cB w))) (fun k hk => by
  obtain ⟨y, hy, hm⟩ := aE hk
  have et : w.O.take (k + 1) = w.O.take k ++ [y] := by rw [List.take_add_one, hy]; rfl
  have hlen := lH (l := w.O.take k) (v := cB w) fun o ho => hoff o (List.mem_of_mem_take ho);rw [List.length_take] at hlen;have hyo := hoff y hm;have hj := gt ((w.O.take k).foldl (fun v o => aT (aT v o.V) ⟨[o.B], []⟩) (cB w)) y.V;unfold gA;simp only
  rw [decide_eq_true (show (k : Int) < (w.O.length : Int) by omega), ct, aH hy, ob, et, List.foldl_append, List.foldl_cons, List.foldl_nil, iD (by have := hyo.1; omega) (by have := hyo.2; omega), ob, iD (by have := hyo.1; simp only [List.length_singleton]; omega) (by have := hyo.2; simp only [List.length_nil]; omega), ob, aj (n := k) (by omega)]) (by
  unfold gA;simp only;rw [decide_eq_false (show ¬ (w.O.length : Int) < (w.O.length : Int) by omega), cf, List.take_length]
  rfl) (by omega)
 have e1' : iter (gA w) bD (dD.mk 0 (cB w)) = _ := e1;have h2 := lH (v := cB w) h.offs;have h2' : (lY w (cB w)).B.length ≤ (cB w).B.length + 501 * w.O.length ∧ (lY w (cB w)).V.length ≤ (cB w).V.length + 501 * w.O.length := h2
 have e2 := az (step := iK l) (n := l.length) (fun k => dZ.mk (k : Int) (nD (l.take k) (lY w (cB w)))) (dZ.mk (l.length : Int) (kf w l)) (fun k hk => by
  obtain ⟨y, hy, hm⟩ := aE hk
  have et : l.take (k + 1) = l.take k ++ [y] := by rw [List.take_add_one, hy]; rfl
  have hlen := oM (l := l.take k) (v := lY w (cB w)) fun o ho => hl.each o (List.mem_of_mem_take ho);rw [List.length_take] at hlen;have hya := hl.each y hm;unfold iK;simp only;rw [decide_eq_true (show (k : Int) < (l.length : Int) by omega), ct, aH hy, ob, et, iD (by simp only; omega) (by simp only; omega), ob, aj (n := k) (by omega)];unfold nD;rw [List.foldl_append]
  rfl) (by
  unfold iK;simp only;rw [decide_eq_false (show ¬ (l.length : Int) < (l.length : Int) by omega), cf, List.take_length]
  rfl) (by omega)
 have e2' : iter (iK l) bD (dZ.mk 0 (lY w (cB w))) = _ := e2;unfold un;rw [rW (by have := h.n; omega) h.nodes, ob];show ((iter (gA w) bD (dD.mk 0 (cB w))).bind _) = _;rw [e1', ob, e2', ob]
theorem sR : ∀ (l : List Ac) (v : Vw), ed v (nD l v)
 | [], v => eY v
 | a :: r, v => by
  have h : ed v (aT v ⟨a.B, a.V⟩) := ⟨fun b hb => gu.2 (.inl hb), fun x hx => fp.2 (.inl hx)⟩;exact gx h (sR r _)
theorem JF {c : Cf} {w i : Vw} {u : Int} (hm : ec c w) (hf : (aB c w i u).2.2 = false) {b : Bk} (hb : b ∈ i.B) (hmb : mayB c b = true) (hu : b.Slot ≤ u) {s : Int} (hq : aX (aB c w i u).1.B b.Parent = some s) (hs : s < b.Slot) : ∃ y ∈ (aB c w i u).1.B, nm y = nm b := by
 have ht := rQ hm i u;have h0 := (of_decide_eq_true hmb).2.2;rcases ht.allB b (List.mem_filter.2 ⟨hb, hmb⟩) with hl | hg
 ·obtain ⟨-, hw | ⟨-, hw⟩⟩ := ht.endB b hl
  ·unfold eP at hw;rw [hq] at hw;have := of_decide_eq_true hw;omega
  ·rw [hf] at hw; cases hw
 ·unfold cx at hg;rw [Bool.or_eq_true, hq] at hg;rcases hg with hg | hg
  ·obtain ⟨q, hq2⟩ := Option.isSome_iff_exists.1 hg;rcases oO hq2 with ⟨e, -⟩ | ⟨-, y, hy, e, -⟩
   ·exact absurd e h0
   ·exact ⟨y, hy, e⟩
  ·have := of_decide_eq_true hg;omega
theorem Gi {c : Cf} {w i : Vw} {u : Int} (hm : ec c w) (hf : (aB c w i u).2.2 = false) {v : Vt} (hv : v ∈ i.V) (hmv : mayV c v = true) (hu : v.Slot ≤ u) (hb : forB (aB c w i u).1.B v) : v ∈ (aB c w i u).1.V := by
 have ht := rQ hm i u;obtain ⟨s, hq, hle⟩ := hb;rcases ht.allV v (List.mem_filter.2 ⟨hv, hmv⟩) with hl | hg
 ·obtain ⟨-, hw | ⟨-, hw⟩⟩ := ht.endV v hl
  ·unfold fg at hw;rw [hq] at hw;have := of_decide_eq_true hw;omega
  ·rw [hf] at hw; cases hw
 ·unfold cL at hg;rw [Bool.or_eq_true, hq] at hg;rcases hg with hg | hg
  ·exact of_decide_eq_true hg
  ·have := of_decide_eq_true hg;omega
theorem yz {B C : List Bk} (h : aJ B) (h2 : aJ C) (hs : ∀ b ∈ B, b ∈ C) {v : Vt} (hf : forB B v) : forB C v := by
 obtain ⟨s, h3, h4⟩ := hf;exact ⟨s, sT h h2 hs h3, h4⟩
theorem qX {c : Cf} {v w : Vw} (h : j8 c v w) : ed v w :=
 ⟨fun b hb => List.mem_of_mem_take (by rw [h.2.1]; exact hb), fun b hb => List.mem_of_mem_take (by rw [h.2.2]; exact hb)⟩
theorem CX {c : Cf} {w i x : Vw} {u : Int} (hm : ec c w) (hf : (aB c w i u).2.2 = false) (hx : ec c x) (hB : ∀ b ∈ x.B, b ∈ w.B ∨ b ∈ i.B) (hV : ∀ v ∈ x.V, v ∈ w.V ∨ v ∈ i.V) (uB : ∀ b ∈ x.B, b.Slot ≤ u) (uV : ∀ v ∈ x.V, v.Slot ≤ u)
  (inj : ∀ b ∈ x.B, ∀ y ∈ (aB c w i u).1.B, nm y = nm b → y = b) : ed x (aB c w i u).1 := by
 have ht := rQ hm i u;have hsub := qX (dh hm i u)
 have key : ∀ k, k ≤ x.B.length → ∀ b ∈ x.B.take k, b ∈ (aB c w i u).1.B := by
  intro k
  induction k with
  | zero => intro _ b hb; simp at hb
  | succ k ih =>
   intro hk b hb;obtain ⟨y, hy, hym⟩ := aE (l := x.B) (n := k) (by omega);have hv := mH hx.valid (k + 1);rw [aY hy] at hb hv;rcases List.mem_append.1 hb with hb | hb
   ·exact ih (by omega) b hb
   ·rw [List.mem_singleton.1 hb];rcases hB y hym with h | h
    ·exact hsub.1 y h
    ·obtain ⟨hv0, ⟨s, hs1, hs2⟩, -⟩ := j2.1 hv;obtain ⟨z, hz, e⟩ := JF hm hf h (hx.mayB y hym) (uB y hym) (sT hv0 ht.may.valid (ih (by omega)) hs1) hs2;rw [← inj y hym z hz e];exact hz
 have hall : ∀ b ∈ x.B, b ∈ (aB c w i u).1.B := fun b hb => key x.B.length (Nat.le_refl _) b (by rw [List.take_length]; exact hb);refine ⟨hall, fun v hv => ?_⟩;rcases hV v hv with h | h
 ·exact hsub.2 v h
 ·exact Gi hm hf h (hx.mayV v hv) (uV v hv) (yz hx.valid ht.may.valid hall (hx.forB v hv))
structure Gw (U : Vw) (w : Wd) (l : List Ac) : Prop where
 ok : ym U w
 sz : FS U
 acts : lL l
 sub : ed (iu l) U
 time : E3 w
 soon : w.Tick ≤ 1000
theorem jK {c : Cf} {bad : List Int} {l : List Ac} (hb : gy c bad l) {k : Nat} (hk : k ≤ 15) : Gw (rO (iu l) (ck c bad) l k) (cy (ck c bad) l k) l := by
 have hR := m5 (bad := bad) hb.may hb.w (by have := hb.bad; omega) hb.acts k hk;have hal := nX hb.len hb.acts.each;have h1 := hR.B;have h2 := hR.V;have h3 := hR.tick;have h4 : (ck c bad).Tick = 3 := rfl;exact ⟨hR.ok, ⟨by omega, by omega⟩, hb.acts, hR.sub, hR.time, by omega⟩
section
variable {U : Vw} {w : Wd} {l : List Ac}
noncomputable def dV (w : Wd) (l : List Ac) (k : Nat) (n : Nd) : Nd := (ci w.C n (aC w l k).1 (aC w l k).2).1
theorem Gw.few (G : Gw U w l) {k : Nat} {n : Nd} (hn : w.N[k]? = some n) : lK w.C n (aC w l k).1 (aC w l k).2 := Fn G.ok G.sz G.acts G.sub hn
theorem Gw.may (G : Gw U w l) {n : Nd} (hn : n ∈ w.N) : ec w.C n.V := (G.ok.nodes n hn).may
theorem Gw.next (G : Gw U w l) {k : Nat} {n : Nd} (hn : w.N[k]? = some n) : (eT w l).N[k]? = some (dV w l k n) := by
 rw [lC (nI G.time), hn]; rfl
theorem Gw.keeps (G : Gw U w l) {k : Nat} {n : Nd} (hn : w.N[k]? = some n) : j8 w.C n.V (dV w l k n).V :=
 have hm := List.mem_of_getElem? hn
 (lI (G.few hn) (G.may hm) (G.ok.nodes n hm).nd (G.ok.nodes n hm).few).2.2.1
theorem Gw.prev (G : Gw U w l) {x : Nd} (hx : x ∈ (eT w l).N) : ∃ k n, w.N[k]? = some n ∧ x = dV w l k n := by
 obtain ⟨k, hk⟩ := List.getElem?_of_mem hx;rw [lC (nI G.time)] at hk
 cases hn : w.N[k]? with
 | none => rw [hn] at hk; cases hk
 | some n => rw [hn] at hk; exact ⟨k, n, hn, (Option.some.inj hk).symm⟩
theorem Gw.slot (G : Gw U w l) {n : Nd} (hn : n ∈ w.N) : aA n = w.Tick / 3 := by
 have h1 := G.time.at_ n hn;have h2 := G.time.lo;have h3 := G.soon;have := (rk (n := n) (by omega) (by omega)).1;omega
theorem Gw.conf (G : Gw U w l) : (eT w l).C = w.C ∧ (eT w l).Bad = w.Bad ∧ (eT w l).Tick = w.Tick + 1 :=
 have h := tE G.ok G.sz G.acts G.sub G.time
 ⟨h.1, h.2.1, h.2.2.1⟩
theorem Gw.mod (G : Gw U w l) {n : Nd} (hn : n ∈ w.N) : n.Tick.tmod 3 = w.Tick % 3 := by
 have h1 := G.time.at_ n hn;have h2 := G.time.lo;rw [Int.tmod_eq_emod_of_nonneg (by omega), h1]
noncomputable def jE (w : Wd) (l : List Ac) (k : Nat) (n : Nd) : Vw × Vw × Bool := aB w.C n.V (mN w.C n (aC w l k).1) (aA n)
theorem Gw.third (G : Gw U w l) {k : Nat} {n : Nd} (hn : w.N[k]? = some n) (ht : w.Tick % 3 = 2) :
  (dV w l k n).V = (jE w l k n).1 ∧ (dV w l k n).In = (jE w l k n).2.1 ∧ (dV w l k n).O = [] ∧ ((dV w l k n).Full = false → (jE w l k n).2.2 = false) ∧ (ci w.C n (aC w l k).1 (aC w l k).2).2 = [] := by
 have hm := List.mem_of_getElem? hn;have hmod := G.mod hm;unfold dV jE;rcases (jo (G.few hn)).2 with ⟨h, -⟩ | ⟨-, h, -⟩ | ⟨-, h, -⟩ | ⟨-, -, cu, e⟩
 ·rw [nJ G.time hm] at h; cases h
 ·omega
 ·omega
 ·rw [e];refine ⟨rfl, rfl, rfl, fun h => ?_, rfl⟩;have h' : ((fL w.C n (aC w l k).2).2 || (aB w.C n.V (mN w.C n (aC w l k).1) (aA n)).2.2) = false := h;exact (Bool.or_eq_false_iff.1 h').2
theorem Gw.first (G : Gw U w l) {k : Nat} {n : Nd} (hn : w.N[k]? = some n) (ht : w.Tick % 3 = 0) :
  (dV w l k n).C = n.C ∧ (dV w l k n).O = (fL w.C n (aC w l k).2).1 ∧
  ((n.No = mA w.C (aA n) ∧ ∃ b : Bk, b = ⟨aA n, n.No, ca w.C (jE w l k n).1.B (bJ w.C (jE w l k n).1.V (aA n - 1)), 0⟩ ∧ (dV w l k n).V = (aB w.C (jE w l k n).1 ⟨[b], []⟩ (aA n)).1 ∧
    ((dV w l k n).Full = false → (jE w l k n).2.2 = false ∧ (aB w.C (jE w l k n).1 ⟨[b], []⟩ (aA n)).2.2 = false) ∧ (ci w.C n (aC w l k).1 (aC w l k).2).2 = [⟨aA n, n.No, b, (jE w l k n).1⟩]) ∨
   (n.No ≠ mA w.C (aA n) ∧ (dV w l k n).V = n.V ∧ (ci w.C n (aC w l k).1 (aC w l k).2).2 = [])) := by
 have hm := List.mem_of_getElem? hn;have hmod := G.mod hm;have hsl := G.slot hm;have h1 := G.time.lo;have h2 := G.soon;unfold dV jE;rcases (jo (G.few hn)).2 with ⟨h, -⟩ | ⟨-, -, e⟩ | ⟨-, h, -⟩ | ⟨-, h, -⟩
 ·rw [nJ G.time hm] at h; cases h
 ·rw [e];refine ⟨rfl, rfl, ?_⟩;unfold dg;by_cases h : n.No = mA w.C (aA n)
  ·left;rw [if_pos (show (bO w.C n (aC w l k).1 (aC w l k).2).No = mA w.C (aA n) from h)]
   have eb : kU (bO w.C n (aC w l k).1 (aC w l k).2) w.C (aA n) = ⟨aA n, n.No, ca w.C (aB w.C n.V (mN w.C n (aC w l k).1) (aA n)).1.B (bJ w.C (aB w.C n.V (mN w.C n (aC w l k).1) (aA n)).1.V (aA n - 1)), 0⟩ := by
    unfold kU;rw [cA (n := aA n - 1) (by omega) (by omega)];rfl
   rw [eb];refine ⟨h, _, rfl, rfl, fun hf => ?_, rfl⟩;have hf' := Bool.or_eq_false_iff.1 hf;exact ⟨(Bool.or_eq_false_iff.1 hf'.1).2, hf'.2⟩
  ·right;rw [if_neg (show (bO w.C n (aC w l k).1 (aC w l k).2).No ≠ mA w.C (aA n) from h)];exact ⟨h, rfl, rfl⟩
 ·omega
 ·omega
theorem Gw.second (G : Gw U w l) {k : Nat} {n : Nd} (hn : w.N[k]? = some n) (ht : w.Tick % 3 = 1) :
  (dV w l k n).C = n.C ∧ (dV w l k n).O = [] ∧ (ci w.C n (aC w l k).1 (aC w l k).2).2 = [] ∧
  ∃ s : Vw × Vw × Bool, s = (fL w.C n (aC w l k).2).1.foldl (fB w.C (aA n)) (n.V, mN w.C n (aC w l k).1, (fL w.C n (aC w l k).2).2) ∧ (dV w l k n).V = s.1 ∧ (dV w l k n).Full = s.2.2 ∧
   (n.No ∈ fT w.C (aA n) → Vt.mk n.No (aA n) (ca w.C s.1.B (bJ w.C s.1.V (aA n - 1))) ∈ (dV w l k n).In.V) := by
 have hm := List.mem_of_getElem? hn;have hmod := G.mod hm;have hsl := G.slot hm;have h1 := G.time.lo;have h2 := G.soon;unfold dV;rcases (jo (G.few hn)).2 with ⟨h, -⟩ | ⟨-, h, -⟩ | ⟨-, -, e⟩ | ⟨-, h, -⟩
 ·rw [nJ G.time hm] at h; cases h
 ·omega
 ·rw [e];refine ⟨rfl, rfl, rfl, _, rfl, ?_⟩;unfold dU;by_cases h : n.No ∈ fT w.C (aA n)
  ·rw [if_pos (show (bO w.C n (aC w l k).1 (aC w l k).2).No ∈ fT w.C (aA n) from h)];refine ⟨rfl, rfl, fun _ => fp.2 (.inr (List.mem_singleton.2 ?_))⟩;rw [cA (n := aA n - 1) (by omega) (by omega)];rfl
  ·rw [if_neg (show (bO w.C n (aC w l k).1 (aC w l k).2).No ∉ fT w.C (aA n) from h)];exact ⟨rfl, rfl, fun h2 => absurd h2 h⟩
 ·omega
structure qh (w : Wd) (l : List Ac) : Prop where
 room : ∀ n ∈ w.N, n.Full = false
 names : ((0, 0) :: (kf w l).B.map nm).Nodup
theorem qh.inj (T : qh w l) {a b : Bk} (ha : a ∈ (kf w l).B) (hb : b ∈ (kf w l).B) (e : nm a = nm b) : a = b := yX (List.nodup_cons.1 T.names).2 ha hb e
theorem A8 {w : Wd} (v : Vw) : ed v (lY w v) := by
 have : ∀ (l : List Of) (v : Vw), ed v (l.foldl (fun v o => aT (aT v o.V) ⟨[o.B], []⟩) v) := by
  intro l
  induction l with
  | nil => exact fun v => eY v
  | cons o r ih => exact fun v => gx ⟨fun b hb => gu.2 (.inl (gu.2 (.inl hb))), fun x hx => fp.2 (.inl (fp.2 (.inl hx)))⟩ (ih _)
 exact this w.O v
theorem sS {n : Nd} (hn : n ∈ w.N) : ed n.V (kf w l) ∧ ed n.In (kf w l) := by
 have h : ed (cB w) (kf w l) := gx (A8 _) (sR _ _)
 exact ⟨⟨fun b hb => h.1 b (nk.2 (.inr ⟨n, hn, mu.2 (.inl hb)⟩)), fun b hb => h.2 b (nl.2 (.inr ⟨n, hn, mw.2 (.inl hb)⟩))⟩,
  ⟨fun b hb => h.1 b (nk.2 (.inr ⟨n, hn, mu.2 (.inr hb)⟩)), fun b hb => h.2 b (nl.2 (.inr ⟨n, hn, mw.2 (.inr hb)⟩))⟩⟩
theorem CZ (w : Wd) (l : List Ac) (k : Nat) : ed (cB w) (aC w l k).1 := by
 have : ∀ (m : List Ac) (s : Vw × List Of), ed s.1 (m.foldl (cF (sU w) (ia w) w.Bad (cB w) (decide (ia w ∈ w.Bad)) (k : Int)) s).1 := by
  intro m
  induction m with
  | nil => exact fun s => eY _
  | cons a r ih =>
   intro s;refine gx ?_ (ih _);unfold cF;split
   ·exact eY _
   ·split
    ·exact ⟨fun b hb => gu.2 (.inl hb), fun x hx => fp.2 (.inl hx)⟩
    ·split
     ·split <;> exact eY _
     ·exact eY _
 exact this (eB w l) (cB w, w.O)
def nW (t : Int) (v : Vw) : Prop := (∀ b ∈ v.B, b.Slot ≤ t) ∧ ∀ x ∈ v.V, x.Slot ≤ t
theorem Gw.meet (G : Gw U w l) (T : qh (eT w l) l) {k : Nat} {n : Nd} (hn : w.N[k]? = some n) (hf : (jE w l k n).2.2 = false) (hs : ed (jE w l k n).1 (dV w l k n).V) {m : Nd} (hm : m ∈ w.N) (hu : nW (w.Tick / 3) m.V) :
  ed m.V (jE w l k n).1 ∧ ∀ v ∈ m.In.V, mayV w.C v = true → v.Slot ≤ w.Tick / 3 → forB m.V.B v → v ∈ (jE w l k n).1.V := by
 have hnm := List.mem_of_getElem? hn;have hmay := G.may hnm;have hmm := G.may hm;have hsl := G.slot hnm;obtain ⟨j, hj⟩ := List.getElem?_of_mem hm;have hall := CZ w l k;have hinB : ∀ b ∈ m.V.B, b ∈ (mN w.C n (aC w l k).1).B := fun b hb => gu.2 (.inr (List.mem_filter.2 ⟨hall.1 b (nk.2 (.inr ⟨m, hm, mu.2 (.inl hb)⟩)), hmm.mayB b hb⟩));have hinV : ∀ v, v ∈ m.V.V ∨ v ∈ m.In.V → mayV w.C v = true → v ∈ (mN w.C n (aC w l k).1).V := fun v hv hmv => fp.2 (.inr (List.mem_filter.2 ⟨hall.2 v (nl.2 (.inr ⟨m, hm, mw.2 hv⟩)), hmv⟩))
 have hmain : ed m.V (jE w l k n).1 := by
  unfold jE at hf hs ⊢;refine CX hmay hf hmm (fun b hb => .inr (hinB b hb)) (fun v hv => .inr (hinV v (.inl hv) (hmm.mayV v hv))) (fun b hb => by rw [hsl]; exact hu.1 b hb) (fun v hv => by rw [hsl]; exact hu.2 v hv) fun b hb y hy e => ?_;refine T.inj ((sS (List.mem_of_getElem? (G.next hn))).1.1 y (hs.1 y hy)) ((sS (List.mem_of_getElem? (G.next hj))).1.1 b ?_) e;exact (qX (G.keeps hj)).1 b hb
 refine ⟨hmain, fun v hv hmv hle hfb => ?_⟩;unfold jE at hf hmain ⊢;exact Gi hmay hf (hinV v (.inr hv) hmv) hmv (by rw [hsl]; exact hle) (yz hmm.valid (rQ hmay _ _).may.valid hmain.1 hfb)
theorem oP {c : Cf} {v i : Vw} {s t : Int} (hm : ec c v) (h : nW t v) (hs : s ≤ t) : nW t (aB c v i s).1 := by
 have ht := rQ hm i s;obtain ⟨a, e, h1⟩ := ht.preB;obtain ⟨d, e2, h2⟩ := ht.preV;refine ⟨fun b hb => ?_, fun x hx => ?_⟩
 ·rw [e] at hb;rcases List.mem_append.1 hb with hb | hb
  ·exact h.1 b hb
  ·have := (h1 b hb).2; omega
 ·rw [e2] at hx;rcases List.mem_append.1 hx with hx | hx
  ·exact h.2 x hx
  ·have := (h2 x hx).2; omega
theorem tc {c : Cf} {s t : Int} (hs : s ≤ t) : ∀ (o : List Of) (x : Vw × Vw × Bool), ec c x.1 → nW t x.1 → nW t (o.foldl (fB c s) x).1
 | [], x, _, h => h
 | y :: r, x, hm, h => by
  rw [List.foldl_cons];exact tc hs r _ (dh hm _ _).1 (oP hm h hs)
theorem Gw.upto (G : Gw U w l) (h : ∀ n ∈ w.N, nW ((w.Tick - 1) / 3) n.V) : ∀ x ∈ (eT w l).N, nW (w.Tick / 3) x.V := by
 intro x hx;obtain ⟨k, n, hn, rfl⟩ := G.prev hx;have hm := List.mem_of_getElem? hn;have hmay := G.may hm;have hsl := G.slot hm;have h1 := G.time.lo;have hu : nW (w.Tick / 3) n.V := ⟨fun b hb => by have := (h n hm).1 b hb; omega, fun v hv => by have := (h n hm).2 v hv; omega⟩;have hc : nW (w.Tick / 3) (jE w l k n).1 := oP hmay hu (by omega)
 have h3 : w.Tick % 3 = 0 ∨ w.Tick % 3 = 1 ∨ w.Tick % 3 = 2 := by omega
 rcases h3 with h3 | h3 | h3
 ·rcases (G.first hn h3).2.2 with ⟨-, b, -, e, -⟩ | ⟨-, e, -⟩
  ·rw [e]; exact oP (dh hmay _ _).1 hc (by omega)
  ·rw [e]; exact hu
 ·obtain ⟨-, -, -, s, e, e2, -⟩ := G.second hn h3;rw [e2, e];exact tc (by omega) _ _ hmay hu
 ·rw [(G.third hn h3).1]; exact hc
end
open Go.Proofs
structure Ic where
 i : Int
structure Id where
 k : Int
structure Ie where
 i : Int
structure If where
 k : Int
theorem Hw {U : Vw} {w : Wd} {l : List Ac} {P P' : Bk → Prop} {Q Q' : Vt → Prop} (hw : ym U w) (hU : FS U) (hl : lL l) (hs : ed (iu l) U) (ht : E3 w) (hP : ∀ b, P b → P' b) (hQ : ∀ v, Q v → Q' v)
  (hn : ∀ n ∈ w.N, rG P Q n) (ho : ∀ o ∈ w.O, lJ P Q o) (ha : ∀ a ∈ l, (∀ b ∈ a.B, b.From ∈ w.Bad → P b) ∧ ∀ v ∈ a.V, v.From ∈ w.Bad → Q v)
  (hp : ∀ k n, w.N[k]? = some n → n.Tick.tmod 3 = 0 → n.No = mA w.C (aA n) → P' (kU (bO w.C n (aC w l k).1 (aC w l k).2) w.C (aA n)))
  (hv : ∀ k n, w.N[k]? = some n → n.Tick.tmod 3 = 1 → n.No ∈ fT w.C (aA n) → Q' (td w.C n (aC w l k).1 (aC w l k).2)) :
  (∀ n ∈ (eT w l).N, rG P' Q' n) ∧ ∀ o ∈ (eT w l).O, lJ P' Q' o := by
 have hi := nI ht;have hG : ∀ k n, w.N[k]? = some n → lK w.C n (aC w l k).1 (aC w l k).2 := fun k n h => Fn hw hU hl hs h;have hc := fun k => qw hn ho ha k
 have hall := fun k n (h : w.N[k]? = some n) => wy (P := P') (Q := Q') (hG k n h) (lz hP hQ (hn n (List.mem_of_getElem? h)))
  ⟨fun b hb => hP b ((hc k).1.1 b hb), fun v hv => hQ v ((hc k).1.2 v hv)⟩ (fun y hy => nY hP hQ ((hc k).2 y hy)) (fun _ => hp k n h) fun _ => hv k n h
 refine ⟨fun x hx => ?_, fun o ho => ?_⟩
 ·obtain ⟨k, hk, e⟩ := List.getElem_of_mem hx
  have h1 : (eT w l).N[k]? = some x := by rw [List.getElem?_eq_getElem hk, e]
  rw [lC hi] at h1
  cases hn : w.N[k]? with
  | none => rw [hn] at h1; cases h1
  | some n =>
   rw [hn] at h1;have e2 := Option.some.inj h1;subst e2;exact (hall k n hn).1
 ·obtain ⟨k, n, hn, h⟩ := yu hi ho;exact (hall k n hn).2 o h
def GU (c : Cf) (bad : List Int) (G : Int → Bk) (T : Int) (b : Bk) : Prop := b.From ∈ bad ∨ (b = G b.Slot ∧ mA c b.Slot = b.From ∧ b.Salt = 0 ∧ 1 ≤ b.Slot ∧ 3 * b.Slot < T)
def Cw (c : Cf) (bad : List Int) (W : Int → Int → Vt) (T : Int) (v : Vt) : Prop := v.From ∈ bad ∨ (v = W v.From v.Slot ∧ v.From ∈ fT c v.Slot ∧ 1 ≤ v.Slot ∧ 3 * v.Slot + 1 < T)
def gG (c : Cf) (bad : List Int) (w : Wd) : Prop := ∃ G W, (∀ n ∈ w.N, rG (GU c bad G w.Tick) (Cw c bad W w.Tick) n) ∧ ∀ o ∈ w.O, lJ (GU c bad G w.Tick) (Cw c bad W w.Tick) o
theorem vH (bad : List Int) (n : Nat) : (je bad n).Nodup := by
 unfold je;refine List.Nodup.sublist List.filter_sublist ?_;refine List.Pairwise.map (R := fun a b => a ≠ b) _ (fun a b h h2 => h (Int.ofNat.inj h2)) List.nodup_range
theorem y0 {w : Wd} (h : (w.N.map Nd.No).Nodup) {k j : Nat} {n m : Nd} (hn : w.N[k]? = some n) (hm : w.N[j]? = some m) (e : n.No = m.No) : k = j := by
 have hk := (List.getElem?_eq_some_iff.1 hn).1
 have h1 : (w.N.map Nd.No)[k]? = (w.N.map Nd.No)[j]? := by rw [List.getElem?_map, List.getElem?_map, hn, hm]; simp [e]
 exact (List.getElem?_inj (by rw [List.length_map]; exact hk) h).1 h1
open Classical in
theorem AI {U : Vw} {w : Wd} {l : List Ac} (hw : ym U w) (hU : FS U) (hl : lL l) (hs : ed (iu l) U) (ht : E3 w) (hno : (w.N.map Nd.No).Nodup) (hbig : w.Tick ≤ 1000) (h : gG w.C w.Bad w) : gG w.C w.Bad (eT w l) := by
 obtain ⟨G, W, h1, h2⟩ := h;obtain ⟨t1, t2, t3, t4, t5⟩ := tE hw hU hl hs ht;have hlo := ht.lo;obtain ⟨s, hs0⟩ : ∃ s, s = w.Tick / 3 := ⟨_, rfl⟩
 have hsl : ∀ n ∈ w.N, aA n = s := fun n hn => by
  have := ht.at_ n hn;have := (rk (n := n) (by omega) (by omega)).1;omega
 obtain ⟨b0, hb0⟩ : ∃ b0 : Bk, ∀ k n, w.N[k]? = some n → n.No = mA w.C s → kU (bO w.C n (aC w l k).1 (aC w l k).2) w.C s = b0 := by
  by_cases he : ∃ (k : Nat) (n : Nd), w.N[k]? = some n ∧ n.No = mA w.C s
  ·obtain ⟨k, n, hk, e⟩ := he;refine ⟨kU (bO w.C n (aC w l k).1 (aC w l k).2) w.C s, fun j m hj e2 => ?_⟩;have e3 := y0 hno hj hk (e2.trans e.symm);subst e3;rw [hk] at hj;rw [← Option.some.inj hj]
  ·exact ⟨⟨0, 0, (0, 0), 0⟩, fun k n hk e => absurd ⟨k, n, hk, e⟩ he⟩
 obtain ⟨v0, hv0⟩ : ∃ v0 : Int → Vt, ∀ f k n, w.N[k]? = some n → n.No = f → td w.C n (aC w l k).1 (aC w l k).2 = v0 f := by
  refine Classical.axiomOfChoice (r := fun f v => ∀ k n, w.N[k]? = some n → n.No = f → td w.C n (aC w l k).1 (aC w l k).2 = v) fun f => ?_;by_cases he : ∃ (k : Nat) (n : Nd), w.N[k]? = some n ∧ n.No = f
  ·obtain ⟨k, n, hk, e⟩ := he;refine ⟨td w.C n (aC w l k).1 (aC w l k).2, fun j m hj e2 => ?_⟩;have e3 := y0 hno hj hk (e2.trans e.symm);subst e3;rw [hk] at hj;rw [← Option.some.inj hj]
  ·exact ⟨⟨0, 0, (0, 0)⟩, fun k n hk e => absurd ⟨k, n, hk, e⟩ he⟩
 let G' : Int → Bk := fun x => if x = s ∧ w.Tick.tmod 3 = 0 then b0 else G x
 let W' : Int → Int → Vt := fun f x => if x = s ∧ w.Tick.tmod 3 = 1 then v0 f else W f x
 have hmod : w.Tick.tmod 3 = w.Tick % 3 := Int.tmod_eq_emod_of_nonneg (by omega);have hres := Hw (P' := GU w.C w.Bad G' (w.Tick + 1)) (Q' := Cw w.C w.Bad W' (w.Tick + 1)) hw hU hl hs ht (fun b hb => ?_) (fun v hv => ?_) h1 h2 (fun a ha => ⟨fun b _ hb => .inl hb, fun v _ hv => .inl hv⟩) (fun k n hk h3 h4 => ?_) (fun k n hk h3 h4 => ?_)
 ·refine ⟨G', W', ?_⟩;rw [t3];exact hres
 ·rcases hb with hb | ⟨a1, a2, a3, a4, a5⟩
  ·exact .inl hb
  ·refine .inr ⟨?_, a2, a3, a4, by omega⟩;exact a1.trans (if_neg (c := b.Slot = s ∧ w.Tick.tmod 3 = 0) fun h => by obtain ⟨e1, e2⟩ := h; omega).symm
 ·rcases hv with hv | ⟨a1, a2, a3, a4⟩
  ·exact .inl hv
  ·refine .inr ⟨?_, a2, a3, by omega⟩;exact a1.trans (if_neg (c := v.Slot = s ∧ w.Tick.tmod 3 = 1) fun h => by obtain ⟨e1, e2⟩ := h; omega).symm
 ·have hm := List.mem_of_getElem? hk;have hT := ht.at_ n hm;rw [hsl n hm] at h4 ⊢;rw [hT] at h3;refine .inr ⟨?_, h4.symm, rfl, by show 1 ≤ s; omega, by show 3 * s < _; omega⟩;exact (hb0 k n hk h4).trans (if_pos (c := s = s ∧ w.Tick.tmod 3 = 0) ⟨rfl, h3⟩).symm
 ·have hm := List.mem_of_getElem? hk;have hT := ht.at_ n hm;rw [hT] at h3;have hsn := hsl n hm;refine .inr ⟨?_, h4, by show 1 ≤ aA n; omega, by show 3 * aA n + 1 < _; omega⟩;exact (hv0 _ k n hk Z).trans (if_pos (c := aA n = s ∧ w.Tick.tmod 3 = 1) ⟨hsn, h3⟩).symm
theorem mm {c : Cf} {bad : List Int} {l : List Ac} (hb : gy c bad l) : ∀ k, k ≤ 15 → gG c bad (cy (ck c bad) l k)
 | 0, _ => by
  have h := (DE hb.may hb.w (bad := bad) (by have := hb.bad; omega) ⟨[], []⟩).1;refine ⟨fun _ => ⟨0, 0, (0, 0), 0⟩, fun _ _ => ⟨0, 0, (0, 0)⟩, fun n hn => lz (fun b hb => by cases hb) (fun v hv => by cases hv) (h.nodes n hn).all, fun o ho => by cases ho⟩
 | k + 1, hk => by
  have ih := mm hb k (by omega);have hR := m5 (bad := bad) hb.may hb.w (by have := hb.bad; omega) hb.acts k (by omega);have hal := nX hb.len hb.acts.each;have r1 := hR.B;have r2 := hR.V;have r3 := hR.tick;have r4 : (ck c bad).Tick = 3 := rfl;have e1 : (cy (ck c bad) l k).C = c := hR.conf;have e2 : (cy (ck c bad) l k).Bad = bad := hR.bad;have h := AI hR.ok ⟨by omega, by omega⟩ hb.acts hR.sub hR.time (by rw [hR.nos, yZ]; exact vH _ _) (by omega) (by rw [e1, e2]; exact ih);rw [e1, e2] at h;exact h
def E0 (c : Cf) (bad : List Int) (V : Vw) (s : Int) (id : ID) : Prop := Kn V.B id ∧ ∃ G : List Int, (∀ k ∈ G, k ∉ bad ∧ k ∈ fT c s ∧ ∃ v ∈ V.V, v.From = k ∧ v.Slot = s ∧ kr V.B id v.Head) ∧ fS c (fT c s) < 2 * fS c G
theorem DK {c : Cf} {bad : List Int} {V W : Vw} (h : ed V W) {s : Int} {id : ID} (hp : E0 c bad V s id) : E0 c bad W s id := by
 obtain ⟨h1, G, h2, h3⟩ := hp;refine ⟨tQ h.1 h1, G, fun k hk => ?_, h3⟩;obtain ⟨a, b, v, hv, e1, e2, e3⟩ := h2 k hk;exact ⟨a, b, v, h.2 v hv, e1, e2, qk h.1 e3⟩
def K3 (bad : List Int) (V : List Vt) : Prop := ∀ x ∈ V, ∀ y ∈ V, x.From ∉ bad → kc y = kc x → y = x
theorem wg {c : Cf} {bad : List Int} {V : Vw} (hm : ec c V) (h1 : K3 bad V.V) {s : Int} {id : ID} (hp : E0 c bad V s id) : kr V.B id (ca c V.B (bJ c V.V s)) := by
 obtain ⟨hk, G, hG, hw⟩ := hp;refine Dj (cm := fT c s) hm.valid Di (fun x hx => (jd.1 hx).2.2.1) hk ?_
 have : fS c G ≤ my c V.B (bJ c V.V s) id := uh fun k hk => by
  obtain ⟨a, b, v, hv, e1, e2, e3⟩ := hG k hk;exact (gM hm.valid).2 ⟨v, jd.2 ⟨hv, e2, by rw [e1]; exact b, fun y hy e => by rw [h1 v hv y hy (by rw [e1]; exact a) e]⟩, e3, e1⟩
 omega
theorem Fp {c : Cf} {bad : List Int} {W : Int → Int → Vt} {T : Int} {x y : Vt} (h1 : Cw c bad W T x) (h2 : Cw c bad W T y) (hb : x.From ∉ bad) (e : kc y = kc x) : y = x := by
 have e1 : y.From = x.From := congrArg Du.frm e;have e2 : y.Slot = x.Slot := congrArg Du.slot e;rcases h1 with h1 | ⟨h1, -⟩
 ·exact absurd h1 hb
 ·rcases h2 with h2 | ⟨h2, -⟩
  ·rw [e1] at h2; exact absurd h2 hb
  ·rw [h2, e1, e2, ← h1]
section
variable {U : Vw} {w : Wd} {l : List Ac}
theorem ml (h : gG w.C w.Bad w) : ∀ n ∈ w.N, ∀ m ∈ w.N, ∀ x, x ∈ n.V.V ∨ x ∈ n.In.V → ∀ y, y ∈ m.V.V ∨ y ∈ m.In.V → x.From ∉ w.Bad → kc y = kc x → y = x := by
 obtain ⟨G, W, h1, -⟩ := h;intro n hn m hm x hx y hy;exact Fp (hx.elim ((h1 n hn).1.2 x) ((h1 n hn).2.1.2 x)) (hy.elim ((h1 m hm).1.2 y) ((h1 m hm).2.1.2 y))
def kg (w : Wd) : Int := if (w.Tick - 1) % 3 = 2 then (w.Tick - 1) / 3 else (w.Tick - 1) / 3 - 1
theorem DQ {t : Int} (h1 : 3 ≤ t) (h2 : t ≤ 100000) : y7 t = if (t - 1) % 3 = 2 then (t - 1) / 3 else (t - 1) / 3 - 1 := by
 unfold y7;rw [cA (n := t - 1) (by omega) (by omega), Int.tmod_eq_emod_of_nonneg (by omega), Int.tdiv_eq_ediv_of_nonneg (by omega), cA (n := (t - 1) / 3) (by omega) (by omega), cA (n := (t - 1) / 3 - 1) (by omega) (by omega)];by_cases h : (t - 1) % 3 = 2
 ·rw [if_pos h, show ((t - 1) % 3 != 2) = false by simp [h], cf]
 ·rw [if_neg h, show ((t - 1) % 3 != 2) = true by simp [h], ct]
def sh (w : Wd) (id : ID) : Prop := ∀ n ∈ w.N, E0 w.C w.Bad n.V (kg w) id
theorem A0 (G : Gw U w l) (hh : gG w.C w.Bad w) {id : ID} (hp : sh w id) {n : Nd} (hn : n ∈ w.N) : kr n.V.B id (fO w.C n) := by
 have h1 := G.time.lo;have h2 := G.soon
 have e : fO w.C n = ca w.C n.V.B (bJ w.C n.V.V (kg w)) := by
  unfold fO kg;rw [G.time.at_ n hn, DQ (by omega) (by omega)]
 rw [e];exact wg (G.may hn) (fun x hx y hy => ml hh n hn n hn x (.inl hx) y (.inl hy)) (hp n hn)
theorem DL (G : Gw U w l) (ht : w.Tick % 3 ≠ 2) {id : ID} (hp : sh w id) : sh (eT w l) id := by
 obtain ⟨c1, c2, c3⟩ := G.conf;intro x hx;obtain ⟨k, n, hn, rfl⟩ := G.prev hx
 have e : kg (eT w l) = kg w := by
  unfold kg;rw [c3]
  have : w.Tick % 3 = 0 ∨ w.Tick % 3 = 1 := by omega
  have := G.time.lo;rcases ‹_ ∨ _› with h | h
  ·rw [if_neg (by omega), if_pos (by omega)]; omega
  ·rw [if_neg (by omega), if_neg (by omega)]; omega
 rw [c1, c2, e];exact DK (qX (G.keeps hn)) (hp n (List.mem_of_getElem? hn))
def u6 (w : Wd) (s : Int) : Prop := ∀ n ∈ w.N, n.No ∈ fT w.C s → Vt.mk n.No s (ca w.C n.V.B (bJ w.C n.V.V (s - 1))) ∈ n.In.V
theorem D2 (G : Gw U w l) (ht : w.Tick % 3 = 1) : u6 (eT w l) (w.Tick / 3) := by
 obtain ⟨c1, -, -⟩ := G.conf;intro x hx;obtain ⟨k, n, hn, rfl⟩ := G.prev hx;have hm := List.mem_of_getElem? hn;obtain ⟨-, -, -, s, -, e2, -, h⟩ := G.second hn ht;have hno : (dV w l k n).No = n.No := (lI (G.few hn) (G.may hm) (G.ok.nodes n hm).nd (G.ok.nodes n hm).few).1;rw [G.slot hm] at h;rw [c1, hno, e2];exact h
theorem oS (G : Gw U w l) (T : qh (eT w l) l) (ht : w.Tick % 3 = 2) (hu : ∀ n ∈ w.N, nW ((w.Tick - 1) / 3) n.V) (hv : u6 w (w.Tick / 3)) : ∀ x ∈ (eT w l).N, ∀ m ∈ w.N, ed m.V x.V ∧ (m.No ∈ fT w.C (w.Tick / 3) → Vt.mk m.No (w.Tick / 3) (ca w.C m.V.B (bJ w.C m.V.V (w.Tick / 3 - 1))) ∈ x.V.V) := by
 intro x hx m hm;obtain ⟨k, n, hn, rfl⟩ := G.prev hx;obtain ⟨e1, -, -, e2, -⟩ := G.third hn ht;have hmt := G.meet T hn (e2 (T.room _ hx)) (by rw [e1]; exact eY _) hm ⟨fun b hb => by have := (hu m hm).1 b hb; omega, fun v hv => by have := (hu m hm).2 v hv; omega⟩;rw [e1];refine ⟨hmt.1, fun hc => hmt.2 _ (hv m hm hc) (decide_eq_true hc) (Int.le_refl _) ?_⟩;have hmay := G.may hm;have hk : Kn m.V.B (ca w.C m.V.B (bJ w.C m.V.V (w.Tick / 3 - 1))) := yN hmay.valid;have hlo := G.time.lo;rcases hk with e | ⟨b, hb, e⟩
 ·refine ⟨0, ?_, by show 0 ≤ w.Tick / 3; omega⟩;show aX _ (ca _ _ _) = _;rw [e]; exact xE _
 ·refine ⟨b.Slot, ?_, by show b.Slot ≤ w.Tick / 3; have := (hu m hm).1 b hb; omega⟩;show aX _ (ca _ _ _) = _;rw [← e]; exact rz hmay.valid hb
def xU (w : Wd) : Prop := ∀ s, ∀ k ∈ fT w.C s, k ∉ w.Bad → ∃ n ∈ w.N, n.No = k
theorem AZ (G : Gw U w l) (T : qh (eT w l) l) (hh : gG w.C w.Bad w) (hA : xU w) (ht : w.Tick % 3 = 2) (hu : ∀ n ∈ w.N, nW ((w.Tick - 1) / 3) n.V) (hv : u6 w (w.Tick / 3)) (hs : gg w.C w.Bad (w.Tick / 3) < fd w.C w.Bad (w.Tick / 3)) {id : ID} (hp : sh w id) : sh (eT w l) id := by
 obtain ⟨c1, c2, c3⟩ := G.conf;have hlo := G.time.lo
 have es : kg w = w.Tick / 3 - 1 := by unfold kg; rw [if_neg (by omega)]; omega
 have es' : kg (eT w l) = w.Tick / 3 := by unfold kg; rw [c3, if_pos (by omega)]; omega
 intro x hx;have hall := oS G T ht hu hv x hx;rw [c1, c2, es'];refine ⟨?_, (fT w.C (w.Tick / 3)).filter fun k => !mM w.Bad k, fun k hk => ?_, ?_⟩
 ·obtain ⟨k, n, hn, rfl⟩ := G.prev hx;have hm := List.mem_of_getElem? hn;exact tQ (hall n hm).1.1 (hp n hm).1
 ·obtain ⟨h1, h2⟩ := List.mem_filter.1 hk;have h3 := pK.1 h2;obtain ⟨m, hm, e⟩ := hA _ k h1 h3;obtain ⟨h4, h5⟩ := hall m hm;refine ⟨h3, h1, _, h5 (by rw [e]; exact h1), e, rfl, qk h4.1 ?_⟩;have := wg (G.may hm) (fun x hx y hy => ml hh m hm m hm x (.inl hx) y (.inl hy)) (hp m hm);rw [es] at this;exact this
 ·have := oT w.C w.Bad (w.Tick / 3);unfold fd at hs this;omega
theorem Fz (G : Gw U w l) (T : qh (eT w l) l) (hh : gG w.C w.Bad w) (hh' : gG w.C w.Bad (eT w l)) (hA : xU w) (ht : w.Tick % 3 = 2) (hu : ∀ n ∈ w.N, nW ((w.Tick - 1) / 3) n.V) (hv : u6 w (w.Tick / 3)) {x : Nd} (hx : x ∈ (eT w l).N) (hmx : ec w.C x.V) {id : ID}
  (hsure : fS w.C (fT w.C (w.Tick / 3)) * (w.C.Den + 2 * w.C.Num) < 2 * my w.C x.V.B (bJ w.C x.V.V (w.Tick / 3)) id * w.C.Den)
  (hcalm : gg w.C w.Bad (w.Tick / 3) * w.C.Den ≤ (fd w.C w.Bad (w.Tick / 3) + gg w.C w.Bad (w.Tick / 3)) * w.C.Num) : sh (eT w l) id := by
 obtain ⟨c1, c2, c3⟩ := G.conf;have hlo := G.time.lo
 have es' : kg (eT w l) = w.Tick / 3 := by unfold kg; rw [c3, if_pos (by omega)]; omega
 have hsum := oT w.C w.Bad (w.Tick / 3);have hden : 1 ≤ w.C.Den := G.time.may.2.2.2.2.2.2.2.1;obtain ⟨L, hL⟩ : ∃ L, L = lN x.V.B (bJ w.C x.V.V (w.Tick / 3)) id := ⟨_, rfl⟩;have hLm : ∀ k ∈ L, ∃ v ∈ bJ w.C x.V.V (w.Tick / 3), kr x.V.B id v.Head ∧ v.From = k := fun k hk => (gM hmx.valid).1 (hL ▸ hk)
 have hLc : ∀ k ∈ L, k ∈ fT w.C (w.Tick / 3) := fun k hk => by
  obtain ⟨v, h1, -, h3⟩ := hLm k hk;exact h3 ▸ (jd.1 h1).2.2.1
 -- the good part
 have hw : fS w.C L ≤ fS w.C (L.filter fun k => !mM w.Bad k) + gg w.C w.Bad (w.Tick / 3) := by
  have e : fS w.C L = fS w.C (L.filter (fun k => !mM w.Bad k) ++ L.filter (mM w.Bad)) := zP fun k => by
   rw [List.mem_append, List.mem_filter, List.mem_filter];cases mM w.Bad k <;> simp
  have h1 := (Ei w.C (L.filter fun k => !mM w.Bad k) (L.filter (mM w.Bad))).1;have h2 : fS w.C (L.filter (mM w.Bad)) ≤ gg w.C w.Bad (w.Tick / 3) := uh fun k hk => List.mem_filter.2 ⟨hLc k (List.mem_filter.1 hk).1, (List.mem_filter.1 hk).2⟩;omega
 have hmaj : fS w.C (fT w.C (w.Tick / 3)) < 2 * fS w.C (L.filter fun k => !mM w.Bad k) := by
  have hon : my w.C x.V.B (bJ w.C x.V.V (w.Tick / 3)) id = fS w.C L := by rw [hL]; rfl
  rw [hon] at hsure;rw [hsum] at hcalm;generalize fS w.C (fT w.C (w.Tick / 3)) = A at hsure hcalm ⊢;generalize fS w.C L = o at hsure hw;generalize fS w.C (L.filter fun k => !mM w.Bad k) = g at hw ⊢;generalize gg w.C w.Bad (w.Tick / 3) = q at hcalm hw;generalize w.C.Den = D at hsure hcalm hden;generalize w.C.Num = N at hsure hcalm;by_cases h : A < 2 * g
  ·exact h
  ·exfalso
   have h1 : 2 * o ≤ A + 2 * q := by omega
   have h2 : 2 * o * D ≤ (A + 2 * q) * D := Int.mul_le_mul_of_nonneg_right h1 (by omega)
   have h3 : (A + 2 * q) * D = A * D + 2 * (q * D) := by rw [Int.add_mul, Int.mul_assoc]
   have h4 : A * (D + 2 * N) = A * D + 2 * (A * N) := by rw [Int.mul_add, ← Int.mul_assoc A 2 N, Int.mul_comm A 2, Int.mul_assoc]
   omega
 -- each good vote was sent by a node, and is had by all
 have hgood : ∀ k ∈ L.filter (fun k => !mM w.Bad k), k ∉ w.Bad ∧ k ∈ fT w.C (w.Tick / 3) ∧ ∃ m ∈ w.N, m.No = k ∧ kr m.V.B id (ca w.C m.V.B (bJ w.C m.V.V (w.Tick / 3 - 1))) := by
  intro k hk;obtain ⟨h1, h2⟩ := List.mem_filter.1 hk;have h3 := pK.1 h2;have h4 := hLc k h1;obtain ⟨m, hm, e⟩ := hA _ k h4 h3;obtain ⟨v, hv1, hv2, hv3⟩ := hLm k h1;obtain ⟨g1, g2, -, -⟩ := jd.1 hv1;obtain ⟨a1, a2⟩ := oS G T ht hu hv x hx m hm;have a3 := a2 (by rw [e]; exact h4);have hone := ml (w := eT w l) (by rw [c1, c2]; exact hh') x hx x hx v (.inl g1) _ (.inl a3) (by rw [c2, hv3]; exact h3) (by unfold kc; simp only; rw [e, hv3, g2]);refine ⟨h3, h4, m, hm, e, ?_⟩;rw [← hone] at hv2;exact Cz (G.may hm).valid hmx.valid a1.1 hv2 (yN (G.may hm).valid)
 intro y hy;rw [c1, c2, es'];have hall := oS G T ht hu hv y hy;refine ⟨?_, L.filter fun k => !mM w.Bad k, fun k hk => ?_, hmaj⟩
 ·cases hc : L.filter fun k => !mM w.Bad k with
  | nil =>
   rw [hc, HS] at hmaj;have := (th w.C (fT w.C (w.Tick / 3))).1;omega
  | cons k r =>
   obtain ⟨-, -, m, hm, -, ha⟩ := hgood k (by rw [hc]; exact .head _);exact tQ (hall m hm).1.1 (E6 ha)
 ·obtain ⟨h3, h4, m, hm, e, ha⟩ := hgood k hk;obtain ⟨a1, a2⟩ := hall m hm;exact ⟨h3, h4, _, a2 (by rw [e]; exact h4), e, rfl, qk a1.1 ha⟩
end
open Go.Proofs
def uK : Option Bool :=
 (GI ).bind fun v1 =>
 (sc v1 ([] : List Int)).bind fun v2 =>
 (Cd v2 ([] : List Ac) 3).bind fun v3 =>
 (pW v3 (nm (Bk.mk 1 0 (0, 0) 0))).bind fun v4 =>
 bif v4 then
  (ix v3.N 0).bind fun y1 =>
  bif ((y1.C.ID.1 == ((nm (Bk.mk 1 0 (0, 0) 0)).1)) && ((y1.C.ID.2 == ((nm (Bk.mk 1 0 (0, 0) 0)).2)) && true)) then
   (rS v3.C ([] : List Int) 1 9).bind fun v5 =>
   some v5
  else
   some false
 else
  some false
theorem Jc {r_ : Bool} (hr : uK = some r_) : aw Tryz.prog 14 [] [.bool r_] := by
 refine zh Tryz.func14 Z Z Z Z ?_;unfold uK at hr;refine zQ (zR (zM Z (zN (zT (zQ (zR (zb hr fun v1 h_v1 hr => yS Z (zC Z Z Z (by kernel_rfl) (zp (Le h_v1) .nil)) (zb hr fun v2 h_v2 hr => yS Z (zC Z Z Z (by kernel_rfl) (zp (F6 h_v2) (.cons zv (.cons Conv.zs .nil)))) (zb hr fun v3 h_v3 hr => yS Z (zC Z Z Z (by kernel_rfl) (zp (Jg h_v3) (.cons zv (.cons Conv.zs (.cons zv .nil))))) (yS Z (ze Z k9 Z Z) (yS Z (zs Z Z Z Z bK Z Z Z Z) (zN (zT (zQ (zR (yS Z (ab.build Z IB Z Z Z) (yS Z (zC Z Z Z (by kernel_rfl) (zp (G9 (b := (Bk.mk 1 0 (0, 0) 0))) (.cons zv .nil))) (yS Z (ze Z js Z Z) (yS Z (zs Z Z Z Z aR Z Z Z Z) (zN ?_))))))))))))))))))));refine zT (zQ (LW.draw2 (by kernel_rfl) (by kernel_rfl) (yE Z (zD Z Z Z bK Z Z) (yE Z (zD Z Z Z aR Z Z) (zb hr fun v4 h_v4 hr => yE Z (zC Z Z Z (by kernel_rfl) (zp (FX h_v4) (.cons zv (.cons zv .nil)))) (zH Z ?_))))));refine LO.cases 11 Z (fun (g1 : v4 = true) => ?_) (fun (g1 : v4 = false) => ?_)
 ·
  refine zi g1 hr fun hr => LO.gd Z Z Z (gd g1 Z) Z (zA Z Z bN) (LO.gd Z Z Z (gd g1 Z) Z (zD Z Z Z dB Z Z) (zb hr fun y1 h_y1 hr => LO.gd Z Z Z (gd g1 Z) Z (zx Z Z Z eE h_y1 Z) (LO.gd Z Z Z (gd g1 Z) Z (ab.fieldAddrC Z Z qK Z) (LO.gd Z Z Z (gd g1 Z) Z (ab.fieldAddrC Z Z tK Z) (LO.gd Z Z Z (gd g1 Z) Z (eA Z Z Z aR Z Z) (LO.gd Z Z Z (gd g1 Z) Z (zD Z Z Z aR Z Z) (LO.gd Z Z Z (gd g1 Z) Z (ab.eqlAgg Z Z Z Z Z vk) (yE Z (eo Z (bI g1 Z) Z) (zH Z ?_)))))))));refine LO.cases 21 Z (fun (g2 : ((y1.C.ID.1 == ((nm (Bk.mk 1 0 (0, 0) 0)).1)) && ((y1.C.ID.2 == ((nm (Bk.mk 1 0 (0, 0) 0)).2)) && true)) = true) => ?_) (fun (g2 : ((y1.C.ID.1 == ((nm (Bk.mk 1 0 (0, 0) 0)).1)) && ((y1.C.ID.2 == ((nm (Bk.mk 1 0 (0, 0) 0)).2)) && true)) = false) => ?_)
  ·
   refine zi g2 hr fun hr => LO.gd Z Z Z (gd g2 Z) Z (zA Z Z i9) (LO.gd Z Z Z (gd g2 Z) Z (zD Z Z Z bv Z Z) (zb hr fun v5 h_v5 hr => LO.gd Z Z Z (gd g2 Z) Z (zC Z Z Z (by kernel_rfl) (zp (FW h_v5) (.cons zv (.cons Conv.zs (.cons zv (.cons zv .nil)))))) (yE Z (eo Z (bI g2 Z) Z) (zH Z (LO.nil (zT (zr ?_)))))));obtain rfl := zJ hr;exact zf (.one (.tmp Z)) zv
  ·
   refine zo g2 hr fun hr => LO.sk Z Z Z (gd g2 Z) Z Z (LO.sk Z Z Z (gd g2 Z) Z Z (LO.sk Z Z Z (gd g2 Z) Z Z (yE Z (dc Z (bI g2 Z) Z) (zH Z (LO.nil (zT (zr ?_)))))));obtain rfl := zJ hr;exact zf (.one (.tmp Z)) zv
 ·
  refine zo g1 hr fun hr => LO.sk Z Z Z (gd g1 Z) Z Z (LO.sk Z Z Z (gd g1 Z) Z Z (LO.sk Z Z Z (gd g1 Z) Z Z (LO.sk Z Z Z (gd g1 Z) Z Z (LO.sk Z Z Z (gd g1 Z) Z Z (LO.sk Z Z Z (gd g1 Z) Z Z (LO.sk Z Z Z (gd g1 Z) Z Z (LO.sk Z Z Z (gd g1 Z) Z Z (yE Z (dc Z (bI g1 Z) Z) (zH Z (LO.sk Z Z Z Z Z Z (LO.sk Z Z Z Z Z Z (LO.sk Z Z Z Z Z Z (yE Z (dc Z Z Z) (zH Z (LO.nil (zT (zr ?_)))))))))))))))));obtain rfl := zJ hr;exact zf (.one (.tmp Z)) zv
def sb (c : Cf) (bad : List Int) (l : List Ac) (slots : Int) : Option Bool :=
 (se c bad l).bind fun v1 =>
 bif v1 then
  bif decide (slots ≥ 1) then
   some (decide (slots ≤ 4))
  else
   some false
 else
  some false
theorem Jd {c : Cf} {bad : List Int} {l : List Ac} {slots : Int} {r_ : Bool} (hr : sb c bad l slots = some r_) : aw Tryz.prog 15 [jC c, .slice 1 (bad.map aF), .slice 5 (l.map jz), .int .i64 slots] [.bool r_] := by
 refine zh Tryz.func15 Z Z Z Z ?_;unfold sb at hr;refine zQ (zR (yS Z (bZ Z Z Z Z Z) (zM Z (zN (zT (zQ (zR (yS Z (zD Z Z Z bv Z Z) (zM Z (zM Z (zb hr fun v1 h_v1 hr => yS Z (zC Z Z Z (by kernel_rfl) (zp (Jf h_v1) (.cons zv (.cons zv (.cons zv .nil))))) (zM Z (zN (zT (zQ (zR (zM Z (zM Z ?_))))))))))))))))));refine zc 15 Z (fun g1 => ?_) (fun g1 => ?_)
 ·
  refine zi g1 hr fun hr => yV Z (gd g1 Z) (zm Z Z) (yV Z (gd g1 Z) (ax Z Z Z Z) (yS Z (eo Z (bI g1 Z) Z) (zM Z ?_)));refine zc 19 Z (fun g2 => ?_) (fun g2 => ?_)
  ·
   refine zi g2 hr fun hr => yV Z (gd g2 Z) (zm Z Z) (yV Z (gd g2 Z) (ax Z Z Z Z) (yS Z (eo Z (bI g2 Z) Z) (zM Z (zN (zT (zr ?_))))));obtain rfl := zJ hr;exact zf (.one (.tmp Z)) zv
  ·
   refine zo g2 hr fun hr => yU Z (gd g2 Z) Z (yU Z (gd g2 Z) Z (yS Z (dc Z (bI g2 Z) Z) (zM Z (zN (zT (zr ?_))))));obtain rfl := zJ hr;exact zf (.one (.tmp Z)) zv
 ·
  refine zo g1 hr fun hr => yU Z (gd g1 Z) Z (yU Z (gd g1 Z) Z (yS Z (dc Z (bI g1 Z) Z) (zM Z (yU Z Z Z (yU Z Z Z (yS Z (dc Z Z Z) (zM Z (zN (zT (zr ?_))))))))));obtain rfl := zJ hr;exact zf (.one (.tmp Z)) zv
def sd (w : Wd) (l : List Ac) : Option Bool :=
 (uH w.N).bind fun v1 =>
 bif v1 then
  some true
 else
  (un w l).bind fun v2 =>
  (uI v2).bind fun v3 =>
  some v3
theorem Je {w : Wd} {l : List Ac} {r_ : Bool} (hr : sd w l = some r_) : aw Tryz.prog 18 [Ec w, .slice 5 (l.map jz)] [.bool r_] := by
 refine zh Tryz.func18 Z Z Z Z ?_;unfold sd at hr;refine zQ (zR (yS Z (bZ Z Z Z Z Z) (zM Z (zN (zT (zQ (zR (yS Z (zA Z Z bN) (yS Z (zD Z Z Z dB Z Z) (zb hr fun v1 h_v1 hr => yS Z (zC Z Z Z (by kernel_rfl) (zp (I6 h_v1) (.cons zv .nil))) (zM Z ?_)))))))))));refine zc 8 Z (fun g1 => ?_) (fun g1 => ?_)
 ·
  refine zi g1 hr fun hr => yU Z (gd g1 Z) Z (yU Z (gd g1 Z) Z (yU Z (gd g1 Z) Z (yU Z (gd g1 Z) Z (yS Z (eo Z (bI g1 Z) Z) (zM Z (zN (zT (zr ?_))))))));obtain rfl := zJ hr;exact zf (.one (.tmp Z)) zv
 ·
  refine zo g1 hr fun hr => yV Z (gd g1 Z) (zD Z Z Z bK Z Z) (yV Z (gd g1 Z) (zm Z Z) (zb hr fun v2 h_v2 hr => yV Z (gd g1 Z) (zC Z Z Z (by kernel_rfl) (zp (IF h_v2) (.cons zv (.cons zv .nil)))) (zb hr fun v3 h_v3 hr => yV Z (gd g1 Z) (zC Z Z Z (by kernel_rfl) (zp (I7 h_v3) (.cons zv .nil))) (yS Z (dc Z (bI g1 Z) Z) (zM Z (zN (zT (zr ?_))))))));obtain rfl := zJ hr;exact zf (.one (.tmp Z)) zv
def jP (l : List Bk) : List (ID × Bool) := l.foldl (fun m b => aO m (nm b) true) (aO [] (0, 0) true)
theorem vW (l : List Bk) (b : Bk) : jP (l ++ [b]) = aO (jP l) (nm b) true := by unfold jP; rw [List.foldl_append]; rfl
theorem vX : ∀ (l : List Bk) (m : List (ID × Bool)), (l.foldl (fun m b => aO m (nm b) true) m).length ≤ m.length + l.length ∧
  ((l.foldl (fun m b => aO m (nm b) true) m).length = m.length + l.length ↔ (l.map nm).Nodup ∧ ∀ x ∈ l.map nm, x ∉ m.map Prod.fst)
 | [], m => by simp
 | b :: r, m => by
  have ih := vX r (aO m (nm b) true);have hk := nh (nm b) true m;have hlen := congrArg List.length hk;rw [List.length_map] at hlen;simp only [List.foldl_cons, List.length_cons, List.map_cons, List.nodup_cons, List.mem_cons, forall_eq_or_imp];by_cases h : nm b ∈ m.map Prod.fst
  ·rw [if_pos h] at hlen hk;rw [List.length_map] at hlen;refine ⟨by omega, ⟨fun e => by omega, fun e => absurd h e.2.1⟩⟩
  ·rw [if_neg h] at hlen hk;rw [List.length_append, List.length_map, List.length_singleton] at hlen;refine ⟨by omega, ?_⟩;rw [show m.length + (r.length + 1) = (aO m (nm b) true).length + r.length by omega, ih.2, hk];constructor
   ·rintro ⟨h1, h2⟩;refine ⟨⟨fun h3 => ?_, h1⟩, h, fun x hx h3 => h2 x hx (List.mem_append_left _ h3)⟩;exact h2 _ h3 (List.mem_append_right _ (List.mem_singleton.2 Z))
   ·rintro ⟨⟨h1, h2⟩, -, h4⟩;refine ⟨h2, fun x hx h5 => ?_⟩;rcases List.mem_append.1 h5 with h6 | h6
    ·exact h4 x hx h6
    ·rw [List.mem_singleton] at h6; subst h6; exact h1 hx
theorem AR (l : List Bk) : (jP l).length ≤ l.length + 1 ∧ ((jP l).length = l.length + 1 ↔ ((0, 0) :: l.map nm).Nodup) := by
 have h := vX l (aO [] (0, 0) true);have e : aO ([] : List (ID × Bool)) (0, 0) true = [((0, 0), true)] := rfl;rw [e] at h;simp only [List.length_singleton, List.map_cons, List.map_nil, List.mem_singleton] at h;have e2 : jP l = l.foldl (fun m b => aO m (nm b) true) [((0, 0), true)] := rfl;rw [e2];refine ⟨by omega, ?_⟩;rw [show l.length + 1 = 1 + l.length by omega, h.2, List.nodup_cons];exact ⟨fun ⟨h1, h2⟩ => ⟨fun h3 => h2 _ h3 rfl, h1⟩, fun ⟨h1, h2⟩ => ⟨h2, fun x hx e => h1 (e ▸ hx)⟩⟩
def tz (l : List Bk) : Bool := decide (¬ ((0, 0) :: l.map nm).Nodup)
theorem B5 {w : Vw} (hl : w.B.length ≤ 90000) : uI w = some (tz w.B) := by
 have e := az (step := iT w) (n := w.B.length) (fun k => d7.mk (k : Int) (jP (w.B.take k))) (d7.mk (w.B.length : Int) (jP w.B)) (fun k hk => by
  obtain ⟨y, hy, -⟩ := aE hk
  have et : w.B.take (k + 1) = w.B.take k ++ [y] := by rw [List.take_add_one, hy]; rfl
  unfold iT;simp only
  rw [decide_eq_true (show (k : Int) < (w.B.length : Int) by omega), ct, aH hy, ob, et, vW, aj (n := k) (by omega)]) (by
  unfold iT;simp only
  rw [decide_eq_false (show ¬ (w.B.length : Int) < (w.B.length : Int) by omega), cf, List.take_length]) (by omega)
 have e' : iter (iT w) bD (d7.mk 0 (aO [] (0, 0) true)) = _ := e;have hn := AR w.B;unfold uI;rw [e', ob];simp only;rw [show qA (jP w.B) = true from decide_eq_true (by omega), ct, aj (n := w.B.length) (by omega)];congr 1;unfold tz;rw [Bool.eq_iff_iff, decide_eq_true_iff, ← hn.2, bne_iff_ne];omega
structure EZ (w : Wd) : Prop where
 upto : ∀ n ∈ w.N, nW ((w.Tick - 1) / 3) n.V
 voted : w.Tick % 3 = 2 → u6 w (w.Tick / 3)
theorem Ft {U : Vw} {w : Wd} {l : List Ac} (G : Gw U w l) (h : EZ w) : EZ (eT w l) := by
 obtain ⟨-, -, e⟩ := G.conf;refine ⟨?_, fun ht => ?_⟩
 ·rw [e, show (w.Tick + 1 - 1) / 3 = w.Tick / 3 by rw [Int.add_sub_cancel]];exact G.upto h.upto
 ·rw [e] at ht ⊢;rw [show (w.Tick + 1) / 3 = w.Tick / 3 by omega];exact D2 G (by omega)
section
variable {c : Cf} {bad : List Int} {l : List Ac}
theorem q5 (hb : gy c bad l) : ∀ k, k ≤ 15 → EZ (cy (ck c bad) l k)
 | 0, _ => by
  refine ⟨fun n hn => ?_, fun ht => ?_⟩
  ·obtain ⟨i, -, h⟩ := List.mem_map.1 hn;subst h;exact ⟨fun b hb => (by cases hb), fun v hv => (by cases hv)⟩
  ·exact absurd ht (by show ¬ (3 : Int) % 3 = 2; omega)
 | k + 1, hk => Ft (jK hb (by omega)) (q5 hb k (by omega))
theorem jm (hb : gy c bad l) {k : Nat} (hk : k ≤ 15) : (cy (ck c bad) l k).C = c ∧ (cy (ck c bad) l k).Bad = bad ∧ (cy (ck c bad) l k).Tick = 3 + k :=
 have h := m5 (bad := bad) hb.may hb.w (by have := hb.bad; omega) hb.acts k hk
 ⟨h.conf, h.bad, h.tick⟩
theorem DN (hb : gy c bad l) {k : Nat} (hk : k ≤ 15) : xU (cy (ck c bad) l k) := by
 have h := m5 (bad := bad) hb.may hb.w (by have := hb.bad; omega) hb.acts k hk;obtain ⟨e1, e2, -⟩ := jm hb hk;intro s i hi hib;rw [e1] at hi;rw [e2] at hib;unfold fT at hi;split at hi
 ·obtain ⟨q, hq, -, rfl⟩ := (sQ _ _ _).1 hi;have hm : (q : Int) ∈ je bad c.W.length := List.mem_filter.2 ⟨List.mem_map.2 ⟨q, List.mem_range.2 hq, rfl⟩, decide_eq_true hib⟩;rw [← yZ, ← h.nos] at hm;obtain ⟨n, hn, e⟩ := List.mem_map.1 hm;exact ⟨n, hn, e⟩
 ·cases hi
theorem tZ (hb : gy c bad l) {k : Nat} (hk : k ≤ 15) : gG (cy (ck c bad) l k).C (cy (ck c bad) l k).Bad (cy (ck c bad) l k) := by
 obtain ⟨e1, e2, -⟩ := jm hb hk;rw [e1, e2];exact mm hb k hk
theorem tY (hb : gy c bad l) {k : Nat} (hk : k ≤ 15) : qd (cy (ck c bad) l k) := zu (jK hb hk).ok (jK hb hk).sz
theorem HN (hb : gy c bad l) {k : Nat} (hk : k ≤ 15) : oW (cy (ck c bad) l k) l = some (cy (ck c bad) l (k + 1)) :=
 have G := jK hb hk
 (Gj G.ok G.sz G.acts G.sub).1
theorem B7 : uK = some true := by kernel_rfl
theorem B8 (c : Cf) (bad : List Int) (l : List Ac) (slots : Int) : sb c bad l slots = some false ∨ (sb c bad l slots = some true ∧ gy c bad l ∧ 1 ≤ slots ∧ slots ≤ 4) := by
 unfold sb;rcases Cc c bad l with e | ⟨e, hb⟩
 ·rw [e, ob, cf]; exact .inl rfl
 ·rw [e, ob, ct];by_cases h1 : slots ≥ 1
  ·rw [decide_eq_true h1, ct];by_cases h2 : slots ≤ 4
   ·rw [decide_eq_true h2]; exact .inr ⟨rfl, hb, h1, h2⟩
   ·rw [decide_eq_false h2]; exact .inl rfl
  ·rw [decide_eq_false h1, cf]; exact .inl rfl
theorem Cb {w : Wd} (h : qd w) (hl : lL l) : sd w l = some true ∨ (sd w l = some false ∧ qh w l) := by
 have hs := DP h hl;have hn := h.n;unfold sd;rw [B4 (by omega), ob]
 cases hf : w.N.any Nd.Full with
 | true => rw [ct]; exact .inl rfl
 | false =>
  rw [cf, Bx h hl, ob, B5 (by omega), ob]
  cases hc : tz (kf w l).B with
  | true => exact .inl rfl
  | false =>
   refine .inr ⟨rfl, fun n hn => ?_, ?_⟩
   ·have := List.any_eq_false.1 hf n hn
    cases hq : n.Full with
    | true => exact absurd hq this
    | false => rfl
   ·unfold tz at hc;exact Decidable.not_not.1 (of_decide_eq_false hc)
theorem Bw {w : Wd} {id : ID} (h : qd w) (hall : ∀ n ∈ w.N, id ∈ aq n.V.B (fO w.C n)) : pW w id = some true := by
 have hn := h.n
 have e := az (step := lr w.N w id) (n := w.N.length) (fun k => fw.mk (k : Int)) (.inl (fw.mk (w.N.length : Int))) (fun k hk => by
  obtain ⟨y, hy, hm⟩ := aE hk;obtain ⟨⟨a1, a2⟩, -⟩ := h.nodes y hm;have hi := kM.2 (hall y hm);unfold lr pA;simp only
  rw [decide_eq_true (show (k : Int) < (w.N.length : Int) by omega), ct, aH hy, ob, uq (by omega) (by omega), ob, show few y.V.B = true from decide_eq_true (by omega), ct, ob, decide_eq_true (show aQ (aq y.V.B (fO w.C y)) id ≥ 0 by omega), Bool.not_true, cf, aj (n := k) (by omega)]) (by
  unfold lr;simp only
  rw [decide_eq_false (show ¬ (w.N.length : Int) < (w.N.length : Int) by omega), cf]) (by omega)
 have e' : iter (lr w.N w id) bD (fw.mk 0) = _ := e;unfold pW EP ER;rw [e', ob];rfl
end
end Go.Mg
