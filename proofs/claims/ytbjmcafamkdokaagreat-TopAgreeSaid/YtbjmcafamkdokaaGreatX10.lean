/- Laws of views. Plain laws of views: order, and all. Nets, plain: how much nodes have; what they have together. Laws of nets, plain: what all have together, in whatever order. A node behind a tick, plain. A node behind a tick, plain: the phases. A node behind a tick, plain: the whole. NodeKnown, plain. NodeKeeps, plain. What a node is behind a tick: what it has, how much that is. A world behind a tick, plain. Worlds that go on, plain. Worlds that go on: what is so of them goes on. A world that begins; what is begun; worlds that are the same. AuditSeen, plain. What nodes count, where there is room: what one counted all count in phase 2, the proposer in phase 0. PlayHonest. PlayHonest, plain. What more than half of a slot's committee, of the good ones, voted for is under each node's head, ever after. What the laws through the layers share. Laws of nets, plain. Runs: what holds behind each tick. What a good proposer offers, and what all count of it. Conditions: none. -/
import Derived.Test.YtbjmcafamkdokaaGreatX7
import Derived.Test.YtbjmcafamkdokaaGreatX9
import Derived.Test.YtbjmcafamkdokaaGreatX8
import Derived.Test.YtbjmcafamkdokaaGreatX3
import Derived.Test.YtbjmcafamkdokaaGreatX6
set_option maxRecDepth 100000
set_option linter.unusedSimpArgs false
set_option linter.unusedVariables false
namespace Go.Mg
open Go.Proofs
open Classical in
theorem sy {S R : Type} {step : S → Option (S ⊕ (S ⊕ R))} {n : Nat} (mk : Nat → S) (r0 : R) (P : Nat → Prop) (hs : ∀ j, j < n → step (mk j) = some (.inr (.inr r0)) ∨ (step (mk j) = some (.inl (mk (j + 1))) ∧ P j))
  (he : step (mk n) = some (.inr (.inl (mk n)))) (hn : n < 4000000000000000000) : iter step bG (mk 0) = some (.inr r0) ∨ (iter step bG (mk 0) = some (.inl (mk n)) ∧ ∀ j, j < n → P j) := by
 have e := eV mk (fun j => if step (mk j) = some (.inl (mk (j + 1))) ∧ P j then none else some r0) (fun j hj => by
  by_cases h : step (mk j) = some (.inl (mk (j + 1))) ∧ P j
  ·simp only [if_pos h]; exact h.1
  ·simp only [if_neg h]; exact (hs j hj).resolve_right h) he hn
 rw [e]
 cases h : cx (fun j => if step (mk j) = some (.inl (mk (j + 1))) ∧ P j then none else some r0) 0 n with
 | none =>
  right;refine ⟨rfl, fun j hj => ?_⟩;have := fM.1 h j (Nat.zero_le _) (by omega);split at this
  ·rename_i h2; exact h2.2
  ·cases this
 | some r =>
  left;obtain ⟨j, -, -, h2, -⟩ := dN h;split at h2
  ·cases h2
  ·cases h2; rfl
def kt (k : Int) (w : Vw) : Prop := (w.B.length : Int) ≤ k ∧ (w.V.length : Int) ≤ k
def ks (k : Int) (n : Nd) : Prop := kt k n.V ∧ kt k n.In ∧ n.O.length ≤ 10 ∧ ∀ o ∈ n.O, kt k o.V
def bX (n : Nd) : Vw := aH n.V n.In
theorem sq {n : Nd} {k : Int} (h : ks k n) : ((bX n).B.length : Int) ≤ 2 * k ∧ ((bX n).V.length : Int) ≤ 2 * k := by
 obtain ⟨⟨a1, a2⟩, ⟨b1, b2⟩, -⟩ := h;have h1 := da n.In.B n.V.B;have h2 := da n.In.V n.V.V;unfold bX aH;simp only;omega
theorem A1 {n : Nd} {k : Int} (h : ks k n) (hk : k ≤ 1000) : tT n = some (bX n) := by
 obtain ⟨⟨a1, a2⟩, ⟨b1, b2⟩, -⟩ := h;unfold tT;rw [iB (by omega) (by omega)]; rfl
def ge (l : List Nd) (w : Vw) : Vw := l.foldl (fun w n => aH w (bX n)) w
theorem zE (l : List Nd) (n : Nd) (w : Vw) : ge (l ++ [n]) w = aH (ge l w) (bX n) := by unfold ge; rw [List.foldl_append]; rfl
theorem p0 {k : Int} : ∀ {l : List Nd} {w : Vw}, (∀ n ∈ l, ks k n) → ((ge l w).B.length : Int) ≤ w.B.length + l.length * (2 * k) ∧ ((ge l w).V.length : Int) ≤ w.V.length + l.length * (2 * k)
 | [], w, _ => by simp [ge]
 | n :: r, w, h => by
  have h1 := sq (h n (.head _));have h2 := p0 (l := r) (w := aH w (bX n)) fun m hm => h m (.tail _ hm);have h3 := da (bX n).B w.B;have h4 := da (bX n).V w.V;have e : ge (n :: r) w = ge r (aH w (bX n)) := rfl;have e1 : (aH w (bX n)).B = cP w.B (bX n).B := rfl;have e2 : (aH w (bX n)).V = cP w.V (bX n).V := rfl;rw [e, List.length_cons, Int.natCast_add, Int.add_mul];rw [e1, e2] at h2;omega
theorem m8 {b : Bk} : ∀ {l : List Nd} {w : Vw}, b ∈ (ge l w).B ↔ b ∈ w.B ∨ ∃ n ∈ l, b ∈ (bX n).B
 | [], w => by simp [ge]
 | n :: r, w => by
  have e : ge (n :: r) w = ge r (aH w (bX n)) := rfl;rw [e, m8];have e1 : (aH w (bX n)).B = cP w.B (bX n).B := rfl;rw [e1, fz];simp [or_assoc]
theorem m9 {v : Vt} : ∀ {l : List Nd} {w : Vw}, v ∈ (ge l w).V ↔ v ∈ w.V ∨ ∃ n ∈ l, v ∈ (bX n).V
 | [], w => by simp [ge]
 | n :: r, w => by
  have e : ge (n :: r) w = ge r (aH w (bX n)) := rfl;rw [e, m9];have e1 : (aH w (bX n)).V = cP w.V (bX n).V := rfl;rw [e1, fz];simp [or_assoc]
theorem rS : ∀ {l : List Nd} {w : Vw}, w.B.Nodup → w.V.Nodup → (ge l w).B.Nodup ∧ (ge l w).V.Nodup
 | [], w, h1, h2 => ⟨h1, h2⟩
 | n :: r, w, h1, h2 => rS (l := r) (w := aH w (bX n)) (fV h1) (fV h2)
theorem wl {k0 : Int} {l : List Nd} {w : Vw} (h0 : 0 ≤ k0) (hk0 : k0 ≤ 1000) (hl : (l.length : Int) * (2 * k0) ≤ 40000) (hl2 : l.length ≤ 100000) (hs : ∀ n ∈ l, ks k0 n) (h1 : w.B.length ≤ 1000) (h2 : w.V.length ≤ 1000) : pR l w = some (ge l w) := by
 have e := aB (step := gl l) (n := l.length) (fun k => dy.mk (k : Int) (ge (l.take k) w)) (dy.mk (l.length : Int) (ge l w)) (fun k hk => by
  obtain ⟨y, hy, hm⟩ := aD hk
  have et : l.take (k + 1) = l.take k ++ [y] := by rw [List.take_add_one, hy]; rfl
  have hsy := hs y hm;have hlen := p0 (l := l.take k) (w := w) fun m hm => hs m (List.mem_of_mem_take hm);rw [List.length_take] at hlen;have hkn := sq hsy;have hmul : ((Min.min k l.length : Nat) : Int) * (2 * k0) ≤ l.length * (2 * k0) := Int.mul_le_mul_of_nonneg_right (by omega) (by omega);unfold gl;simp only;rw [decide_eq_true (show (k : Int) < (l.length : Int) by omega), ct, aG hy, ob, et, zE, ak (n := k) (by omega)];unfold xM;rw [A1 hsy (by omega), ob, iB (by omega) (by omega), ob]
  rfl) (by
  unfold gl;simp only
  rw [decide_eq_false (show ¬ (l.length : Int) < (l.length : Int) by omega), cf, List.take_length]) (by omega)
 have e' : iter (gl l) bG (dy.mk 0 w) = _ := e;unfold pR;rw [e', ob]
theorem rF {l : List Nd} (hl : l.length ≤ 40) (hs : ∀ n ∈ l, ks 500 n) : rE l = some (ge l ⟨[], []⟩) := by
 unfold rE;rw [wl (k0 := 500) (by omega) (by omega) (by omega) (by omega) hs (Nat.zero_le _) (Nat.zero_le _)]; rfl
theorem wL (l : List Nd) : (cx (fun j => match l[j]? with | some y => if y.Full = true then some (j : Int) else none | none => none) 0 l.length).isSome = l.any Nd.Full := by
 cases h : cx (fun j => match l[j]? with | some y => if y.Full = true then some (j : Int) else none | none => none) 0 l.length with
 | none =>
  symm;rw [Option.isSome_none, List.any_eq_false];intro x hx;obtain ⟨j, hj⟩ := List.getElem?_of_mem hx;have := fM.1 h j (Nat.zero_le _) (by have := (List.getElem?_eq_some_iff.1 hj).1; omega);rw [hj] at this;simp only at this;split at this
  ·cases this
  ·assumption
 | some r =>
  symm;rw [Option.isSome_some, List.any_eq_true];obtain ⟨j, -, -, h3, -⟩ := dN h;split at h3
  ·rename_i y hy;split at h3
   ·rename_i hf; exact ⟨y, List.mem_of_getElem? hy, hf⟩
   ·cases h3
  ·cases h3
theorem Bv {l : List Nd} (hl : l.length ≤ 100000) : ue l = some (l.any Nd.Full) := by
 have e := eV (step := li l) (n := l.length) (fun k => gc.mk (k : Int)) (fun j => match l[j]? with | some y => if y.Full = true then some (j : Int) else none | none => none) (fun j hj => by
  obtain ⟨y, hy, -⟩ := aD hj;unfold li xJ;simp only;rw [decide_eq_true (show (j : Int) < (l.length : Int) by omega), ct, aG hy, ob, ob, ak (n := j) (by omega), hy]
  cases hf : y.Full with
  | true => rw [ct]; simp [hf]
  | false => rw [cf]; simp [hf]) (by
  unfold li;simp only
  rw [decide_eq_false (show ¬ (l.length : Int) < (l.length : Int) by omega), cf]) (by omega)
 have e' : iter (li l) bG (gc.mk 0) = _ := e;unfold ue Ee Eh;rw [← wL, e', ob]
 cases h : cx (fun j => match l[j]? with | some y => if y.Full = true then some (j : Int) else none | none => none) 0 l.length with
 | none => rw [lE, sl, ob]; rfl
 | some r =>
  have h0 : r ≥ 0 := by
   obtain ⟨j, -, -, h3, -⟩ := dN h;split at h3
   ·split at h3
    ·cases h3; omega
    ·cases h3
   ·cases h3
  rw [lE, sr, ob, decide_eq_true h0]; rfl
def K5 : Of := Of.mk 0 0 (Bk.mk 0 0 (0, 0) 0) (Vw.mk [] [])
theorem BQ {n : Nat} (hn : n ≤ 1000) : ur (n : Int) = some (List.replicate n K5) := by
 have e : IntKind.i64.wrap ((n : Int) - (IntKind.i64.wrap (0 - 0))) = n := by
  rw [show IntKind.i64.wrap (0 - 0) = 0 from by decide, cv (by omega) (by omega)]; omega
 unfold ur;rw [decide_eq_false (show ¬ (n : Int) < 0 by omega), cf, e];by_cases h0 : (n : Int) > 0
 ·rw [decide_eq_true h0, ct, show Am (n : Int) 104 = true from decide_eq_true (by omega), ct];simp [K5]
 ·rw [decide_eq_false h0, cf]
  obtain rfl : n = 0 := by omega
  rfl
theorem Bx {a b : List Of} (h : a.length + b.length ≤ 1000) : uh [a, b] = some (a ++ b) := by
 have e1 := aB (step := gz [a, b]) (n := 2) (fun k => match k with | 0 => dn.mk 0 0 | 1 => dn.mk (a.length : Int) 1 | _ => dn.mk ((a.length + b.length : Nat) : Int) 2) (dn.mk ((a.length + b.length : Nat) : Int) 2) (fun k hk => by
  match k, hk with
  | 0, _ =>
   unfold gz;simp only;rw [decide_eq_true (show (0 : Int) < (([a, b] : List (List Of)).length : Int) by simp), ct, show ix [a, b] 0 = some a from rfl, ob, cv (by omega) (by omega), decide_eq_false (show ¬ (0 : Int) + (a.length : Int) < 0 by omega), cf, Int.zero_add];rfl
  | 1, _ =>
   unfold gz;simp only;rw [decide_eq_true (show (1 : Int) < (([a, b] : List (List Of)).length : Int) by simp), ct, show ix [a, b] 1 = some b from rfl, ob, cv (by omega) (by omega), decide_eq_false (show ¬ (a.length : Int) + (b.length : Int) < 0 by omega), cf, Int.natCast_add]
   rfl) (by
  unfold gz;simp only
  rw [decide_eq_false (show ¬ (2 : Int) < (([a, b] : List (List Of)).length : Int) by simp), cf]) (by omega)
 have e1' : iter (gz [a, b]) bG (dn.mk 0 0) = _ := e1;obtain ⟨r, hr⟩ : ∃ r, r = List.replicate (a.length + b.length) K5 := ⟨_, rfl⟩
 have hrl : r.length = a.length + b.length := by rw [hr]; simp
 have p1 : fg r 0 a = a ++ r.drop a.length := by unfold fg; simp
 have p1l : (fg r 0 a).length = a.length + b.length := by rw [p1]; simp; omega
 have p2 : (fg (fg r 0 a) a.length b).take (a.length + b.length) = a ++ b := by
  have e : (fg r 0 a).take a.length = a := by rw [p1, List.take_left']; rfl
  unfold fg at e ⊢;rw [e, List.take_left'];simp
 have p2l : (fg (fg r 0 a) a.length b).length = a.length + b.length := by rw [vJ (by rw [p1l]; omega), p1l]
 have e2 := aB (step := gA [a, b]) (n := 2) (fun k => match k with | 0 => dp.mk 0 0 r | 1 => dp.mk a.length 1 (fg r 0 a) | _ => dp.mk (a.length + b.length) 2 (fg (fg r 0 a) a.length b)) (dp.mk (a.length + b.length) 2 (fg (fg r 0 a) a.length b)) (fun k hk => by
  match k, hk with
  | 0, _ =>
   unfold gA;simp only;rw [decide_eq_true (show (0 : Int) < (([a, b] : List (List Of)).length : Int) by simp), ct, show ix [a, b] 0 = some a from rfl, ob, decide_eq_true (show 0 + a.length ≤ r.length by omega), ct, Nat.zero_add];rfl
  | 1, _ =>
   unfold gA;simp only;rw [decide_eq_true (show (1 : Int) < (([a, b] : List (List Of)).length : Int) by simp), ct, show ix [a, b] 1 = some b from rfl, ob, decide_eq_true (show a.length + b.length ≤ (fg r 0 a).length by omega), ct]
   rfl) (by
  unfold gA;simp only
  rw [decide_eq_false (show ¬ (2 : Int) < (([a, b] : List (List Of)).length : Int) by simp), cf]) (by omega)
 have e2' : iter (gA [a, b]) bG (dp.mk 0 0 r) = _ := e2;unfold uh;rw [e1', ob];simp only;rw [BQ h, ob, ← hr, e2', ob];simp only;rw [show Nat.ble (a.length + b.length) (fg (fg r 0 a) a.length b).length = true from Nat.ble_eq_true_of_le (by omega), ct, p2]
def nK (o : Of) : Prop := o.V.B.length ≤ 1000 ∧ o.V.V.length ≤ 1000
theorem pK {v : Vw} (h1 : v.B.length ≤ 1000) (h2 : v.V.length ≤ 1000) : pJ v = some v := by
 unfold pJ;rw [aP (by omega) (by omega), ct, aP (by omega) (by omega), ct]
theorem pM {o : Of} (h : nK o) : pL o = some o := by
 unfold pL;rw [pK h.1 h.2];rfl
def FJ (t : Int) (c : Cf) (slot : Int) (o : Of) : Bool := decide (¬ t.tmod 3 = 2 ∧ o.Slot = slot ∧ o.From = j7 c slot)
def ka (t : Int) (c : Cf) (slot : Int) (s : List Of × Bool) (o : Of) : List Of × Bool := if FJ t c slot o = true then (if s.1.length = 8 then (s.1, true) else (s.1 ++ [o], s.2)) else s
def iv (t : Int) (c : Cf) (slot : Int) (full : Bool) (l : List Of) : List Of × Bool := l.foldl (ka t c slot) ([], full)
theorem Ae (t : Int) (c : Cf) (slot : Int) (full : Bool) (l : List Of) (o : Of) : iv t c slot full (l ++ [o]) = ka t c slot (iv t c slot full l) o := by unfold iv; rw [List.foldl_append]; rfl
theorem yg {t : Int} {c : Cf} {slot : Int} : ∀ (l : List Of) (s : List Of × Bool), s.1.length ≤ 8 → (l.foldl (ka t c slot) s).1.length ≤ 8 ∧ (∀ o ∈ (l.foldl (ka t c slot) s).1, o ∈ s.1 ∨ (o ∈ l ∧ FJ t c slot o = true)) ∧ (s.2 = true → (l.foldl (ka t c slot) s).2 = true)
 | [], s, h => ⟨h, fun o ho => .inl ho, id⟩
 | x :: r, s, h => by
  rw [List.foldl_cons]
  have hs : (ka t c slot s x).1.length ≤ 8 ∧ (∀ o ∈ (ka t c slot s x).1, o ∈ s.1 ∨ (o = x ∧ FJ t c slot o = true)) ∧ (s.2 = true → (ka t c slot s x).2 = true) := by
   unfold ka;split
   ·rename_i hk;split
    ·exact ⟨h, fun o ho => .inl ho, fun _ => rfl⟩
    ·refine ⟨by simp only [List.length_append, List.length_singleton]; omega, fun o ho => ?_, id⟩;rcases List.mem_append.1 ho with ho | ho
     ·exact .inl ho
     ·rw [List.mem_singleton] at ho; subst ho; exact .inr ⟨rfl, hk⟩
   ·exact ⟨h, fun o ho => .inl ho, id⟩
  obtain ⟨h1, h2, h3⟩ := yg r (ka t c slot s x) hs.1;refine ⟨h1, fun o ho => ?_, fun e => h3 (hs.2.2 e)⟩;rcases h2 o ho with h4 | ⟨h4, h5⟩
  ·rcases hs.2.1 o h4 with h5 | ⟨rfl, h5⟩
   ·exact .inl h5
   ·exact .inr ⟨.head _, h5⟩
  ·exact .inr ⟨.tail _ h4, h5⟩
theorem gN (t : Int) (c : Cf) (slot : Int) (full : Bool) (l : List Of) : (iv t c slot full l).1.length ≤ 8 ∧ (∀ o ∈ (iv t c slot full l).1, o ∈ l ∧ FJ t c slot o = true) ∧ (full = true → (iv t c slot full l).2 = true) := by
 obtain ⟨h1, h2, h3⟩ := yg (t := t) (c := c) (slot := slot) l ([], full) (by simp);refine ⟨h1, fun o ho => ?_, h3⟩;rcases h2 o ho with h4 | h4
 ·simp at h4
 ·exact h4
theorem BR {l : List Of} {x : Nd} {c : Cf} {slot : Int} (hl : x.O.length + l.length ≤ 1000) (hs : ∀ o ∈ x.O ++ l, nK o) : ut l x c slot = some (iv x.Tick c slot x.Full (x.O ++ l)) := by
 unfold ut;rw [Bx hl, ob];generalize hL : x.O ++ l = L at hs
 have hLl : L.length ≤ 1000 := by rw [← hL, List.length_append]; omega
 have e := aB (step := iZ x c slot L) (n := L.length) (fun k => dt.mk (k : Int) (iv x.Tick c slot x.Full (L.take k)).2 (iv x.Tick c slot x.Full (L.take k)).1) (dt.mk (L.length : Int) (iv x.Tick c slot x.Full L).2 (iv x.Tick c slot x.Full L).1) (fun k hk => by
  obtain ⟨y, hy, hm⟩ := aD hk
  have et : L.take (k + 1) = L.take k ++ [y] := by rw [List.take_add_one, hy]; rfl
  have hf := gN x.Tick c slot x.Full (L.take k);unfold iZ;simp only;rw [decide_eq_true (show (k : Int) < (L.length : Int) by omega), ct, aG hy, ob, et, Ae, ak (n := k) (by omega)];generalize iv x.Tick c slot x.Full (L.take k) = s at hf ⊢
  have hgate : (bif (x.Tick.tmod 3) == 2 then some ((x.Tick.tmod 3) == 2) else bif y.Slot != slot then some (y.Slot != slot) else (Ec c slot).bind fun v4 => some (y.From != v4)) = some (!FJ x.Tick c slot y) := by
   rw [sP, ob];unfold FJ;by_cases h1 : x.Tick.tmod 3 = 2
   ·rw [beq_iff_eq.2 h1, ct, decide_eq_false fun h => h.1 h1]; rfl
   ·rw [beq_eq_false_iff_ne.2 h1, cf];by_cases h2 : y.Slot = slot
    ·rw [show (y.Slot != slot) = false by simp [h2], cf];by_cases h3 : y.From = j7 c slot
     ·rw [show (y.From != j7 c slot) = false by simp [h3], decide_eq_true ⟨h1, h2, h3⟩]; rfl
     ·rw [show (y.From != j7 c slot) = true by simp [h3], decide_eq_false fun h => h3 h.2.2]; rfl
    ·rw [show (y.Slot != slot) = true by simp [h2], ct, decide_eq_false fun h => h2 h.2.1]; rfl
  rw [hgate, ob];unfold ka
  cases hk2 : FJ x.Tick c slot y with
  | false => rw [Bool.not_false, ct]; rfl
  | true =>
   rw [Bool.not_true, cf, if_pos rfl];by_cases h8 : s.1.length = 8
   ·rw [show ((s.1.length : Int) == 8) = true by simp [h8], ct, if_pos h8]
   ·rw [show ((s.1.length : Int) == 8) = false by rw [beq_eq_false_iff_ne]; omega, cf, pM (hs y hm), ob, aP (by simp only [List.length_singleton]; omega) (by omega), ct, if_neg h8]) (by
  unfold iZ;simp only
  rw [decide_eq_false (show ¬ (L.length : Int) < (L.length : Int) by omega), cf, List.take_length]) (by omega)
 have e' : iter (iZ x c slot L) bG (dt.mk 0 x.Full []) = _ := e;rw [e', ob]
theorem sI (c : Cf) (w i : Vw) (s : Int) : w.B.length ≤ (az c w i s).1.B.length ∧ (az c w i s).1.B.length ≤ w.B.length + 60 ∧ w.V.length ≤ (az c w i s).1.V.length ∧ (az c w i s).1.V.length ≤ w.V.length + 240 ∧ (az c w i s).2.1.B.length ≤ i.B.length ∧ (az c w i s).2.1.V.length ≤ i.V.length := by
 by_cases h : ea c w
 ·have ht := ph h i s;have hl := Dq ht;have h1 := ht.may.lenB;have h2 := ht.may.lenV;omega
 ·have e : az c w i s = (w, i, false) := by unfold az; rw [if_neg h]
  rw [e];simp only;omega
theorem lg {inp : Vw} {c : Cf} {slot : Int} {v : Vw} {full : Bool} (h1 : v.B.length ≤ 1000) (h2 : v.V.length ≤ 1000) (h3 : inp.B.length ≤ 800) (h4 : inp.V.length ≤ 600) :
  kq inp c slot v full = some ((az c v inp slot).2.1, (az c v inp slot).1, full || (az c v inp slot).2.2) := by
 unfold kq;rw [F9 h1 h2 h3 h4, ob];cases full <;> rfl
theorem q8 (c : Cf) (w i : Vw) (s : Int) : (az c w i s).1.B.length ≤ max w.B.length 60 ∧ (az c w i s).1.V.length ≤ max w.V.length 240 := by
 by_cases h : ea c w
 ·have ht := ph h i s;have h1 := ht.may.lenB;have h2 := ht.may.lenV;omega
 ·have e : az c w i s = (w, i, false) := by unfold az; rw [if_neg h]
  rw [e];simp only;omega
theorem Vw.eta (w : Vw) : Vw.mk w.B w.V = w := rfl
noncomputable def kL (x : Nd) (c : Cf) (slot : Int) : Bk := ⟨slot, x.No, cE c (az c x.V x.In slot).1.B (cy c (az c x.V x.In slot).1.V (IntKind.i64.wrap (slot - 1))), 0⟩
noncomputable def dh (x : Nd) (c : Cf) (slot : Int) : Vw × Vw × Bool × List Of :=
 if x.No = j7 c slot then
  ((az c (az c x.V x.In slot).1 ⟨[kL x c slot], []⟩ slot).1, (az c x.V x.In slot).2.1, (x.Full || (az c x.V x.In slot).2.2) || (az c (az c x.V x.In slot).1 ⟨[kL x c slot], []⟩ slot).2.2, [⟨slot, x.No, kL x c slot, (az c x.V x.In slot).1⟩])
 else (x.V, x.In, x.Full, [])
theorem yR {x : Nd} {c : Cf} {slot : Int} (h1 : x.V.B.length ≤ 500) (h2 : x.V.V.length ≤ 500) (h3 : x.In.B.length ≤ 500) (h4 : x.In.V.length ≤ 500) : nI x c slot [] = some (dh x c slot) := by
 have hm := q8 c x.V x.In slot;unfold nI dh;rw [sP, ob];by_cases h : x.No = j7 c slot
 ·rw [show (x.No != j7 c slot) = false by simp [h], cf, if_pos h, lg (by omega) (by omega) (by omega) (by omega), ob];simp only;rw [kj (by omega) (by omega), ob];have hs : nK (Of.mk slot x.No (Bk.mk slot x.No (cE c (az c x.V x.In slot).1.B (cy c (az c x.V x.In slot).1.V (IntKind.i64.wrap (slot - 1)))) 0) (az c x.V x.In slot).1) := ⟨by show (az c x.V x.In slot).1.B.length ≤ 1000; omega, by show (az c x.V x.In slot).1.V.length ≤ 1000; omega⟩;rw [pM hs, ob];unfold rI;rw [ob, lg (by omega) (by omega) (by simp) (by simp), ob];rfl
 ·rw [show (x.No != j7 c slot) = true by simp [h], ct, if_neg h]
noncomputable def fd (c : Cf) (slot : Int) (s : Vw × Vw × Bool) (o : Of) : Vw × Vw × Bool :=
 ((az c s.1 (aH o.V ⟨[o.B], []⟩) slot).1, aH s.2.1 (az c s.1 (aH o.V ⟨[o.B], []⟩) slot).2.1, s.2.2 || (az c s.1 (aH o.V ⟨[o.B], []⟩) slot).2.2)
noncomputable def bf (x : Nd) (o : List Of) (c : Cf) (slot : Int) : Vw × Vw × Bool := o.foldl (fd c slot) (x.V, x.In, x.Full)
noncomputable def d7 (x : Nd) (o : List Of) (c : Cf) (slot : Int) : Vw × Vw × Bool :=
 if x.No ∈ lz c slot then
  ((bf x o c slot).1, aH (bf x o c slot).2.1 ⟨[], [⟨x.No, slot, cE c (bf x o c slot).1.B (cy c (bf x o c slot).1.V (IntKind.i64.wrap (slot - 1)))⟩]⟩, (bf x o c slot).2.2)
 else bf x o c slot
theorem vP (x : Nd) (o : List Of) (c : Cf) (slot : Int) (y : Of) : bf x (o ++ [y]) c slot = fd c slot (bf x o c slot) y := by unfold bf; rw [List.foldl_append]; rfl
theorem vp (o : Of) : (aH o.V ⟨[o.B], []⟩).B.length ≤ o.V.B.length + 1 ∧ (aH o.V ⟨[o.B], []⟩).V.length ≤ o.V.V.length := by
 have h1 := da [o.B] o.V.B;have h2 := da ([] : List Vt) o.V.V;exact ⟨h1, h2⟩
theorem gt (a b : Vw) : (aH a b).B.length ≤ a.B.length + b.B.length ∧ (aH a b).V.length ≤ a.V.length + b.V.length := ⟨da _ _, da _ _⟩
theorem vO {x : Nd} {c : Cf} {slot : Int} (h1 : x.V.B.length ≤ 500) (h2 : x.V.V.length ≤ 500) (h3 : x.In.B.length ≤ 500) (h4 : x.In.V.length ≤ 500) : ∀ (k : Nat) (o : List Of), o.length ≤ k → (∀ y ∈ o, y.V.B.length ≤ 500 ∧ y.V.V.length ≤ 500) →
  (bf x o c slot).1.B.length ≤ 500 ∧ (bf x o c slot).1.V.length ≤ 500 ∧ (bf x o c slot).2.1.B.length ≤ 500 + 501 * k ∧ (bf x o c slot).2.1.V.length ≤ 500 + 501 * k := by
 intro k
 induction k with
 | zero =>
  intro o ho _;obtain rfl : o = [] := List.length_eq_zero_iff.1 (by omega);exact ⟨h1, h2, Nat.le_trans h3 (by omega), Nat.le_trans h4 (by omega)⟩
 | succ k ih =>
  intro o ho hs;rcases List.eq_nil_or_concat o with rfl | ⟨r, y, rfl⟩
  ·exact ⟨h1, h2, Nat.le_trans h3 (by omega), Nat.le_trans h4 (by omega)⟩
  ·rw [List.concat_eq_append] at ho hs ⊢;rw [List.length_append, List.length_singleton] at ho;obtain ⟨a1, a2, a3, a4⟩ := ih r (by omega) fun z hz => hs z (List.mem_append_left _ hz);have hy := hs y (List.mem_append_right _ (List.mem_singleton.2 rfl));have hl := vp y;rw [vP];unfold fd;generalize bf x r c slot = s at a1 a2 a3 a4 ⊢;have hm := q8 c s.1 (aH y.V ⟨[y.B], []⟩) slot;have hz := sI c s.1 (aH y.V ⟨[y.B], []⟩) slot;have hj := gt s.2.1 (az c s.1 (aH y.V ⟨[y.B], []⟩) slot).2.1;simp only;omega
theorem wm {x : Nd} {o : List Of} {c : Cf} {slot : Int} (h1 : x.V.B.length ≤ 500) (h2 : x.V.V.length ≤ 500) (h3 : x.In.B.length ≤ 500) (h4 : x.In.V.length ≤ 500) (ho : o.length ≤ 8) (hs : ∀ y ∈ o, y.V.B.length ≤ 500 ∧ y.V.V.length ≤ 500) :
  lj x o c slot = some (d7 x o c slot) := by
 have e := aB (step := fr o c slot) (n := o.length) (fun k => cQ.mk (k : Int) (bf x (o.take k) c slot).1.B (bf x (o.take k) c slot).1.V (bf x (o.take k) c slot).2.1.B (bf x (o.take k) c slot).2.1.V (bf x (o.take k) c slot).2.2)
  (cQ.mk (o.length : Int) (bf x o c slot).1.B (bf x o c slot).1.V (bf x o c slot).2.1.B (bf x o c slot).2.1.V (bf x o c slot).2.2) (fun k hk => by
  obtain ⟨y, hy, hm⟩ := aD hk
  have et : o.take (k + 1) = o.take k ++ [y] := by rw [List.take_add_one, hy]; rfl
  have hsz := vO (c := c) (slot := slot) h1 h2 h3 h4 8 (o.take k) (by rw [List.length_take]; omega) fun z hz => hs z (List.mem_of_mem_take hz);have hy2 := hs y hm;have hl := vp y;unfold fr;simp only;rw [decide_eq_true (show (k : Int) < (o.length : Int) by omega), ct, aG hy, ob, et, vP, ak (n := k) (by omega)];generalize bf x (o.take k) c slot = s at hsz ⊢;have hz := sI c s.1 (aH y.V ⟨[y.B], []⟩) slot;unfold rI;rw [ob, iB (by simp only [List.length_singleton]; omega) (by simp only [List.length_nil]; omega), ob, Vw.eta, Vw.eta, lg (by omega) (by omega) (by omega) (by omega), ob];simp only;rw [iB (by omega) (by omega), ob]
  rfl) (by
  unfold fr;simp only
  rw [decide_eq_false (show ¬ (o.length : Int) < (o.length : Int) by omega), cf, List.take_length]) (by omega)
 have e' : iter (fr o c slot) bG (cQ.mk 0 x.V.B x.V.V x.In.B x.In.V x.Full) = _ := e;have hsz := vO (c := c) (slot := slot) h1 h2 h3 h4 8 o ho hs;unfold lj d7;rw [e', ob, sQ, ob];simp only [Vw.eta];generalize bf x o c slot = s at hsz ⊢;by_cases h : x.No ∈ lz c slot
 ·rw [decide_eq_true h, ct, if_pos h, kj (by omega) (by omega), ob, iB (by simp only [List.length_nil]; omega) (by simp only [List.length_singleton]; omega), ob]
 ·rw [decide_eq_false h, cf, if_neg h]
def BY (c : Cf) (w : Vw) (slot : Int) (id : ID) : Prop := tM c (lz c slot) * (c.Den + 2 * c.Num) < 2 * oR c w.B (cy c w.V slot) id * c.Den
theorem yO {c : Cf} {w : Vw} {slot : Int} {head : ID} (hm : dA c) (h1 : w.B.length ≤ 1000) (h2 : w.V.length ≤ 1000) : ∃ r, rJ c w slot head = some r ∧ (r.2 = true → BY c w slot r.1) := by
 have hg := vc c w.V slot;have hc := wE c slot;unfold rJ BV;rw [tW (by omega), ob, wk, ob, BK (by omega), ob, ob, show few w.B = true from decide_eq_true h1, ct];have hwt := FQ c (lz c slot)
 obtain ⟨b, hb, hs⟩ := cY (step := ju c w) (fun x => x.v = cy c w.V slot ∧ x.al = tM c (lz c slot)) (fun x => x.l.length) (fun r => r.2 = true → BY c w slot r.1) (by
  rintro ⟨l, v, al⟩ ⟨e1, e2⟩;simp only at e1 e2;subst e1 e2;by_cases hl : (l.length : Int) < 2
  ·right;refine ⟨((0, 0), false), ?_, fun h => by cases h⟩;unfold ju;simp only;rw [decide_eq_true hl, ct]
  ·obtain ⟨y, hy, -⟩ := aD (l := l) (n := 0) (by omega);have hy' : ix l 0 = some y := aG hy;obtain ⟨-, -, -, -, -, m1, m2, m3, m4⟩ := hm;have hon : 0 ≤ oR c w.B (cy c w.V slot) y ∧ oR c w.B (cy c w.V slot) y ≤ 13194139533312 := FQ _ _
   have hstep : ju c w ⟨l, cy c w.V slot, tM c (lz c slot)⟩ = bif decide (2 * oR c w.B (cy c w.V slot) y * c.Den > tM c (lz c slot) * (c.Den + 2 * c.Num)) then some (.inr (y, true)) else some (.inl ⟨l.drop 1, cy c w.V slot, tM c (lz c slot)⟩) := by
    unfold ju Ek sU;simp only
    rw [decide_eq_false hl, cf, hy', ob, xx h1 (by omega), ob, ob, cv (by omega) (by omega), cv (n := 2 * c.Num) (by omega) (by omega), cv (by omega) (by omega), AZ ⟨by omega, by omega⟩ ⟨by omega, by omega⟩ ⟨by omega, by omega⟩ ⟨by omega, by omega⟩, ob, ob, ob,
     show Hi l 1 l.length = true from decide_eq_true (by omega), ct]
    rfl
   cases hd : decide (2 * oR c w.B (cy c w.V slot) y * c.Den > tM c (lz c slot) * (c.Den + 2 * c.Num)) with
   | true => rw [hd, ct] at hstep; exact .inr ⟨_, hstep, fun _ => show tM c (lz c slot) * (c.Den + 2 * c.Num) < _ from of_decide_eq_true hd⟩
   | false =>
    rw [hd, cf] at hstep;refine .inl ⟨_, hstep, ⟨rfl, rfl⟩, ?_⟩;simp only [List.length_drop]
    omega) (n := bG) (x := lk.mk (aF w.B head) (cy c w.V slot) (tM c (lz c slot))) ⟨rfl, rfl⟩ (ec (by have : (aF w.B head).length ≤ w.B.length + 1 := zV head; simp only; omega))
 exact ⟨b, hb, hs⟩
theorem wn {x : Nd} {c : Cf} {slot : Int} (hm : dA c) (h1 : x.V.B.length ≤ 500) (h2 : x.V.V.length ≤ 500) (h3 : x.In.B.length ≤ 500) (h4 : x.In.V.length ≤ 500) :
  ∃ r, rJ c (az c x.V x.In slot).1 slot (cE c (az c x.V x.In slot).1.B (cy c (az c x.V x.In slot).1.V slot)) = some r ∧ (r.2 = true → BY c (az c x.V x.In slot).1 slot r.1) ∧ lW x c slot = some ((az c x.V x.In slot).1, (az c x.V x.In slot).2.1, eN x.C (az c x.V x.In slot).1.B (cE c (az c x.V x.In slot).1.B (cy c (az c x.V x.In slot).1.V slot)) r.1 r.2 slot, x.Full || (az c x.V x.In slot).2.2) := by
 have hx := q8 c x.V x.In slot;obtain ⟨r, hr, hs⟩ := yO (slot := slot) (head := cE c (az c x.V x.In slot).1.B (cy c (az c x.V x.In slot).1.V slot)) hm (w := (az c x.V x.In slot).1) (by omega) (by omega);refine ⟨r, hr, hs, ?_⟩;unfold lW;rw [lg (by omega) (by omega) (by omega) (by omega), ob];simp only;rw [kj (by omega) (by omega), ob, hr, ob, show few (az c x.V x.In slot).1.B = true from decide_eq_true (by omega), ct]
theorem y0 {x : Nd} {c : Cf} {slot : Int} (hm : dA c) (h1 : x.V.B.length ≤ 500) (h2 : x.V.V.length ≤ 500) (h3 : x.In.B.length ≤ 500) (h4 : x.In.V.length ≤ 500) :
  ∃ cu, lW x c slot = some ((az c x.V x.In slot).1, (az c x.V x.In slot).2.1, cu, x.Full || (az c x.V x.In slot).2.2) :=
 have ⟨_, _, _, e⟩ := wn hm h1 h2 h3 h4
 ⟨_, e⟩
structure Ll (c : Cf) (n : Nd) (inp : Vw) (o : List Of) : Prop where
 n : ks 30 n
 inp : kt 30 inp
 len : o.length ≤ 10
 o : ∀ y ∈ o, kt 30 y.V
theorem vS {k : Int} (hk : k ≤ 1000) {l : List Of} (h : ∀ y ∈ l, kt k y.V) : ∀ y ∈ l, nK y := fun y hy => by
 obtain ⟨a, b⟩ := h y hy;exact ⟨by omega, by omega⟩
structure lw (c : Cf) (n : Nd) (inp : Vw) (o : List Of) : Prop where
 vw : n.V.B.length ≤ 500 ∧ n.V.V.length ≤ 500
 inw : n.In.B.length ≤ 1000 ∧ n.In.V.length ≤ 1000
 came : inp.B.length ≤ 2000 ∧ inp.V.length ≤ 2000
 ins : (aH n.In (a8 c inp)).B.length ≤ 500 ∧ (aH n.In (a8 c inp)).V.length ≤ 500
 len : n.O.length + o.length ≤ 1000
 offs : ∀ y ∈ n.O ++ o, y.V.B.length ≤ 500 ∧ y.V.V.length ≤ 500
theorem zY {n : Nd} (hl : n.O.length ≤ 1000) (hs : ∀ y ∈ n.O, nK y) : iter (iR n) bG (dH.mk 0 []) = some (dH.mk (n.O.length : Int) n.O) := by
 have e := aB (step := iR n) (n := n.O.length) (fun k => dH.mk (k : Int) (n.O.take k)) (dH.mk (n.O.length : Int) n.O) (fun k hk => by
  obtain ⟨y, hy, hm⟩ := aD hk
  have et : n.O.take (k + 1) = n.O.take k ++ [y] := by rw [List.take_add_one, hy]; rfl
  unfold iR;simp only
  rw [decide_eq_true (show (k : Int) < (n.O.length : Int) by omega), ct, aG hy, ob, pM (hs y hm), ob, aP (by rw [List.length_take]; simp only [List.length_singleton]; omega) (by omega), ct, et, ak (n := k) (by omega)]) (by
  unfold iR;simp only
  rw [decide_eq_false (show ¬ (n.O.length : Int) < (n.O.length : Int) by omega), cf, List.take_length]) (by omega)
 exact e
def eT (c : Cf) (n : Nd) : Bool := decide (¬ dA c ∨ n.Tick < 3 ∨ IntKind.i64.wrap (n.Tick.tdiv 3) > 1048576)
theorem sh (c : Cf) (n : Nd) : ((yP c).bind fun v2 => bif !v2 then some true else bif decide (n.Tick < 3) then some true else some (decide ((IntKind.i64.wrap (n.Tick.tdiv 3)) > 1048576))) = some (eT c n) := by
 rw [lR, ob];unfold eT;by_cases h1 : dA c
 ·rw [decide_eq_true h1, Bool.not_true, cf];by_cases h2 : n.Tick < 3
  ·rw [decide_eq_true h2, ct, decide_eq_true (.inr (.inl h2))]
  ·rw [decide_eq_false h2, cf];by_cases h3 : IntKind.i64.wrap (n.Tick.tdiv 3) > 1048576
   ·rw [decide_eq_true h3, decide_eq_true (.inr (.inr h3))]
   ·rw [decide_eq_false h3, decide_eq_false];rintro (h | h | h)
    ·exact h h1
    ·exact h2 h
    ·exact h3 h
 ·rw [decide_eq_false h1, Bool.not_false, ct, decide_eq_true (.inl h1)]
theorem ud {c : Cf} {n : Nd} {inp : Vw} {o : List Of} (hf : lw c n inp o) (h : eT c n = true) : iP c n inp o = some (n, []) := by
 obtain ⟨⟨a1, a2⟩, ⟨b1, b2⟩, -, -, c1, c2⟩ := hf;unfold iP;rw [sh, ob, h, ct, pK (by omega) (by omega), ob, pK (by omega) (by omega), ob, zY (by omega) (fun y hy => by have := c2 y (List.mem_append_left _ hy); exact ⟨by omega, by omega⟩), ob]
def mE (c : Cf) (n : Nd) (inp : Vw) : Vw := aH n.In (a8 c inp)
def aA (n : Nd) : Int := IntKind.i64.wrap (n.Tick.tdiv 3)
def fb (c : Cf) (n : Nd) (o : List Of) : List Of × Bool := iv n.Tick c (aA n) n.Full (n.O ++ o)
def bN (c : Cf) (n : Nd) (inp : Vw) (o : List Of) : Nd := ⟨n.No, n.Tick, n.V, mE c n inp, [], n.C, (fb c n o).2⟩
theorem pI {c : Cf} {n : Nd} {inp : Vw} {o : List Of} (hf : lw c n inp o) (h : eT c n = false) : iP c n inp o =
  bif (n.Tick.tmod 3) == 0 then
   (nI (bN c n inp o) c (aA n) []).bind fun v10 => some (Nd.mk n.No (IntKind.i64.wrap (n.Tick + 1)) v10.1 v10.2.1 (fb c n o).1 n.C v10.2.2.1, v10.2.2.2)
  else bif (n.Tick.tmod 3) == 1 then
   (lj (bN c n inp o) (fb c n o).1 c (aA n)).bind fun v11 => some (Nd.mk n.No (IntKind.i64.wrap (n.Tick + 1)) v11.1 v11.2.1 [] n.C v11.2.2, [])
  else bif (n.Tick.tmod 3) == 2 then
   (lW (bN c n inp o) c (aA n)).bind fun v12 => some (Nd.mk n.No (IntKind.i64.wrap (n.Tick + 1)) v12.1 v12.2.1 [] v12.2.2.1 v12.2.2.2, [])
  else none := by
 obtain ⟨⟨a1, a2⟩, ⟨b1, b2⟩, ⟨e1, e2⟩, -, g1, g2⟩ := hf;have h2 := Db c inp;unfold iP;rw [sh, ob, h, cf, BN (by omega) (by omega), ob, iB (by omega) (by omega), ob];rw [BR (by show n.O.length + o.length ≤ 1000; omega) (fun y hy => by have := g2 y hy; exact ⟨by omega, by omega⟩), ob];rfl
theorem wP {c : Cf} {n : Nd} {inp : Vw} {o : List Of} (hf : lw c n inp o) : (fb c n o).1.length ≤ 8 ∧ ∀ y ∈ (fb c n o).1, y.V.B.length ≤ 500 ∧ y.V.V.length ≤ 500 := by
 obtain ⟨h1, h2, -⟩ := gN n.Tick c (aA n) n.Full (n.O ++ o);exact ⟨h1, fun y hy => hf.offs y (h2 y hy).1⟩
theorem Bs {c : Cf} {n : Nd} {inp : Vw} {o : List Of} (hf : lw c n inp o) (h : eT c n = false) (h0 : n.Tick.tmod 3 = 0) :
  iP c n inp o = some (Nd.mk n.No (IntKind.i64.wrap (n.Tick + 1)) (dh (bN c n inp o) c (aA n)).1 (dh (bN c n inp o) c (aA n)).2.1 (fb c n o).1 n.C (dh (bN c n inp o) c (aA n)).2.2.1, (dh (bN c n inp o) c (aA n)).2.2.2) := by
 have hi : (mE c n inp).B.length ≤ 500 ∧ (mE c n inp).V.length ≤ 500 := hf.ins;rw [pI hf h];obtain ⟨⟨a1, a2⟩, -⟩ := hf;rw [beq_iff_eq.2 h0, ct, yR (by show n.V.B.length ≤ 500; omega) (by show n.V.V.length ≤ 500; omega) (by show (mE c n inp).B.length ≤ 500; omega) (by show (mE c n inp).V.length ≤ 500; omega), ob]
theorem Bt {c : Cf} {n : Nd} {inp : Vw} {o : List Of} (hf : lw c n inp o) (h : eT c n = false) (h1 : n.Tick.tmod 3 = 1) :
  iP c n inp o = some (Nd.mk n.No (IntKind.i64.wrap (n.Tick + 1)) (d7 (bN c n inp o) (fb c n o).1 c (aA n)).1 (d7 (bN c n inp o) (fb c n o).1 c (aA n)).2.1 [] n.C (d7 (bN c n inp o) (fb c n o).1 c (aA n)).2.2, []) := by
 have hi : (mE c n inp).B.length ≤ 500 ∧ (mE c n inp).V.length ≤ 500 := hf.ins;obtain ⟨hr1, hr2⟩ := wP hf;rw [pI hf h];obtain ⟨⟨a1, a2⟩, -⟩ := hf;rw [show ((n.Tick.tmod 3) == 0) = false by rw [h1]; rfl, cf, beq_iff_eq.2 h1, ct, wm (by show n.V.B.length ≤ 500; omega) (by show n.V.V.length ≤ 500; omega) (by show (mE c n inp).B.length ≤ 500; omega) (by show (mE c n inp).V.length ≤ 500; omega) hr1 hr2, ob]
theorem Bu {c : Cf} {n : Nd} {inp : Vw} {o : List Of} (hf : lw c n inp o) (h : eT c n = false) (h2 : n.Tick.tmod 3 = 2) :
  ∃ cu, iP c n inp o = some (Nd.mk n.No (IntKind.i64.wrap (n.Tick + 1)) (az c n.V (mE c n inp) (aA n)).1 (az c n.V (mE c n inp) (aA n)).2.1 [] cu ((fb c n o).2 || (az c n.V (mE c n inp) (aA n)).2.2), []) := by
 have hi : (mE c n inp).B.length ≤ 500 ∧ (mE c n inp).V.length ≤ 500 := hf.ins
 have hm : dA c := by
  have := of_decide_eq_false h;exact Decidable.not_not.1 fun h => this<|.inl h
 rw [pI hf h];obtain ⟨⟨a1, a2⟩, -⟩ := hf;obtain ⟨cu, e⟩ := y0 (x := bN c n inp o) (slot := aA n) hm (by show n.V.B.length ≤ 500; omega) (by show n.V.V.length ≤ 500; omega) (by show (mE c n inp).B.length ≤ 500; omega) (by show (mE c n inp).V.length ≤ 500; omega);rw [show ((n.Tick.tmod 3) == 0) = false by rw [h2]; rfl, cf, show ((n.Tick.tmod 3) == 1) = false by rw [h2]; rfl, cf, beq_iff_eq.2 h2, ct, e, ob];exact ⟨cu, rfl⟩
theorem Dn {n : Nd} {c : Cf} (h : eT c n = false) : n.Tick.tmod 3 = 0 ∨ n.Tick.tmod 3 = 1 ∨ n.Tick.tmod 3 = 2 := by
 have h3 : ¬ n.Tick < 3 := fun h2 => (of_decide_eq_false h) (.inr (.inl h2));rw [Int.tmod_eq_emod_of_nonneg (by omega)];omega
theorem ml {b : Bk} {n : Nd} : b ∈ (bX n).B ↔ b ∈ n.V.B ∨ b ∈ n.In.B := fz b _ _
theorem mm {v : Vt} {n : Nd} : v ∈ (bX n).V ↔ v ∈ n.V.V ∨ v ∈ n.In.V := fz v _ _
theorem cI {b : Bk} {x y : Vw} : b ∈ (aH x y).B ↔ b ∈ x.B ∨ b ∈ y.B := fz b _ _
theorem dZ {v : Vt} {x y : Vw} : v ∈ (aH x y).V ↔ v ∈ x.V ∨ v ∈ y.V := fz v _ _
theorem qY {n : Nd} (h1 : 3 ≤ n.Tick) (h2 : n.Tick ≤ 1000000) : aA n = n.Tick / 3 ∧ 1 ≤ aA n ∧ aA n ≤ 333333 := by
 unfold aA;rw [Int.tdiv_eq_ediv_of_nonneg (by omega), cv (by omega) (by omega)];omega
theorem Ev {c : Cf} {n : Nd} (hm : dA c) (h1 : 3 ≤ n.Tick) (h2 : n.Tick ≤ 1000000) : eT c n = false := by
 have := qY h1 h2;unfold aA at this;refine decide_eq_false ?_;rintro (h | h | h)
 ·exact h hm
 ·omega
 ·omega
def im (c : Cf) (v w : Vw) : Prop := ea c w ∧ w.B.take v.B.length = v.B ∧ w.V.take v.V.length = v.V
theorem mh {c : Cf} {v : Vw} (h : ea c v) : im c v v := ⟨h, List.take_length, List.take_length⟩
theorem vX {α : Type} {a b d : List α} (h1 : b.take a.length = a) (h2 : d.take b.length = b) : d.take a.length = a := by
 have hl := congrArg List.length h1;rw [List.length_take] at hl
 have e : d.take a.length = (d.take b.length).take a.length := by
  rw [List.take_take];congr 1;omega
 rw [e, h2, h1]
theorem oP {c : Cf} {u v w : Vw} (h1 : im c u v) (h2 : im c v w) : im c u w := ⟨h2.1, vX h1.2.1 h2.2.1, vX h1.2.2 h2.2.2⟩
theorem cA {c : Cf} {v : Vw} (h : ea c v) (i : Vw) (s : Int) : im c v (az c v i s).1 := by
 have ht := ph h i s;obtain ⟨h1, h2⟩ := AH ht;exact ⟨ht.may, h1, h2⟩
theorem vk {x : Nd} {c : Cf} {slot : Int} (h : ea c x.V) : im c x.V (dh x c slot).1 := by
 unfold dh;split
 ·exact oP (cA h _ _)<|cA (cA h _ _).1 _ _
 ·exact mh h
theorem mg {c : Cf} {slot : Int} : ∀ (o : List Of) (s : Vw × Vw × Bool), ea c s.1 → im c s.1 (o.foldl (fd c slot) s).1
 | [], s, h => mh h
 | y :: r, s, h => by
  rw [List.foldl_cons];have h1 : im c s.1 (fd c slot s y).1 := cA h _ _;exact oP h1<|mg r _ h1.1
theorem tr {x : Nd} {o : List Of} {c : Cf} {slot : Int} (h : ea c x.V) : im c x.V (d7 x o c slot).1 := by
 unfold d7;split
 ·exact mg o _ h
 ·exact mg o _ h
noncomputable def ch (c : Cf) (n : Nd) (inp : Vw) (o : List Of) : Nd × List Of := (iP c n inp o).getD (n, [])
theorem sG {c : Cf} {n : Nd} {inp : Vw} {o : List Of} (hf : lw c n inp o) (h : eT c n = true) : iP c n inp o = some (ch c n inp o) ∧ ch c n inp o = (n, []) := by
 have e := ud hf h;unfold ch;rw [e];exact ⟨rfl, rfl⟩
theorem jj {c : Cf} {n : Nd} {inp : Vw} {o : List Of} (hf : lw c n inp o) : iP c n inp o = some (ch c n inp o) ∧
    ((eT c n = true ∧ ch c n inp o = (n, [])) ∨
     (eT c n = false ∧ n.Tick.tmod 3 = 0 ∧ ch c n inp o = (Nd.mk n.No (IntKind.i64.wrap (n.Tick + 1)) (dh (bN c n inp o) c (aA n)).1 (dh (bN c n inp o) c (aA n)).2.1 (fb c n o).1 n.C (dh (bN c n inp o) c (aA n)).2.2.1, (dh (bN c n inp o) c (aA n)).2.2.2)) ∨
     (eT c n = false ∧ n.Tick.tmod 3 = 1 ∧ ch c n inp o = (Nd.mk n.No (IntKind.i64.wrap (n.Tick + 1)) (d7 (bN c n inp o) (fb c n o).1 c (aA n)).1 (d7 (bN c n inp o) (fb c n o).1 c (aA n)).2.1 [] n.C (d7 (bN c n inp o) (fb c n o).1 c (aA n)).2.2, [])) ∨
     (eT c n = false ∧ n.Tick.tmod 3 = 2 ∧ ∃ cu, ch c n inp o = (Nd.mk n.No (IntKind.i64.wrap (n.Tick + 1)) (az c n.V (mE c n inp) (aA n)).1 (az c n.V (mE c n inp) (aA n)).2.1 [] cu ((fb c n o).2 || (az c n.V (mE c n inp) (aA n)).2.2), []))) := by
  cases hid : eT c n with
  | true => exact ⟨(sG hf hid).1, .inl ⟨rfl, (sG hf hid).2⟩⟩
  | false =>
    rcases Dn hid with h | h | h
    · have e := Bs hf hid h;unfold ch;rw [e];exact ⟨rfl, .inr (.inl ⟨rfl, h, rfl⟩)⟩
    · have e := Bt hf hid h;unfold ch;rw [e];exact ⟨rfl, .inr (.inr (.inl ⟨rfl, h, rfl⟩))⟩
    · obtain ⟨cu, e⟩ := Bu hf hid h;unfold ch;rw [e];exact ⟨rfl, .inr (.inr (.inr ⟨rfl, h, cu, rfl⟩))⟩
def eK (P : Bk → Prop) (Q : Vt → Prop) (v : Vw) : Prop := (∀ b ∈ v.B, P b) ∧ ∀ x ∈ v.V, Q x
def lv (P : Bk → Prop) (Q : Vt → Prop) (o : Of) : Prop := P o.B ∧ eK P Q o.V
def rn (P : Bk → Prop) (Q : Vt → Prop) (n : Nd) : Prop := eK P Q n.V ∧ eK P Q n.In ∧ ∀ o ∈ n.O, lv P Q o
section
variable {P : Bk → Prop} {Q : Vt → Prop}
theorem p3 : eK P Q ⟨[], []⟩ := ⟨fun b hb => (by cases hb), fun x hx => (by cases hx)⟩
theorem dW {a b : Vw} (h1 : eK P Q a) (h2 : eK P Q b) : eK P Q (aH a b) := ⟨fun x hx => (cI.1 hx).elim (h1.1 x) (h2.1 x), fun x hx => (dZ.1 hx).elim (h1.2 x) (h2.2 x)⟩
theorem nN {c : Cf} {a : Vw} (h : eK P Q a) : eK P Q (a8 c a) := ⟨fun x hx => h.1 x (List.mem_filter.1 hx).1, fun x hx => h.2 x (List.mem_filter.1 hx).1⟩
theorem i4 (c : Cf) {w i : Vw} (s : Int) (h1 : eK P Q w) (h2 : eK P Q i) : eK P Q (az c w i s).1 ∧ eK P Q (az c w i s).2.1 := by
 by_cases h : ea c w
 ·have ht := ph h i s;obtain ⟨t, e, h3⟩ := ht.preB;obtain ⟨u, e2, h4⟩ := ht.preV;refine ⟨⟨fun b hb => ?_, fun v hv => ?_⟩, fun b hb => h2.1 b (List.mem_filter.1 (ht.subB.subset hb)).1, fun v hv => h2.2 v (List.mem_filter.1 (ht.subV.subset hv)).1⟩
  ·rw [e] at hb;rcases List.mem_append.1 hb with hb | hb
   ·exact h1.1 b hb
   ·exact h2.1 b (List.mem_filter.1 (h3 b hb).1).1
  ·rw [e2] at hv;rcases List.mem_append.1 hv with hv | hv
   ·exact h1.2 v hv
   ·exact h2.2 v (List.mem_filter.1 (h4 v hv).1).1
 ·have e : az c w i s = (w, i, false) := by unfold az; rw [if_neg h]
  rw [e];exact ⟨h1, h2⟩
theorem rR (c : Cf) (s : Int) : ∀ (o : List Of) (x : Vw × Vw × Bool), (∀ y ∈ o, lv P Q y) → eK P Q x.1 → eK P Q x.2.1 → eK P Q (o.foldl (fd c s) x).1 ∧ eK P Q (o.foldl (fd c s) x).2.1
 | [], x, _, h1, h2 => ⟨h1, h2⟩
 | y :: r, x, h, h1, h2 => by
  rw [List.foldl_cons];have hy := h y (List.mem_cons_self ..);obtain ⟨a1, a2⟩ := i4 c (i := aH y.V ⟨[y.B], []⟩) s h1 (dW hy.2 ⟨fun b hb => by rw [List.mem_singleton.1 hb]; exact hy.1, fun x hx => (by cases hx)⟩);exact rR c s r _ (fun z hz => h z (List.mem_cons_of_mem _ hz)) a1<|dW h2 a2
noncomputable def sK (c : Cf) (n : Nd) (inp : Vw) (o : List Of) : Vt := ⟨n.No, aA n, cE c (bf (bN c n inp o) (fb c n o).1 c (aA n)).1.B (cy c (bf (bN c n inp o) (fb c n o).1 c (aA n)).1.V (IntKind.i64.wrap (aA n - 1)))⟩
theorem vU {c : Cf} {n : Nd} {inp : Vw} {o : List Of} (hf : lw c n inp o) (hn : rn P Q n) (hi : eK P Q inp) (ho : ∀ y ∈ o, lv P Q y)
  (hp : eT c n = false → n.Tick.tmod 3 = 0 → n.No = j7 c (aA n) → P (kL (bN c n inp o) c (aA n)))
  (hv : eT c n = false → n.Tick.tmod 3 = 1 → n.No ∈ lz c (aA n) → Q (sK c n inp o)) : rn P Q (ch c n inp o).1 ∧ ∀ y ∈ (ch c n inp o).2, lv P Q y := by
 obtain ⟨n1, n2, n3⟩ := id hn;have hin : eK P Q (mE c n inp) := dW n2 (nN hi)
 have hh : ∀ y ∈ (fb c n o).1, lv P Q y := fun y hy => by
  rcases List.mem_append.1 ((gN n.Tick c (aA n) n.Full (n.O ++ o)).2.1 y hy).1 with h | h
  ·exact n3 y h
  ·exact ho y h
 rcases (jj hf).2 with ⟨-, e⟩ | ⟨hid, ht, e⟩ | ⟨hid, ht, e⟩ | ⟨hid, ht, cu, e⟩
 ·rw [e];exact ⟨hn, fun y hy => by cases hy⟩
 ·rw [e];by_cases h : n.No = j7 c (aA n)
  ·have hb := hp hid ht h;unfold dh;rw [if_pos (show (bN c n inp o).No = j7 c (aA n) from h)];obtain ⟨a1, a2⟩ := i4 c (aA n) n1 hin;have a3 := (i4 c (i := ⟨[kL (bN c n inp o) c (aA n)], []⟩) (aA n) a1 ⟨fun b hb' => by rw [List.mem_singleton.1 hb']; exact hb, fun x hx => (by cases hx)⟩).1;refine ⟨⟨a3, a2, hh⟩, fun y hy => ?_⟩;rw [List.mem_singleton.1 hy];exact ⟨hb, a1⟩
  ·unfold dh;rw [if_neg (show (bN c n inp o).No ≠ j7 c (aA n) from h)];exact ⟨⟨n1, hin, hh⟩, fun y hy => by cases hy⟩
 ·rw [e];obtain ⟨a1, a2⟩ := rR c (aA n) (fb c n o).1 (n.V, mE c n inp, (fb c n o).2) hh n1 hin;refine ⟨?_, fun y hy => by cases hy⟩;unfold d7;by_cases h : n.No ∈ lz c (aA n)
  ·rw [if_pos (show (bN c n inp o).No ∈ lz c (aA n) from h)];refine ⟨a1, dW a2 ⟨fun b hb => (by cases hb), fun x hx => ?_⟩, fun y hy => by cases hy⟩;rw [List.mem_singleton.1 hx];exact hv hid ht h
  ·rw [if_neg (show (bN c n inp o).No ∉ lz c (aA n) from h)];exact ⟨a1, a2, fun y hy => by cases hy⟩
 ·rw [e];obtain ⟨a1, a2⟩ := i4 c (aA n) n1 hin;exact ⟨⟨a1, a2, fun y hy => by cases hy⟩, fun y hy => by cases hy⟩
end
def wa (v : Vw) : Prop := v.B.Nodup ∧ v.V.Nodup
theorem kH {a b : Vw} (h : wa a) : wa (aH a b) := ⟨fV h.1, fV h.2⟩
theorem vD {c : Cf} {a : Vw} (h : wa a) : wa (a8 c a) := ⟨h.1.sublist List.filter_sublist, h.2.sublist List.filter_sublist⟩
theorem vC {c : Cf} {w i : Vw} {s : Int} (hw : ea c w) (h : wa i) : wa (az c w i s).2.1 := by
 have ht := ph hw i s;exact ⟨(vD h).1.sublist ht.subB, (vD h).2.sublist ht.subV⟩
theorem vB (c : Cf) (s : Int) : ∀ (o : List Of) (x : Vw × Vw × Bool), wa x.2.1 → wa (o.foldl (fd c s) x).2.1
 | [], x, h => h
 | y :: r, x, h => by
  rw [List.foldl_cons];exact vB c s r _<|kH h
theorem ji {c : Cf} {n : Nd} {inp : Vw} {o : List Of} (hf : lw c n inp o) (hm : ea c n.V) (hd : wa n.In) (h8 : n.O.length ≤ 8) :
  (ch c n inp o).1.No = n.No ∧ ((ch c n inp o).1.Tick = if eT c n = true then n.Tick else IntKind.i64.wrap (n.Tick + 1)) ∧ im c n.V (ch c n inp o).1.V ∧ wa (ch c n inp o).1.In ∧ (ch c n inp o).1.O.length ≤ 8 ∧
   ((ch c n inp o).2 ≠ [] → eT c n = false ∧ n.Tick.tmod 3 = 0 ∧ n.No = j7 c (aA n)) ∧ (ch c n inp o).2.length ≤ 1 ∧ (∀ y ∈ (ch c n inp o).1.O, y ∈ n.O ++ o) ∧ ∀ y ∈ (ch c n inp o).2, ea c y.V := by
 have hdi : wa (mE c n inp) := kH hd;have hh := (gN n.Tick c (aA n) n.Full (n.O ++ o)).1;have ho := fun y hy => ((gN n.Tick c (aA n) n.Full (n.O ++ o)).2.1 y hy).1;rcases (jj hf).2 with ⟨hid, e⟩ | ⟨hid, ht, e⟩ | ⟨hid, ht, e⟩ | ⟨hid, ht, cu, e⟩
 ·rw [e, hid];exact ⟨rfl, rfl, mh hm, hd, h8, fun h => absurd Z h, by simp, fun y hy => List.mem_append_left _ hy, fun y hy => by cases hy⟩
 ·rw [e, hid];refine ⟨rfl, rfl, vk (x := bN c n inp o) hm, ?_, hh, ?_, ?_, ho, ?_⟩
  ·unfold dh;split
   ·exact vC hm hdi
   ·exact hdi
  ·unfold dh;split
   ·rename_i h;exact fun _ => ⟨rfl, ht, h⟩
   ·exact fun h => absurd Z h
  ·unfold dh;split <;> simp
  ·unfold dh;split
   ·intro y hy;rw [List.mem_singleton.1 hy];exact (cA hm _ _).1
   ·exact fun y hy => by cases hy
 ·rw [e, hid];refine ⟨rfl, rfl, tr (x := bN c n inp o) hm, ?_, by simp, fun h => absurd Z h, by simp, fun y hy => (by cases hy), fun y hy => (by cases hy)⟩;have := vB c (aA n) (fb c n o).1 (n.V, mE c n inp, (fb c n o).2) hdi;unfold d7;split
  ·exact kH this
  ·exact this
 ·rw [e, hid];exact ⟨rfl, rfl, cA hm _ _, vC hm hdi, by simp, fun h => absurd Z h, by simp, fun y hy => (by cases hy), fun y hy => (by cases hy)⟩
def G3 (to at_ : Int) : Bool := (bits .and .i64 (to.fdiv (2 ^ (min (Int.toNat at_) IntKind.i64.bits))) 1) == 0
def lI (bad : List Int) (al : Vw) (a : Ac) : Vw := ⟨a.B.filter fun b => decide (b.From ∈ bad ∨ b ∈ al.B), a.V.filter fun v => decide (v.From ∈ bad ∨ v ∈ al.V)⟩
def ck (slot wh : Int) (bad : List Int) (al : Vw) (me : Bool) (at_ : Int) (s : Vw × List Of) (a : Ac) : Vw × List Of :=
 if G3 a.To at_ = true then s
 else if a.Offer = false then (aH s.1 (lI bad al a), s.2)
 else if me = true then
  match (lI bad al a).B with
  | [] => s
  | b :: r => (s.1, s.2 ++ [⟨slot, wh, b, ⟨r, (lI bad al a).V⟩⟩])
 else s
def lM (w : Wd) : Int := IntKind.i64.wrap (w.Tick.tdiv 3)
def eM (w : Wd) (l : List Ac) : List Ac := l.filter fun a => decide (a.Tick = w.Tick ∧ a.To ≥ 0)
def cC (w : Wd) : Vw := ge w.N ⟨[], []⟩
def fi (w : Wd) : Int := j7 w.C (lM w)
def aC (w : Wd) (l : List Ac) (k : Nat) : Vw × List Of := (eM w l).foldl (ck (lM w) (fi w) w.Bad (cC w) (decide (fi w ∈ w.Bad)) (k : Int)) (cC w, w.O)
noncomputable def fZ (w : Wd) (l : List Ac) : List (Nd × List Of) := w.N.zipIdx.map fun p => ch w.C p.1 (aC w l p.2).1 (aC w l p.2).2
def oM (w : Wd) : Bool := decide (¬ dA w.C ∨ w.Tick < 3 ∨ w.Tick ≥ 3145728)
noncomputable def ff (w : Wd) (l : List Ac) : Wd := if oM w = true then w else ⟨w.C, w.Bad, IntKind.i64.wrap (w.Tick + 1), (fZ w l).map (·.1), (fZ w l).flatMap (·.2)⟩
structure rp (w : Wd) : Prop where
 n : w.N.length ≤ 10
 nodes : ∀ n ∈ w.N, ks 500 n
 o : w.O.length ≤ 20
 offs : ∀ o ∈ w.O, kt 500 o.V
 bad : w.Bad.length ≤ 100
structure ly (l : List Ac) : Prop where
 len : l.length ≤ 30
 each : ∀ a ∈ l, a.B.length ≤ 8 ∧ a.V.length ≤ 8
theorem pN {v : Vw} (h1 : v.B.length ≤ 1000) (h2 : v.V.length ≤ 1000) : mL v = some v := by
 unfold mL;rw [aP (by omega) (by omega), ct, aP (by omega) (by omega), ct]
theorem ul {l : List Of} (hl : l.length ≤ 1000) (hs : ∀ o ∈ l, nK o) : oH l = some l := by
 have e := aB (step := iX l) (n := l.length) (fun k => er.mk (k : Int)) (er.mk (l.length : Int)) (fun k hk => by
  obtain ⟨y, hy, hm⟩ := aD hk;have := hs y hm;unfold iX;simp only
  rw [decide_eq_true (show (k : Int) < (l.length : Int) by omega), ct, aG hy, ob, pN this.1 this.2, ob, ob, ak (n := k) (by omega)]) (by
  unfold iX;simp only
  rw [decide_eq_false (show ¬ (l.length : Int) < (l.length : Int) by omega), cf]) (by omega)
 have e' : iter (iX l) bG (er.mk 0) = _ := e;unfold oH;rw [aP (by omega) (by omega), ct, e', ob]
theorem BI {w : Wd} (h : rp w) : oG w = some w := by
 have hN : w.N.length ≤ 10 := h.n
 have e := aB (step := iW w) (n := w.N.length) (fun k => ep.mk (k : Int)) (ep.mk (w.N.length : Int)) (fun k hk => by
  obtain ⟨y, hy, hm⟩ := aD hk;obtain ⟨⟨a1, a2⟩, ⟨b1, b2⟩, c1, c2⟩ := h.nodes y hm;unfold iW;simp only
  rw [decide_eq_true (show (k : Int) < (w.N.length : Int) by omega), ct, aG hy, ob, pN (by omega) (by omega), ob, pN (by omega) (by omega), ob, ul (by omega) (vS (by omega) c2), ob, ak (n := k) (by omega)]) (by
  unfold iW;simp only
  rw [decide_eq_false (show ¬ (w.N.length : Int) < (w.N.length : Int) by omega), cf]) (by omega)
 have e' : iter (iW w) bG (ep.mk 0) = _ := e;unfold oG;have := h.bad;have := h.o;rw [aP (by omega) (by omega), ct, aP (by omega) (by omega), ct, ul (by omega) (vS (by omega) h.offs), ob, e', ob]
theorem BT {w : Wd} {al : Vw} (x : Bk) (hb : w.Bad.length ≤ 100) (hl : al.B.length ≤ 100000) : uv x w al = some (decide (x.From ∈ w.Bad ∨ x ∈ al.B)) := by
 unfold uv yW;rw [mI (by omega), ob, ob];by_cases h : x.From ∈ w.Bad
 ·rw [decide_eq_true h, ct, decide_eq_true (.inl h)]
 ·rw [decide_eq_false h, cf, xF hl, ob];by_cases h2 : x ∈ al.B
  ·rw [decide_eq_true h2, decide_eq_true (.inr h2)]
  ·rw [decide_eq_false h2, decide_eq_false fun h3 => h3.elim h h2]
theorem BU {w : Wd} {al : Vw} (x : Vt) (hb : w.Bad.length ≤ 100) (hl : al.V.length ≤ 100000) : uw x w al = some (decide (x.From ∈ w.Bad ∨ x ∈ al.V)) := by
 unfold uw yW;rw [mI (by omega), ob, ob];by_cases h : x.From ∈ w.Bad
 ·rw [decide_eq_true h, ct, decide_eq_true (.inl h)]
 ·rw [decide_eq_false h, cf, xG hl, ob];by_cases h2 : x ∈ al.V
  ·rw [decide_eq_true h2, decide_eq_true (.inr h2)]
  ·rw [decide_eq_false h2, decide_eq_false fun h3 => h3.elim h h2]
theorem yY {l : List Bk} {w : Wd} {al : Vw} (hl : l.length ≤ 100000) (hb : w.Bad.length ≤ 100) (ha : al.B.length ≤ 100000) : pT l w al = some (l.filter fun x => decide (x.From ∈ w.Bad ∨ x ∈ al.B)) := by
 have e := aB (step := gp l w al) (n := l.length) (fun k => cU.mk (k : Int) ((l.take k).filter fun x => decide (x.From ∈ w.Bad ∨ x ∈ al.B))) (cU.mk (l.length : Int) (l.filter fun x => decide (x.From ∈ w.Bad ∨ x ∈ al.B))) (fun k hk => by
  obtain ⟨y, hy, -⟩ := aD hk;have hlen := dv (p := fun x : Bk => decide (x.From ∈ w.Bad ∨ x ∈ al.B)) (l := l) k;unfold gp;simp only;rw [decide_eq_true (show (k : Int) < (l.length : Int) by omega), ct, aG hy, ob, BT y hb ha, ob, bO hy, ak (n := k) (by omega)]
  cases decide (y.From ∈ w.Bad ∨ y ∈ al.B) with
  | true => rw [ct, aP (by simp only [List.length_singleton]; omega) (by omega), ct, ct]
  | false => rw [cf, cf, List.append_nil]) (by
  unfold gp;simp only
  rw [decide_eq_false (show ¬ (l.length : Int) < (l.length : Int) by omega), cf, List.take_length]) (by omega)
 have e' : iter (gp l w al) bG (cU.mk 0 []) = _ := e;unfold pT;rw [e', ob]
theorem yZ {l : List Vt} {w : Wd} {al : Vw} (hl : l.length ≤ 100000) (hb : w.Bad.length ≤ 100) (ha : al.V.length ≤ 100000) : pU l w al = some (l.filter fun x => decide (x.From ∈ w.Bad ∨ x ∈ al.V)) := by
 have e := aB (step := gq l w al) (n := l.length) (fun k => cV.mk (k : Int) ((l.take k).filter fun x => decide (x.From ∈ w.Bad ∨ x ∈ al.V))) (cV.mk (l.length : Int) (l.filter fun x => decide (x.From ∈ w.Bad ∨ x ∈ al.V))) (fun k hk => by
  obtain ⟨y, hy, -⟩ := aD hk;have hlen := dv (p := fun x : Vt => decide (x.From ∈ w.Bad ∨ x ∈ al.V)) (l := l) k;unfold gq;simp only;rw [decide_eq_true (show (k : Int) < (l.length : Int) by omega), ct, aG hy, ob, BU y hb ha, ob, bO hy, ak (n := k) (by omega)]
  cases decide (y.From ∈ w.Bad ∨ y ∈ al.V) with
  | true => rw [ct, aP (by simp only [List.length_singleton]; omega) (by omega), ct, ct]
  | false => rw [cf, cf, List.append_nil]) (by
  unfold gq;simp only
  rw [decide_eq_false (show ¬ (l.length : Int) < (l.length : Int) by omega), cf, List.take_length]) (by omega)
 have e' : iter (gq l w al) bG (cV.mk 0 []) = _ := e;unfold pU;rw [e', ob]
theorem BP {a : Ac} {w : Wd} {al : Vw} (h1 : a.B.length ≤ 1000) (h2 : a.V.length ≤ 1000) (hb : w.Bad.length ≤ 100) (h3 : al.B.length ≤ 100000) (h4 : al.V.length ≤ 100000) : uq a w al = some (lI w.Bad al a) := by
 unfold uq;rw [yY (by omega) hb h3, ob, yZ (by omega) hb h4, ob];rfl
theorem yX {l : List Ac} {w : Wd} (hl : l.length ≤ 100000) : pS l w = some (eM w l) := by
 have e := aB (step := gn l w) (n := l.length) (fun k => cT.mk (k : Int) (eM w (l.take k))) (cT.mk (l.length : Int) (eM w l)) (fun k hk => by
  obtain ⟨y, hy, -⟩ := aD hk;have hlen := dv (p := fun a : Ac => decide (a.Tick = w.Tick ∧ a.To ≥ 0)) (l := l) k;unfold eM at hlen ⊢;unfold gn Ei;simp only;rw [decide_eq_true (show (k : Int) < (l.length : Int) by omega), ct, aG hy, ob, bO hy, ak (n := k) (by omega)];by_cases h1 : y.Tick = w.Tick
  ·rw [beq_iff_eq.2 h1, ct, ob];by_cases h2 : y.To ≥ 0
   ·rw [decide_eq_true h2, ct, decide_eq_true ⟨h1, h2⟩, ct, aP (by simp only [List.length_singleton]; omega) (by omega), ct]
   ·rw [decide_eq_false h2, cf, decide_eq_false fun h => h2 h.2, cf, List.append_nil]
  ·rw [show (y.Tick == w.Tick) = false by simp [h1], cf, ob, cf, decide_eq_false fun h => h1 h.1, cf, List.append_nil]) (by
  unfold gn;simp only
  rw [decide_eq_false (show ¬ (l.length : Int) < (l.length : Int) by omega), cf, List.take_length]) (by omega)
 have e' : iter (gn l w) bG (cT.mk 0 []) = _ := e;unfold pS;rw [e', ob]
theorem sZ {w : Wd} (h : rp w) : (cC w).B.length ≤ 10000 ∧ (cC w).V.length ≤ 10000 := by
 have h1 := p0 (l := w.N) (w := ⟨[], []⟩) (k := 500) h.nodes;have h2 := h.n;unfold cC;simp only [List.length_nil] at h1;omega
theorem BS {w : Wd} {l : List Ac} (h : rp w) (hl : l.length ≤ 100000) : uu w l = some (cC w, fi w, decide (fi w ∈ w.Bad), eM w l) := by
 unfold uu;rw [rF (by have := h.n; omega) h.nodes, ob, sP, ob, mI (by have := h.bad; omega), ob, yX hl, ob];rfl
theorem qj (bad : List Int) (al : Vw) (a : Ac) : (lI bad al a).B.length ≤ a.B.length ∧ (lI bad al a).V.length ≤ a.V.length := ⟨List.length_filter_le _ _, List.length_filter_le _ _⟩
theorem xg {slot wh : Int} {bad : List Int} {al : Vw} {me : Bool} {k : Int} : ∀ {l : List Ac} {s : Vw × List Of}, (∀ a ∈ l, a.B.length ≤ 8 ∧ a.V.length ≤ 8) → (l.foldl (ck slot wh bad al me k) s).1.B.length ≤ s.1.B.length + 8 * l.length ∧ (l.foldl (ck slot wh bad al me k) s).1.V.length ≤ s.1.V.length + 8 * l.length ∧ (l.foldl (ck slot wh bad al me k) s).2.length ≤ s.2.length + l.length
 | [], s, _ => by simp
 | a :: r, s, h => by
  rw [List.foldl_cons, List.length_cons];obtain ⟨h1, h2⟩ := h a (List.mem_cons_self ..);have ih := xg (slot := slot) (wh := wh) (bad := bad) (al := al) (me := me) (k := k) (l := r) (s := ck slot wh bad al me k s a) fun b hb => h b (List.mem_cons_of_mem _ hb);have hf := qj bad al a;have hj := gt s.1 (lI bad al a)
  have : (ck slot wh bad al me k s a).1.B.length ≤ s.1.B.length + 8 ∧ (ck slot wh bad al me k s a).1.V.length ≤ s.1.V.length + 8 ∧ (ck slot wh bad al me k s a).2.length ≤ s.2.length + 1 := by
   unfold ck;split
   ·omega
   ·split
    ·simp only; omega
    ·split
     ·split
      ·omega
      ·simp only [List.length_append, List.length_singleton]; omega
     ·omega
  omega
theorem Gd {w : Wd} {l : List Ac} (h : rp w) (hl : ly l) (k : Nat) : HH w (cC w) (fi w) (decide (fi w ∈ w.Bad)) (eM w l) (k : Int) = some (aC w l k) := by
 have hal := sZ h;have hcl : (eM w l).length ≤ 30 := Nat.le_trans (List.length_filter_le _ _) hl.len;have hce : ∀ a ∈ eM w l, a.B.length ≤ 8 ∧ a.V.length ≤ 8 := fun a ha => hl.each a (List.mem_filter.1 ha).1;unfold aC;generalize eM w l = cl at hcl hce;generalize hst : ck (lM w) (fi w) w.Bad (cC w) (decide (fi w ∈ w.Bad)) (k : Int) = st;have ho := h.o;have hb := h.bad
 have e := aB (step := nJ w (cC w) (fi w) (decide (fi w ∈ w.Bad)) cl (k : Int)) (n := cl.length) (fun j => ft.mk (j : Int) ((cl.take j).foldl st (cC w, w.O)).1 ((cl.take j).foldl st (cC w, w.O)).2) (ft.mk (cl.length : Int) (cl.foldl st (cC w, w.O)).1 (cl.foldl st (cC w, w.O)).2) (fun j hj => by
  obtain ⟨y, hy, hm⟩ := aD hj
  have et : cl.take (j + 1) = cl.take j ++ [y] := by rw [List.take_add_one, hy]; rfl
  have hlen := xg (slot := lM w) (wh := fi w) (bad := w.Bad) (al := cC w) (me := decide (fi w ∈ w.Bad)) (k := (k : Int)) (l := cl.take j) (s := (cC w, w.O)) fun a ha => hce a (List.mem_of_mem_take ha);rw [hst, List.length_take] at hlen;obtain ⟨y1, y2⟩ := hce y hm;have hf := qj w.Bad (cC w) y;unfold nJ;simp only;rw [et, List.foldl_append, List.foldl_cons, List.foldl_nil];generalize (cl.take j).foldl st (cC w, w.O) = s at hlen ⊢;simp only at hlen;rw [decide_eq_true (show (j : Int) < (cl.length : Int) by omega), ct, aG hy, ob, decide_eq_true (show (0 : Int) ≤ (k : Int) by omega), ct, ak (n := j) (by omega), ← hst];show (bif G3 y.To (k : Int) then _ else _) = _;unfold ck
  cases hof : G3 y.To (k : Int) with
  | true => rw [ct, if_pos rfl]
  | false =>
   rw [cf, if_neg (by simp), BP (by omega) (by omega) hb (by omega) (by omega), ob]
   cases hoff : y.Offer with
   | false => rw [Bool.not_false, ct, if_pos rfl, iB (by omega) (by omega), ob]
   | true =>
    rw [Bool.not_true, cf, if_neg (by simp)]
    cases hme : decide (fi w ∈ w.Bad) with
    | false => rw [cf, ob, cf, if_neg (by simp)]
    | true =>
     rw [ct, ob, if_pos rfl]
     cases hB : (lI w.Bad (cC w) y).B with
     | nil => rfl
     | cons b r =>
      rw [decide_eq_true (by simp), ct];show (bif Hi (b :: r) 1 (b :: r).length then _ else none) = _;rw [show Hi (b :: r) 1 ((b :: r).length : Int) = true from decide_eq_true (by simp only [List.length_cons]; omega), ct, aP (by simp only [List.length_singleton]; omega) (by omega), ct]
      rfl) (by
  unfold nJ;simp only
  rw [decide_eq_false (show ¬ (cl.length : Int) < (cl.length : Int) by omega), cf, List.take_length]) (by omega)
 have e' : iter (nJ w (cC w) (fi w) (decide (fi w ∈ w.Bad)) cl (k : Int)) bG (ft.mk 0 (cC w) w.O) = _ := e;unfold HH;rw [aP (by omega) (by omega), ct, e', ob]
theorem fw {w : Wd} {l : List Ac} {k : Nat} {n : Nd} (h : w.N[k]? = some n) : (fZ w l)[k]? = some (ch w.C n (aC w l k).1 (aC w l k).2) := by
 unfold fZ;rw [List.getElem?_map, List.getElem?_zipIdx, h];simp
theorem fx (w : Wd) (l : List Ac) : (fZ w l).length = w.N.length := by
 unfold fZ;rw [List.length_map, List.length_zipIdx]
theorem wQ (w : Wd) : ((yP w.C).bind fun v2 => bif !v2 then some true else bif decide (w.Tick < 3) then some true else some (decide (w.Tick ≥ 3145728))) = some (oM w) := by
 rw [lR, ob];unfold oM;by_cases h1 : dA w.C
 ·rw [decide_eq_true h1, Bool.not_true, cf];by_cases h2 : w.Tick < 3
  ·rw [decide_eq_true h2, ct, decide_eq_true (.inr (.inl h2))]
  ·rw [decide_eq_false h2, cf];by_cases h3 : w.Tick ≥ 3145728
   ·rw [decide_eq_true h3, decide_eq_true (.inr (.inr h3))]
   ·rw [decide_eq_false h3, decide_eq_false];rintro (h | h | h)
    ·exact h h1
    ·exact h2 h
    ·exact h3 h
 ·rw [decide_eq_false h1, Bool.not_false, ct, decide_eq_true (.inl h1)]
theorem BC {w : Wd} {l : List Ac} (h : rp w) (hl : ly l) (hG : ∀ k n, w.N[k]? = some n → lw w.C n (aC w l k).1 (aC w l k).2) (hT : ∀ k n, w.N[k]? = some n → (ch w.C n (aC w l k).1 (aC w l k).2).2.length ≤ 1) : oF w l = some (ff w l) := by
 have hN := h.n;unfold oF ff;rw [wQ, ob]
 cases hi : oM w with
 | true => rw [ct, BI h, ob, if_pos rfl]
 | false =>
  have hsl := fx w l
  have hfl : ∀ k, k ≤ w.N.length → (((fZ w l).take k).flatMap (·.2)).length ≤ k := by
   intro k
   induction k with
   | zero => intro _; simp
   | succ k ih =>
    intro hk;obtain ⟨n, hn⟩ : ∃ n, w.N[k]? = some n := ⟨_, List.getElem?_eq_getElem (by omega)⟩;rw [List.take_add_one, fw hn, List.flatMap_append, List.length_append];have := ih (by omega);have := hT k n hn;simp only [Option.toList_some, List.flatMap_cons, List.flatMap_nil, List.append_nil];omega
  have e := aB (step := iV w (cC w, fi w, decide (fi w ∈ w.Bad), eM w l)) (n := w.N.length) (fun k => eo.mk (k : Int) (((fZ w l).take k).map (·.1)) (((fZ w l).take k).flatMap (·.2))) (eo.mk (w.N.length : Int) ((fZ w l).map (·.1)) ((fZ w l).flatMap (·.2))) (fun k hk => by
   obtain ⟨y, hy, hm⟩ := aD hk;have hk2 := hfl k (by omega);have hT1 := hT k y hy;have hw := (jj (hG k y hy)).1;unfold iV;simp only;rw [decide_eq_true (show (k : Int) < (w.N.length : Int) by omega), ct, Gd h hl k, ob, aG hy, ob, hw, ob, aP (by rw [List.length_map, List.length_take]; simp only [List.length_singleton]; omega) (by omega), ct, aP (by omega) (by omega), ct, ak (n := k) (by omega)];rw [List.take_add_one, fw hy, List.map_append, List.flatMap_append]
   simp) (by
   unfold iV;simp only
   rw [decide_eq_false (show ¬ (w.N.length : Int) < (w.N.length : Int) by omega), cf, List.take_of_length_le (by omega)]) (by omega)
  have e' : iter (iV w (cC w, fi w, decide (fi w ∈ w.Bad), eM w l)) bG (eo.mk 0 [] []) = _ := e;have := h.bad;rw [cf, BS h (by have := hl.len; omega), ob, aP (by omega) (by omega), ct, e', ob, if_neg (by simp)]
def Hh (o : Of) : Prop := o.V.B.length ≤ 60 ∧ o.V.V.length ≤ 240
structure Kp (c : Cf) (U : Vw) (n : Nd) : Prop where
 may : ea c n.V
 nd : wa n.In
 few : n.O.length ≤ 8
 all : rn (· ∈ U.B) (· ∈ U.V) n
 sz : ∀ o ∈ n.O, Hh o
structure xQ (U : Vw) (w : Wd) : Prop where
 len : w.N.length ≤ 6
 bad : w.Bad.length ≤ 10
 nodes : ∀ n ∈ w.N, Kp w.C U n
 told : w.O.length ≤ 6
 offs : ∀ o ∈ w.O, lv (· ∈ U.B) (· ∈ U.V) o ∧ Hh o
def ip (l : List Ac) : Vw := ⟨l.flatMap Ac.B, l.flatMap Ac.V⟩
def eu (a b : Vw) : Prop := (∀ x ∈ a.B, x ∈ b.B) ∧ ∀ x ∈ a.V, x ∈ b.V
theorem fT (a : Vw) : eu a a := ⟨fun _ h => h, fun _ h => h⟩
theorem gw {a b d : Vw} (h1 : eu a b) (h2 : eu b d) : eu a d := ⟨fun x h => h2.1 x (h1.1 x h), fun x h => h2.2 x (h1.2 x h)⟩
theorem ll {P P' : Bk → Prop} {Q Q' : Vt → Prop} (hP : ∀ b, P b → P' b) (hQ : ∀ v, Q v → Q' v) {n : Nd} (h : rn P Q n) : rn P' Q' n :=
 ⟨⟨fun b hb => hP b (h.1.1 b hb), fun v hv => hQ v (h.1.2 v hv)⟩, ⟨fun b hb => hP b (h.2.1.1 b hb), fun v hv => hQ v (h.2.1.2 v hv)⟩, fun o ho => ⟨hP _ (h.2.2 o ho).1, fun b hb => hP b ((h.2.2 o ho).2.1 b hb), fun v hv => hQ v ((h.2.2 o ho).2.2 v hv)⟩⟩
theorem nM {P P' : Bk → Prop} {Q Q' : Vt → Prop} (hP : ∀ b, P b → P' b) (hQ : ∀ v, Q v → Q' v) {o : Of} (h : lv P Q o) : lv P' Q' o :=
 ⟨hP _ h.1, fun b hb => hP b (h.2.1 b hb), fun v hv => hQ v (h.2.2 v hv)⟩
theorem C6 {c : Cf} {U U' : Vw} (h : eu U U') {n : Nd} (hn : Kp c U n) : Kp c U' n := ⟨hn.may, hn.nd, hn.few, ll h.1 h.2 hn.all, hn.sz⟩
theorem DD {U U' : Vw} (h : eu U U') {w : Wd} (hw : xQ U w) : xQ U' w := ⟨hw.len, hw.bad, fun n hn => C6 h (hw.nodes n hn), hw.told, fun o ho => ⟨nM h.1 h.2 (hw.offs o ho).1, (hw.offs o ho).2⟩⟩
section
variable {P : Bk → Prop} {Q : Vt → Prop}
theorem xS : ∀ {l : List Nd} {w : Vw}, eK P Q w → (∀ n ∈ l, rn P Q n) → eK P Q (ge l w)
 | [], w, h, _ => h
 | n :: r, w, h, hs => by
  have hn := hs n (List.mem_cons_self ..);exact xS (l := r) (w := aH w (bX n)) (dW h (dW hn.1 hn.2.1)) fun m hm => hs m<|List.mem_cons_of_mem _ hm
theorem zF {bad : List Int} {al : Vw} {a : Ac} (hal : eK P Q al) (hB : ∀ b ∈ a.B, b.From ∈ bad → P b) (hV : ∀ v ∈ a.V, v.From ∈ bad → Q v) : eK P Q (lI bad al a) := by
 refine ⟨fun b hb => ?_, fun v hv => ?_⟩
 ·obtain ⟨h1, h2⟩ := List.mem_filter.1 hb;rcases of_decide_eq_true h2 with h | h
  ·exact hB b h1 h
  ·exact hal.1 b h
 ·obtain ⟨h1, h2⟩ := List.mem_filter.1 hv;rcases of_decide_eq_true h2 with h | h
  ·exact hV v h1 h
  ·exact hal.2 v h
theorem Dp {slot wh : Int} {bad : List Int} {al : Vw} {me : Bool} {k : Int} (hal : eK P Q al) : ∀ {l : List Ac} {s : Vw × List Of}, (∀ a ∈ l, (∀ b ∈ a.B, b.From ∈ bad → P b) ∧ ∀ v ∈ a.V, v.From ∈ bad → Q v) → eK P Q s.1 → (∀ o ∈ s.2, lv P Q o) → eK P Q (l.foldl (ck slot wh bad al me k) s).1 ∧ ∀ o ∈ (l.foldl (ck slot wh bad al me k) s).2, lv P Q o
 | [], s, _, h1, h2 => ⟨h1, h2⟩
 | a :: r, s, h, h1, h2 => by
  rw [List.foldl_cons];have hf := zF hal (h a (List.mem_cons_self ..)).1 (h a (List.mem_cons_self ..)).2
  have : eK P Q (ck slot wh bad al me k s a).1 ∧ ∀ o ∈ (ck slot wh bad al me k s a).2, lv P Q o := by
   unfold ck;split
   ·exact ⟨h1, h2⟩
   ·split
    ·exact ⟨dW h1 hf, h2⟩
    ·split
     ·split
      ·exact ⟨h1, h2⟩
      ·rename_i b q hB;refine ⟨h1, fun o ho => ?_⟩;rcases List.mem_append.1 ho with ho | ho
       ·exact h2 o ho
       ·rw [List.mem_singleton.1 ho];exact ⟨hf.1 b (by rw [hB]; exact List.mem_cons_self ..), fun x hx => hf.1 x (by rw [hB]; exact List.mem_cons_of_mem _ hx), hf.2⟩
     ·exact ⟨h1, h2⟩
  exact Dp hal (fun b hb => h b (List.mem_cons_of_mem _ hb)) this.1 this.2
theorem FN {slot wh : Int} {bad : List Int} {al : Vw} {me : Bool} {k : Int} : ∀ {l : List Ac} {s : Vw × List Of}, wa s.1 → wa (l.foldl (ck slot wh bad al me k) s).1
 | [], s, h => h
 | a :: r, s, h => by
  rw [List.foldl_cons];refine FN ?_;unfold ck;split
  ·exact h
  ·split
   ·exact kH h
   ·split
    ·split <;> exact h
    ·exact h
theorem FO {slot wh : Int} {bad : List Int} {al : Vw} {me : Bool} {k : Int} : ∀ {l : List Ac} {s : Vw × List Of}, (∀ a ∈ l, a.B.length ≤ 8 ∧ a.V.length ≤ 8) → (∀ o ∈ s.2, Hh o) → ∀ o ∈ (l.foldl (ck slot wh bad al me k) s).2, Hh o
 | [], s, _, h => h
 | a :: r, s, hl, h => by
  rw [List.foldl_cons];refine FO (fun b hb => hl b (List.mem_cons_of_mem _ hb)) ?_;have hf := qj bad al a;have ha := hl a (List.mem_cons_self ..);unfold ck;split
  ·exact h
  ·split
   ·exact h
   ·split
    ·split
     ·exact h
     ·rename_i b q hB;intro o ho;rcases List.mem_append.1 ho with ho | ho
      ·exact h o ho
      ·rw [List.mem_singleton.1 ho];have := congrArg List.length hB;rw [List.length_cons] at this;exact ⟨show q.length ≤ 60 by omega, show (lI bad al a).V.length ≤ 240 by omega⟩
    ·exact h
end
def Fc (U : Vw) : Prop := U.B.length ≤ 400 ∧ U.V.length ≤ 400
theorem yz {U : Vw} {w : Wd} (hw : xQ U w) (hU : Fc U) : rp w := by
 refine ⟨by have := hw.len; omega, fun n hn => ?_, by have := hw.told; omega, fun o ho => ?_, by have := hw.bad; omega⟩
 ·have h := hw.nodes n hn;have h1 := h.may.lenB;have h2 := h.may.lenV;have h3 := d5 h.nd.1 h.all.2.1.1;have h4 := d5 h.nd.2 h.all.2.1.2;have h5 := h.few;obtain ⟨u1, u2⟩ := hU;exact ⟨⟨by omega, by omega⟩, ⟨by omega, by omega⟩, by omega, fun o ho => by have := h.sz o ho; exact ⟨by have := this.1; omega, by have := this.2; omega⟩⟩
 ·have := (hw.offs o ho).2;exact ⟨by have := this.1; omega, by have := this.2; omega⟩
theorem mO {P : Bk → Prop} {Q : Vt → Prop} {w : Wd} {l : List Ac} (hn : ∀ n ∈ w.N, rn P Q n) (ho : ∀ o ∈ w.O, lv P Q o) (ha : ∀ a ∈ l, (∀ b ∈ a.B, b.From ∈ w.Bad → P b) ∧ ∀ v ∈ a.V, v.From ∈ w.Bad → Q v) (k : Nat) :
  eK P Q (aC w l k).1 ∧ ∀ o ∈ (aC w l k).2, lv P Q o := by
 have hal : eK P Q (cC w) := xS p3 hn;exact Dp hal (fun a h => ha a (List.mem_filter.1 h).1) hal ho
theorem EG (w : Wd) (l : List Ac) (k : Nat) : wa (aC w l k).1 := FN (rS List.nodup_nil List.nodup_nil)
theorem Ct {w : Wd} {l : List Ac} (hl : ly l) (k : Nat) : (aC w l k).2.length ≤ w.O.length + 30 := by
 have h := (xg (slot := lM w) (wh := fi w) (bad := w.Bad) (al := cC w) (me := decide (fi w ∈ w.Bad)) (k := (k : Int)) (l := eM w l) (s := (cC w, w.O)) fun a ha => hl.each a (List.mem_filter.1 ha).1).2.2;have h2 : (eM w l).length ≤ l.length := List.length_filter_le _ _;have h3 := hl.len;unfold aC;simp only at h;omega
theorem xW {U : Vw} {w : Wd} {l : List Ac} (hw : xQ U w) (hl : ly l) (k : Nat) : ∀ o ∈ (aC w l k).2, Hh o := FO (fun a ha => hl.each a (List.mem_filter.1 ha).1) fun o ho => (hw.offs o ho).2
theorem xR {l : List Ac} {U : Vw} (hs : eu (ip l) U) (bad : List Int) : ∀ a ∈ l, (∀ b ∈ a.B, b.From ∈ bad → b ∈ U.B) ∧ ∀ v ∈ a.V, v.From ∈ bad → v ∈ U.V :=
 fun a ha => ⟨fun b hb _ => hs.1 b (List.mem_flatMap.2 ⟨a, ha, hb⟩), fun v hv _ => hs.2 v (List.mem_flatMap.2 ⟨a, ha, hv⟩)⟩
theorem EK {U : Vw} {w : Wd} {l : List Ac} (hw : xQ U w) (hU : Fc U) (hl : ly l) (hs : eu (ip l) U) {k : Nat} {n : Nd} (hk : w.N[k]? = some n) : lw w.C n (aC w l k).1 (aC w l k).2 := by
 have hn := hw.nodes n (List.mem_of_getElem? hk);obtain ⟨u1, u2⟩ := hU;have hc := mO (fun n hn => (hw.nodes n hn).all) (fun o ho => (hw.offs o ho).1) (xR hs w.Bad) k;have hd := EG w l k;have hi := d5 hd.1 hc.1.1;have hi2 := d5 hd.2 hc.1.2;have hj : wa (aH n.In (a8 w.C (aC w l k).1)) := kH hn.nd;have hja : eK (· ∈ U.B) (· ∈ U.V) (aH n.In (a8 w.C (aC w l k).1)) := dW hn.all.2.1 (nN hc.1);have h1 := hn.may.lenB;have h2 := hn.may.lenV;have h3 := d5 hn.nd.1 hn.all.2.1.1;have h4 := d5 hn.nd.2 hn.all.2.1.2;have h5 := d5 hj.1 hja.1;have h6 := d5 hj.2 hja.2;have h7 := Ct (w := w) hl k;have h8 := hw.told;have h9 := hn.few;refine ⟨by omega, by omega, by omega, by omega, by omega, fun y hy => ?_⟩
 have : Hh y := by
  rcases List.mem_append.1 hy with hy | hy
  ·exact hn.sz y hy
  ·exact xW hw hl k y hy
 exact ⟨by have := this.1; omega, by have := this.2; omega⟩
noncomputable def Jm (w : Wd) (l : List Ac) : List Bk := w.N.zipIdx.map fun p => kL (bN w.C p.1 (aC w l p.2).1 (aC w l p.2).2) w.C (aA p.1)
noncomputable def Jn (w : Wd) (l : List Ac) : List Vt := w.N.zipIdx.map fun p => sK w.C p.1 (aC w l p.2).1 (aC w l p.2).2
noncomputable def lK (U : Vw) (w : Wd) (l : List Ac) : Vw := ⟨U.B ++ Jm w l, U.V ++ Jn w l⟩
theorem fR (U : Vw) (w : Wd) (l : List Ac) : eu U (lK U w l) := ⟨fun _ h => List.mem_append_left _ h, fun _ h => List.mem_append_left _ h⟩
theorem C8 {U : Vw} {w : Wd} (hw : w.N.length ≤ 6) (l : List Ac) : (lK U w l).B.length ≤ U.B.length + 6 ∧ (lK U w l).V.length ≤ U.V.length + 6 := by
 unfold lK Jm Jn;simp only [List.length_append, List.length_map, List.length_zipIdx];omega
theorem yB {w : Wd} {k : Nat} {n : Nd} (h : w.N[k]? = some n) : (n, k) ∈ w.N.zipIdx := by
 refine List.mem_of_getElem? (i := k) ?_;rw [List.getElem?_zipIdx, h];simp
theorem lm {w : Wd} {l : List Ac} (hi : oM w = false) {k : Nat} : ((ff w l).N[k]? = (w.N[k]?).map fun n => (ch w.C n (aC w l k).1 (aC w l k).2).1) := by
 unfold ff;rw [if_neg (by simp [hi])];simp only;rw [List.getElem?_map]
 cases h : w.N[k]? with
 | none =>
  have := List.getElem?_eq_none_iff.1 h;rw [List.getElem?_eq_none (by rw [fx]; exact this)];rfl
 | some n => rw [fw h]; rfl
theorem pr {w : Wd} {l : List Ac} (hi : oM w = false) {o : Of} (ho : o ∈ (ff w l).O) : ∃ k n, w.N[k]? = some n ∧ o ∈ (ch w.C n (aC w l k).1 (aC w l k).2).2 := by
 unfold ff at ho;rw [if_neg (by simp [hi])] at ho;obtain ⟨p, hp, h⟩ := List.mem_flatMap.1 ho;obtain ⟨k, hk, e⟩ := List.getElem_of_mem hp;rw [fx] at hk;obtain ⟨n, hn⟩ : ∃ n, w.N[k]? = some n := ⟨_, List.getElem?_eq_getElem hk⟩;refine ⟨k, n, hn, ?_⟩;have h1 := fw (l := l) hn;rw [List.getElem?_eq_getElem (by rw [fx]; exact hk), e] at h1;rw [← Option.some.inj h1];exact h
theorem GQ (w : Wd) (l : List Ac) : (ff w l).N.length = w.N.length := by
 unfold ff;split
 ·rfl
 ·simp only [List.length_map, fx]
theorem FA {U : Vw} {w : Wd} {l : List Ac} (hw : xQ U w) (hU : Fc U) (hl : ly l) (hs : eu (ip l) U) : oF w l = some (ff w l) ∧ xQ (lK U w l) (ff w l) := by
 have hfit := yz hw hU;have hG : ∀ k n, w.N[k]? = some n → lw w.C n (aC w l k).1 (aC w l k).2 := fun k n h => EK hw hU hl hs h;have hsame := fun k n (h : w.N[k]? = some n) => ji (hG k n h) (hw.nodes n (List.mem_of_getElem? h)).may (hw.nodes n (List.mem_of_getElem? h)).nd (hw.nodes n (List.mem_of_getElem? h)).few;have hc := fun k => mO (fun n hn => (hw.nodes n hn).all) (fun o ho => (hw.offs o ho).1) (xR hs w.Bad) k;refine ⟨BC hfit hl hG fun k n h => (hsame k n h).2.2.2.2.2.2.1, ?_⟩
 cases hi : oM w with
 | true => unfold ff; rw [if_pos hi]; exact DD (fR U w l) hw
 | false =>
  have hall := fun k n (h : w.N[k]? = some n) => vU (P := (· ∈ (lK U w l).B)) (Q := (· ∈ (lK U w l).V)) (hG k n h)
   (ll (fR U w l).1 (fR U w l).2 (hw.nodes n (List.mem_of_getElem? h)).all)
   ⟨fun b hb => (fR U w l).1 b ((hc k).1.1 b hb), fun v hv => (fR U w l).2 v ((hc k).1.2 v hv)⟩
   (fun y hy => nM (fR U w l).1 (fR U w l).2 ((hc k).2 y hy))
   (fun _ _ _ => List.mem_append_right _ (List.mem_map.2 ⟨_, yB h, rfl⟩)) (fun _ _ _ => List.mem_append_right _ (List.mem_map.2 ⟨_, yB h, rfl⟩))
  have hC : (ff w l).C = w.C := by unfold ff; rw [if_neg (by simp [hi])]
  have hB : (ff w l).Bad = w.Bad := by unfold ff; rw [if_neg (by simp [hi])]
  have hO : (ff w l).O.length ≤ 6 := by
   have : ∀ k, k ≤ w.N.length → (((fZ w l).take k).flatMap (·.2)).length ≤ k := by
    intro k
    induction k with
    | zero => intro _; simp
    | succ k ih =>
     intro hk;obtain ⟨n, hn⟩ : ∃ n, w.N[k]? = some n := ⟨_, List.getElem?_eq_getElem (by omega)⟩;rw [List.take_add_one, fw hn, List.flatMap_append, List.length_append];have := ih (by omega);have := (hsame k n hn).2.2.2.2.2.2.1;simp only [Option.toList_some, List.flatMap_cons, List.flatMap_nil, List.append_nil];omega
   have h2 := this w.N.length (Nat.le_refl _);rw [List.take_of_length_le (by rw [fx]; omega)] at h2;have h3 := hw.len;unfold ff;rw [if_neg (by simp [hi])];simp only;omega
  refine ⟨by rw [GQ]; exact hw.len, by rw [hB]; exact hw.bad, fun x hx => ?_, hO, fun o ho => ?_⟩
  ·obtain ⟨k, hk, e⟩ := List.getElem_of_mem hx
   have h1 : (ff w l).N[k]? = some x := by rw [List.getElem?_eq_getElem hk, e]
   rw [lm hi] at h1
   cases hn : w.N[k]? with
   | none => rw [hn] at h1; cases h1
   | some n =>
    rw [hn] at h1;have e2 := Option.some.inj h1;subst e2;obtain ⟨s1, s2, s3, s4, s5, s6, s7, s8, s9⟩ := hsame k n hn;rw [hC];refine ⟨s3.1, s4, s5, (hall k n hn).1, fun o ho => ?_⟩;rcases List.mem_append.1 (s8 o ho) with h | h
    ·exact (hw.nodes n (List.mem_of_getElem? hn)).sz o h
    ·exact xW hw hl k o h
  ·obtain ⟨k, n, hn, h⟩ := pr hi ho;obtain ⟨s1, s2, s3, s4, s5, s6, s7, s8, s9⟩ := hsame k n hn;exact ⟨(hall k n hn).2 o h, (s9 o h).lenB, (s9 o h).lenV⟩
structure Es (w : Wd) : Prop where
 may : dA w.C
 lo : 3 ≤ w.Tick
 hi : w.Tick ≤ 100000
 at_ : ∀ n ∈ w.N, n.Tick = w.Tick
theorem g0 {w : Wd} (h : Es w) : oM w = false := by
 refine decide_eq_false ?_;have h1 := h.lo;have h2 := h.hi;rintro (h3 | h3 | h3)
 ·exact h3 h.may
 ·omega
 ·omega
theorem nx {w : Wd} (h : Es w) {n : Nd} (hn : n ∈ w.N) : eT w.C n = false := by
 have h1 := h.lo;have h2 := h.hi;have h3 := h.at_ n hn;exact Ev h.may (by omega) (by omega)
theorem te {U : Vw} {w : Wd} {l : List Ac} (hw : xQ U w) (hU : Fc U) (hl : ly l) (hs : eu (ip l) U) (ht : Es w) : (ff w l).C = w.C ∧ (ff w l).Bad = w.Bad ∧ (ff w l).Tick = w.Tick + 1 ∧ (∀ n ∈ (ff w l).N, n.Tick = w.Tick + 1) ∧ (ff w l).N.map Nd.No = w.N.map Nd.No := by
 have hi := g0 ht;have h1 := ht.lo;have h2 := ht.hi;have hG : ∀ k n, w.N[k]? = some n → lw w.C n (aC w l k).1 (aC w l k).2 := fun k n h => EK hw hU hl hs h;have hsame := fun k n (h : w.N[k]? = some n) => ji (hG k n h) (hw.nodes n (List.mem_of_getElem? h)).may (hw.nodes n (List.mem_of_getElem? h)).nd (hw.nodes n (List.mem_of_getElem? h)).few;refine ⟨by unfold ff; rw [if_neg (by simp [hi])], by unfold ff; rw [if_neg (by simp [hi])], by unfold ff; rw [if_neg (by simp [hi])]; exact cv (by omega) (by omega), fun x hx => ?_, ?_⟩
 ·obtain ⟨k, hk, e⟩ := List.getElem_of_mem hx
  have h1 : (ff w l).N[k]? = some x := by rw [List.getElem?_eq_getElem hk, e]
  rw [lm hi] at h1
  cases hn : w.N[k]? with
  | none => rw [hn] at h1; cases h1
  | some n =>
   rw [hn] at h1;have e2 := Option.some.inj h1;subst e2;have hm := List.mem_of_getElem? hn;have := (hsame k n hn).2.1;rw [nx ht hm, if_neg (by simp), ht.at_ n hm, cv (by omega) (by omega)] at this;exact this
 ·apply List.ext_getElem?;intro k;rw [List.getElem?_map, List.getElem?_map, lm hi]
  cases hn : w.N[k]? with
  | none => rfl
  | some n =>
   simp only [Option.map_some];rw [(hsame k n hn).1]
noncomputable def b6 (w : Wd) (l : List Ac) : Nat → Wd
 | 0 => w
 | n + 1 => ff (b6 w l n) l
noncomputable def rA (U : Vw) (w : Wd) (l : List Ac) : Nat → Vw
 | 0 => U
 | n + 1 => lK (rA U w l n) (b6 w l n) l
structure Lc (U : Vw) (w : Wd) (l : List Ac) (k : Nat) : Prop where
 ok : xQ (rA U w l k) (b6 w l k)
 B : (rA U w l k).B.length ≤ U.B.length + 6 * k
 V : (rA U w l k).V.length ≤ U.V.length + 6 * k
 sub : eu U (rA U w l k)
 time : Es (b6 w l k)
 tick : (b6 w l k).Tick = w.Tick + k
 conf : (b6 w l k).C = w.C
 bad : (b6 w l k).Bad = w.Bad
 nos : (b6 w l k).N.map Nd.No = w.N.map Nd.No
theorem Dg {U : Vw} {w : Wd} {l : List Ac} (hw : xQ U w) (hl : ly l) (hs : eu (ip l) U) (ht : Es w) (hB : U.B.length ≤ 300) (hV : U.V.length ≤ 300) (hT : w.Tick ≤ 1000) : ∀ k, k ≤ 15 → Lc U w l k
 | 0, _ => ⟨hw, by simp [rA], by simp [rA], fT U, ht, by simp [b6], rfl, rfl, rfl⟩
 | k + 1, h => by
  obtain ⟨r1, r2, r3, r4, r5, r6, r7, r8, r9⟩ := Dg hw hl hs ht hB hV hT k (by omega);have hU : Fc (rA U w l k) := ⟨by omega, by omega⟩;have hs' := gw hs r4;have hd := FA r1 hU hl hs';obtain ⟨t1, t2, t3, t4, t5⟩ := te r1 hU hl hs' r5;have hn := C8 (U := rA U w l k) r1.len l;have h1 := r5.lo;refine ⟨hd.2, ?_, ?_, gw r4 (fR _ _ _), ⟨by show dA (ff _ _).C; rw [t1]; exact r5.may, by show 3 ≤ (ff _ _).Tick; omega, by show (ff _ _).Tick ≤ _; omega, fun n hn => by rw [t4 n hn]; exact t3.symm⟩, ?_, t1.trans r7, t2.trans r8, t5.trans r9⟩
  ·show (lK _ _ _).B.length ≤ _; omega
  ·show (lK _ _ _).V.length ≤ _; omega
  ·show (ff _ _).Tick = _; rw [t3, r6]; omega
theorem BH (l : List Ac) {k : Int} (hk : k ≤ 100) : rP l k = some false ∨ (rP l k = some true ∧ (l.length : Int) ≤ k ∧ ∀ a ∈ l, a.B.length ≤ 8 ∧ a.V.length ≤ 8) := by
 unfold rP;by_cases h : (l.length : Int) > k
 ·rw [decide_eq_true h, ct]; exact .inl rfl
 ·rw [decide_eq_false h, cf]
  have e := sy (step := gD l) (n := l.length) (fun j => dK.mk (j : Int)) false (fun j => ∀ a, l[j]? = some a → a.B.length ≤ 8 ∧ a.V.length ≤ 8) (fun j hj => by
   obtain ⟨y, hy, -⟩ := aD hj;unfold gD;simp only;rw [decide_eq_true (show (j : Int) < (l.length : Int) by omega), ct, aG hy, ob, ob];by_cases h1 : (y.B.length : Int) > 8
   ·rw [decide_eq_true h1, ct]; exact .inl rfl
   ·rw [decide_eq_false h1, cf];by_cases h2 : (y.V.length : Int) > 8
    ·rw [decide_eq_true h2, ct]; exact .inl rfl
    ·rw [decide_eq_false h2, cf, ak (n := j) (by omega)];refine .inr ⟨rfl, fun a ha => ?_⟩;rw [hy] at ha;obtain rfl := Option.some.inj ha
     omega) (by
   unfold gD;simp only
   rw [decide_eq_false (show ¬ (l.length : Int) < (l.length : Int) by omega), cf]) (by omega)
  have e2 : iter (gD l) bG (dK.mk 0) = some (.inr false) ∨ (iter (gD l) bG (dK.mk 0) = some (.inl (dK.mk (l.length : Int))) ∧ _) := e;rcases e2 with e2 | ⟨e2, h3⟩
  ·rw [e2, ob]; exact .inl rfl
  ·rw [e2, ob];refine .inr ⟨rfl, by omega, fun a ha => ?_⟩;obtain ⟨j, hj⟩ := List.getElem?_of_mem ha;exact h3 j (List.getElem?_eq_some_iff.1 hj).1 a hj
structure ki (c : Cf) (bad : List Int) (l : List Ac) : Prop where
 acts : ly l
 len : l.length ≤ 25
 may : dA c
 w : c.W.length ≤ 6
 bad : bad.length ≤ 6
theorem BF (c : Cf) (bad : List Int) (l : List Ac) : rO c bad l = some false ∨ (rO c bad l = some true ∧ ki c bad l) := by
 unfold rO;rcases BH l (k := 25) (by omega) with e | ⟨e, h1, h2⟩
 ·rw [e, ob, cf]; exact .inl rfl
 ·rw [e, ob, ct, lR, ob];by_cases hm : dA c
  ·rw [decide_eq_true hm, ct];by_cases hw : (c.W.length : Int) ≤ 6
   ·rw [decide_eq_true hw, ct];by_cases hb : (bad.length : Int) ≤ 6
    ·rw [decide_eq_true hb]; exact .inr ⟨rfl, ⟨by omega, h2⟩, by omega, hm, by omega, by omega⟩
    ·rw [decide_eq_false hb]; exact .inl rfl
   ·rw [decide_eq_false hw, cf]; exact .inl rfl
  ·rw [decide_eq_false hm, cf]; exact .inl rfl
def j5 (bad : List Int) (n : Nat) : List Int := ((List.range n).map Int.ofNat).filter fun i => decide (i ∉ bad)
theorem wO (bad : List Int) (n : Nat) : j5 bad (n + 1) = j5 bad n ++ if (n : Int) ∈ bad then [] else [(n : Int)] := by
 unfold j5;rw [List.range_succ, List.map_append, List.filter_append];by_cases h : (n : Int) ∈ bad <;> simp [h]
theorem sc (bad : List Int) (n : Nat) : (j5 bad n).length ≤ n := Nat.le_trans (List.length_filter_le _ _) (by simp)
def wX (i : Int) : Nd := ⟨i, 3, ⟨[], []⟩, ⟨[], []⟩, [], ⟨(0, 0), 0, 0⟩, false⟩
def bY (c : Cf) (bad : List Int) : Wd := ⟨c, bad, 3, (j5 bad c.W.length).map wX, []⟩
theorem BA {c : Cf} {bad : List Int} (hm : dA c) (hb : bad.length ≤ 100) : rL c bad = some (bY c bad) := by
 have hw := hm.2.1
 have e := aB (step := iU c bad) (n := c.W.length) (fun k => dI.mk (k : Int) ((j5 bad k).map wX)) (dI.mk (c.W.length : Int) ((j5 bad c.W.length).map wX)) (fun k hk => by
  have hg := sc bad k;unfold iU;simp only;rw [decide_eq_true (show (k : Int) < (c.W.length : Int) by omega), ct, mI (by omega), ob, wO, ak (n := k) (by omega)];by_cases h : (k : Int) ∈ bad
  ·rw [decide_eq_true h, Bool.not_true, cf, if_pos h, List.append_nil]
  ·rw [decide_eq_false h, Bool.not_false, ct, if_neg h];unfold xI;rw [ob, aP (by rw [List.length_map]; simp only [List.length_singleton]; omega) (by omega), ct, List.map_append]
   rfl) (by
  unfold iU;simp only
  rw [decide_eq_false (show ¬ (c.W.length : Int) < (c.W.length : Int) by omega), cf]) (by omega)
 have e' : iter (iU c bad) bG (dI.mk 0 []) = _ := e;unfold rL;rw [aP (by omega) (by omega), ct, lR, ob, decide_eq_true hm, Bool.not_true, cf, e', ob];rfl
theorem yp (c : Cf) (bad : List Int) : (bY c bad).N.map Nd.No = j5 bad c.W.length := by
 show ((j5 bad c.W.length).map wX).map Nd.No = _;rw [List.map_map, show Nd.No ∘ wX = id from rfl, List.map_id]
theorem CY {c : Cf} (hm : dA c) : ea c ⟨[], []⟩ := ⟨hm, AL, by simp, by simp, fun b hb => (by cases hb), fun v hv => (by cases hv), List.nodup_nil, fun v hv => (by cases hv)⟩
theorem nL {l : List Ac} {k : Nat} (hk : l.length ≤ k) (h : ∀ a ∈ l, a.B.length ≤ 8 ∧ a.V.length ≤ 8) : (ip l).B.length ≤ 8 * k ∧ (ip l).V.length ≤ 8 * k := by
 have : ∀ m : List Ac, (∀ a ∈ m, a.B.length ≤ 8 ∧ a.V.length ≤ 8) → (m.flatMap Ac.B).length ≤ 8 * m.length ∧ (m.flatMap Ac.V).length ≤ 8 * m.length := by
  intro m
  induction m with
  | nil => intro _; simp
  | cons a r ih =>
   intro h;have h1 := ih fun b hb => h b (List.mem_cons_of_mem _ hb);have h2 := h a (List.mem_cons_self ..);rw [List.flatMap_cons, List.flatMap_cons, List.length_append, List.length_append, List.length_cons];omega
 have := this l h;unfold ip;simp only;omega
theorem C7 {c : Cf} {bad : List Int} (hm : dA c) (hw : c.W.length ≤ 6) (hb : bad.length ≤ 10) (U : Vw) : xQ U (bY c bad) ∧ Es (bY c bad) := by
 have hg := sc bad c.W.length
 have hN : ∀ n ∈ (bY c bad).N, ∃ i, n = wX i := fun n hn => by
  obtain ⟨i, -, h⟩ := List.mem_map.1 hn;exact ⟨i, h.symm⟩
 refine ⟨⟨by show ((j5 bad c.W.length).map wX).length ≤ 6; rw [List.length_map]; omega, hb, fun n hn => ?_, Nat.zero_le _, fun o ho => by cases ho⟩, ⟨hm, Int.le_refl _, by show (3 : Int) ≤ 100000; omega, fun n hn => ?_⟩⟩
 ·obtain ⟨i, rfl⟩ := hN n hn;exact ⟨CY hm, ⟨List.nodup_nil, List.nodup_nil⟩, Nat.zero_le _, ⟨p3, p3, fun o ho => (by cases ho)⟩, fun o ho => (by cases ho)⟩
 ·obtain ⟨i, rfl⟩ := hN n hn;rfl
theorem mN {c : Cf} {bad : List Int} {l : List Ac} (hm : dA c) (hw : c.W.length ≤ 6) (hb : bad.length ≤ 10) (hl : ly l) : ∀ k, k ≤ 15 → Lc (ip l) (bY c bad) l k := by
 have h := C7 hm hw hb (ip l);have h1 := nL hl.len hl.each;exact Dg h.1 hl (fT _) h.2 (by omega) (by omega) (by show (3 : Int) ≤ 1000; omega)
def lL (w : Wd) (v : Vw) : Vw := w.O.foldl (fun v o => aH (aH v o.V) ⟨[o.B], []⟩) v
def ns (l : List Ac) (v : Vw) : Vw := l.foldl (fun v a => aH v ⟨a.B, a.V⟩) v
def gY (w : Wd) (l : List Ac) : Vw := ns l (lL w (cC w))
theorem lr : ∀ {l : List Of} {v : Vw}, (∀ o ∈ l, kt 500 o.V) → (l.foldl (fun v o => aH (aH v o.V) ⟨[o.B], []⟩) v).B.length ≤ v.B.length + 501 * l.length ∧ (l.foldl (fun v o => aH (aH v o.V) ⟨[o.B], []⟩) v).V.length ≤ v.V.length + 501 * l.length
 | [], v, _ => by simp
 | o :: r, v, h => by
  rw [List.foldl_cons, List.length_cons];have ih := lr (l := r) (v := aH (aH v o.V) ⟨[o.B], []⟩) fun q hq => h q (List.mem_cons_of_mem _ hq);obtain ⟨h1, h2⟩ := h o (List.mem_cons_self ..);have h3 := gt v o.V;have h4 := gt (aH v o.V) ⟨[o.B], []⟩;simp only [List.length_singleton, List.length_nil] at h4;omega
theorem oy : ∀ {l : List Ac} {v : Vw}, (∀ a ∈ l, a.B.length ≤ 8 ∧ a.V.length ≤ 8) → (ns l v).B.length ≤ v.B.length + 8 * l.length ∧ (ns l v).V.length ≤ v.V.length + 8 * l.length
 | [], v, _ => by simp [ns]
 | a :: r, v, h => by
  have ih := oy (l := r) (v := aH v ⟨a.B, a.V⟩) fun q hq => h q (List.mem_cons_of_mem _ hq);have e : ns (a :: r) v = ns r (aH v ⟨a.B, a.V⟩) := rfl;obtain ⟨h1, h2⟩ := h a (List.mem_cons_self ..);have h3 := gt v ⟨a.B, a.V⟩;rw [e, List.length_cons];simp only at h3;omega
theorem Dh {w : Wd} {l : List Ac} (h : rp w) (hl : ly l) : (gY w l).B.length ≤ 30000 ∧ (gY w l).V.length ≤ 30000 := by
 have h1 := sZ h;have h2 := lr (v := cC w) h.offs;have h3 := oy (v := lL w (cC w)) hl.each;have h4 := h.o;have h5 := hl.len;unfold gY;unfold lL at h3 ⊢;omega
theorem AX {w : Wd} {l : List Ac} (h : rp w) (hl : ly l) : tP w l = some (gY w l) := by
 have h1 := sZ h;have ho := h.o;have hal := hl.len;have hoff := h.offs
 have e1 := aB (step := gx w) (n := w.O.length) (fun k => dG.mk (k : Int) ((w.O.take k).foldl (fun v o => aH (aH v o.V) ⟨[o.B], []⟩) (cC w))) (dG.mk (w.O.length : Int) (lL w (cC w))) (fun k hk => by
  obtain ⟨y, hy, hm⟩ := aD hk
  have et : w.O.take (k + 1) = w.O.take k ++ [y] := by rw [List.take_add_one, hy]; rfl
  have hlen := lr (l := w.O.take k) (v := cC w) fun o ho => hoff o (List.mem_of_mem_take ho);rw [List.length_take] at hlen;have hyo := hoff y hm;have hj := gt ((w.O.take k).foldl (fun v o => aH (aH v o.V) ⟨[o.B], []⟩) (cC w)) y.V;unfold gx;simp only
  rw [decide_eq_true (show (k : Int) < (w.O.length : Int) by omega), ct, aG hy, ob, et, List.foldl_append, List.foldl_cons, List.foldl_nil, iB (by have := hyo.1; omega) (by have := hyo.2; omega), ob, iB (by have := hyo.1; simp only [List.length_singleton]; omega) (by have := hyo.2; simp only [List.length_nil]; omega), ob, ak (n := k) (by omega)]) (by
  unfold gx;simp only;rw [decide_eq_false (show ¬ (w.O.length : Int) < (w.O.length : Int) by omega), cf, List.take_length]
  rfl) (by omega)
 have e1' : iter (gx w) bG (dG.mk 0 (cC w)) = _ := e1;have h2 := lr (v := cC w) h.offs;have h2' : (lL w (cC w)).B.length ≤ (cC w).B.length + 501 * w.O.length ∧ (lL w (cC w)).V.length ≤ (cC w).V.length + 501 * w.O.length := h2
 have e2 := aB (step := iJ l) (n := l.length) (fun k => eh.mk (k : Int) (ns (l.take k) (lL w (cC w)))) (eh.mk (l.length : Int) (gY w l)) (fun k hk => by
  obtain ⟨y, hy, hm⟩ := aD hk
  have et : l.take (k + 1) = l.take k ++ [y] := by rw [List.take_add_one, hy]; rfl
  have hlen := oy (l := l.take k) (v := lL w (cC w)) fun o ho => hl.each o (List.mem_of_mem_take ho);rw [List.length_take] at hlen;have hya := hl.each y hm;unfold iJ;simp only;rw [decide_eq_true (show (k : Int) < (l.length : Int) by omega), ct, aG hy, ob, et, iB (by simp only; omega) (by simp only; omega), ob, ak (n := k) (by omega)];unfold ns;rw [List.foldl_append]
  rfl) (by
  unfold iJ;simp only;rw [decide_eq_false (show ¬ (l.length : Int) < (l.length : Int) by omega), cf, List.take_length]
  rfl) (by omega)
 have e2' : iter (iJ l) bG (eh.mk 0 (lL w (cC w))) = _ := e2;unfold tP;rw [rF (by have := h.n; omega) h.nodes, ob];show ((iter (gx w) bG (dG.mk 0 (cC w))).bind _) = _;rw [e1', ob, e2', ob]
theorem oz : ∀ (l : List Ac) (v : Vw), eu v (ns l v)
 | [], v => fT v
 | a :: r, v => by
  have h : eu v (aH v ⟨a.B, a.V⟩) := ⟨fun b hb => cI.2 (.inl hb), fun x hx => dZ.2 (.inl hx)⟩;exact gw h<|oz r _
theorem Cr {c : Cf} {w i : Vw} {u : Int} (hm : ea c w) (hf : (az c w i u).2.2 = false) {b : Bk} (hb : b ∈ i.B) (hmb : mayB c b = true) (hu : b.Slot ≤ u) {s : Int} (hq : aY (az c w i u).1.B b.Parent = some s) (hs : s < b.Slot) : ∃ y ∈ (az c w i u).1.B, nm y = nm b := by
 have ht := ph hm i u;have h0 := (of_decide_eq_true hmb).2.2;rcases ht.allB b (List.mem_filter.2 ⟨hb, hmb⟩) with hl | hg
 ·obtain ⟨-, hw | ⟨-, hw⟩⟩ := ht.endB b hl
  ·unfold eW at hw;rw [hq] at hw;have := of_decide_eq_true hw;omega
  ·rw [hf] at hw; cases hw
 ·unfold cz at hg;rw [Bool.or_eq_true, hq] at hg;rcases hg with hg | hg
  ·obtain ⟨q, hq2⟩ := Option.isSome_iff_exists.1 hg;rcases oB hq2 with ⟨e, -⟩ | ⟨-, y, hy, e, -⟩
   ·exact absurd e h0
   ·exact ⟨y, hy, e⟩
  ·have := of_decide_eq_true hg;omega
theorem Fz {c : Cf} {w i : Vw} {u : Int} (hm : ea c w) (hf : (az c w i u).2.2 = false) {v : Vt} (hv : v ∈ i.V) (hmv : mayV c v = true) (hu : v.Slot ≤ u) (hb : forB (az c w i u).1.B v) : v ∈ (az c w i u).1.V := by
 have ht := ph hm i u;obtain ⟨s, hq, hle⟩ := hb;rcases ht.allV v (List.mem_filter.2 ⟨hv, hmv⟩) with hl | hg
 ·obtain ⟨-, hw | ⟨-, hw⟩⟩ := ht.endV v hl
  ·unfold fk at hw;rw [hq] at hw;have := of_decide_eq_true hw;omega
  ·rw [hf] at hw; cases hw
 ·unfold cN at hg;rw [Bool.or_eq_true, hq] at hg;rcases hg with hg | hg
  ·exact of_decide_eq_true hg
  ·have := of_decide_eq_true hg;omega
theorem x4 {B C : List Bk} (h : aO B) (h2 : aO C) (hs : ∀ b ∈ B, b ∈ C) {v : Vt} (hf : forB B v) : forB C v := by
 obtain ⟨s, h3, h4⟩ := hf;exact ⟨s, lu h h2 hs h3, h4⟩
theorem gP {c : Cf} {v w : Vw} (h : im c v w) : eu v w :=
 ⟨fun b hb => List.mem_of_mem_take (by rw [h.2.1]; exact hb), fun b hb => List.mem_of_mem_take (by rw [h.2.2]; exact hb)⟩
theorem uI {c : Cf} {w i x : Vw} {u : Int} (hm : ea c w) (hf : (az c w i u).2.2 = false) (hx : ea c x) (hB : ∀ b ∈ x.B, b ∈ w.B ∨ b ∈ i.B) (hV : ∀ v ∈ x.V, v ∈ w.V ∨ v ∈ i.V) (uB : ∀ b ∈ x.B, b.Slot ≤ u) (uV : ∀ v ∈ x.V, v.Slot ≤ u)
  (inj : ∀ b ∈ x.B, ∀ y ∈ (az c w i u).1.B, nm y = nm b → y = b) : eu x (az c w i u).1 := by
 have ht := ph hm i u;have hsub := gP (cA hm i u)
 have key : ∀ k, k ≤ x.B.length → ∀ b ∈ x.B.take k, b ∈ (az c w i u).1.B := by
  intro k
  induction k with
  | zero => intro _ b hb; simp at hb
  | succ k ih =>
   intro hk b hb;obtain ⟨y, hy, hym⟩ := aD (l := x.B) (n := k) (by omega);have hv := my hx.valid (k + 1);rw [aS hy] at hb hv;rcases List.mem_append.1 hb with hb | hb
   ·exact ih (by omega) b hb
   ·rw [List.mem_singleton.1 hb];rcases hB y hym with h | h
    ·exact hsub.1 y h
    ·obtain ⟨hv0, ⟨s, hs1, hs2⟩, -⟩ := jU.1 hv;obtain ⟨z, hz, e⟩ := Cr hm hf h (hx.mayB y hym) (uB y hym) (lu hv0 ht.may.valid (ih (by omega)) hs1) hs2;rw [← inj y hym z hz e];exact hz
 have hall : ∀ b ∈ x.B, b ∈ (az c w i u).1.B := fun b hb => key x.B.length (Nat.le_refl _) b (by rw [List.take_length]; exact hb);refine ⟨hall, fun v hv => ?_⟩;rcases hV v hv with h | h
 ·exact hsub.2 v h
 ·exact Fz hm hf h (hx.mayV v hv) (uV v hv)<|x4 hx.valid ht.may.valid hall<|hx.forB v hv
structure Gw (U : Vw) (w : Wd) (l : List Ac) : Prop where
 ok : xQ U w
 sz : Fc U
 acts : ly l
 sub : eu (ip l) U
 time : Es w
 soon : w.Tick ≤ 1000
theorem l9 {c : Cf} {bad : List Int} {l : List Ac} (hb : ki c bad l) {k : Nat} (hk : k ≤ 15) : Gw (rA (ip l) (bY c bad) l k) (b6 (bY c bad) l k) l := by
 have hR := mN (bad := bad) hb.may hb.w (by have := hb.bad; omega) hb.acts k hk;have hal := nL hb.len hb.acts.each;have h1 := hR.B;have h2 := hR.V;have h3 := hR.tick;have h4 : (bY c bad).Tick = 3 := rfl;exact ⟨hR.ok, ⟨by omega, by omega⟩, hb.acts, hR.sub, hR.time, by omega⟩
section
variable {U : Vw} {w : Wd} {l : List Ac}
noncomputable def cZ (w : Wd) (l : List Ac) (k : Nat) (n : Nd) : Nd := (ch w.C n (aC w l k).1 (aC w l k).2).1
theorem Gw.few (G : Gw U w l) {k : Nat} {n : Nd} (hn : w.N[k]? = some n) : lw w.C n (aC w l k).1 (aC w l k).2 := EK G.ok G.sz G.acts G.sub hn
theorem Gw.may (G : Gw U w l) {n : Nd} (hn : n ∈ w.N) : ea w.C n.V := (G.ok.nodes n hn).may
theorem Gw.next (G : Gw U w l) {k : Nat} {n : Nd} (hn : w.N[k]? = some n) : (ff w l).N[k]? = some (cZ w l k n) := by
 rw [lm (g0 G.time), hn]; rfl
theorem Gw.keeps (G : Gw U w l) {k : Nat} {n : Nd} (hn : w.N[k]? = some n) : im w.C n.V (cZ w l k n).V :=
 have hm := List.mem_of_getElem? hn
 (ji (G.few hn) (G.may hm) (G.ok.nodes n hm).nd (G.ok.nodes n hm).few).2.2.1
theorem Gw.prev (G : Gw U w l) {x : Nd} (hx : x ∈ (ff w l).N) : ∃ k n, w.N[k]? = some n ∧ x = cZ w l k n := by
 obtain ⟨k, hk⟩ := List.getElem?_of_mem hx;rw [lm (g0 G.time)] at hk
 cases hn : w.N[k]? with
 | none => rw [hn] at hk; cases hk
 | some n => rw [hn] at hk; exact ⟨k, n, hn, (Option.some.inj hk).symm⟩
theorem Gw.slot (G : Gw U w l) {n : Nd} (hn : n ∈ w.N) : aA n = w.Tick / 3 := by
 have h1 := G.time.at_ n hn;have h2 := G.time.lo;have h3 := G.soon;have := (qY (n := n) (by omega) (by omega)).1;omega
theorem Gw.conf (G : Gw U w l) : (ff w l).C = w.C ∧ (ff w l).Bad = w.Bad ∧ (ff w l).Tick = w.Tick + 1 :=
 have h := te G.ok G.sz G.acts G.sub G.time
 ⟨h.1, h.2.1, h.2.2.1⟩
theorem Gw.mod (G : Gw U w l) {n : Nd} (hn : n ∈ w.N) : n.Tick.tmod 3 = w.Tick % 3 := by
 have h1 := G.time.at_ n hn;have h2 := G.time.lo;rw [Int.tmod_eq_emod_of_nonneg (by omega), h1]
noncomputable def ed (w : Wd) (l : List Ac) (k : Nat) (n : Nd) : Vw × Vw × Bool := az w.C n.V (mE w.C n (aC w l k).1) (aA n)
theorem Gw.third (G : Gw U w l) {k : Nat} {n : Nd} (hn : w.N[k]? = some n) (ht : w.Tick % 3 = 2) :
  (cZ w l k n).V = (ed w l k n).1 ∧ (cZ w l k n).In = (ed w l k n).2.1 ∧ (cZ w l k n).O = [] ∧ ((cZ w l k n).Full = false → (ed w l k n).2.2 = false) ∧ (ch w.C n (aC w l k).1 (aC w l k).2).2 = [] := by
 have hm := List.mem_of_getElem? hn;have hmod := G.mod hm;unfold cZ ed;rcases (jj (G.few hn)).2 with ⟨h, -⟩ | ⟨-, h, -⟩ | ⟨-, h, -⟩ | ⟨-, -, cu, e⟩
 ·rw [nx G.time hm] at h; cases h
 ·omega
 ·omega
 ·rw [e];refine ⟨rfl, rfl, rfl, fun h => ?_, rfl⟩;have h' : ((fb w.C n (aC w l k).2).2 || (az w.C n.V (mE w.C n (aC w l k).1) (aA n)).2.2) = false := h;exact (Bool.or_eq_false_iff.1 h').2
theorem Gw.first (G : Gw U w l) {k : Nat} {n : Nd} (hn : w.N[k]? = some n) (ht : w.Tick % 3 = 0) :
  (cZ w l k n).C = n.C ∧ (cZ w l k n).O = (fb w.C n (aC w l k).2).1 ∧
  ((n.No = j7 w.C (aA n) ∧ ∃ b : Bk, b = ⟨aA n, n.No, cE w.C (ed w l k n).1.B (cy w.C (ed w l k n).1.V (aA n - 1)), 0⟩ ∧ (cZ w l k n).V = (az w.C (ed w l k n).1 ⟨[b], []⟩ (aA n)).1 ∧
    ((cZ w l k n).Full = false → (ed w l k n).2.2 = false ∧ (az w.C (ed w l k n).1 ⟨[b], []⟩ (aA n)).2.2 = false) ∧ (ch w.C n (aC w l k).1 (aC w l k).2).2 = [⟨aA n, n.No, b, (ed w l k n).1⟩]) ∨
   (n.No ≠ j7 w.C (aA n) ∧ (cZ w l k n).V = n.V ∧ (ch w.C n (aC w l k).1 (aC w l k).2).2 = [])) := by
 have hm := List.mem_of_getElem? hn;have hmod := G.mod hm;have hsl := G.slot hm;have h1 := G.time.lo;have h2 := G.soon;unfold cZ ed;rcases (jj (G.few hn)).2 with ⟨h, -⟩ | ⟨-, -, e⟩ | ⟨-, h, -⟩ | ⟨-, h, -⟩
 ·rw [nx G.time hm] at h; cases h
 ·rw [e];refine ⟨rfl, rfl, ?_⟩;unfold dh;by_cases h : n.No = j7 w.C (aA n)
  ·left;rw [if_pos (show (bN w.C n (aC w l k).1 (aC w l k).2).No = j7 w.C (aA n) from h)]
   have eb : kL (bN w.C n (aC w l k).1 (aC w l k).2) w.C (aA n) = ⟨aA n, n.No, cE w.C (az w.C n.V (mE w.C n (aC w l k).1) (aA n)).1.B (cy w.C (az w.C n.V (mE w.C n (aC w l k).1) (aA n)).1.V (aA n - 1)), 0⟩ := by
    unfold kL;rw [cv (n := aA n - 1) (by omega) (by omega)];rfl
   rw [eb];refine ⟨h, _, rfl, rfl, fun hf => ?_, rfl⟩;have hf' := Bool.or_eq_false_iff.1 hf;exact ⟨(Bool.or_eq_false_iff.1 hf'.1).2, hf'.2⟩
  ·right;rw [if_neg (show (bN w.C n (aC w l k).1 (aC w l k).2).No ≠ j7 w.C (aA n) from h)];exact ⟨h, rfl, rfl⟩
 ·omega
 ·omega
theorem Gw.second (G : Gw U w l) {k : Nat} {n : Nd} (hn : w.N[k]? = some n) (ht : w.Tick % 3 = 1) :
  (cZ w l k n).C = n.C ∧ (cZ w l k n).O = [] ∧ (ch w.C n (aC w l k).1 (aC w l k).2).2 = [] ∧
  ∃ s : Vw × Vw × Bool, s = (fb w.C n (aC w l k).2).1.foldl (fd w.C (aA n)) (n.V, mE w.C n (aC w l k).1, (fb w.C n (aC w l k).2).2) ∧ (cZ w l k n).V = s.1 ∧ (cZ w l k n).Full = s.2.2 ∧
   (n.No ∈ lz w.C (aA n) → Vt.mk n.No (aA n) (cE w.C s.1.B (cy w.C s.1.V (aA n - 1))) ∈ (cZ w l k n).In.V) := by
 have hm := List.mem_of_getElem? hn;have hmod := G.mod hm;have hsl := G.slot hm;have h1 := G.time.lo;have h2 := G.soon;unfold cZ;rcases (jj (G.few hn)).2 with ⟨h, -⟩ | ⟨-, h, -⟩ | ⟨-, -, e⟩ | ⟨-, h, -⟩
 ·rw [nx G.time hm] at h; cases h
 ·omega
 ·rw [e];refine ⟨rfl, rfl, rfl, _, rfl, ?_⟩;unfold d7;by_cases h : n.No ∈ lz w.C (aA n)
  ·rw [if_pos (show (bN w.C n (aC w l k).1 (aC w l k).2).No ∈ lz w.C (aA n) from h)];refine ⟨rfl, rfl, fun _ => dZ.2 (.inr (List.mem_singleton.2 ?_))⟩;rw [cv (n := aA n - 1) (by omega) (by omega)];rfl
  ·rw [if_neg (show (bN w.C n (aC w l k).1 (aC w l k).2).No ∉ lz w.C (aA n) from h)];exact ⟨rfl, rfl, fun h2 => absurd h2 h⟩
 ·omega
structure wv (w : Wd) (l : List Ac) : Prop where
 room : ∀ n ∈ w.N, n.Full = false
 names : ((0, 0) :: (gY w l).B.map nm).Nodup
theorem wv.inj (T : wv w l) {a b : Bk} (ha : a ∈ (gY w l).B) (hb : b ∈ (gY w l).B) (e : nm a = nm b) : a = b := yn (List.nodup_cons.1 T.names).2 ha hb e
theorem AB {w : Wd} (v : Vw) : eu v (lL w v) := by
 have : ∀ (l : List Of) (v : Vw), eu v (l.foldl (fun v o => aH (aH v o.V) ⟨[o.B], []⟩) v) := by
  intro l
  induction l with
  | nil => exact fun v => fT v
  | cons o r ih => exact fun v => gw ⟨fun b hb => cI.2 (.inl (cI.2 (.inl hb))), fun x hx => dZ.2 (.inl (dZ.2 (.inl hx)))⟩ (ih _)
 exact this w.O v
theorem gu {n : Nd} (hn : n ∈ w.N) : eu n.V (gY w l) ∧ eu n.In (gY w l) := by
 have h : eu (cC w) (gY w l) := gw (AB _) (oz _ _)
 exact ⟨⟨fun b hb => h.1 b (m8.2 (.inr ⟨n, hn, ml.2 (.inl hb)⟩)), fun b hb => h.2 b (m9.2 (.inr ⟨n, hn, mm.2 (.inl hb)⟩))⟩,
  ⟨fun b hb => h.1 b (m8.2 (.inr ⟨n, hn, ml.2 (.inr hb)⟩)), fun b hb => h.2 b (m9.2 (.inr ⟨n, hn, mm.2 (.inr hb)⟩))⟩⟩
theorem Cv (w : Wd) (l : List Ac) (k : Nat) : eu (cC w) (aC w l k).1 := by
 have : ∀ (m : List Ac) (s : Vw × List Of), eu s.1 (m.foldl (ck (lM w) (fi w) w.Bad (cC w) (decide (fi w ∈ w.Bad)) (k : Int)) s).1 := by
  intro m
  induction m with
  | nil => exact fun s => fT _
  | cons a r ih =>
   intro s;refine gw ?_<|ih _;unfold ck;split
   ·exact fT _
   ·split
    ·exact ⟨fun b hb => cI.2 (.inl hb), fun x hx => dZ.2 (.inl hx)⟩
    ·split
     ·split <;> exact fT _
     ·exact fT _
 exact this (eM w l) (cC w, w.O)
def oZ (t : Int) (v : Vw) : Prop := (∀ b ∈ v.B, b.Slot ≤ t) ∧ ∀ x ∈ v.V, x.Slot ≤ t
theorem Gw.meet (G : Gw U w l) (T : wv (ff w l) l) {k : Nat} {n : Nd} (hn : w.N[k]? = some n) (hf : (ed w l k n).2.2 = false) (hs : eu (ed w l k n).1 (cZ w l k n).V) {m : Nd} (hm : m ∈ w.N) (hu : oZ (w.Tick / 3) m.V) :
  eu m.V (ed w l k n).1 ∧ ∀ v ∈ m.In.V, mayV w.C v = true → v.Slot ≤ w.Tick / 3 → forB m.V.B v → v ∈ (ed w l k n).1.V := by
 have hnm := List.mem_of_getElem? hn;have hmay := G.may hnm;have hmm := G.may hm;have hsl := G.slot hnm;obtain ⟨j, hj⟩ := List.getElem?_of_mem hm;have hall := Cv w l k;have hinB : ∀ b ∈ m.V.B, b ∈ (mE w.C n (aC w l k).1).B := fun b hb => cI.2 (.inr (List.mem_filter.2 ⟨hall.1 b (m8.2 (.inr ⟨m, hm, ml.2 (.inl hb)⟩)), hmm.mayB b hb⟩));have hinV : ∀ v, v ∈ m.V.V ∨ v ∈ m.In.V → mayV w.C v = true → v ∈ (mE w.C n (aC w l k).1).V := fun v hv hmv => dZ.2 (.inr (List.mem_filter.2 ⟨hall.2 v (m9.2 (.inr ⟨m, hm, mm.2 hv⟩)), hmv⟩))
 have hmain : eu m.V (ed w l k n).1 := by
  unfold ed at hf hs ⊢;refine uI hmay hf hmm (fun b hb => .inr (hinB b hb)) (fun v hv => .inr (hinV v (.inl hv) (hmm.mayV v hv))) (fun b hb => by rw [hsl]; exact hu.1 b hb) (fun v hv => by rw [hsl]; exact hu.2 v hv) fun b hb y hy e => ?_;refine T.inj ((gu (List.mem_of_getElem? (G.next hn))).1.1 y (hs.1 y hy)) ((gu (List.mem_of_getElem? (G.next hj))).1.1 b ?_) e;exact (gP (G.keeps hj)).1 b hb
 refine ⟨hmain, fun v hv hmv hle hfb => ?_⟩;unfold ed at hf hmain ⊢;exact Fz hmay hf (hinV v (.inr hv) hmv) hmv (by rw [hsl]; exact hle)<|x4 hmm.valid (ph hmay _ _).may.valid hmain.1 hfb
theorem jn {c : Cf} {v i : Vw} {s t : Int} (hm : ea c v) (h : oZ t v) (hs : s ≤ t) : oZ t (az c v i s).1 := by
 have ht := ph hm i s;obtain ⟨a, e, h1⟩ := ht.preB;obtain ⟨d, e2, h2⟩ := ht.preV;refine ⟨fun b hb => ?_, fun x hx => ?_⟩
 ·rw [e] at hb;rcases List.mem_append.1 hb with hb | hb
  ·exact h.1 b hb
  ·have := (h1 b hb).2; omega
 ·rw [e2] at hx;rcases List.mem_append.1 hx with hx | hx
  ·exact h.2 x hx
  ·have := (h2 x hx).2; omega
theorem sJ {c : Cf} {s t : Int} (hs : s ≤ t) : ∀ (o : List Of) (x : Vw × Vw × Bool), ea c x.1 → oZ t x.1 → oZ t (o.foldl (fd c s) x).1
 | [], x, _, h => h
 | y :: r, x, hm, h => by
  rw [List.foldl_cons];exact sJ hs r _ (cA hm _ _).1<|jn hm h hs
theorem Gw.upto (G : Gw U w l) (h : ∀ n ∈ w.N, oZ ((w.Tick - 1) / 3) n.V) : ∀ x ∈ (ff w l).N, oZ (w.Tick / 3) x.V := by
 intro x hx;obtain ⟨k, n, hn, rfl⟩ := G.prev hx;have hm := List.mem_of_getElem? hn;have hmay := G.may hm;have hsl := G.slot hm;have h1 := G.time.lo;have hu : oZ (w.Tick / 3) n.V := ⟨fun b hb => by have := (h n hm).1 b hb; omega, fun v hv => by have := (h n hm).2 v hv; omega⟩;have hc : oZ (w.Tick / 3) (ed w l k n).1 := jn hmay hu (by omega)
 have h3 : w.Tick % 3 = 0 ∨ w.Tick % 3 = 1 ∨ w.Tick % 3 = 2 := by omega
 rcases h3 with h3 | h3 | h3
 ·rcases (G.first hn h3).2.2 with ⟨-, b, -, e, -⟩ | ⟨-, e, -⟩
  ·rw [e]; exact jn (cA hmay _ _).1 hc (by omega)
  ·rw [e]; exact hu
 ·obtain ⟨-, -, -, s, e, e2, -⟩ := G.second hn h3;rw [e2, e];exact sJ (by omega) _ _ hmay hu
 ·rw [(G.third hn h3).1]; exact hc
end
open Go.Proofs
structure Hq where
 i : Int
structure Hs where
 k : Int
structure Ht where
 i : Int
structure Hu where
 k : Int
theorem GP {U : Vw} {w : Wd} {l : List Ac} {P P' : Bk → Prop} {Q Q' : Vt → Prop} (hw : xQ U w) (hU : Fc U) (hl : ly l) (hs : eu (ip l) U) (ht : Es w) (hP : ∀ b, P b → P' b) (hQ : ∀ v, Q v → Q' v)
  (hn : ∀ n ∈ w.N, rn P Q n) (ho : ∀ o ∈ w.O, lv P Q o) (ha : ∀ a ∈ l, (∀ b ∈ a.B, b.From ∈ w.Bad → P b) ∧ ∀ v ∈ a.V, v.From ∈ w.Bad → Q v)
  (hp : ∀ k n, w.N[k]? = some n → n.Tick.tmod 3 = 0 → n.No = j7 w.C (aA n) → P' (kL (bN w.C n (aC w l k).1 (aC w l k).2) w.C (aA n)))
  (hv : ∀ k n, w.N[k]? = some n → n.Tick.tmod 3 = 1 → n.No ∈ lz w.C (aA n) → Q' (sK w.C n (aC w l k).1 (aC w l k).2)) :
  (∀ n ∈ (ff w l).N, rn P' Q' n) ∧ ∀ o ∈ (ff w l).O, lv P' Q' o := by
 have hi := g0 ht;have hG : ∀ k n, w.N[k]? = some n → lw w.C n (aC w l k).1 (aC w l k).2 := fun k n h => EK hw hU hl hs h;have hc := fun k => mO hn ho ha k
 have hall := fun k n (h : w.N[k]? = some n) => vU (P := P') (Q := Q') (hG k n h) (ll hP hQ (hn n (List.mem_of_getElem? h)))
  ⟨fun b hb => hP b ((hc k).1.1 b hb), fun v hv => hQ v ((hc k).1.2 v hv)⟩ (fun y hy => nM hP hQ ((hc k).2 y hy)) (fun _ => hp k n h) fun _ => hv k n h
 refine ⟨fun x hx => ?_, fun o ho => ?_⟩
 ·obtain ⟨k, hk, e⟩ := List.getElem_of_mem hx
  have h1 : (ff w l).N[k]? = some x := by rw [List.getElem?_eq_getElem hk, e]
  rw [lm hi] at h1
  cases hn : w.N[k]? with
  | none => rw [hn] at h1; cases h1
  | some n =>
   rw [hn] at h1;have e2 := Option.some.inj h1;subst e2;exact (hall k n hn).1
 ·obtain ⟨k, n, hn, h⟩ := pr hi ho;exact (hall k n hn).2 o h
def Em (c : Cf) (bad : List Int) (G : Int → Bk) (T : Int) (b : Bk) : Prop := b.From ∈ bad ∨ (b = G b.Slot ∧ j7 c b.Slot = b.From ∧ b.Salt = 0 ∧ 1 ≤ b.Slot ∧ 3 * b.Slot < T)
def En (c : Cf) (bad : List Int) (W : Int → Int → Vt) (T : Int) (v : Vt) : Prop := v.From ∈ bad ∨ (v = W v.From v.Slot ∧ v.From ∈ lz c v.Slot ∧ 1 ≤ v.Slot ∧ 3 * v.Slot + 1 < T)
def pX (c : Cf) (bad : List Int) (w : Wd) : Prop := ∃ G W, (∀ n ∈ w.N, rn (Em c bad G w.Tick) (En c bad W w.Tick) n) ∧ ∀ o ∈ w.O, lv (Em c bad G w.Tick) (En c bad W w.Tick) o
theorem oL (bad : List Int) (n : Nat) : (j5 bad n).Nodup := by
 unfold j5;refine List.Nodup.sublist List.filter_sublist ?_;refine List.Pairwise.map (R := fun a b => a ≠ b) _ (fun a b h h2 => h (Int.ofNat.inj h2)) List.nodup_range
theorem pA {w : Wd} (h : (w.N.map Nd.No).Nodup) {k j : Nat} {n m : Nd} (hn : w.N[k]? = some n) (hm : w.N[j]? = some m) (e : n.No = m.No) : k = j := by
 have hk := (List.getElem?_eq_some_iff.1 hn).1
 have h1 : (w.N.map Nd.No)[k]? = (w.N.map Nd.No)[j]? := by rw [List.getElem?_map, List.getElem?_map, hn, hm]; simp [e]
 exact (List.getElem?_inj (by rw [List.length_map]; exact hk) h).1 h1
open Classical in
theorem Af {U : Vw} {w : Wd} {l : List Ac} (hw : xQ U w) (hU : Fc U) (hl : ly l) (hs : eu (ip l) U) (ht : Es w) (hno : (w.N.map Nd.No).Nodup) (hbig : w.Tick ≤ 1000) (h : pX w.C w.Bad w) : pX w.C w.Bad (ff w l) := by
 obtain ⟨G, W, h1, h2⟩ := h;obtain ⟨t1, t2, t3, t4, t5⟩ := te hw hU hl hs ht;have hlo := ht.lo;obtain ⟨s, hs0⟩ : ∃ s, s = w.Tick / 3 := ⟨_, rfl⟩
 have hsl : ∀ n ∈ w.N, aA n = s := fun n hn => by
  have := ht.at_ n hn;have := (qY (n := n) (by omega) (by omega)).1;omega
 obtain ⟨b0, hb0⟩ : ∃ b0 : Bk, ∀ k n, w.N[k]? = some n → n.No = j7 w.C s → kL (bN w.C n (aC w l k).1 (aC w l k).2) w.C s = b0 := by
  by_cases he : ∃ (k : Nat) (n : Nd), w.N[k]? = some n ∧ n.No = j7 w.C s
  ·obtain ⟨k, n, hk, e⟩ := he;refine ⟨kL (bN w.C n (aC w l k).1 (aC w l k).2) w.C s, fun j m hj e2 => ?_⟩;have e3 := pA hno hj hk (e2.trans e.symm);subst e3;rw [hk] at hj;rw [← Option.some.inj hj]
  ·exact ⟨⟨0, 0, (0, 0), 0⟩, fun k n hk e => absurd ⟨k, n, hk, e⟩ he⟩
 obtain ⟨v0, hv0⟩ : ∃ v0 : Int → Vt, ∀ f k n, w.N[k]? = some n → n.No = f → sK w.C n (aC w l k).1 (aC w l k).2 = v0 f := by
  refine Classical.axiomOfChoice (r := fun f v => ∀ k n, w.N[k]? = some n → n.No = f → sK w.C n (aC w l k).1 (aC w l k).2 = v) fun f => ?_;by_cases he : ∃ (k : Nat) (n : Nd), w.N[k]? = some n ∧ n.No = f
  ·obtain ⟨k, n, hk, e⟩ := he;refine ⟨sK w.C n (aC w l k).1 (aC w l k).2, fun j m hj e2 => ?_⟩;have e3 := pA hno hj hk (e2.trans e.symm);subst e3;rw [hk] at hj;rw [← Option.some.inj hj]
  ·exact ⟨⟨0, 0, (0, 0)⟩, fun k n hk e => absurd ⟨k, n, hk, e⟩ he⟩
 let G' : Int → Bk := fun x => if x = s ∧ w.Tick.tmod 3 = 0 then b0 else G x
 let W' : Int → Int → Vt := fun f x => if x = s ∧ w.Tick.tmod 3 = 1 then v0 f else W f x
 have hmod : w.Tick.tmod 3 = w.Tick % 3 := Int.tmod_eq_emod_of_nonneg (by omega);have hres := GP (P' := Em w.C w.Bad G' (w.Tick + 1)) (Q' := En w.C w.Bad W' (w.Tick + 1)) hw hU hl hs ht (fun b hb => ?_) (fun v hv => ?_) h1 h2 (fun a ha => ⟨fun b _ hb => .inl hb, fun v _ hv => .inl hv⟩) (fun k n hk h3 h4 => ?_) (fun k n hk h3 h4 => ?_)
 ·refine ⟨G', W', ?_⟩;rw [t3];exact hres
 ·rcases hb with hb | ⟨a1, a2, a3, a4, a5⟩
  ·exact .inl hb
  ·refine .inr ⟨?_, a2, a3, a4, by omega⟩;exact a1.trans (if_neg (c := b.Slot = s ∧ w.Tick.tmod 3 = 0) fun h => by obtain ⟨e1, e2⟩ := h; omega).symm
 ·rcases hv with hv | ⟨a1, a2, a3, a4⟩
  ·exact .inl hv
  ·refine .inr ⟨?_, a2, a3, by omega⟩;exact a1.trans (if_neg (c := v.Slot = s ∧ w.Tick.tmod 3 = 1) fun h => by obtain ⟨e1, e2⟩ := h; omega).symm
 ·have hm := List.mem_of_getElem? hk;have hT := ht.at_ n hm;rw [hsl n hm] at h4 ⊢;rw [hT] at h3;refine .inr ⟨?_, h4.symm, rfl, by show 1 ≤ s; omega, by show 3 * s < _; omega⟩;exact (hb0 k n hk h4).trans (if_pos (c := s = s ∧ w.Tick.tmod 3 = 0) ⟨rfl, h3⟩).symm
 ·have hm := List.mem_of_getElem? hk;have hT := ht.at_ n hm;rw [hT] at h3;have hsn := hsl n hm;refine .inr ⟨?_, h4, by show 1 ≤ aA n; omega, by show 3 * aA n + 1 < _; omega⟩;exact (hv0 _ k n hk Z).trans (if_pos (c := aA n = s ∧ w.Tick.tmod 3 = 1) ⟨hsn, h3⟩).symm
theorem qG {c : Cf} {bad : List Int} {l : List Ac} (hb : ki c bad l) : ∀ k, k ≤ 15 → pX c bad (b6 (bY c bad) l k)
 | 0, _ => by
  have h := (C7 hb.may hb.w (bad := bad) (by have := hb.bad; omega) ⟨[], []⟩).1;refine ⟨fun _ => ⟨0, 0, (0, 0), 0⟩, fun _ _ => ⟨0, 0, (0, 0)⟩, fun n hn => ll (fun b hb => by cases hb) (fun v hv => by cases hv) (h.nodes n hn).all, fun o ho => by cases ho⟩
 | k + 1, hk => by
  have ih := qG hb k (by omega);have hR := mN (bad := bad) hb.may hb.w (by have := hb.bad; omega) hb.acts k (by omega);have hal := nL hb.len hb.acts.each;have r1 := hR.B;have r2 := hR.V;have r3 := hR.tick;have r4 : (bY c bad).Tick = 3 := rfl;have e1 : (b6 (bY c bad) l k).C = c := hR.conf;have e2 : (b6 (bY c bad) l k).Bad = bad := hR.bad;have h := Af hR.ok ⟨by omega, by omega⟩ hb.acts hR.sub hR.time (by rw [hR.nos, yp]; exact oL _ _) (by omega) (by rw [e1, e2]; exact ih);rw [e1, e2] at h;exact h
section
variable {U : Vw} {w : Wd} {l : List Ac}
theorem Di {t : Int} (h1 : 3 ≤ t) (h2 : t ≤ 100000) : yu t = if (t - 1) % 3 = 2 then (t - 1) / 3 else (t - 1) / 3 - 1 := by
 unfold yu;rw [cv (n := t - 1) (by omega) (by omega), Int.tmod_eq_emod_of_nonneg (by omega), Int.tdiv_eq_ediv_of_nonneg (by omega), cv (n := (t - 1) / 3) (by omega) (by omega), cv (n := (t - 1) / 3 - 1) (by omega) (by omega)];by_cases h : (t - 1) % 3 = 2
 ·rw [if_pos h, show ((t - 1) % 3 != 2) = false by simp [h], cf]
 ·rw [if_neg h, show ((t - 1) % 3 != 2) = true by simp [h], ct]
def Fd (w : Wd) (s : Int) : Prop := ∀ n ∈ w.N, n.No ∈ lz w.C s → Vt.mk n.No s (cE w.C n.V.B (cy w.C n.V.V (s - 1))) ∈ n.In.V
theorem Dv (G : Gw U w l) (ht : w.Tick % 3 = 1) : Fd (ff w l) (w.Tick / 3) := by
 obtain ⟨c1, -, -⟩ := G.conf;intro x hx;obtain ⟨k, n, hn, rfl⟩ := G.prev hx;have hm := List.mem_of_getElem? hn;obtain ⟨-, -, -, s, -, e2, -, h⟩ := G.second hn ht;have hno : (cZ w l k n).No = n.No := (ji (G.few hn) (G.may hm) (G.ok.nodes n hm).nd (G.ok.nodes n hm).few).1;rw [G.slot hm] at h;rw [c1, hno, e2];exact h
end
open Go.Proofs
def ui : Option Bool :=
 (F1 ).bind fun v1 =>
 (rL v1 ([] : List Int)).bind fun v2 =>
 (BG v2 ([] : List Ac) 3).bind fun v3 =>
 (AW v3 (nm (Bk.mk 1 0 (0, 0) 0))).bind fun v4 =>
 bif v4 then
  (ix v3.N 0).bind fun y1 =>
  bif ((y1.C.ID.1 == ((nm (Bk.mk 1 0 (0, 0) 0)).1)) && ((y1.C.ID.2 == ((nm (Bk.mk 1 0 (0, 0) 0)).2)) && true)) then
   (AV v3.C ([] : List Int) 1 9).bind fun v5 =>
   some v5
  else
   some false
 else
  some false
theorem Iw {r_ : Bool} (hr : ui = some r_) : av Tryz.prog 14 [] [.bool r_] := by
 refine zh Tryz.func14 Z Z Z Z ?_;unfold ui at hr;refine zQ<|zR<|zM Z<|zN<|zT<|zQ<|zR<|zb hr fun v1 h_v1 hr => yS Z (zC Z Z Z (by kernel_rfl) (zp (KA h_v1) .nil))<|zb hr fun v2 h_v2 hr => yS Z (zC Z Z Z (by kernel_rfl) (zp (Fn h_v2) (.cons zv (.cons Conv.zs .nil))))<|zb hr fun v3 h_v3 hr => yS Z (zC Z Z Z (by kernel_rfl) (zp (IB h_v3) (.cons zv (.cons Conv.zs (.cons zv .nil)))))<|yS Z (ze Z kW Z Z)<|yS Z (zs Z Z Z Z bU Z Z Z Z)<|zN<|zT<|zQ<|zR<|yS Z (ab.build Z HO Z Z Z)<|yS Z (zC Z Z Z (by kernel_rfl) (zp (Fr (b := (Bk.mk 1 0 (0, 0) 0))) (.cons zv .nil)))<|yS Z (ze Z jo Z Z)<|yS Z (zs Z Z Z Z aR Z Z Z Z)<|zN ?_;refine zT<|zQ<|LW.draw2 (by kernel_rfl) (by kernel_rfl)<|yE Z (zD Z Z Z bU Z Z)<|yE Z (zD Z Z Z aR Z Z)<|zb hr fun v4 h_v4 hr => yE Z (zC Z Z Z (by kernel_rfl) (zp (HR h_v4) (.cons zv (.cons zv .nil))))<|zH Z ?_;refine LO.cases 11 Z (fun (g1 : v4 = true) => ?_) (fun (g1 : v4 = false) => ?_)
 ·
  refine zi g1 hr fun hr => LO.gd Z Z Z (gd g1 Z) Z (zA Z Z bK)<|LO.gd Z Z Z (gd g1 Z) Z (zD Z Z Z dk Z Z)<|zb hr fun y1 h_y1 hr => LO.gd Z Z Z (gd g1 Z) Z (zx Z Z Z dR h_y1 Z)<|LO.gd Z Z Z (gd g1 Z) Z (ab.fieldAddrC Z Z qr Z)<|LO.gd Z Z Z (gd g1 Z) Z (ab.fieldAddrC Z Z tk Z)<|LO.gd Z Z Z (gd g1 Z) Z (dS Z Z Z aR Z Z)<|LO.gd Z Z Z (gd g1 Z) Z (zD Z Z Z aR Z Z)<|LO.gd Z Z Z (gd g1 Z) Z (ab.eqlAgg Z Z Z Z Z rY)<|yE Z (eP Z (bL g1 Z) Z)<|zH Z ?_;refine LO.cases 21 Z (fun (g2 : ((y1.C.ID.1 == ((nm (Bk.mk 1 0 (0, 0) 0)).1)) && ((y1.C.ID.2 == ((nm (Bk.mk 1 0 (0, 0) 0)).2)) && true)) = true) => ?_) (fun (g2 : ((y1.C.ID.1 == ((nm (Bk.mk 1 0 (0, 0) 0)).1)) && ((y1.C.ID.2 == ((nm (Bk.mk 1 0 (0, 0) 0)).2)) && true)) = false) => ?_)
  ·
   refine zi g2 hr fun hr => LO.gd Z Z Z (gd g2 Z) Z (zA Z Z i9)<|LO.gd Z Z Z (gd g2 Z) Z (zD Z Z Z bE Z Z)<|zb hr fun v5 h_v5 hr => LO.gd Z Z Z (gd g2 Z) Z (zC Z Z Z (by kernel_rfl) (zp (HQ h_v5) (.cons zv (.cons Conv.zs (.cons zv (.cons zv .nil))))))<|yE Z (eP Z (bL g2 Z) Z)<|zH Z<|LO.nil<|zT<|zr ?_;obtain rfl := zJ hr;exact zf (.one (.tmp Z)) zv
  ·
   refine zo g2 hr fun hr => LO.sk Z Z Z (gd g2 Z) Z Z<|LO.sk Z Z Z (gd g2 Z) Z Z<|LO.sk Z Z Z (gd g2 Z) Z Z<|yE Z (db Z (bL g2 Z) Z)<|zH Z<|LO.nil<|zT<|zr ?_;obtain rfl := zJ hr;exact zf (.one (.tmp Z)) zv
 ·
  refine zo g1 hr fun hr => LO.sk Z Z Z (gd g1 Z) Z Z<|LO.sk Z Z Z (gd g1 Z) Z Z<|LO.sk Z Z Z (gd g1 Z) Z Z<|LO.sk Z Z Z (gd g1 Z) Z Z<|LO.sk Z Z Z (gd g1 Z) Z Z<|LO.sk Z Z Z (gd g1 Z) Z Z<|LO.sk Z Z Z (gd g1 Z) Z Z<|LO.sk Z Z Z (gd g1 Z) Z Z<|yE Z (db Z (bL g1 Z) Z)<|zH Z<|LO.sk Z Z Z Z Z Z<|LO.sk Z Z Z Z Z Z<|LO.sk Z Z Z Z Z Z<|yE Z (db Z Z Z)<|zH Z<|LO.nil<|zT<|zr ?_;obtain rfl := zJ hr;exact zf (.one (.tmp Z)) zv
def rK (c : Cf) (bad : List Int) (l : List Ac) (slots : Int) : Option Bool :=
 (rO c bad l).bind fun v1 =>
 bif v1 then
  bif decide (slots ≥ 1) then
   some (decide (slots ≤ 4))
  else
   some false
 else
  some false
theorem Ix {c : Cf} {bad : List Int} {l : List Ac} {slots : Int} {r_ : Bool} (hr : rK c bad l slots = some r_) : av Tryz.prog 15 [jx c, .slice 1 (bad.map aE), .slice 5 (l.map kc), .int .i64 slots] [.bool r_] := by
 refine zh Tryz.func15 Z Z Z Z ?_;unfold rK at hr;refine zQ<|zR<|yS Z (bV Z Z Z Z Z)<|zM Z<|zN<|zT<|zQ<|zR<|yS Z (zD Z Z Z bE Z Z)<|zM Z<|zM Z<|zb hr fun v1 h_v1 hr => yS Z (zC Z Z Z (by kernel_rfl) (zp (IA h_v1) (.cons zv (.cons zv (.cons zv .nil)))))<|zM Z<|zN<|zT<|zQ<|zR<|zM Z<|zM Z ?_;refine zc 15 Z (fun g1 => ?_)<|fun g1 => ?_
 ·
  refine zi g1 hr fun hr => yV Z (gd g1 Z) (zm Z Z)<|yV Z (gd g1 Z) (aw Z Z Z Z)<|yS Z (eP Z (bL g1 Z) Z)<|zM Z ?_;refine zc 19 Z (fun g2 => ?_)<|fun g2 => ?_
  ·
   refine zi g2 hr fun hr => yV Z (gd g2 Z) (zm Z Z)<|yV Z (gd g2 Z) (aw Z Z Z Z)<|yS Z (eP Z (bL g2 Z) Z)<|zM Z<|zN<|zT<|zr ?_;obtain rfl := zJ hr;exact zf (.one (.tmp Z)) zv
  ·
   refine zo g2 hr fun hr => yU Z (gd g2 Z) Z<|yU Z (gd g2 Z) Z<|yS Z (db Z (bL g2 Z) Z)<|zM Z<|zN<|zT<|zr ?_;obtain rfl := zJ hr;exact zf (.one (.tmp Z)) zv
 ·
  refine zo g1 hr fun hr => yU Z (gd g1 Z) Z<|yU Z (gd g1 Z) Z<|yS Z (db Z (bL g1 Z) Z)<|zM Z<|yU Z Z Z<|yU Z Z Z<|yS Z (db Z Z Z)<|zM Z<|zN<|zT<|zr ?_;obtain rfl := zJ hr;exact zf (.one (.tmp Z)) zv
def rM (w : Wd) (l : List Ac) : Option Bool :=
 (ue w.N).bind fun v1 =>
 bif v1 then
  some true
 else
  (tP w l).bind fun v2 =>
  (uf v2).bind fun v3 =>
  some v3
theorem Iy {w : Wd} {l : List Ac} {r_ : Bool} (hr : rM w l = some r_) : av Tryz.prog 18 [DE w, .slice 5 (l.map kc)] [.bool r_] := by
 refine zh Tryz.func18 Z Z Z Z ?_;unfold rM at hr;refine zQ<|zR<|yS Z (bV Z Z Z Z Z)<|zM Z<|zN<|zT<|zQ<|zR<|yS Z (zA Z Z bK)<|yS Z (zD Z Z Z dk Z Z)<|zb hr fun v1 h_v1 hr => yS Z (zC Z Z Z (by kernel_rfl) (zp (Im h_v1) (.cons zv .nil)))<|zM Z ?_;refine zc 8 Z (fun g1 => ?_)<|fun g1 => ?_
 ·
  refine zi g1 hr fun hr => yU Z (gd g1 Z) Z<|yU Z (gd g1 Z) Z<|yU Z (gd g1 Z) Z<|yU Z (gd g1 Z) Z<|yS Z (eP Z (bL g1 Z) Z)<|zM Z<|zN<|zT<|zr ?_;obtain rfl := zJ hr;exact zf (.one (.tmp Z)) zv
 ·
  refine zo g1 hr fun hr => yV Z (gd g1 Z) (zD Z Z Z bU Z Z)<|yV Z (gd g1 Z) (zm Z Z)<|zb hr fun v2 h_v2 hr => yV Z (gd g1 Z) (zC Z Z Z (by kernel_rfl) (zp (HS h_v2) (.cons zv (.cons zv .nil))))<|zb hr fun v3 h_v3 hr => yV Z (gd g1 Z) (zC Z Z Z (by kernel_rfl) (zp (Io h_v3) (.cons zv .nil)))<|yS Z (db Z (bL g1 Z) Z)<|zM Z<|zN<|zT<|zr ?_;obtain rfl := zJ hr;exact zf (.one (.tmp Z)) zv
def jH (l : List Bk) : List (ID × Bool) := l.foldl (fun m b => aN m (nm b) true) (aN [] (0, 0) true)
theorem vv (l : List Bk) (b : Bk) : jH (l ++ [b]) = aN (jH l) (nm b) true := by unfold jH; rw [List.foldl_append]; rfl
theorem vz : ∀ (l : List Bk) (m : List (ID × Bool)), (l.foldl (fun m b => aN m (nm b) true) m).length ≤ m.length + l.length ∧
  ((l.foldl (fun m b => aN m (nm b) true) m).length = m.length + l.length ↔ (l.map nm).Nodup ∧ ∀ x ∈ l.map nm, x ∉ m.map Prod.fst)
 | [], m => by simp
 | b :: r, m => by
  have ih := vz r (aN m (nm b) true);have hk := m5 (nm b) true m;have hlen := congrArg List.length hk;rw [List.length_map] at hlen;simp only [List.foldl_cons, List.length_cons, List.map_cons, List.nodup_cons, List.mem_cons, forall_eq_or_imp];by_cases h : nm b ∈ m.map Prod.fst
  ·rw [if_pos h] at hlen hk;rw [List.length_map] at hlen;refine ⟨by omega, ⟨fun e => by omega, fun e => absurd h e.2.1⟩⟩
  ·rw [if_neg h] at hlen hk;rw [List.length_append, List.length_map, List.length_singleton] at hlen;refine ⟨by omega, ?_⟩;rw [show m.length + (r.length + 1) = (aN m (nm b) true).length + r.length by omega, ih.2, hk];constructor
   ·rintro ⟨h1, h2⟩;refine ⟨⟨fun h3 => ?_, h1⟩, h, fun x hx h3 => h2 x hx (List.mem_append_left _ h3)⟩;exact h2 _ h3<|List.mem_append_right _<|List.mem_singleton.2 Z
   ·rintro ⟨⟨h1, h2⟩, -, h4⟩;refine ⟨h2, fun x hx h5 => ?_⟩;rcases List.mem_append.1 h5 with h6 | h6
    ·exact h4 x hx h6
    ·rw [List.mem_singleton] at h6; subst h6; exact h1 hx
theorem Ao (l : List Bk) : (jH l).length ≤ l.length + 1 ∧ ((jH l).length = l.length + 1 ↔ ((0, 0) :: l.map nm).Nodup) := by
 have h := vz l (aN [] (0, 0) true);have e : aN ([] : List (ID × Bool)) (0, 0) true = [((0, 0), true)] := rfl;rw [e] at h;simp only [List.length_singleton, List.map_cons, List.map_nil, List.mem_singleton] at h;have e2 : jH l = l.foldl (fun m b => aN m (nm b) true) [((0, 0), true)] := rfl;rw [e2];refine ⟨by omega, ?_⟩;rw [show l.length + 1 = 1 + l.length by omega, h.2, List.nodup_cons];exact ⟨fun ⟨h1, h2⟩ => ⟨fun h3 => h2 _ h3 rfl, h1⟩, fun ⟨h1, h2⟩ => ⟨h2, fun x hx e => h1 (e ▸ hx)⟩⟩
def ta (l : List Bk) : Bool := decide (¬ ((0, 0) :: l.map nm).Nodup)
theorem Bw {w : Vw} (hl : w.B.length ≤ 90000) : uf w = some (ta w.B) := by
 have e := aB (step := iS w) (n := w.B.length) (fun k => en.mk (k : Int) (jH (w.B.take k))) (en.mk (w.B.length : Int) (jH w.B)) (fun k hk => by
  obtain ⟨y, hy, -⟩ := aD hk
  have et : w.B.take (k + 1) = w.B.take k ++ [y] := by rw [List.take_add_one, hy]; rfl
  unfold iS;simp only
  rw [decide_eq_true (show (k : Int) < (w.B.length : Int) by omega), ct, aG hy, ob, et, vv, ak (n := k) (by omega)]) (by
  unfold iS;simp only
  rw [decide_eq_false (show ¬ (w.B.length : Int) < (w.B.length : Int) by omega), cf, List.take_length]) (by omega)
 have e' : iter (iS w) bG (en.mk 0 (aN [] (0, 0) true)) = _ := e;have hn := Ao w.B;unfold uf;rw [e', ob];simp only;rw [show qe (jH w.B) = true from decide_eq_true (by omega), ct, ak (n := w.B.length) (by omega)];congr 1;unfold ta;rw [Bool.eq_iff_iff, decide_eq_true_iff, ← hn.2, bne_iff_ne];omega
structure Eo (w : Wd) : Prop where
 upto : ∀ n ∈ w.N, oZ ((w.Tick - 1) / 3) n.V
 voted : w.Tick % 3 = 2 → Fd w (w.Tick / 3)
theorem EP {U : Vw} {w : Wd} {l : List Ac} (G : Gw U w l) (h : Eo w) : Eo (ff w l) := by
 obtain ⟨-, -, e⟩ := G.conf;refine ⟨?_, fun ht => ?_⟩
 ·rw [e, show (w.Tick + 1 - 1) / 3 = w.Tick / 3 by rw [Int.add_sub_cancel]];exact G.upto h.upto
 ·rw [e] at ht ⊢;rw [show (w.Tick + 1) / 3 = w.Tick / 3 by omega];exact Dv G (by omega)
section
variable {c : Cf} {bad : List Int} {l : List Ac}
theorem vo (hb : ki c bad l) : ∀ k, k ≤ 15 → Eo (b6 (bY c bad) l k)
 | 0, _ => by
  refine ⟨fun n hn => ?_, fun ht => ?_⟩
  ·obtain ⟨i, -, h⟩ := List.mem_map.1 hn;subst h;exact ⟨fun b hb => (by cases hb), fun v hv => (by cases hv)⟩
  ·exact absurd ht (by show ¬ (3 : Int) % 3 = 2; omega)
 | k + 1, hk => EP (l9 hb (by omega)) (vo hb k (by omega))
theorem kP (hb : ki c bad l) {k : Nat} (hk : k ≤ 15) : (b6 (bY c bad) l k).C = c ∧ (b6 (bY c bad) l k).Bad = bad ∧ (b6 (bY c bad) l k).Tick = 3 + k :=
 have h := mN (bad := bad) hb.may hb.w (by have := hb.bad; omega) hb.acts k hk
 ⟨h.conf, h.bad, h.tick⟩
theorem EX (hb : ki c bad l) {k : Nat} (hk : k ≤ 15) : pX (b6 (bY c bad) l k).C (b6 (bY c bad) l k).Bad (b6 (bY c bad) l k) := by
 obtain ⟨e1, e2, -⟩ := kP hb hk;rw [e1, e2];exact qG hb k hk
theorem tB (hb : ki c bad l) {k : Nat} (hk : k ≤ 15) : rp (b6 (bY c bad) l k) := yz (l9 hb hk).ok (l9 hb hk).sz
theorem G5 (hb : ki c bad l) {k : Nat} (hk : k ≤ 15) : oF (b6 (bY c bad) l k) l = some (b6 (bY c bad) l (k + 1)) :=
 have G := l9 hb hk
 (FA G.ok G.sz G.acts G.sub).1
theorem By : ui = some true := by kernel_rfl
theorem Bz (c : Cf) (bad : List Int) (l : List Ac) (slots : Int) : rK c bad l slots = some false ∨ (rK c bad l slots = some true ∧ ki c bad l ∧ 1 ≤ slots ∧ slots ≤ 4) := by
 unfold rK;rcases BF c bad l with e | ⟨e, hb⟩
 ·rw [e, ob, cf]; exact .inl rfl
 ·rw [e, ob, ct];by_cases h1 : slots ≥ 1
  ·rw [decide_eq_true h1, ct];by_cases h2 : slots ≤ 4
   ·rw [decide_eq_true h2]; exact .inr ⟨rfl, hb, h1, h2⟩
   ·rw [decide_eq_false h2]; exact .inl rfl
  ·rw [decide_eq_false h1, cf]; exact .inl rfl
theorem BD {w : Wd} (h : rp w) (hl : ly l) : rM w l = some true ∨ (rM w l = some false ∧ wv w l) := by
 have hs := Dh h hl;have hn := h.n;unfold rM;rw [Bv (by omega), ob]
 cases hf : w.N.any Nd.Full with
 | true => rw [ct]; exact .inl rfl
 | false =>
  rw [cf, AX h hl, ob, Bw (by omega), ob]
  cases hc : ta (gY w l).B with
  | true => exact .inl rfl
  | false =>
   refine .inr ⟨rfl, fun n hn => ?_, ?_⟩
   ·have := List.any_eq_false.1 hf n hn
    cases hq : n.Full with
    | true => exact absurd hq this
    | false => rfl
   ·unfold ta at hc;exact Decidable.not_not.1<|of_decide_eq_false hc
end
theorem uU {slot wh : Int} {bad : List Int} {al : Vw} {k : Int} : ∀ (m : List Ac) (s : Vw × List Of), (m.foldl (ck slot wh bad al false k) s).2 = s.2
 | [], _ => rfl
 | a :: r, s => by
  rw [List.foldl_cons, uU r];unfold ck;split
  ·rfl
  ·split
   ·rfl
   ·rfl
section
variable {U : Vw} {w : Wd} {l : List Ac}
theorem uJ (h : fi w ∉ w.Bad) (k : Nat) : (aC w l k).2 = w.O := by
 unfold aC;rw [decide_eq_false h];exact uU _ _
def xP (w : Wd) : Prop := w.Tick % 3 ≠ 1 → w.O = [] ∧ ∀ n ∈ w.N, n.O = []
theorem Dd (G : Gw U w l) : xP (ff w l) := by
 obtain ⟨-, -, e⟩ := G.conf;unfold xP;rw [e];intro h
 have key : ∀ {k : Nat} {n : Nd}, w.N[k]? = some n → (ch w.C n (aC w l k).1 (aC w l k).2).2 = [] ∧ (cZ w l k n).O = [] := by
  intro k n hn
  have h3 : w.Tick % 3 = 1 ∨ w.Tick % 3 = 2 := by omega
  rcases h3 with h3 | h3
  ·obtain ⟨-, h1, h2, -⟩ := G.second hn h3;exact ⟨h2, h1⟩
  ·obtain ⟨-, -, h1, -, h2⟩ := G.third hn h3;exact ⟨h2, h1⟩
 refine ⟨List.eq_nil_iff_forall_not_mem.2 fun o ho => ?_, fun x hx => ?_⟩
 ·obtain ⟨k, n, hn, h1⟩ := pr (g0 G.time) ho;rw [(key hn).1] at h1;cases h1
 ·obtain ⟨k, n, hn, rfl⟩ := G.prev hx;exact (key hn).2
theorem sA : ∀ {m : List Of} {v : Vw} {o : Of}, o ∈ m → o.B ∈ (m.foldl (fun v o => aH (aH v o.V) ⟨[o.B], []⟩) v).B
 | p :: r, v, o, h => by
  have grow : ∀ (m : List Of) (v : Vw) (b : Bk), b ∈ v.B → b ∈ (m.foldl (fun v o => aH (aH v o.V) ⟨[o.B], []⟩) v).B := by
   intro m
   induction m with
   | nil => exact fun v b h => h
   | cons o r ih => exact fun v b h => ih _ _ (cI.2 (.inl (cI.2 (.inl h))))
  rw [List.foldl_cons];rcases List.mem_cons.1 h with rfl | h
  ·exact grow r _ _<|cI.2<|.inr<|List.mem_singleton.2 Z
  ·exact sA h
theorem w9 {o : Of} (ho : o ∈ w.O) : o.B ∈ (gY w l).B := (oz _ _).1 _ (sA ho)
theorem CC {α β : Type} {f : α → List β} {l : List α} {i : Nat} {a : α} {b : β} (ha : l[i]? = some a) (h1 : f a = [b]) (h2 : ∀ j y, l[j]? = some y → j ≠ i → f y = []) : l.flatMap f = [b] := by
 have hi := (List.getElem?_eq_some_iff.1 ha).1
 have e : l = l.take i ++ a :: l.drop (i + 1) := by
  have h2 := List.drop_eq_getElem_cons hi;rw [(List.getElem?_eq_some_iff.1 ha).2] at h2;rw [← h2, List.take_append_drop]
 rw [e, List.flatMap_append, List.flatMap_cons, h1];have z : ∀ m : List α, (∀ y ∈ m, f y = []) → m.flatMap f = [] := fun m hm => List.flatMap_eq_nil_iff.2 hm;rw [z (l.take i), z (l.drop (i + 1))]
 ·simp
 ·intro y hy;obtain ⟨j, hj⟩ := List.getElem?_of_mem hy;rw [List.getElem?_drop] at hj;exact h2 _ y hj (by omega)
 ·intro y hy;obtain ⟨j, hj⟩ := List.getElem?_of_mem hy;have hjl := (List.getElem?_eq_some_iff.1 hj).1;rw [List.length_take] at hjl;rw [List.getElem?_take_of_lt (by omega)] at hj;exact h2 _ y hj (by omega)
structure po (w : Wd) (b : Bk) (V : Vw) : Prop where
 told : w.O = [⟨w.Tick / 3, j7 w.C (w.Tick / 3), b, V⟩]
 slot : b.Slot = w.Tick / 3
 good : j7 w.C (w.Tick / 3) ∉ w.Bad
 may : ea w.C V
 mayB : mayB w.C b = true
 head : b.Parent = cE w.C V.B (cy w.C V.V (w.Tick / 3 - 1))
 new : ¬ Kn V.B (nm b)
 low : ∀ x ∈ V.B, x.Slot < w.Tick / 3
 upV : ∀ x ∈ V.V, x.Slot ≤ w.Tick / 3
 all : ∀ n ∈ w.N, (∀ x ∈ n.V.B, x ∈ V.B ∨ x = b) ∧ ∀ x ∈ n.V.V, x ∈ V.V
 held : ∀ n ∈ w.N, n.O = []
 has : ∃ m ∈ w.N, eu V m.V ∧ b ∈ m.V.B
theorem yv {c : Cf} {v i : Vw} {s : Int} (hm : ea c v) : (∀ x ∈ (az c v i s).1.B, x ∈ v.B ∨ x ∈ i.B) ∧ ∀ x ∈ (az c v i s).1.V, x ∈ v.V ∨ x ∈ i.V := by
 have ht := ph hm i s;obtain ⟨a, e, h1⟩ := ht.preB;obtain ⟨d, e2, h2⟩ := ht.preV;refine ⟨fun x hx => ?_, fun x hx => ?_⟩
 ·rw [e] at hx;exact (List.mem_append.1 hx).imp_right fun h => (List.mem_filter.1 (h1 x h).1).1
 ·rw [e2] at hx;exact (List.mem_append.1 hx).imp_right fun h => (List.mem_filter.1 (h2 x h).1).1
theorem EV (G : Gw U w l) (T : wv (ff w l) l) (hh : pX w.C w.Bad w) (hno : (w.N.map Nd.No).Nodup) (hgood : ∀ n ∈ w.N, 0 ≤ n.No ∧ n.No ∉ w.Bad) (L : Eo w) (Q : xP w) (ht : w.Tick % 3 = 0) (hO : (ff w l).O ≠ []) : ∃ b V, po (ff w l) b V := by
 obtain ⟨c1, c2, c3⟩ := G.conf;obtain ⟨q1, q2⟩ := Q (by omega);have hlo := G.time.lo;obtain ⟨o, ho⟩ := List.exists_mem_of_ne_nil _ hO;obtain ⟨k, n, hn, hon⟩ := pr (g0 G.time) ho;have hm := List.mem_of_getElem? hn;have hsl := G.slot hm;have hmay := G.may hm
 have e3 : (ff w l).Tick / 3 = w.Tick / 3 := by rw [c3]; omega
 obtain ⟨-, -, h0⟩ := G.first hn ht;rcases h0 with ⟨hp, b, hb, hV, hfull, htold⟩ | ⟨-, -, htold⟩
 case inr => rw [htold] at hon; cases hon
 obtain ⟨g1, g2⟩ := hgood n hm;have hx := G.next hn;have hmx := List.mem_of_getElem? hx;obtain ⟨f1, f2⟩ := hfull (T.room _ hmx);rw [hsl] at hp hb hV hfull htold f2
 have hbs : b.Slot = w.Tick / 3 := by rw [hb]
 have hbf : b.From = j7 w.C (w.Tick / 3) := by rw [hb]; exact hp
 have hOne : (ff w l).O = [⟨w.Tick / 3, n.No, b, (ed w l k n).1⟩] := by
  unfold ff;rw [if_neg (by simp [g0 G.time])];refine CC (fw hn) htold fun j y hy hjk => ?_;have hjl := (List.getElem?_eq_some_iff.1 hy).1;rw [fx] at hjl;obtain ⟨n', hn', hm'⟩ := aD hjl;rw [fw hn'] at hy;rw [← Option.some.inj hy];rcases (G.first hn' ht).2.2 with ⟨hp', -⟩ | ⟨-, -, h⟩
  ·rw [G.slot hm', ← hp] at hp';exact absurd (pA hno hn' hn hp') hjk
  ·exact h
 have hbseen : b ∈ (gY (ff w l) l).B := by
  have h1 : (⟨w.Tick / 3, n.No, b, (ed w l k n).1⟩ : Of) ∈ (ff w l).O := by rw [hOne]; exact .head _
  exact w9 h1
 have hkeep : im w.C n.V (ed w l k n).1 := cA hmay _ _
 have hkeep2 : im w.C (ed w l k n).1 (cZ w l k n).V := by rw [hV]; exact cA hkeep.1 _ _
 have hname : nm b ≠ (0, 0) := fun e => (List.nodup_cons.1 T.names).1 (List.mem_map.2 ⟨b, hbseen, e⟩);have hmb : mayB w.C b = true := decide_eq_true ⟨by rw [hbs, ← hp]; exact g1, by rw [hbs]; exact hbf.symm, hname⟩
 -- all that is counted was honest
 obtain ⟨GG, W, a1, a2⟩ := hh;have hcome := mO a1 a2 (l := l) (fun a ha => ⟨fun b _ hb => .inl hb, fun v _ hv => .inl hv⟩) k;have hhon : eK (Em w.C w.Bad GG w.Tick) (En w.C w.Bad W w.Tick) (ed w l k n).1 := (i4 w.C (aA n) (a1 n hm).1 (dW (a1 n hm).2.1 (nN (c := w.C) hcome.1))).1
 have hlow : ∀ x ∈ (ed w l k n).1.B, x.Slot < w.Tick / 3 := by
  intro x hx;have h1 : oZ (w.Tick / 3) (ed w l k n).1 := jn hmay ⟨fun b hb => by have := (L.upto n hm).1 b hb; omega, fun v hv => by have := (L.upto n hm).2 v hv; omega⟩ (by omega);have h2 := h1.1 x hx;by_cases h3 : x.Slot = w.Tick / 3
  ·have h4 := (of_decide_eq_true (hkeep.1.mayB x hx)).2.1;rw [h3, ← hp] at h4;rcases hhon.1 x hx with h5 | ⟨-, -, -, -, h5⟩
   ·rw [← h4] at h5; exact absurd h5 g2
   ·omega
  ·omega
 have hnew : ¬ Kn (ed w l k n).1.B (nm b) := by
  rintro (e | ⟨y, hy, e⟩)
  ·exact hname e
  ·have := T.inj ((gu hmx).1.1 y ((gP hkeep2).1 y hy)) hbseen e;subst this;have := hlow y hy;omega
 have hhead : b.Parent = cE w.C (ed w l k n).1.B (cy w.C (ed w l k n).1.V (w.Tick / 3 - 1)) := by rw [hb]
 have hbin : b ∈ (cZ w l k n).V.B := by
  have hpk : Kn (ed w l k n).1.B b.Parent := by rw [hhead]; exact tm hkeep.1.valid
  have hq : ∃ s, aY (ed w l k n).1.B b.Parent = some s ∧ s < b.Slot := by
   rcases hpk with e | ⟨y, hy, e⟩
   ·exact ⟨0, by rw [e]; exact qX _, by omega⟩
   ·exact ⟨y.Slot, by rw [← e]; exact mw hkeep.1.valid hy, by rw [hbs]; exact hlow y hy⟩
  obtain ⟨s, hs1, hs2⟩ := hq;rw [hV] at hkeep2 ⊢;obtain ⟨y, hy, e⟩ := Cr hkeep.1 f2 (b := b) (List.mem_singleton.2 rfl) hmb (by omega) (lu hkeep.1.valid hkeep2.1.valid (gP hkeep2).1 hs1) hs2
  have hy2 : y ∈ (cZ w l k n).V.B := by rw [hV]; exact hy
  have := T.inj ((gu hmx).1.1 y hy2) hbseen e;subst this;exact hy
 refine ⟨b, (ed w l k n).1, ⟨by rw [e3, c1, hOne, hp], by rw [e3]; exact hbs, by rw [e3, c1, c2, ← hp]; exact g2, by rw [c1]; exact hkeep.1, by rw [c1]; exact hmb, by rw [c1, e3]; exact hhead, hnew, by rw [e3]; exact hlow, ?_, fun x hx' => ?_, fun x hx' => ?_, ⟨_, hmx, gP hkeep2, hbin⟩⟩⟩
 ·rw [e3];intro x hx';have h1 : oZ (w.Tick / 3) (ed w l k n).1 := jn hmay ⟨fun b hb => by have := (L.upto n hm).1 b hb; omega, fun v hv => by have := (L.upto n hm).2 v hv; omega⟩ (by omega);exact h1.2 x hx'
 ·obtain ⟨j, m, hmj, rfl⟩ := G.prev hx';rcases (G.first hmj ht).2.2 with ⟨hp', -⟩ | ⟨-, e, -⟩
  ·have hmm := List.mem_of_getElem? hmj;rw [G.slot hmm, ← hp] at hp';have := pA hno hmj hn hp';subst this;rw [hn] at hmj;cases hmj;rw [hV];have hti := yv hkeep.1 (i := ⟨[b], []⟩) (s := w.Tick / 3);exact ⟨fun x hx => (hti.1 x hx).imp_right List.mem_singleton.1, fun x hx => (hti.2 x hx).elim id fun h => by cases h⟩
  ·have hmm := List.mem_of_getElem? hmj;have hmt := (G.meet T hn f1 (gP hkeep2) hmm ⟨fun b hb => by have := (L.upto m hmm).1 b hb; omega, fun v hv => by have := (L.upto m hmm).2 v hv; omega⟩).1;rw [e];exact ⟨fun x hx => .inl (hmt.1 x hx), hmt.2⟩
 ·obtain ⟨j, m, hmj, rfl⟩ := G.prev hx';have hmm := List.mem_of_getElem? hmj;rw [(G.first hmj ht).2.1];unfold fb
  have hwho : fi w ∉ w.Bad := by
   have : lM w = w.Tick / 3 := by
    unfold lM;have := G.soon;rw [Int.tdiv_eq_ediv_of_nonneg (by omega), cv (by omega) (by omega)]
   unfold fi;rw [this, ← hp];exact g2
  rw [uJ hwho, q1, q2 m hmm];rfl
theorem Gi (G : Gw U w l) (T : wv (ff w l) l) (ht : w.Tick % 3 = 1) {b : Bk} {V : Vw} (O : po w b V) {x : Nd} (hx : x ∈ (ff w l).N) : cE w.C x.V.B (cy w.C x.V.V (w.Tick / 3 - 1)) = nm b ∧ (x.No ∈ lz w.C (w.Tick / 3) → Vt.mk x.No (w.Tick / 3) (nm b) ∈ x.In.V) := by
 obtain ⟨c1, c2, c3⟩ := G.conf;have hlo := G.time.lo;obtain ⟨k, n, hn, rfl⟩ := G.prev hx;have hm := List.mem_of_getElem? hn;have hsl := G.slot hm;have hmay := G.may hm;obtain ⟨-, -, -, s, hs, hV, hF, hvote⟩ := G.second hn ht
 have hslw : lM w = w.Tick / 3 := by
  unfold lM;have := G.soon;rw [Int.tdiv_eq_ediv_of_nonneg (by omega), cv (by omega) (by omega)]
 have hwho : fi w ∉ w.Bad := by unfold fi; rw [hslw]; exact O.good
 have hok : FJ n.Tick w.C (w.Tick / 3) ⟨w.Tick / 3, j7 w.C (w.Tick / 3), b, V⟩ = true := decide_eq_true ⟨by rw [G.mod hm]; omega, rfl, rfl⟩
 have hhrd : (fb w.C n (aC w l k).2).1 = [⟨w.Tick / 3, j7 w.C (w.Tick / 3), b, V⟩] := by
  unfold fb;rw [uJ hwho, O.held n hm, O.told, hsl];unfold iv;rw [List.nil_append, List.foldl_cons, List.foldl_nil];unfold ka;rw [if_pos hok, if_neg (by simp)];rfl
 rw [hhrd, hsl, List.foldl_cons, List.foldl_nil] at hs;unfold fd at hs;rw [hsl] at hvote
 have hsV : s.1 = (az w.C n.V (aH V ⟨[b], []⟩) (w.Tick / 3)).1 := by rw [hs]
 have hfl : (az w.C n.V (aH V ⟨[b], []⟩) (w.Tick / 3)).2.2 = false := by
  have h1 := T.room _ hx;rw [hF, hs] at h1;exact (Bool.or_eq_false_iff.1 h1).2
 obtain ⟨m, hmm, hVm, hbm⟩ := O.has;obtain ⟨j, hj⟩ := List.getElem?_of_mem hmm;have hmk := gP (G.keeps hj);have hmseen := (gu (l := l) (List.mem_of_getElem? (G.next hj))).1;have hxm : ea w.C (az w.C n.V (aH V ⟨[b], []⟩) (w.Tick / 3)).1 := (ph hmay _ _).may;have hxseen : ∀ y ∈ (az w.C n.V (aH V ⟨[b], []⟩) (w.Tick / 3)).1.B, y ∈ (gY (ff w l) l).B := fun y hy => (gu hx).1.1 y (by rw [hV, hsV]; exact hy)
 have hsub : eu V (az w.C n.V (aH V ⟨[b], []⟩) (w.Tick / 3)).1 := uI hmay hfl O.may (fun y hy => .inr (cI.2 (.inl hy))) (fun y hy => .inr (dZ.2 (.inl hy))) (fun y hy => by have := O.low y hy; omega) O.upV fun y hy z hz e =>
  T.inj (hxseen z hz) (hmseen.1 y (hmk.1 y (hVm.1 y hy))) e
 have hb : b ∈ (az w.C n.V (aH V ⟨[b], []⟩) (w.Tick / 3)).1.B := by
  have hpk : Kn V.B b.Parent := by rw [O.head]; exact tm O.may.valid
  have hq : ∃ s, aY V.B b.Parent = some s ∧ s < b.Slot := by
   rcases hpk with e | ⟨y, hy, e⟩
   ·exact ⟨0, by rw [e]; exact qX _, by rw [O.slot]; omega⟩
   ·exact ⟨y.Slot, by rw [← e]; exact mw O.may.valid hy, by rw [O.slot]; exact O.low y hy⟩
  obtain ⟨q, hq1, hq2⟩ := hq;obtain ⟨y, hy, e⟩ := Cr hmay hfl (b := b) (cI.2 (.inr (List.mem_singleton.2 rfl))) O.mayB (by rw [O.slot]; omega) (lu O.may.valid hxm.valid hsub.1 hq1) hq2;have := T.inj (hxseen y hy) (hmseen.1 b (hmk.1 b hbm)) e;subst this;exact hy
 have hti := yv hmay (i := aH V ⟨[b], []⟩) (s := w.Tick / 3);obtain ⟨o1, o2⟩ := O.all n hm
 have hsetB : ∀ y, y ∈ (az w.C n.V (aH V ⟨[b], []⟩) (w.Tick / 3)).1.B ↔ y ∈ V.B ∨ y = b := by
  intro y;constructor
  ·intro hy;rcases hti.1 y hy with h | h
   ·exact o1 y h
   ·exact (cI.1 h).imp_right List.mem_singleton.1
  ·rintro (h | rfl)
   ·exact hsub.1 y h
   ·exact hb
 have hsetV : ∀ y, y ∈ V.V ↔ y ∈ (az w.C n.V (aH V ⟨[b], []⟩) (w.Tick / 3)).1.V := by
  intro y;constructor
  ·exact hsub.2 y
  ·intro hy;rcases hti.2 y hy with h | h
   ·exact o2 y h
   ·exact (dZ.1 h).elim id fun h => by cases h
 have hhead := Ad (c := w.C) O.may.valid hxm.valid hsetB O.head O.new (Ab hsetV (w.Tick / 3 - 1)) fun y hy => by
  obtain ⟨q, h1, -⟩ := O.may.forB y (qB.1 hy).1;exact yl O.may.valid h1
 have hno : (cZ w l k n).No = n.No := (ji (G.few hn) hmay (G.ok.nodes n hm).nd (G.ok.nodes n hm).few).1;rw [hsV] at hV hvote;rw [hhead] at hvote;exact ⟨by rw [hV]; exact hhead, by rw [hno]; exact hvote⟩
end
end Go.Mg
