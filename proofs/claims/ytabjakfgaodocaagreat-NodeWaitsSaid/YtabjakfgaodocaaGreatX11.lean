/- A node behind a tick, plain. A node behind a tick, plain: the phases. A node behind a tick, plain: the whole. NodeKnown, plain. NodeKeeps, plain. NodeWaits, plain. What arguments are: offers, nodes. How the program's own line of words reads, letter by letter; facts of the whole program that each row asks for. Conditions: none. -/
import Derived.Test.YtabjakfgaodocaaGreatX8
import Derived.Test.YtabjakfgaodocaaGreatX10
import Derived.Test.YtabjakfgaodocaaGreatX9
import Derived.Test.YtabjakfgaodocaaGreatX6
import Derived.Test.YtabjakfgaodocaaGreatRows
import Derived.ProofKit
import Derived.OpenShut
namespace Go.Mg
def zOf : Of := Of.mk 0 0 (Bk.mk 0 0 (0, 0) 0) (Vw.mk [] [])
theorem FGrow_eq {n : Nat} (hn : n ≤ 1000) : FGrow (n : Int) = some (List.replicate n zOf) := by
 have e : IntKind.i64.wrap ((n : Int) - (IntKind.i64.wrap (0 - 0))) = n := by
  rw [show IntKind.i64.wrap (0 - 0) = 0 from by decide, wrapI (by omega) (by omega)]; omega
 unfold FGrow
 rw [decide_eq_false (show ¬ (n : Int) < 0 by omega), cf, e]
 by_cases h0 : (n : Int) > 0
 ·rw [decide_eq_true h0, ct, show mkOk (n : Int) 104 = true from decide_eq_true (by omega), ct]
  simp [zOf]
 ·rw [decide_eq_false h0, cf]
  obtain rfl : n = 0 := by omega
  rfl
theorem F3095_eq {a b : List Of} (h : a.length + b.length ≤ 1000) : F3095 [a, b] = some (a ++ b) := by
 have e1 := count_loop (step := F3095_s1 [a, b]) (n := 2) (fun k => match k with | 0 => F3095_L1.mk 0 0 | 1 => F3095_L1.mk (a.length : Int) 1 | _ => F3095_L1.mk ((a.length + b.length : Nat) : Int) 2) (F3095_L1.mk ((a.length + b.length : Nat) : Int) 2) (fun k hk => by
  match k, hk with
  | 0, _ =>
   unfold F3095_s1
   simp only
   rw [decide_eq_true (show (0 : Int) < (([a, b] : List (List Of)).length : Int) by simp), ct, show ix [a, b] 0 = some a from rfl, ob, wrapI (by omega) (by omega), decide_eq_false (show ¬ (0 : Int) + (a.length : Int) < 0 by omega), cf, Int.zero_add]
   rfl
  | 1, _ =>
   unfold F3095_s1
   simp only
   rw [decide_eq_true (show (1 : Int) < (([a, b] : List (List Of)).length : Int) by simp), ct, show ix [a, b] 1 = some b from rfl, ob, wrapI (by omega) (by omega), decide_eq_false (show ¬ (a.length : Int) + (b.length : Int) < 0 by omega), cf, Int.natCast_add]
   rfl) (by
  unfold F3095_s1
  simp only
  rw [decide_eq_false (show ¬ (2 : Int) < (([a, b] : List (List Of)).length : Int) by simp), cf]) (by omega)
 have e1' : iter (F3095_s1 [a, b]) big (F3095_L1.mk 0 0) = _ := e1
 obtain ⟨r, hr⟩ : ∃ r, r = List.replicate (a.length + b.length) zOf := ⟨_, rfl⟩
 have hrl : r.length = a.length + b.length := by rw [hr]; simp
 have p1 : putL r 0 a = a ++ r.drop a.length := by unfold putL; simp
 have p1l : (putL r 0 a).length = a.length + b.length := by rw [p1]; simp; omega
 have p2 : (putL (putL r 0 a) a.length b).take (a.length + b.length) = a ++ b := by
  have e : (putL r 0 a).take a.length = a := by rw [p1, List.take_left']; rfl
  unfold putL at e ⊢
  rw [e, List.take_left']
  simp
 have p2l : (putL (putL r 0 a) a.length b).length = a.length + b.length := by rw [putL_len (by rw [p1l]; omega), p1l]
 have e2 := count_loop (step := F3095_s2 [a, b]) (n := 2) (fun k => match k with | 0 => F3095_L2.mk 0 0 r | 1 => F3095_L2.mk a.length 1 (putL r 0 a) | _ => F3095_L2.mk (a.length + b.length) 2 (putL (putL r 0 a) a.length b)) (F3095_L2.mk (a.length + b.length) 2 (putL (putL r 0 a) a.length b)) (fun k hk => by
  match k, hk with
  | 0, _ =>
   unfold F3095_s2
   simp only
   rw [decide_eq_true (show (0 : Int) < (([a, b] : List (List Of)).length : Int) by simp), ct, show ix [a, b] 0 = some a from rfl, ob, decide_eq_true (show 0 + a.length ≤ r.length by omega), ct, Nat.zero_add]
   rfl
  | 1, _ =>
   unfold F3095_s2
   simp only
   rw [decide_eq_true (show (1 : Int) < (([a, b] : List (List Of)).length : Int) by simp), ct, show ix [a, b] 1 = some b from rfl, ob, decide_eq_true (show a.length + b.length ≤ (putL r 0 a).length by omega), ct]
   rfl) (by
  unfold F3095_s2
  simp only
  rw [decide_eq_false (show ¬ (2 : Int) < (([a, b] : List (List Of)).length : Int) by simp), cf]) (by omega)
 have e2' : iter (F3095_s2 [a, b]) big (F3095_L2.mk 0 0 r) = _ := e2
 unfold F3095
 rw [e1', ob]
 simp only
 rw [FGrow_eq h, ob, ← hr, e2', ob]
 simp only
 rw [show Nat.ble (a.length + b.length) (putL (putL r 0 a) a.length b).length = true from Nat.ble_eq_true_of_le (by omega), ct, p2]
def SmallO (o : Of) : Prop := o.V.B.length ≤ 1000 ∧ o.V.V.length ≤ 1000
theorem F3051_eq {v : Vw} (h1 : v.B.length ≤ 1000) (h2 : v.V.length ≤ 1000) : F3051 v = some v := by
 unfold F3051
 rw [room_ok (by omega) (by omega), ct, room_ok (by omega) (by omega), ct]
theorem F3052_eq {o : Of} (h : SmallO o) : F3052 o = some o := by
 unfold F3052
 rw [F3051_eq h.1 h.2]
 rfl
def okO (t : Int) (c : Cf) (slot : Int) (o : Of) : Bool := decide (¬ t.tmod 3 = 2 ∧ o.Slot = slot ∧ o.From = prP c slot)
def stepH (t : Int) (c : Cf) (slot : Int) (s : List Of × Bool) (o : Of) : List Of × Bool := if okO t c slot o = true then (if s.1.length = 8 then (s.1, true) else (s.1 ++ [o], s.2)) else s
def hearP (t : Int) (c : Cf) (slot : Int) (full : Bool) (l : List Of) : List Of × Bool := l.foldl (stepH t c slot) ([], full)
theorem hear_snoc (t : Int) (c : Cf) (slot : Int) (full : Bool) (l : List Of) (o : Of) : hearP t c slot full (l ++ [o]) = stepH t c slot (hearP t c slot full l) o := by unfold hearP; rw [List.foldl_append]; rfl
theorem hear_go {t : Int} {c : Cf} {slot : Int} : ∀ (l : List Of) (s : List Of × Bool), s.1.length ≤ 8 → (l.foldl (stepH t c slot) s).1.length ≤ 8 ∧ (∀ o ∈ (l.foldl (stepH t c slot) s).1, o ∈ s.1 ∨ (o ∈ l ∧ okO t c slot o = true)) ∧ (s.2 = true → (l.foldl (stepH t c slot) s).2 = true)
 | [], s, h => ⟨h, fun o ho => .inl ho, id⟩
 | x :: r, s, h => by
  rw [List.foldl_cons]
  have hs : (stepH t c slot s x).1.length ≤ 8 ∧ (∀ o ∈ (stepH t c slot s x).1, o ∈ s.1 ∨ (o = x ∧ okO t c slot o = true)) ∧ (s.2 = true → (stepH t c slot s x).2 = true) := by
   unfold stepH
   split
   ·rename_i hk
    split
    ·exact ⟨h, fun o ho => .inl ho, fun _ => rfl⟩
    ·refine ⟨by simp only [List.length_append, List.length_singleton]; omega, fun o ho => ?_, id⟩
     rcases List.mem_append.1 ho with ho | ho
     ·exact .inl ho
     ·rw [List.mem_singleton] at ho; subst ho; exact .inr ⟨rfl, hk⟩
   ·exact ⟨h, fun o ho => .inl ho, id⟩
  obtain ⟨h1, h2, h3⟩ := hear_go r (stepH t c slot s x) hs.1
  refine ⟨h1, fun o ho => ?_, fun e => h3 (hs.2.2 e)⟩
  rcases h2 o ho with h4 | ⟨h4, h5⟩
  ·rcases hs.2.1 o h4 with h5 | ⟨rfl, h5⟩
   ·exact .inl h5
   ·exact .inr ⟨.head _, h5⟩
  ·exact .inr ⟨.tail _ h4, h5⟩
theorem hear_facts (t : Int) (c : Cf) (slot : Int) (full : Bool) (l : List Of) : (hearP t c slot full l).1.length ≤ 8 ∧ (∀ o ∈ (hearP t c slot full l).1, o ∈ l ∧ okO t c slot o = true) ∧ (full = true → (hearP t c slot full l).2 = true) := by
 obtain ⟨h1, h2, h3⟩ := hear_go (t := t) (c := c) (slot := slot) l ([], full) (by simp)
 refine ⟨h1, fun o ho => ?_, h3⟩
 rcases h2 o ho with h4 | h4
 ·simp at h4
 ·exact h4
theorem FHear_eq {l : List Of} {x : Nd} {c : Cf} {slot : Int} (hl : x.O.length + l.length ≤ 1000) (hs : ∀ o ∈ x.O ++ l, SmallO o) : FHear l x c slot = some (hearP x.Tick c slot x.Full (x.O ++ l)) := by
 unfold FHear
 rw [F3095_eq hl, ob]
 generalize hL : x.O ++ l = L at hs
 have hLl : L.length ≤ 1000 := by rw [← hL, List.length_append]; omega
 have e := count_loop (step := FHear_s1 x c slot L) (n := L.length) (fun k => FHear_L1.mk (k : Int) (hearP x.Tick c slot x.Full (L.take k)).2 (hearP x.Tick c slot x.Full (L.take k)).1) (FHear_L1.mk (L.length : Int) (hearP x.Tick c slot x.Full L).2 (hearP x.Tick c slot x.Full L).1) (fun k hk => by
  obtain ⟨y, hy, hm⟩ := get_of hk
  have et : L.take (k + 1) = L.take k ++ [y] := by rw [List.take_add_one, hy]; rfl
  have hf := hear_facts x.Tick c slot x.Full (L.take k)
  unfold FHear_s1
  simp only
  rw [decide_eq_true (show (k : Int) < (L.length : Int) by omega), ct, ix_nat hy, ob, et, hear_snoc, wrap_succ (n := k) (by omega)]
  generalize hearP x.Tick c slot x.Full (L.take k) = s at hf ⊢
  have hgate : (bif (x.Tick.tmod 3) == 2 then some ((x.Tick.tmod 3) == 2) else bif y.Slot != slot then some (y.Slot != slot) else (F63 c slot).bind fun v4 => some (y.From != v4)) = some (!okO x.Tick c slot y) := by
   rw [F63_eq, ob]
   unfold okO
   by_cases h1 : x.Tick.tmod 3 = 2
   ·rw [beq_iff_eq.2 h1, ct, decide_eq_false fun h => h.1 h1]; rfl
   ·rw [beq_eq_false_iff_ne.2 h1, cf]
    by_cases h2 : y.Slot = slot
    ·rw [show (y.Slot != slot) = false by simp [h2], cf]
     by_cases h3 : y.From = prP c slot
     ·rw [show (y.From != prP c slot) = false by simp [h3], decide_eq_true ⟨h1, h2, h3⟩]; rfl
     ·rw [show (y.From != prP c slot) = true by simp [h3], decide_eq_false fun h => h3 h.2.2]; rfl
    ·rw [show (y.Slot != slot) = true by simp [h2], ct, decide_eq_false fun h => h2 h.2.1]; rfl
  rw [hgate, ob]
  unfold stepH
  cases hk2 : okO x.Tick c slot y with
  | false => rw [Bool.not_false, ct]; rfl
  | true =>
   rw [Bool.not_true, cf, if_pos rfl]
   by_cases h8 : s.1.length = 8
   ·rw [show ((s.1.length : Int) == 8) = true by simp [h8], ct, if_pos h8]
   ·rw [show ((s.1.length : Int) == 8) = false by rw [beq_eq_false_iff_ne]; omega, cf, F3052_eq (hs y hm), ob, room_ok (by simp only [List.length_singleton]; omega) (by omega), ct, if_neg h8]) (by
  unfold FHear_s1
  simp only
  rw [decide_eq_false (show ¬ (L.length : Int) < (L.length : Int) by omega), cf, List.take_length]) (by omega)
 have e' : iter (FHear_s1 x c slot L) big (FHear_L1.mk 0 x.Full []) = _ := e
 rw [e', ob]
theorem take_size (c : Cf) (w i : Vw) (s : Int) : w.B.length ≤ (takeP c w i s).1.B.length ∧ (takeP c w i s).1.B.length ≤ w.B.length + 60 ∧ w.V.length ≤ (takeP c w i s).1.V.length ∧ (takeP c w i s).1.V.length ≤ w.V.length + 240 ∧ (takeP c w i s).2.1.B.length ≤ i.B.length ∧ (takeP c w i s).2.1.V.length ≤ i.V.length := by
 by_cases h : MayW c w
 ·have ht := took h i s
  have hl := took_len ht
  have h1 := ht.may.lenB
  have h2 := ht.may.lenV
  omega
 ·have e : takeP c w i s = (w, i, false) := by unfold takeP; rw [if_neg h]
  rw [e]
  simp only
  omega
theorem FCount_eq {inp : Vw} {c : Cf} {slot : Int} {v : Vw} {full : Bool} (h1 : v.B.length ≤ 1000) (h2 : v.V.length ≤ 1000) (h3 : inp.B.length ≤ 800) (h4 : inp.V.length ≤ 600) :
  FCount inp c slot v full = some ((takeP c v inp slot).2.1, (takeP c v inp slot).1, full || (takeP c v inp slot).2.2) := by
 unfold FCount
 rw [F90_eq h1 h2 h3 h4, ob]
 cases full <;> rfl
theorem take_max (c : Cf) (w i : Vw) (s : Int) : (takeP c w i s).1.B.length ≤ max w.B.length 60 ∧ (takeP c w i s).1.V.length ≤ max w.V.length 240 := by
 by_cases h : MayW c w
 ·have ht := took h i s
  have h1 := ht.may.lenB
  have h2 := ht.may.lenV
  omega
 ·have e : takeP c w i s = (w, i, false) := by unfold takeP; rw [if_neg h]
  rw [e]
  simp only
  omega
theorem Vw.eta (w : Vw) : Vw.mk w.B w.V = w := rfl
noncomputable def propB (x : Nd) (c : Cf) (slot : Int) : Bk := ⟨slot, x.No, headP c (takeP c x.V x.In slot).1.B (goldP c (takeP c x.V x.In slot).1.V (IntKind.i64.wrap (slot - 1))), 0⟩
noncomputable def firstP (x : Nd) (c : Cf) (slot : Int) : Vw × Vw × Bool × List Of :=
 if x.No = prP c slot then
  ((takeP c (takeP c x.V x.In slot).1 ⟨[propB x c slot], []⟩ slot).1, (takeP c x.V x.In slot).2.1, (x.Full || (takeP c x.V x.In slot).2.2) || (takeP c (takeP c x.V x.In slot).1 ⟨[propB x c slot], []⟩ slot).2.2, [⟨slot, x.No, propB x c slot, (takeP c x.V x.In slot).1⟩])
 else (x.V, x.In, x.Full, [])
theorem FFirst_eq {x : Nd} {c : Cf} {slot : Int} (h1 : x.V.B.length ≤ 500) (h2 : x.V.V.length ≤ 500) (h3 : x.In.B.length ≤ 500) (h4 : x.In.V.length ≤ 500) : FFirst x c slot [] = some (firstP x c slot) := by
 have hm := take_max c x.V x.In slot
 unfold FFirst firstP
 rw [F63_eq, ob]
 by_cases h : x.No = prP c slot
 ·rw [show (x.No != prP c slot) = false by simp [h], cf, if_pos h, FCount_eq (by omega) (by omega) (by omega) (by omega), ob]
  simp only
  rw [F1048_eq (by omega) (by omega), ob]
  have hs : SmallO (Of.mk slot x.No (Bk.mk slot x.No (headP c (takeP c x.V x.In slot).1.B (goldP c (takeP c x.V x.In slot).1.V (IntKind.i64.wrap (slot - 1)))) 0) (takeP c x.V x.In slot).1) := ⟨by show (takeP c x.V x.In slot).1.B.length ≤ 1000; omega, by show (takeP c x.V x.In slot).1.V.length ≤ 1000; omega⟩
  rw [F3052_eq hs, ob]
  unfold F3098
  rw [ob, FCount_eq (by omega) (by omega) (by simp) (by simp), ob]
  rfl
 ·rw [show (x.No != prP c slot) = true by simp [h], ct, if_neg h]
noncomputable def secStep (c : Cf) (slot : Int) (s : Vw × Vw × Bool) (o : Of) : Vw × Vw × Bool :=
 ((takeP c s.1 (joinP o.V ⟨[o.B], []⟩) slot).1, joinP s.2.1 (takeP c s.1 (joinP o.V ⟨[o.B], []⟩) slot).2.1, s.2.2 || (takeP c s.1 (joinP o.V ⟨[o.B], []⟩) slot).2.2)
noncomputable def secFold (x : Nd) (o : List Of) (c : Cf) (slot : Int) : Vw × Vw × Bool := o.foldl (secStep c slot) (x.V, x.In, x.Full)
noncomputable def secondP (x : Nd) (o : List Of) (c : Cf) (slot : Int) : Vw × Vw × Bool :=
 if x.No ∈ cmP c slot then
  ((secFold x o c slot).1, joinP (secFold x o c slot).2.1 ⟨[], [⟨x.No, slot, headP c (secFold x o c slot).1.B (goldP c (secFold x o c slot).1.V (IntKind.i64.wrap (slot - 1)))⟩]⟩, (secFold x o c slot).2.2)
 else secFold x o c slot
theorem sec_snoc (x : Nd) (o : List Of) (c : Cf) (slot : Int) (y : Of) : secFold x (o ++ [y]) c slot = secStep c slot (secFold x o c slot) y := by unfold secFold; rw [List.foldl_append]; rfl
theorem lone_len (o : Of) : (joinP o.V ⟨[o.B], []⟩).B.length ≤ o.V.B.length + 1 ∧ (joinP o.V ⟨[o.B], []⟩).V.length ≤ o.V.V.length := by
 have h1 := withP_len [o.B] o.V.B
 have h2 := withP_len ([] : List Vt) o.V.V
 exact ⟨h1, h2⟩
theorem join_len2 (a b : Vw) : (joinP a b).B.length ≤ a.B.length + b.B.length ∧ (joinP a b).V.length ≤ a.V.length + b.V.length := ⟨withP_len _ _, withP_len _ _⟩
theorem sec_size {x : Nd} {c : Cf} {slot : Int} (h1 : x.V.B.length ≤ 500) (h2 : x.V.V.length ≤ 500) (h3 : x.In.B.length ≤ 500) (h4 : x.In.V.length ≤ 500) : ∀ (k : Nat) (o : List Of), o.length ≤ k → (∀ y ∈ o, y.V.B.length ≤ 500 ∧ y.V.V.length ≤ 500) →
  (secFold x o c slot).1.B.length ≤ 500 ∧ (secFold x o c slot).1.V.length ≤ 500 ∧ (secFold x o c slot).2.1.B.length ≤ 500 + 501 * k ∧ (secFold x o c slot).2.1.V.length ≤ 500 + 501 * k := by
 intro k
 induction k with
 | zero =>
  intro o ho _
  obtain rfl : o = [] := List.length_eq_zero_iff.1 (by omega)
  exact ⟨h1, h2, Nat.le_trans h3 (by omega), Nat.le_trans h4 (by omega)⟩
 | succ k ih =>
  intro o ho hs
  rcases List.eq_nil_or_concat o with rfl | ⟨r, y, rfl⟩
  ·exact ⟨h1, h2, Nat.le_trans h3 (by omega), Nat.le_trans h4 (by omega)⟩
  ·rw [List.concat_eq_append] at ho hs ⊢
   rw [List.length_append, List.length_singleton] at ho
   obtain ⟨a1, a2, a3, a4⟩ := ih r (by omega) fun z hz => hs z (List.mem_append_left _ hz)
   have hy := hs y (List.mem_append_right _ (List.mem_singleton.2 rfl))
   have hl := lone_len y
   rw [sec_snoc]
   unfold secStep
   generalize secFold x r c slot = s at a1 a2 a3 a4 ⊢
   have hm := take_max c s.1 (joinP y.V ⟨[y.B], []⟩) slot
   have hz := take_size c s.1 (joinP y.V ⟨[y.B], []⟩) slot
   have hj := join_len2 s.2.1 (takeP c s.1 (joinP y.V ⟨[y.B], []⟩) slot).2.1
   simp only
   omega
theorem FSecond_eq {x : Nd} {o : List Of} {c : Cf} {slot : Int} (h1 : x.V.B.length ≤ 500) (h2 : x.V.V.length ≤ 500) (h3 : x.In.B.length ≤ 500) (h4 : x.In.V.length ≤ 500) (ho : o.length ≤ 8) (hs : ∀ y ∈ o, y.V.B.length ≤ 500 ∧ y.V.V.length ≤ 500) :
  FSecond x o c slot = some (secondP x o c slot) := by
 have e := count_loop (step := FSecond_s1 o c slot) (n := o.length) (fun k => FSecond_L1.mk (k : Int) (secFold x (o.take k) c slot).1.B (secFold x (o.take k) c slot).1.V (secFold x (o.take k) c slot).2.1.B (secFold x (o.take k) c slot).2.1.V (secFold x (o.take k) c slot).2.2)
  (FSecond_L1.mk (o.length : Int) (secFold x o c slot).1.B (secFold x o c slot).1.V (secFold x o c slot).2.1.B (secFold x o c slot).2.1.V (secFold x o c slot).2.2) (fun k hk => by
  obtain ⟨y, hy, hm⟩ := get_of hk
  have et : o.take (k + 1) = o.take k ++ [y] := by rw [List.take_add_one, hy]; rfl
  have hsz := sec_size (c := c) (slot := slot) h1 h2 h3 h4 8 (o.take k) (by rw [List.length_take]; omega) fun z hz => hs z (List.mem_of_mem_take hz)
  have hy2 := hs y hm
  have hl := lone_len y
  unfold FSecond_s1
  simp only
  rw [decide_eq_true (show (k : Int) < (o.length : Int) by omega), ct, ix_nat hy, ob, et, sec_snoc, wrap_succ (n := k) (by omega)]
  generalize secFold x (o.take k) c slot = s at hsz ⊢
  have hz := take_size c s.1 (joinP y.V ⟨[y.B], []⟩) slot
  unfold F3098
  rw [ob, F91_eq (by simp only [List.length_singleton]; omega) (by simp only [List.length_nil]; omega), ob, Vw.eta, Vw.eta, FCount_eq (by omega) (by omega) (by omega) (by omega), ob]
  simp only
  rw [F91_eq (by omega) (by omega), ob]
  rfl) (by
  unfold FSecond_s1
  simp only
  rw [decide_eq_false (show ¬ (o.length : Int) < (o.length : Int) by omega), cf, List.take_length]) (by omega)
 have e' : iter (FSecond_s1 o c slot) big (FSecond_L1.mk 0 x.V.B x.V.V x.In.B x.In.V x.Full) = _ := e
 have hsz := sec_size (c := c) (slot := slot) h1 h2 h3 h4 8 o ho hs
 unfold FSecond secondP
 rw [e', ob, F74_eq, ob]
 simp only [Vw.eta]
 generalize secFold x o c slot = s at hsz ⊢
 by_cases h : x.No ∈ cmP c slot
 ·rw [decide_eq_true h, ct, if_pos h, F1048_eq (by omega) (by omega), ob, F91_eq (by simp only [List.length_nil]; omega) (by simp only [List.length_singleton]; omega), ob]
 ·rw [decide_eq_false h, cf, if_neg h]
theorem F3099_ok {c : Cf} {w : Vw} {slot : Int} {head : ID} (hm : MayC c) (h1 : w.B.length ≤ 1000) (h2 : w.V.length ≤ 1000) : ∃ r, F3099 c w slot head = some r := by
 have hg := gold_len c w.V slot
 have hc := cm_len c slot
 unfold F3099 FQof
 rw [F1064_eq (by omega), ob, F65_eq, ob, F70_eq (by omega), ob, ob, show few w.B = true from decide_eq_true h1, ct]
 have hwt := wt_in c (cmP c slot)
 obtain ⟨b, hb, -⟩ := iter_inv (step := FTop_s1 c w) (fun x => x.v = goldP c w.V slot ∧ x.al = wtP c (cmP c slot)) (fun x => x.l.length) (fun _ => True) (by
  rintro ⟨l, v, al⟩ ⟨e1, e2⟩
  simp only at e1 e2
  subst e1 e2
  by_cases hl : (l.length : Int) < 2
  ·right
   refine ⟨((0, 0), false), ?_, trivial⟩
   unfold FTop_s1
   simp only
   rw [decide_eq_true hl, ct]
  ·obtain ⟨y, hy, -⟩ := get_of (l := l) (n := 0) (by omega)
   have hy' : ix l 0 = some y := ix_nat hy
   obtain ⟨-, -, -, -, -, m1, m2, m3, m4⟩ := hm
   have hon : 0 ≤ onP c w.B (goldP c w.V slot) y ∧ onP c w.B (goldP c w.V slot) y ≤ 13194139533312 := wt_in _ _
   have hstep : FTop_s1 c w ⟨l, goldP c w.V slot, wtP c (cmP c slot)⟩ = bif decide (2 * onP c w.B (goldP c w.V slot) y * c.Den > wtP c (cmP c slot) * (c.Den + 2 * c.Num)) then some (.inr (y, true)) else some (.inl ⟨l.drop 1, goldP c w.V slot, wtP c (cmP c slot)⟩) := by
    unfold FTop_s1 FQon FQsure
    simp only
    rw [decide_eq_false hl, cf, hy', ob, F121_eq h1 (by omega), ob, ob, wrapI (by omega) (by omega), wrapI (n := 2 * c.Num) (by omega) (by omega), wrapI (by omega) (by omega), F1026_eq ⟨by omega, by omega⟩ ⟨by omega, by omega⟩ ⟨by omega, by omega⟩ ⟨by omega, by omega⟩, ob, ob, ob,
     show inL l 1 l.length = true from decide_eq_true (by omega), ct]
    rfl
   cases hd : decide (2 * onP c w.B (goldP c w.V slot) y * c.Den > wtP c (cmP c slot) * (c.Den + 2 * c.Num)) with
   | true => rw [hd, ct] at hstep; exact .inr ⟨_, hstep, trivial⟩
   | false =>
    rw [hd, cf] at hstep
    refine .inl ⟨_, hstep, ⟨rfl, rfl⟩, ?_⟩
    simp only [List.length_drop]
    omega) (n := big) (x := FTop_L1.mk (chainOf w.B head) (goldP c w.V slot) (wtP c (cmP c slot))) ⟨rfl, rfl⟩ (big_gt (by have : (chainOf w.B head).length ≤ w.B.length + 1 := chain_len head; simp only; omega))
 exact ⟨b, hb⟩
theorem FThird_ok {x : Nd} {c : Cf} {slot : Int} (hm : MayC c) (h1 : x.V.B.length ≤ 500) (h2 : x.V.V.length ≤ 500) (h3 : x.In.B.length ≤ 500) (h4 : x.In.V.length ≤ 500) :
  ∃ cu, FThird x c slot = some ((takeP c x.V x.In slot).1, (takeP c x.V x.In slot).2.1, cu, x.Full || (takeP c x.V x.In slot).2.2) := by
 have hx := take_max c x.V x.In slot
 obtain ⟨r, hr⟩ := F3099_ok (slot := slot) (head := headP c (takeP c x.V x.In slot).1.B (goldP c (takeP c x.V x.In slot).1.V slot)) hm (w := (takeP c x.V x.In slot).1) (by omega) (by omega)
 unfold FThird
 rw [FCount_eq (by omega) (by omega) (by omega) (by omega), ob]
 simp only
 rw [F1048_eq (by omega) (by omega), ob, hr, ob, show few (takeP c x.V x.In slot).1.B = true from decide_eq_true (by omega), ct]
 exact ⟨_, rfl⟩
structure FewS (c : Cf) (n : Nd) (inp : Vw) (o : List Of) : Prop where
 n : SmallN 30 n
 inp : SmallV 30 inp
 len : o.length ≤ 10
 o : ∀ y ∈ o, SmallV 30 y.V
structure FewG (c : Cf) (n : Nd) (inp : Vw) (o : List Of) : Prop where
 vw : n.V.B.length ≤ 500 ∧ n.V.V.length ≤ 500
 inw : n.In.B.length ≤ 1000 ∧ n.In.V.length ≤ 1000
 came : inp.B.length ≤ 2000 ∧ inp.V.length ≤ 2000
 ins : (joinP n.In (onlyP c inp)).B.length ≤ 500 ∧ (joinP n.In (onlyP c inp)).V.length ≤ 500
 len : n.O.length + o.length ≤ 1000
 offs : ∀ y ∈ n.O ++ o, y.V.B.length ≤ 500 ∧ y.V.V.length ≤ 500
theorem FewS.g {c : Cf} {n : Nd} {inp : Vw} {o : List Of} (hf : FewS c n inp o) : FewG c n inp o := by
 obtain ⟨⟨⟨a1, a2⟩, ⟨b1, b2⟩, d1, d2⟩, ⟨e1, e2⟩, g1, g2⟩ := hf
 have h1 := join_len2 n.In (onlyP c inp)
 have h2 := only_len c inp
 refine ⟨by omega, by omega, by omega, by omega, by omega, fun y hy => ?_⟩
 rcases List.mem_append.1 hy with hy | hy
 ·have := d2 y hy; obtain ⟨p, q⟩ := this; omega
 ·have := g2 y hy; obtain ⟨p, q⟩ := this; omega
def idleS (c : Cf) (n : Nd) : Bool := decide (¬ MayC c ∨ n.Tick < 3 ∨ IntKind.i64.wrap (n.Tick.tdiv 3) > 1048576)
theorem idle_gate (c : Cf) (n : Nd) : ((F64 c).bind fun v2 => bif !v2 then some true else bif decide (n.Tick < 3) then some true else some (decide ((IntKind.i64.wrap (n.Tick.tdiv 3)) > 1048576))) = some (idleS c n) := by
 rw [F64_eq, ob]
 unfold idleS
 by_cases h1 : MayC c
 ·rw [decide_eq_true h1, Bool.not_true, cf]
  by_cases h2 : n.Tick < 3
  ·rw [decide_eq_true h2, ct, decide_eq_true (.inr (.inl h2))]
  ·rw [decide_eq_false h2, cf]
   by_cases h3 : IntKind.i64.wrap (n.Tick.tdiv 3) > 1048576
   ·rw [decide_eq_true h3, decide_eq_true (.inr (.inr h3))]
   ·rw [decide_eq_false h3, decide_eq_false]
    rintro (h | h | h)
    ·exact h h1
    ·exact h2 h
    ·exact h3 h
 ·rw [decide_eq_false h1, Bool.not_false, ct, decide_eq_true (.inl h1)]
def inS (c : Cf) (n : Nd) (inp : Vw) : Vw := joinP n.In (onlyP c inp)
def slotS (n : Nd) : Int := IntKind.i64.wrap (n.Tick.tdiv 3)
def hrdS (c : Cf) (n : Nd) (o : List Of) : List Of × Bool := hearP n.Tick c (slotS n) n.Full (n.O ++ o)
def nodeS (c : Cf) (n : Nd) (inp : Vw) (o : List Of) : Nd := ⟨n.No, n.Tick, n.V, inS c n inp, [], n.C, (hrdS c n o).2⟩
theorem in_len {c : Cf} {n : Nd} {inp : Vw} {o : List Of} (hf : FewS c n inp o) : (inS c n inp).B.length ≤ 60 ∧ (inS c n inp).V.length ≤ 60 := by
 obtain ⟨⟨-, ⟨b1, b2⟩, -, -⟩, ⟨e1, e2⟩, -, -⟩ := hf
 have h1 := join_len2 n.In (onlyP c inp)
 have h2 := only_len c inp
 unfold inS
 omega
theorem F3018_go {c : Cf} {n : Nd} {inp : Vw} {o : List Of} (hf : FewG c n inp o) (h : idleS c n = false) : F3018 c n inp o =
  bif (n.Tick.tmod 3) == 0 then
   (FFirst (nodeS c n inp o) c (slotS n) []).bind fun v10 => some (Nd.mk n.No (IntKind.i64.wrap (n.Tick + 1)) v10.1 v10.2.1 (hrdS c n o).1 n.C v10.2.2.1, v10.2.2.2)
  else bif (n.Tick.tmod 3) == 1 then
   (FSecond (nodeS c n inp o) (hrdS c n o).1 c (slotS n)).bind fun v11 => some (Nd.mk n.No (IntKind.i64.wrap (n.Tick + 1)) v11.1 v11.2.1 [] n.C v11.2.2, [])
  else bif (n.Tick.tmod 3) == 2 then
   (FThird (nodeS c n inp o) c (slotS n)).bind fun v12 => some (Nd.mk n.No (IntKind.i64.wrap (n.Tick + 1)) v12.1 v12.2.1 [] v12.2.2.1 v12.2.2.2, [])
  else none := by
 obtain ⟨⟨a1, a2⟩, ⟨b1, b2⟩, ⟨e1, e2⟩, -, g1, g2⟩ := hf
 have h2 := only_len c inp
 unfold F3018
 rw [idle_gate, ob, h, cf, F85_eq (by omega) (by omega), ob, F91_eq (by omega) (by omega), ob]
 rw [FHear_eq (by show n.O.length + o.length ≤ 1000; omega) (fun y hy => by have := g2 y hy; exact ⟨by omega, by omega⟩), ob]
 rfl
theorem hrd_smallG {c : Cf} {n : Nd} {inp : Vw} {o : List Of} (hf : FewG c n inp o) : (hrdS c n o).1.length ≤ 8 ∧ ∀ y ∈ (hrdS c n o).1, y.V.B.length ≤ 500 ∧ y.V.V.length ≤ 500 := by
 obtain ⟨h1, h2, -⟩ := hear_facts n.Tick c (slotS n) n.Full (n.O ++ o)
 exact ⟨h1, fun y hy => hf.offs y (h2 y hy).1⟩
theorem hrd_small {c : Cf} {n : Nd} {inp : Vw} {o : List Of} (hf : FewS c n inp o) : (hrdS c n o).1.length ≤ 8 ∧ ∀ y ∈ (hrdS c n o).1, y.V.B.length ≤ 500 ∧ y.V.V.length ≤ 500 := hrd_smallG hf.g
theorem F3018_0G {c : Cf} {n : Nd} {inp : Vw} {o : List Of} (hf : FewG c n inp o) (h : idleS c n = false) (h0 : n.Tick.tmod 3 = 0) :
  F3018 c n inp o = some (Nd.mk n.No (IntKind.i64.wrap (n.Tick + 1)) (firstP (nodeS c n inp o) c (slotS n)).1 (firstP (nodeS c n inp o) c (slotS n)).2.1 (hrdS c n o).1 n.C (firstP (nodeS c n inp o) c (slotS n)).2.2.1, (firstP (nodeS c n inp o) c (slotS n)).2.2.2) := by
 have hi : (inS c n inp).B.length ≤ 500 ∧ (inS c n inp).V.length ≤ 500 := hf.ins
 rw [F3018_go hf h]
 obtain ⟨⟨a1, a2⟩, -⟩ := hf
 rw [beq_iff_eq.2 h0, ct, FFirst_eq (by show n.V.B.length ≤ 500; omega) (by show n.V.V.length ≤ 500; omega) (by show (inS c n inp).B.length ≤ 500; omega) (by show (inS c n inp).V.length ≤ 500; omega), ob]
theorem F3018_1G {c : Cf} {n : Nd} {inp : Vw} {o : List Of} (hf : FewG c n inp o) (h : idleS c n = false) (h1 : n.Tick.tmod 3 = 1) :
  F3018 c n inp o = some (Nd.mk n.No (IntKind.i64.wrap (n.Tick + 1)) (secondP (nodeS c n inp o) (hrdS c n o).1 c (slotS n)).1 (secondP (nodeS c n inp o) (hrdS c n o).1 c (slotS n)).2.1 [] n.C (secondP (nodeS c n inp o) (hrdS c n o).1 c (slotS n)).2.2, []) := by
 have hi : (inS c n inp).B.length ≤ 500 ∧ (inS c n inp).V.length ≤ 500 := hf.ins
 obtain ⟨hr1, hr2⟩ := hrd_smallG hf
 rw [F3018_go hf h]
 obtain ⟨⟨a1, a2⟩, -⟩ := hf
 rw [show ((n.Tick.tmod 3) == 0) = false by rw [h1]; rfl, cf, beq_iff_eq.2 h1, ct, FSecond_eq (by show n.V.B.length ≤ 500; omega) (by show n.V.V.length ≤ 500; omega) (by show (inS c n inp).B.length ≤ 500; omega) (by show (inS c n inp).V.length ≤ 500; omega) hr1 hr2, ob]
theorem F3018_2G {c : Cf} {n : Nd} {inp : Vw} {o : List Of} (hf : FewG c n inp o) (h : idleS c n = false) (h2 : n.Tick.tmod 3 = 2) :
  ∃ cu, F3018 c n inp o = some (Nd.mk n.No (IntKind.i64.wrap (n.Tick + 1)) (takeP c n.V (inS c n inp) (slotS n)).1 (takeP c n.V (inS c n inp) (slotS n)).2.1 [] cu ((hrdS c n o).2 || (takeP c n.V (inS c n inp) (slotS n)).2.2), []) := by
 have hi : (inS c n inp).B.length ≤ 500 ∧ (inS c n inp).V.length ≤ 500 := hf.ins
 have hm : MayC c := by
  have := of_decide_eq_false h
  exact Decidable.not_not.1 fun h => this (.inl h)
 rw [F3018_go hf h]
 obtain ⟨⟨a1, a2⟩, -⟩ := hf
 obtain ⟨cu, e⟩ := FThird_ok (x := nodeS c n inp o) (slot := slotS n) hm (by show n.V.B.length ≤ 500; omega) (by show n.V.V.length ≤ 500; omega) (by show (inS c n inp).B.length ≤ 500; omega) (by show (inS c n inp).V.length ≤ 500; omega)
 rw [show ((n.Tick.tmod 3) == 0) = false by rw [h2]; rfl, cf, show ((n.Tick.tmod 3) == 1) = false by rw [h2]; rfl, cf, beq_iff_eq.2 h2, ct, e, ob]
 exact ⟨cu, rfl⟩
theorem F3018_0 {c : Cf} {n : Nd} {inp : Vw} {o : List Of} (hf : FewS c n inp o) (h : idleS c n = false) (h0 : n.Tick.tmod 3 = 0) :
  F3018 c n inp o = some (Nd.mk n.No (IntKind.i64.wrap (n.Tick + 1)) (firstP (nodeS c n inp o) c (slotS n)).1 (firstP (nodeS c n inp o) c (slotS n)).2.1 (hrdS c n o).1 n.C (firstP (nodeS c n inp o) c (slotS n)).2.2.1, (firstP (nodeS c n inp o) c (slotS n)).2.2.2) := F3018_0G hf.g h h0
theorem F3018_1 {c : Cf} {n : Nd} {inp : Vw} {o : List Of} (hf : FewS c n inp o) (h : idleS c n = false) (h1 : n.Tick.tmod 3 = 1) :
  F3018 c n inp o = some (Nd.mk n.No (IntKind.i64.wrap (n.Tick + 1)) (secondP (nodeS c n inp o) (hrdS c n o).1 c (slotS n)).1 (secondP (nodeS c n inp o) (hrdS c n o).1 c (slotS n)).2.1 [] n.C (secondP (nodeS c n inp o) (hrdS c n o).1 c (slotS n)).2.2, []) := F3018_1G hf.g h h1
theorem F3018_2 {c : Cf} {n : Nd} {inp : Vw} {o : List Of} (hf : FewS c n inp o) (h : idleS c n = false) (h2 : n.Tick.tmod 3 = 2) :
  ∃ cu, F3018 c n inp o = some (Nd.mk n.No (IntKind.i64.wrap (n.Tick + 1)) (takeP c n.V (inS c n inp) (slotS n)).1 (takeP c n.V (inS c n inp) (slotS n)).2.1 [] cu ((hrdS c n o).2 || (takeP c n.V (inS c n inp) (slotS n)).2.2), []) := F3018_2G hf.g h h2
theorem tick_mod {n : Nd} {c : Cf} (h : idleS c n = false) : n.Tick.tmod 3 = 0 ∨ n.Tick.tmod 3 = 1 ∨ n.Tick.tmod 3 = 2 := by
 have h3 : ¬ n.Tick < 3 := fun h2 => (of_decide_eq_false h) (.inr (.inl h2))
 rw [Int.tmod_eq_emod_of_nonneg (by omega)]
 omega
theorem slotS_eq {n : Nd} (h1 : 3 ≤ n.Tick) (h2 : n.Tick ≤ 1000000) : slotS n = n.Tick / 3 ∧ 1 ≤ slotS n ∧ slotS n ≤ 333333 := by
 unfold slotS
 rw [Int.tdiv_eq_ediv_of_nonneg (by omega), wrapI (by omega) (by omega)]
 omega
theorem busy_of {c : Cf} {n : Nd} (hm : MayC c) (h1 : 3 ≤ n.Tick) (h2 : n.Tick ≤ 1000000) : idleS c n = false := by
 have := slotS_eq h1 h2
 unfold slotS at this
 refine decide_eq_false ?_
 rintro (h | h | h)
 ·exact h hm
 ·omega
 ·omega
theorem few_in {n : Nd} {inp : Vw} {o : List Of} (c : Cf) (hn : SmallN 25 n) (hi : SmallV 25 inp) (ho : o.length ≤ 10) (ho2 : ∀ y ∈ o, SmallV 25 y.V) : FewS c n inp o :=
 ⟨small_mono hn (by omega), ⟨by have := hi.1; omega, by have := hi.2; omega⟩, ho, fun y hy => ⟨by have := (ho2 y hy).1; omega, by have := (ho2 y hy).2; omega⟩⟩
def Keeps (c : Cf) (v w : Vw) : Prop := MayW c w ∧ w.B.take v.B.length = v.B ∧ w.V.take v.V.length = v.V
theorem keeps_take {c : Cf} {v : Vw} (h : MayW c v) (i : Vw) (s : Int) : Keeps c v (takeP c v i s).1 := by
 have ht := took h i s
 obtain ⟨h1, h2⟩ := took_take ht
 exact ⟨ht.may, h1, h2⟩
open Classical in
theorem second_nil (x : Nd) (c : Cf) (slot : Int) : (secondP x [] c slot).1 = x.V := by
 unfold secondP
 split <;> rfl
open Classical in
theorem second_fst (x : Nd) (o : List Of) (c : Cf) (slot : Int) : (secondP x o c slot).1 = (secFold x o c slot).1 := by
 unfold secondP
 split <;> rfl
theorem hrd_nil {c : Cf} {n : Nd} {o : List Of} (h1 : n.O = []) (h2 : o = []) : (hrdS c n o).1 = [] := by
 unfold hrdS
 rw [h1, h2]
 rfl
open Classical in
theorem nodeWaits (ha : F3013 = some true) (c : Cf) (n : Nd) (inp : Vw) (o : List Of) : F3004 c n inp o = some true := by
 unfold F3004
 rw [ha, ob]
 rcases F3014_or n 25 with e | ⟨e, hs⟩
 ·rcases F3016_or o 25 with e2 | ⟨e2, -⟩ <;> rw [e, ob, F84_eq, ob, e2, ob, Bool.not_true, cf, Bool.not_false, ct, ob, ct]
 rw [e, ob, F84_eq, ob]
 rcases F3016_or o 25 with e2 | ⟨e2, ho1, ho2⟩
 ·rw [e2, ob, Bool.not_true, cf, cf]
  cases decide ((inp.B.length : Int) ≤ 25 ∧ (inp.V.length : Int) ≤ 25) <;> rfl
 rw [e2, ob, Bool.not_true, cf, cf]
 by_cases hi : (inp.B.length : Int) ≤ 25 ∧ (inp.V.length : Int) ≤ 25
 rotate_left
 ·rw [decide_eq_false hi, Bool.not_false, ct, ob, ct]
 rw [decide_eq_true hi, Bool.not_true, cf, cf]
 by_cases hw : (c.W.length : Int) > 40
 ·rw [decide_eq_true hw, ct, ob, ct]
 rw [decide_eq_false hw, cf, F64_eq, ob]
 by_cases hm : MayC c
 rotate_left
 ·rw [decide_eq_false hm, Bool.not_false, ct, ob, ct]
 rw [decide_eq_true hm, Bool.not_true, cf]
 by_cases h3 : n.Tick < 3
 ·rw [decide_eq_true h3, ct, ob, ct]
 rw [decide_eq_false h3, cf]
 by_cases h4 : n.Tick > 1000000
 ·rw [decide_eq_true h4, ob, ct]
 rw [decide_eq_false h4, ob, cf]
 have hf := few_in c hs hi ho1 ho2
 have hid := busy_of hm (n := n) (by omega) (by omega)
 have hsl := slotS_eq (n := n) (by omega) (by omega)
 have hsame : F86 n.V n.V = some true := by
  rw [F86_eq (by have := hs.1.1; omega) (by have := hs.1.2; omega), decide_eq_true ⟨rfl, rfl⟩]
 rcases tick_mod hid with h | h | h
 ·rw [F3018_0 hf hid h, ob, F63_eq, ob]
  simp only
  have hne : (n.Tick.tmod 3 != 0) = false := by simp [h]
  have heq : (n.Tick.tmod 3 == 0) = true := by simp [h]
  have hne1 : (n.Tick.tmod 3 != 1) = true := by simp [h]
  rw [hne, cf, heq]
  show ((F86 (firstP (nodeS c n inp o) c (slotS n)).1 n.V).bind _) = _
  by_cases hp : n.No = prP c (slotS n)
  ·have hs2 : (nodeS c n inp o).No = prP c (slotS n) := hp
   have ef : firstP (nodeS c n inp o) c (slotS n) = ((takeP c (takeP c n.V (inS c n inp) (slotS n)).1 ⟨[propB (nodeS c n inp o) c (slotS n)], []⟩ (slotS n)).1, (takeP c n.V (inS c n inp) (slotS n)).2.1, ((hrdS c n o).2 || (takeP c n.V (inS c n inp) (slotS n)).2.2) || (takeP c (takeP c n.V (inS c n inp) (slotS n)).1 ⟨[propB (nodeS c n inp o) c (slotS n)], []⟩ (slotS n)).2.2, [⟨slotS n, n.No, propB (nodeS c n inp o) c (slotS n), (takeP c n.V (inS c n inp) (slotS n)).1⟩]) := by
    unfold firstP
    rw [if_pos hs2]
    rfl
   rw [ef]
   simp only
   have hx := take_max c n.V (inS c n inp) (slotS n)
   have hx2 := take_max c (takeP c n.V (inS c n inp) (slotS n)).1 ⟨[propB (nodeS c n inp o) c (slotS n)], []⟩ (slotS n)
   have := hs.1.1
   have := hs.1.2
   rw [F86_eq (by omega) (by omega), ob]
   have hpr : (n.No != prP c (IntKind.i64.wrap (n.Tick.tdiv 3))) = false := by
    show (n.No != prP c (slotS n)) = false
    simp [hp]
   rw [hpr, ob, cf]
   have hix : ∀ z : Of, ix [z] 0 = some z := fun z => rfl
   simp only [hix]
   rw [ob, ob, ob, ob, ob]
   rw [show ((([(⟨slotS n, n.No, propB (nodeS c n inp o) c (slotS n), (takeP c n.V (inS c n inp) (slotS n)).1⟩ : Of)].length : Int)) == 1) = true from rfl, ct]
   rw [show (slotS n == IntKind.i64.wrap (n.Tick.tdiv 3)) = true from beq_iff_eq.2 rfl, ct]
   rw [show (n.No == prP c (IntKind.i64.wrap (n.Tick.tdiv 3))) = true from beq_iff_eq.2 hp, ct]
   rw [show ((propB (nodeS c n inp o) c (slotS n)).Slot == IntKind.i64.wrap (n.Tick.tdiv 3)) = true from beq_iff_eq.2 rfl, ct]
   rw [show ((propB (nodeS c n inp o) c (slotS n)).From == prP c (IntKind.i64.wrap (n.Tick.tdiv 3))) = true from beq_iff_eq.2 hp, ct]
   rw [show ((propB (nodeS c n inp o) c (slotS n)).Salt == 0) = true from rfl, ct]
   rw [F89_eq (by omega) (by omega), ob]
   by_cases hv : MayW c n.V
   ·rw [decide_eq_true hv, Bool.not_true, cf, ob]
    have hk := (keeps_take hv (inS c n inp) (slotS n)).1
    rw [F89_eq (by show (takeP c n.V (inS c n inp) (slotS n)).1.B.length ≤ 1000; omega) (by show (takeP c n.V (inS c n inp) (slotS n)).1.V.length ≤ 1000; omega), ob, decide_eq_true hk, ct, ob, ob]
    rw [show few (takeP c n.V (inS c n inp) (slotS n)).1.B = true from decide_eq_true (by omega), ct]
    have hl := (headP_leaf (v := goldP c (takeP c n.V (inS c n inp) (slotS n)).1.V (IntKind.i64.wrap (slotS n - 1))) c hk.valid).1
    refine congrArg some (decide_eq_true ?_)
    have := List.length_pos_iff.2 hl
    exact Int.natCast_pos.2 this
   ·rw [decide_eq_false hv, Bool.not_false, ct]
  ·have ef : firstP (nodeS c n inp o) c (slotS n) = (n.V, inS c n inp, (hrdS c n o).2, []) := by
    unfold firstP
    rw [if_neg (show (nodeS c n inp o).No ≠ prP c (slotS n) from hp)]
    rfl
   rw [ef]
   simp only
   rw [hsame, ob]
   have hpr : (n.No != prP c (IntKind.i64.wrap (n.Tick.tdiv 3))) = true := by
    show (n.No != prP c (slotS n)) = true
    simp [hp]
   rw [hpr, ob, ct, hne1, ct]
   rfl
 ·have hne : (n.Tick.tmod 3 != 0) = true := by simp [h]
  have heq : (n.Tick.tmod 3 == 0) = false := by simp [h]
  have hne1 : (n.Tick.tmod 3 != 1) = false := by simp [h]
  have hx := F3018_1 hf hid h
  rw [hx, ob, F63_eq, ob]
  simp only
  have hO := hs.2.2.1
  have hin := in_len hf
  obtain ⟨r1, r2⟩ := hrd_small hf
  have := hs.1.1
  have := hs.1.2
  have hz := sec_size (x := nodeS c n inp o) (c := c) (slot := slotS n) (show n.V.B.length ≤ 500 by omega) (show n.V.V.length ≤ 500 by omega) (show (inS c n inp).B.length ≤ 500 by omega) (show (inS c n inp).V.length ≤ 500 by omega) 8 _ r1 r2
  have e4 := second_fst (nodeS c n inp o) (hrdS c n o).1 c (slotS n)
  have hy : ∃ b, F86 (secondP (nodeS c n inp o) (hrdS c n o).1 c (slotS n)).1 n.V = some b := ⟨_, F86_eq (by rw [e4]; omega) (by rw [e4]; omega)⟩
  obtain ⟨b, hb⟩ := hy
  show ((F86 (secondP (nodeS c n inp o) (hrdS c n o).1 c (slotS n)).1 n.V).bind _) = _
  rw [hb, ob, hne, ct, ob, ct, heq, cf, hne1, cf]
  rw [wrapI (n := (n.O.length : Int) + (o.length : Int)) (by omega) (by omega)]
  by_cases h0 : (n.O.length : Int) + (o.length : Int) > 0
  ·rw [decide_eq_true h0, ct]
   rfl
  ·have e1 : n.O = [] := List.length_eq_zero_iff.1 (by omega)
   have e3 : o = [] := List.length_eq_zero_iff.1 (by omega)
   rw [hrd_nil e1 e3, second_nil] at hb
   have hb' : F86 n.V n.V = some b := hb
   rw [hsame] at hb'
   obtain rfl := Option.some.inj hb'
   rw [decide_eq_false h0, cf]
   rfl
 ·have hne : (n.Tick.tmod 3 != 0) = true := by simp [h]
  have heq : (n.Tick.tmod 3 == 0) = false := by simp [h]
  have hne1 : (n.Tick.tmod 3 != 1) = true := by simp [h]
  obtain ⟨cu, hx⟩ := F3018_2 hf hid h
  have hm2 := take_max c n.V (inS c n inp) (slotS n)
  have := hs.1.1
  have := hs.1.2
  rw [hx, ob, F63_eq, ob]
  simp only
  rw [F86_eq (by omega) (by omega), ob, hne, ct, ob, ct, heq, cf, hne1, ct]
  rfl
def OfOk (o : Of) : Prop := InKind .i64 o.Slot ∧ InKind .i64 o.From ∧ BkOk o.B ∧ VwOk o.V
def NdOk (n : Nd) : Prop := InKind .i64 n.No ∧ InKind .i64 n.Tick ∧ VwOk n.V ∧ VwOk n.In ∧ (∀ o ∈ n.O, OfOk o) ∧ CuOk n.C
theorem isOfO {p : PV} (h : TIs (.agg [.int .i64, .int .i64, .int .i64, .int .i64, .int .u64, .int .u64, .int .u64, .slice 5 (.agg [.int .i64, .int .i64, .int .u64, .int .u64, .int .u64]), .slice 4 (.agg [.int .i64, .int .i64, .int .u64, .int .u64])]) p) : ∃ o : Of, p = ofP o ∧ OfOk o := by
 cases h with | agg h =>
 cases h with | cons a1 h => cases h with | cons a2 h => cases h with | cons a3 h => cases h with | cons a4 h => cases h with | cons a5 h => cases h with | cons a6 h => cases h with | cons a7 h => cases h with | cons a8 h => cases h with | cons a9 h =>
  cases h
  obtain ⟨x, rfl, hx⟩ := isSliceO (fun _ h => isBkO h) a8
  obtain ⟨y, rfl, hy⟩ := isSliceO (fun _ h => isVtO h) a9
  cases a1; cases a2; cases a3; cases a4; cases a5; cases a6; cases a7
  exact ⟨⟨_, _, ⟨_, _, (_, _), _⟩, ⟨x, y⟩⟩, rfl, by assumption, by assumption, ⟨by assumption, by assumption, by assumption, by assumption, by assumption⟩, hx, hy⟩
theorem isNdO {p : PV} (h : TIs (.agg [.int .i64, .int .i64, .slice 5 (.agg [.int .i64, .int .i64, .int .u64, .int .u64, .int .u64]), .slice 4 (.agg [.int .i64, .int .i64, .int .u64, .int .u64]), .slice 5 (.agg [.int .i64, .int .i64, .int .u64, .int .u64, .int .u64]), .slice 4 (.agg [.int .i64, .int .i64, .int .u64, .int .u64]), .slice 9 (.agg [.int .i64, .int .i64, .int .i64, .int .i64, .int .u64, .int .u64, .int .u64, .slice 5 (.agg [.int .i64, .int .i64, .int .u64, .int .u64, .int .u64]), .slice 4 (.agg [.int .i64, .int .i64, .int .u64, .int .u64])]), .int .u64, .int .u64, .int .i64, .int .i64, .bool]) p) : ∃ n : Nd, p = ndP n ∧ NdOk n := by
 cases h with | agg h =>
 cases h with | cons a1 h => cases h with | cons a2 h => cases h with | cons a3 h => cases h with | cons a4 h => cases h with | cons a5 h => cases h with | cons a6 h => cases h with | cons a7 h => cases h with | cons a8 h => cases h with | cons a9 h => cases h with | cons b1 h => cases h with | cons b2 h => cases h with | cons b3 h =>
  cases h
  obtain ⟨x, rfl, hx⟩ := isSliceO (fun _ h => isBkO h) a3
  obtain ⟨y, rfl, hy⟩ := isSliceO (fun _ h => isVtO h) a4
  obtain ⟨u, rfl, hu⟩ := isSliceO (fun _ h => isBkO h) a5
  obtain ⟨v, rfl, hv⟩ := isSliceO (fun _ h => isVtO h) a6
  obtain ⟨o, rfl, ho⟩ := isSliceO (fun _ h => isOfO h) a7
  cases a1; cases a2; cases a8; cases a9; cases b1; cases b2; cases b3
  exact ⟨⟨_, _, ⟨x, y⟩, ⟨u, v⟩, o, ⟨(_, _), _, _⟩, _⟩, rfl, by assumption, by assumption, ⟨hx, hy⟩, ⟨hu, hv⟩, ho, ⟨by assumption, by assumption⟩, by assumption, by assumption⟩
end Go.Mg
namespace Go.Proofs.YtabjakfgaodocaaGreat
def io : List Nat := [104, 97, 114, 110, 101, 115, 115, 32, 56, 49, 54, 54, 102, 99, 100, 102, 54, 101, 102, 56, 52, 53, 57, 51, 98, 52, 98, 97, 101, 98, 49, 51, 97, 99, 50, 49, 100, 54, 48, 97, 49, 101, 97, 54, 52, 98, 97, 100, 50, 101, 49, 97, 55, 52, 57, 54, 55, 56, 51, 102, 99, 98, 50, 53, 56, 57, 57, 102, 98, 51, 51, 57, 32, 99, 117, 116, 32, 97, 116, 32, 109, 97, 114, 105, 103, 111, 108, 100, 47, 109, 97, 114, 105, 103, 111, 108, 100, 108, 97, 119, 49, 56, 46, 78, 111, 100, 101, 75, 101, 101, 112, 115, 32, 109, 97, 114, 105, 103, 111, 108, 100, 47, 109, 97, 114, 105, 103, 111, 108, 100, 108, 97, 119, 49, 56, 46, 78, 111, 100, 101, 87, 97, 105, 116, 115, 32, 109, 97, 114, 105, 103, 111, 108, 100, 47, 109, 97, 114, 105, 103, 111, 108, 100, 108, 97, 119, 49, 56, 46, 78, 111, 100, 101, 86, 111, 116, 101, 115, 32, 109, 97, 114, 105, 103, 111, 108, 100, 47, 109, 97, 114, 105, 103, 111, 108, 100, 108, 97, 119, 49, 56, 46, 78, 111, 100, 101, 75, 110, 111, 119, 110, 32, 109, 97, 114, 105, 103, 111, 108, 100, 47, 109, 97, 114, 105, 103, 111, 108, 100, 108, 97, 119, 49, 57, 46, 78, 101, 116, 65, 108, 108, 32, 109, 97, 114, 105, 103, 111, 108, 100, 47, 109, 97, 114, 105, 103, 111, 108, 100, 108, 97, 119, 49, 57, 46, 78, 101, 116, 79, 114, 100, 101, 114, 32, 109, 97, 114, 105, 103, 111, 108, 100, 47, 109, 97, 114, 105, 103, 111, 108, 100, 108, 97, 119, 49, 57, 46, 78, 101, 116, 67, 108, 97, 115, 104, 32, 109, 97, 114, 105, 103, 111, 108, 100, 47, 109, 97, 114, 105, 103, 111, 108, 100, 108, 97, 119, 49, 57, 46, 78, 101, 116, 72, 101, 97, 100, 115, 32, 109, 97, 114, 105, 103, 111, 108, 100, 47, 109, 97, 114, 105, 103, 111, 108, 100, 108, 97, 119, 49, 56, 46, 78, 111, 100, 101, 84, 105, 99, 107, 115, 32, 109, 97, 114, 105, 103, 111, 108, 100, 47, 109, 97, 114, 105, 103, 111, 108, 100, 108, 97, 119, 49, 56, 46, 78, 111, 100, 101, 83, 116, 101, 112, 115]
theorem ioEq : Tryz.prog.initOrder = String.ofList (io.map Char.ofNat) := by kernel_rfl
theorem ioList : Tryz.prog.initOrder.toList = io.map Char.ofNat := by rw [ioEq, String.toList_ofList]
def ws : List (List Nat) := [[99, 117, 116], [97, 116], [109, 97, 114, 105, 103, 111, 108, 100, 47, 109, 97, 114, 105, 103, 111, 108, 100, 108, 97, 119, 49, 56, 46, 78, 111, 100, 101, 75, 101, 101, 112, 115], [109, 97, 114, 105, 103, 111, 108, 100, 47, 109, 97, 114, 105, 103, 111, 108, 100, 108, 97, 119, 49, 56, 46, 78, 111, 100, 101, 87, 97, 105, 116, 115], [109, 97, 114, 105, 103, 111, 108, 100, 47, 109, 97, 114, 105, 103, 111, 108, 100, 108, 97, 119, 49, 56, 46, 78, 111, 100, 101, 86, 111, 116, 101, 115], [109, 97, 114, 105, 103, 111, 108, 100, 47, 109, 97, 114, 105, 103, 111, 108, 100, 108, 97, 119, 49, 56, 46, 78, 111, 100, 101, 75, 110, 111, 119, 110], [109, 97, 114, 105, 103, 111, 108, 100, 47, 109, 97, 114, 105, 103, 111, 108, 100, 108, 97, 119, 49, 57, 46, 78, 101, 116, 65, 108, 108], [109, 97, 114, 105, 103, 111, 108, 100, 47, 109, 97, 114, 105, 103, 111, 108, 100, 108, 97, 119, 49, 57, 46, 78, 101, 116, 79, 114, 100, 101, 114], [109, 97, 114, 105, 103, 111, 108, 100, 47, 109, 97, 114, 105, 103, 111, 108, 100, 108, 97, 119, 49, 57, 46, 78, 101, 116, 67, 108, 97, 115, 104], [109, 97, 114, 105, 103, 111, 108, 100, 47, 109, 97, 114, 105, 103, 111, 108, 100, 108, 97, 119, 49, 57, 46, 78, 101, 116, 72, 101, 97, 100, 115], [109, 97, 114, 105, 103, 111, 108, 100, 47, 109, 97, 114, 105, 103, 111, 108, 100, 108, 97, 119, 49, 56, 46, 78, 111, 100, 101, 84, 105, 99, 107, 115], [109, 97, 114, 105, 103, 111, 108, 100, 47, 109, 97, 114, 105, 103, 111, 108, 100, 108, 97, 119, 49, 56, 46, 78, 111, 100, 101, 83, 116, 101, 112, 115]]
theorem words : behindMainWord (wordsSigns Tryz.prog.initOrder.toList) = ws.map (List.map Char.ofNat) := by
 rw [ioList]
 kernel_rfl
theorem strip : stripLifts liftWords (ws.map (List.map Char.ofNat)) = ([], ws.map (List.map Char.ofNat)) := by kernel_rfl
theorem rows0 : Tryz.prog.doorRows = [] := by kernel_rfl
theorem lays : Tryz.prog.laysLater = false := by kernel_rfl
theorem refl0 : Tryz.prog.bearsReflect = false := by kernel_rfl
theorem headw : (ws.map (List.map Char.ofNat)).head? = some "cut".toList := by kernel_rfl
theorem enters (P : Program) (W : List (List Char)) (hW : behindMainWord (wordsSigns P.initOrder.toList) = W) (hs : stripLifts liftWords W = ([], W)) (hh : W.head? = some "cut".toList) (hr : P.doorRows = []) (hl : P.laysLater = false) (hb : P.bearsReflect = false) : P.mayEnter = true := by
 unfold Program.mayEnter
 rw [hW]
 cases W with
 | nil => cases hh
 | cons c r =>
  simp only [hs, hh, hl, hb, Program.doorFits, hr]
  simp
theorem mayEnter : Tryz.prog.mayEnter = true := enters Tryz.prog _ words strip headw rows0 lays refl0
theorem own : ownKnob Tryz.prog.godebug = none := by kernel_rfl
theorem laidOut : laidOutB Tryz.prog = true := by kernel_rfl
theorem rowed : mapsRowed Tryz.prog = true := by kernel_rfl
theorem heard : Tryz.prog.stopsHeard = true := by kernel_rfl
theorem make_of (P : Program) (W : List (List Char)) (hW : behindMainWord (wordsSigns P.initOrder.toList) = W) (hh : W.head? = some "cut".toList) : P.make = some .cut := by
 unfold Program.make
 rw [hW]
 cases W with
 | nil => cases hh
 | cons c r =>
  have e : c = "cut".toList := by simpa using hh
  subst e
  show (if _ then _ else _) = _
  rw [if_neg (by decide), if_pos (by simp)]
theorem makes : Tryz.prog.make = some .cut := make_of Tryz.prog _ words headw
theorem lifts : Tryz.prog.liftsFinal = false := by
 unfold Program.liftsFinal Program.headLifts
 rw [words]
 kernel_rfl
end Go.Proofs.YtabjakfgaodocaaGreat
