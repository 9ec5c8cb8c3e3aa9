/- A node behind a tick, plain. A node behind a tick, plain: the phases. A node behind a tick, plain: the whole. NodeKnown, plain. NodeKeeps, plain. NodeVotes, plain. What arguments are: offers, nodes. How the program's own line of words reads, letter by letter; facts of the whole program that each row asks for. Conditions: none. -/
import Derived.Test.YtabjakfgaodocaaGreatX8
import Derived.Test.YtabjakfgaodocaaGreatX10
import Derived.Test.YtabjakfgaodocaaGreatX9
import Derived.Test.YtabjakfgaodocaaGreatX6
import Derived.Test.YtabjakfgaodocaaGreatRows
import Derived.ProofKit
import Derived.OpenShut
namespace Go.Mg
def zOf : Of := Of.mk 0 0 (Bk.mk 0 0 (0, 0) 0) (Vw.mk [] [])
theorem FGrow_eq {n : Nat} (hn : n ≤ 1000) : FGrow (n : Int) = some (List.replicate n zOf) := by
 have e : IntKind.i64.wrap ((n : Int) - (IntKind.i64.wrap (0 - 0))) = n := by
  rw [show IntKind.i64.wrap (0 - 0) = 0 from by decide, wrapI (by omega) (by omega)]; omega
 unfold FGrow
 rw [decide_eq_false (show ¬ (n : Int) < 0 by omega), cf, e]
 by_cases h0 : (n : Int) > 0
 ·rw [decide_eq_true h0, ct, show mkOk (n : Int) 104 = true from decide_eq_true (by omega), ct]
  simp [zOf]
 ·rw [decide_eq_false h0, cf]
  obtain rfl : n = 0 := by omega
  rfl
theorem F3095_eq {a b : List Of} (h : a.length + b.length ≤ 1000) : F3095 [a, b] = some (a ++ b) := by
 have e1 := count_loop (step := F3095_s1 [a, b]) (n := 2) (fun k => match k with | 0 => F3095_L1.mk 0 0 | 1 => F3095_L1.mk (a.length : Int) 1 | _ => F3095_L1.mk ((a.length + b.length : Nat) : Int) 2) (F3095_L1.mk ((a.length + b.length : Nat) : Int) 2) (fun k hk => by
  match k, hk with
  | 0, _ =>
   unfold F3095_s1
   simp only
   rw [decide_eq_true (show (0 : Int) < (([a, b] : List (List Of)).length : Int) by simp), ct, show ix [a, b] 0 = some a from rfl, ob, wrapI (by omega) (by omega), decide_eq_false (show ¬ (0 : Int) + (a.length : Int) < 0 by omega), cf, Int.zero_add]
   rfl
  | 1, _ =>
   unfold F3095_s1
   simp only
   rw [decide_eq_true (show (1 : Int) < (([a, b] : List (List Of)).length : Int) by simp), ct, show ix [a, b] 1 = some b from rfl, ob, wrapI (by omega) (by omega), decide_eq_false (show ¬ (a.length : Int) + (b.length : Int) < 0 by omega), cf, Int.natCast_add]
   rfl) (by
  unfold F3095_s1
  simp only
  rw [decide_eq_false (show ¬ (2 : Int) < (([a, b] : List (List Of)).length : Int) by simp), cf]) (by omega)
 have e1' : iter (F3095_s1 [a, b]) big (F3095_L1.mk 0 0) = _ := e1
 obtain ⟨r, hr⟩ : ∃ r, r = List.replicate (a.length + b.length) zOf := ⟨_, rfl⟩
 have hrl : r.length = a.length + b.length := by rw [hr]; simp
 have p1 : putL r 0 a = a ++ r.drop a.length := by unfold putL; simp
 have p1l : (putL r 0 a).length = a.length + b.length := by rw [p1]; simp; omega
 have p2 : (putL (putL r 0 a) a.length b).take (a.length + b.length) = a ++ b := by
  have e : (putL r 0 a).take a.length = a := by rw [p1, List.take_left']; rfl
  unfold putL at e ⊢
  rw [e, List.take_left']
  simp
 have p2l : (putL (putL r 0 a) a.length b).length = a.length + b.length := by rw [putL_len (by rw [p1l]; omega), p1l]
 have e2 := count_loop (step := F3095_s2 [a, b]) (n := 2) (fun k => match k with | 0 => F3095_L2.mk 0 0 r | 1 => F3095_L2.mk a.length 1 (putL r 0 a) | _ => F3095_L2.mk (a.length + b.length) 2 (putL (putL r 0 a) a.length b)) (F3095_L2.mk (a.length + b.length) 2 (putL (putL r 0 a) a.length b)) (fun k hk => by
  match k, hk with
  | 0, _ =>
   unfold F3095_s2
   simp only
   rw [decide_eq_true (show (0 : Int) < (([a, b] : List (List Of)).length : Int) by simp), ct, show ix [a, b] 0 = some a from rfl, ob, decide_eq_true (show 0 + a.length ≤ r.length by omega), ct, Nat.zero_add]
   rfl
  | 1, _ =>
   unfold F3095_s2
   simp only
   rw [decide_eq_true (show (1 : Int) < (([a, b] : List (List Of)).length : Int) by simp), ct, show ix [a, b] 1 = some b from rfl, ob, decide_eq_true (show a.length + b.length ≤ (putL r 0 a).length by omega), ct]
   rfl) (by
  unfold F3095_s2
  simp only
  rw [decide_eq_false (show ¬ (2 : Int) < (([a, b] : List (List Of)).length : Int) by simp), cf]) (by omega)
 have e2' : iter (F3095_s2 [a, b]) big (F3095_L2.mk 0 0 r) = _ := e2
 unfold F3095
 rw [e1', ob]
 simp only
 rw [FGrow_eq h, ob, ← hr, e2', ob]
 simp only
 rw [show Nat.ble (a.length + b.length) (putL (putL r 0 a) a.length b).length = true from Nat.ble_eq_true_of_le (by omega), ct, p2]
def SmallO (o : Of) : Prop := o.V.B.length ≤ 1000 ∧ o.V.V.length ≤ 1000
theorem F3051_eq {v : Vw} (h1 : v.B.length ≤ 1000) (h2 : v.V.length ≤ 1000) : F3051 v = some v := by
 unfold F3051
 rw [room_ok (by omega) (by omega), ct, room_ok (by omega) (by omega), ct]
theorem F3052_eq {o : Of} (h : SmallO o) : F3052 o = some o := by
 unfold F3052
 rw [F3051_eq h.1 h.2]
 rfl
def okO (t : Int) (c : Cf) (slot : Int) (o : Of) : Bool := decide (¬ t.tmod 3 = 2 ∧ o.Slot = slot ∧ o.From = prP c slot)
def stepH (t : Int) (c : Cf) (slot : Int) (s : List Of × Bool) (o : Of) : List Of × Bool := if okO t c slot o = true then (if s.1.length = 8 then (s.1, true) else (s.1 ++ [o], s.2)) else s
def hearP (t : Int) (c : Cf) (slot : Int) (full : Bool) (l : List Of) : List Of × Bool := l.foldl (stepH t c slot) ([], full)
theorem hear_snoc (t : Int) (c : Cf) (slot : Int) (full : Bool) (l : List Of) (o : Of) : hearP t c slot full (l ++ [o]) = stepH t c slot (hearP t c slot full l) o := by unfold hearP; rw [List.foldl_append]; rfl
theorem hear_go {t : Int} {c : Cf} {slot : Int} : ∀ (l : List Of) (s : List Of × Bool), s.1.length ≤ 8 → (l.foldl (stepH t c slot) s).1.length ≤ 8 ∧ (∀ o ∈ (l.foldl (stepH t c slot) s).1, o ∈ s.1 ∨ (o ∈ l ∧ okO t c slot o = true)) ∧ (s.2 = true → (l.foldl (stepH t c slot) s).2 = true)
 | [], s, h => ⟨h, fun o ho => .inl ho, id⟩
 | x :: r, s, h => by
  rw [List.foldl_cons]
  have hs : (stepH t c slot s x).1.length ≤ 8 ∧ (∀ o ∈ (stepH t c slot s x).1, o ∈ s.1 ∨ (o = x ∧ okO t c slot o = true)) ∧ (s.2 = true → (stepH t c slot s x).2 = true) := by
   unfold stepH
   split
   ·rename_i hk
    split
    ·exact ⟨h, fun o ho => .inl ho, fun _ => rfl⟩
    ·refine ⟨by simp only [List.length_append, List.length_singleton]; omega, fun o ho => ?_, id⟩
     rcases List.mem_append.1 ho with ho | ho
     ·exact .inl ho
     ·rw [List.mem_singleton] at ho; subst ho; exact .inr ⟨rfl, hk⟩
   ·exact ⟨h, fun o ho => .inl ho, id⟩
  obtain ⟨h1, h2, h3⟩ := hear_go r (stepH t c slot s x) hs.1
  refine ⟨h1, fun o ho => ?_, fun e => h3 (hs.2.2 e)⟩
  rcases h2 o ho with h4 | ⟨h4, h5⟩
  ·rcases hs.2.1 o h4 with h5 | ⟨rfl, h5⟩
   ·exact .inl h5
   ·exact .inr ⟨.head _, h5⟩
  ·exact .inr ⟨.tail _ h4, h5⟩
theorem hear_facts (t : Int) (c : Cf) (slot : Int) (full : Bool) (l : List Of) : (hearP t c slot full l).1.length ≤ 8 ∧ (∀ o ∈ (hearP t c slot full l).1, o ∈ l ∧ okO t c slot o = true) ∧ (full = true → (hearP t c slot full l).2 = true) := by
 obtain ⟨h1, h2, h3⟩ := hear_go (t := t) (c := c) (slot := slot) l ([], full) (by simp)
 refine ⟨h1, fun o ho => ?_, h3⟩
 rcases h2 o ho with h4 | h4
 ·simp at h4
 ·exact h4
theorem FHear_eq {l : List Of} {x : Nd} {c : Cf} {slot : Int} (hl : x.O.length + l.length ≤ 1000) (hs : ∀ o ∈ x.O ++ l, SmallO o) : FHear l x c slot = some (hearP x.Tick c slot x.Full (x.O ++ l)) := by
 unfold FHear
 rw [F3095_eq hl, ob]
 generalize hL : x.O ++ l = L at hs
 have hLl : L.length ≤ 1000 := by rw [← hL, List.length_append]; omega
 have e := count_loop (step := FHear_s1 x c slot L) (n := L.length) (fun k => FHear_L1.mk (k : Int) (hearP x.Tick c slot x.Full (L.take k)).2 (hearP x.Tick c slot x.Full (L.take k)).1) (FHear_L1.mk (L.length : Int) (hearP x.Tick c slot x.Full L).2 (hearP x.Tick c slot x.Full L).1) (fun k hk => by
  obtain ⟨y, hy, hm⟩ := get_of hk
  have et : L.take (k + 1) = L.take k ++ [y] := by rw [List.take_add_one, hy]; rfl
  have hf := hear_facts x.Tick c slot x.Full (L.take k)
  unfold FHear_s1
  simp only
  rw [decide_eq_true (show (k : Int) < (L.length : Int) by omega), ct, ix_nat hy, ob, et, hear_snoc, wrap_succ (n := k) (by omega)]
  generalize hearP x.Tick c slot x.Full (L.take k) = s at hf ⊢
  have hgate : (bif (x.Tick.tmod 3) == 2 then some ((x.Tick.tmod 3) == 2) else bif y.Slot != slot then some (y.Slot != slot) else (F63 c slot).bind fun v4 => some (y.From != v4)) = some (!okO x.Tick c slot y) := by
   rw [F63_eq, ob]
   unfold okO
   by_cases h1 : x.Tick.tmod 3 = 2
   ·rw [beq_iff_eq.2 h1, ct, decide_eq_false fun h => h.1 h1]; rfl
   ·rw [beq_eq_false_iff_ne.2 h1, cf]
    by_cases h2 : y.Slot = slot
    ·rw [show (y.Slot != slot) = false by simp [h2], cf]
     by_cases h3 : y.From = prP c slot
     ·rw [show (y.From != prP c slot) = false by simp [h3], decide_eq_true ⟨h1, h2, h3⟩]; rfl
     ·rw [show (y.From != prP c slot) = true by simp [h3], decide_eq_false fun h => h3 h.2.2]; rfl
    ·rw [show (y.Slot != slot) = true by simp [h2], ct, decide_eq_false fun h => h2 h.2.1]; rfl
  rw [hgate, ob]
  unfold stepH
  cases hk2 : okO x.Tick c slot y with
  | false => rw [Bool.not_false, ct]; rfl
  | true =>
   rw [Bool.not_true, cf, if_pos rfl]
   by_cases h8 : s.1.length = 8
   ·rw [show ((s.1.length : Int) == 8) = true by simp [h8], ct, if_pos h8]
   ·rw [show ((s.1.length : Int) == 8) = false by rw [beq_eq_false_iff_ne]; omega, cf, F3052_eq (hs y hm), ob, room_ok (by simp only [List.length_singleton]; omega) (by omega), ct, if_neg h8]) (by
  unfold FHear_s1
  simp only
  rw [decide_eq_false (show ¬ (L.length : Int) < (L.length : Int) by omega), cf, List.take_length]) (by omega)
 have e' : iter (FHear_s1 x c slot L) big (FHear_L1.mk 0 x.Full []) = _ := e
 rw [e', ob]
theorem take_size (c : Cf) (w i : Vw) (s : Int) : w.B.length ≤ (takeP c w i s).1.B.length ∧ (takeP c w i s).1.B.length ≤ w.B.length + 60 ∧ w.V.length ≤ (takeP c w i s).1.V.length ∧ (takeP c w i s).1.V.length ≤ w.V.length + 240 ∧ (takeP c w i s).2.1.B.length ≤ i.B.length ∧ (takeP c w i s).2.1.V.length ≤ i.V.length := by
 by_cases h : MayW c w
 ·have ht := took h i s
  have hl := took_len ht
  have h1 := ht.may.lenB
  have h2 := ht.may.lenV
  omega
 ·have e : takeP c w i s = (w, i, false) := by unfold takeP; rw [if_neg h]
  rw [e]
  simp only
  omega
theorem FCount_eq {inp : Vw} {c : Cf} {slot : Int} {v : Vw} {full : Bool} (h1 : v.B.length ≤ 1000) (h2 : v.V.length ≤ 1000) (h3 : inp.B.length ≤ 800) (h4 : inp.V.length ≤ 600) :
  FCount inp c slot v full = some ((takeP c v inp slot).2.1, (takeP c v inp slot).1, full || (takeP c v inp slot).2.2) := by
 unfold FCount
 rw [F90_eq h1 h2 h3 h4, ob]
 cases full <;> rfl
theorem take_max (c : Cf) (w i : Vw) (s : Int) : (takeP c w i s).1.B.length ≤ max w.B.length 60 ∧ (takeP c w i s).1.V.length ≤ max w.V.length 240 := by
 by_cases h : MayW c w
 ·have ht := took h i s
  have h1 := ht.may.lenB
  have h2 := ht.may.lenV
  omega
 ·have e : takeP c w i s = (w, i, false) := by unfold takeP; rw [if_neg h]
  rw [e]
  simp only
  omega
theorem Vw.eta (w : Vw) : Vw.mk w.B w.V = w := rfl
noncomputable def propB (x : Nd) (c : Cf) (slot : Int) : Bk := ⟨slot, x.No, headP c (takeP c x.V x.In slot).1.B (goldP c (takeP c x.V x.In slot).1.V (IntKind.i64.wrap (slot - 1))), 0⟩
noncomputable def firstP (x : Nd) (c : Cf) (slot : Int) : Vw × Vw × Bool × List Of :=
 if x.No = prP c slot then
  ((takeP c (takeP c x.V x.In slot).1 ⟨[propB x c slot], []⟩ slot).1, (takeP c x.V x.In slot).2.1, (x.Full || (takeP c x.V x.In slot).2.2) || (takeP c (takeP c x.V x.In slot).1 ⟨[propB x c slot], []⟩ slot).2.2, [⟨slot, x.No, propB x c slot, (takeP c x.V x.In slot).1⟩])
 else (x.V, x.In, x.Full, [])
theorem FFirst_eq {x : Nd} {c : Cf} {slot : Int} (h1 : x.V.B.length ≤ 500) (h2 : x.V.V.length ≤ 500) (h3 : x.In.B.length ≤ 500) (h4 : x.In.V.length ≤ 500) : FFirst x c slot [] = some (firstP x c slot) := by
 have hm := take_max c x.V x.In slot
 unfold FFirst firstP
 rw [F63_eq, ob]
 by_cases h : x.No = prP c slot
 ·rw [show (x.No != prP c slot) = false by simp [h], cf, if_pos h, FCount_eq (by omega) (by omega) (by omega) (by omega), ob]
  simp only
  rw [F1048_eq (by omega) (by omega), ob]
  have hs : SmallO (Of.mk slot x.No (Bk.mk slot x.No (headP c (takeP c x.V x.In slot).1.B (goldP c (takeP c x.V x.In slot).1.V (IntKind.i64.wrap (slot - 1)))) 0) (takeP c x.V x.In slot).1) := ⟨by show (takeP c x.V x.In slot).1.B.length ≤ 1000; omega, by show (takeP c x.V x.In slot).1.V.length ≤ 1000; omega⟩
  rw [F3052_eq hs, ob]
  unfold F3098
  rw [ob, FCount_eq (by omega) (by omega) (by simp) (by simp), ob]
  rfl
 ·rw [show (x.No != prP c slot) = true by simp [h], ct, if_neg h]
noncomputable def secStep (c : Cf) (slot : Int) (s : Vw × Vw × Bool) (o : Of) : Vw × Vw × Bool :=
 ((takeP c s.1 (joinP o.V ⟨[o.B], []⟩) slot).1, joinP s.2.1 (takeP c s.1 (joinP o.V ⟨[o.B], []⟩) slot).2.1, s.2.2 || (takeP c s.1 (joinP o.V ⟨[o.B], []⟩) slot).2.2)
noncomputable def secFold (x : Nd) (o : List Of) (c : Cf) (slot : Int) : Vw × Vw × Bool := o.foldl (secStep c slot) (x.V, x.In, x.Full)
noncomputable def secondP (x : Nd) (o : List Of) (c : Cf) (slot : Int) : Vw × Vw × Bool :=
 if x.No ∈ cmP c slot then
  ((secFold x o c slot).1, joinP (secFold x o c slot).2.1 ⟨[], [⟨x.No, slot, headP c (secFold x o c slot).1.B (goldP c (secFold x o c slot).1.V (IntKind.i64.wrap (slot - 1)))⟩]⟩, (secFold x o c slot).2.2)
 else secFold x o c slot
theorem sec_snoc (x : Nd) (o : List Of) (c : Cf) (slot : Int) (y : Of) : secFold x (o ++ [y]) c slot = secStep c slot (secFold x o c slot) y := by unfold secFold; rw [List.foldl_append]; rfl
theorem lone_len (o : Of) : (joinP o.V ⟨[o.B], []⟩).B.length ≤ o.V.B.length + 1 ∧ (joinP o.V ⟨[o.B], []⟩).V.length ≤ o.V.V.length := by
 have h1 := withP_len [o.B] o.V.B
 have h2 := withP_len ([] : List Vt) o.V.V
 exact ⟨h1, h2⟩
theorem join_len2 (a b : Vw) : (joinP a b).B.length ≤ a.B.length + b.B.length ∧ (joinP a b).V.length ≤ a.V.length + b.V.length := ⟨withP_len _ _, withP_len _ _⟩
theorem sec_size {x : Nd} {c : Cf} {slot : Int} (h1 : x.V.B.length ≤ 500) (h2 : x.V.V.length ≤ 500) (h3 : x.In.B.length ≤ 500) (h4 : x.In.V.length ≤ 500) : ∀ (k : Nat) (o : List Of), o.length ≤ k → (∀ y ∈ o, y.V.B.length ≤ 500 ∧ y.V.V.length ≤ 500) →
  (secFold x o c slot).1.B.length ≤ 500 ∧ (secFold x o c slot).1.V.length ≤ 500 ∧ (secFold x o c slot).2.1.B.length ≤ 500 + 501 * k ∧ (secFold x o c slot).2.1.V.length ≤ 500 + 501 * k := by
 intro k
 induction k with
 | zero =>
  intro o ho _
  obtain rfl : o = [] := List.length_eq_zero_iff.1 (by omega)
  exact ⟨h1, h2, Nat.le_trans h3 (by omega), Nat.le_trans h4 (by omega)⟩
 | succ k ih =>
  intro o ho hs
  rcases List.eq_nil_or_concat o with rfl | ⟨r, y, rfl⟩
  ·exact ⟨h1, h2, Nat.le_trans h3 (by omega), Nat.le_trans h4 (by omega)⟩
  ·rw [List.concat_eq_append] at ho hs ⊢
   rw [List.length_append, List.length_singleton] at ho
   obtain ⟨a1, a2, a3, a4⟩ := ih r (by omega) fun z hz => hs z (List.mem_append_left _ hz)
   have hy := hs y (List.mem_append_right _ (List.mem_singleton.2 rfl))
   have hl := lone_len y
   rw [sec_snoc]
   unfold secStep
   generalize secFold x r c slot = s at a1 a2 a3 a4 ⊢
   have hm := take_max c s.1 (joinP y.V ⟨[y.B], []⟩) slot
   have hz := take_size c s.1 (joinP y.V ⟨[y.B], []⟩) slot
   have hj := join_len2 s.2.1 (takeP c s.1 (joinP y.V ⟨[y.B], []⟩) slot).2.1
   simp only
   omega
theorem FSecond_eq {x : Nd} {o : List Of} {c : Cf} {slot : Int} (h1 : x.V.B.length ≤ 500) (h2 : x.V.V.length ≤ 500) (h3 : x.In.B.length ≤ 500) (h4 : x.In.V.length ≤ 500) (ho : o.length ≤ 8) (hs : ∀ y ∈ o, y.V.B.length ≤ 500 ∧ y.V.V.length ≤ 500) :
  FSecond x o c slot = some (secondP x o c slot) := by
 have e := count_loop (step := FSecond_s1 o c slot) (n := o.length) (fun k => FSecond_L1.mk (k : Int) (secFold x (o.take k) c slot).1.B (secFold x (o.take k) c slot).1.V (secFold x (o.take k) c slot).2.1.B (secFold x (o.take k) c slot).2.1.V (secFold x (o.take k) c slot).2.2)
  (FSecond_L1.mk (o.length : Int) (secFold x o c slot).1.B (secFold x o c slot).1.V (secFold x o c slot).2.1.B (secFold x o c slot).2.1.V (secFold x o c slot).2.2) (fun k hk => by
  obtain ⟨y, hy, hm⟩ := get_of hk
  have et : o.take (k + 1) = o.take k ++ [y] := by rw [List.take_add_one, hy]; rfl
  have hsz := sec_size (c := c) (slot := slot) h1 h2 h3 h4 8 (o.take k) (by rw [List.length_take]; omega) fun z hz => hs z (List.mem_of_mem_take hz)
  have hy2 := hs y hm
  have hl := lone_len y
  unfold FSecond_s1
  simp only
  rw [decide_eq_true (show (k : Int) < (o.length : Int) by omega), ct, ix_nat hy, ob, et, sec_snoc, wrap_succ (n := k) (by omega)]
  generalize secFold x (o.take k) c slot = s at hsz ⊢
  have hz := take_size c s.1 (joinP y.V ⟨[y.B], []⟩) slot
  unfold F3098
  rw [ob, F91_eq (by simp only [List.length_singleton]; omega) (by simp only [List.length_nil]; omega), ob, Vw.eta, Vw.eta, FCount_eq (by omega) (by omega) (by omega) (by omega), ob]
  simp only
  rw [F91_eq (by omega) (by omega), ob]
  rfl) (by
  unfold FSecond_s1
  simp only
  rw [decide_eq_false (show ¬ (o.length : Int) < (o.length : Int) by omega), cf, List.take_length]) (by omega)
 have e' : iter (FSecond_s1 o c slot) big (FSecond_L1.mk 0 x.V.B x.V.V x.In.B x.In.V x.Full) = _ := e
 have hsz := sec_size (c := c) (slot := slot) h1 h2 h3 h4 8 o ho hs
 unfold FSecond secondP
 rw [e', ob, F74_eq, ob]
 simp only [Vw.eta]
 generalize secFold x o c slot = s at hsz ⊢
 by_cases h : x.No ∈ cmP c slot
 ·rw [decide_eq_true h, ct, if_pos h, F1048_eq (by omega) (by omega), ob, F91_eq (by simp only [List.length_nil]; omega) (by simp only [List.length_singleton]; omega), ob]
 ·rw [decide_eq_false h, cf, if_neg h]
theorem F3099_ok {c : Cf} {w : Vw} {slot : Int} {head : ID} (hm : MayC c) (h1 : w.B.length ≤ 1000) (h2 : w.V.length ≤ 1000) : ∃ r, F3099 c w slot head = some r := by
 have hg := gold_len c w.V slot
 have hc := cm_len c slot
 unfold F3099 FQof
 rw [F1064_eq (by omega), ob, F65_eq, ob, F70_eq (by omega), ob, ob, show few w.B = true from decide_eq_true h1, ct]
 have hwt := wt_in c (cmP c slot)
 obtain ⟨b, hb, -⟩ := iter_inv (step := FTop_s1 c w) (fun x => x.v = goldP c w.V slot ∧ x.al = wtP c (cmP c slot)) (fun x => x.l.length) (fun _ => True) (by
  rintro ⟨l, v, al⟩ ⟨e1, e2⟩
  simp only at e1 e2
  subst e1 e2
  by_cases hl : (l.length : Int) < 2
  ·right
   refine ⟨((0, 0), false), ?_, trivial⟩
   unfold FTop_s1
   simp only
   rw [decide_eq_true hl, ct]
  ·obtain ⟨y, hy, -⟩ := get_of (l := l) (n := 0) (by omega)
   have hy' : ix l 0 = some y := ix_nat hy
   obtain ⟨-, -, -, -, -, m1, m2, m3, m4⟩ := hm
   have hon : 0 ≤ onP c w.B (goldP c w.V slot) y ∧ onP c w.B (goldP c w.V slot) y ≤ 13194139533312 := wt_in _ _
   have hstep : FTop_s1 c w ⟨l, goldP c w.V slot, wtP c (cmP c slot)⟩ = bif decide (2 * onP c w.B (goldP c w.V slot) y * c.Den > wtP c (cmP c slot) * (c.Den + 2 * c.Num)) then some (.inr (y, true)) else some (.inl ⟨l.drop 1, goldP c w.V slot, wtP c (cmP c slot)⟩) := by
    unfold FTop_s1 FQon FQsure
    simp only
    rw [decide_eq_false hl, cf, hy', ob, F121_eq h1 (by omega), ob, ob, wrapI (by omega) (by omega), wrapI (n := 2 * c.Num) (by omega) (by omega), wrapI (by omega) (by omega), F1026_eq ⟨by omega, by omega⟩ ⟨by omega, by omega⟩ ⟨by omega, by omega⟩ ⟨by omega, by omega⟩, ob, ob, ob,
     show inL l 1 l.length = true from decide_eq_true (by omega), ct]
    rfl
   cases hd : decide (2 * onP c w.B (goldP c w.V slot) y * c.Den > wtP c (cmP c slot) * (c.Den + 2 * c.Num)) with
   | true => rw [hd, ct] at hstep; exact .inr ⟨_, hstep, trivial⟩
   | false =>
    rw [hd, cf] at hstep
    refine .inl ⟨_, hstep, ⟨rfl, rfl⟩, ?_⟩
    simp only [List.length_drop]
    omega) (n := big) (x := FTop_L1.mk (chainOf w.B head) (goldP c w.V slot) (wtP c (cmP c slot))) ⟨rfl, rfl⟩ (big_gt (by have : (chainOf w.B head).length ≤ w.B.length + 1 := chain_len head; simp only; omega))
 exact ⟨b, hb⟩
theorem FThird_ok {x : Nd} {c : Cf} {slot : Int} (hm : MayC c) (h1 : x.V.B.length ≤ 500) (h2 : x.V.V.length ≤ 500) (h3 : x.In.B.length ≤ 500) (h4 : x.In.V.length ≤ 500) :
  ∃ cu, FThird x c slot = some ((takeP c x.V x.In slot).1, (takeP c x.V x.In slot).2.1, cu, x.Full || (takeP c x.V x.In slot).2.2) := by
 have hx := take_max c x.V x.In slot
 obtain ⟨r, hr⟩ := F3099_ok (slot := slot) (head := headP c (takeP c x.V x.In slot).1.B (goldP c (takeP c x.V x.In slot).1.V slot)) hm (w := (takeP c x.V x.In slot).1) (by omega) (by omega)
 unfold FThird
 rw [FCount_eq (by omega) (by omega) (by omega) (by omega), ob]
 simp only
 rw [F1048_eq (by omega) (by omega), ob, hr, ob, show few (takeP c x.V x.In slot).1.B = true from decide_eq_true (by omega), ct]
 exact ⟨_, rfl⟩
structure FewS (c : Cf) (n : Nd) (inp : Vw) (o : List Of) : Prop where
 n : SmallN 30 n
 inp : SmallV 30 inp
 len : o.length ≤ 10
 o : ∀ y ∈ o, SmallV 30 y.V
theorem small_of {k : Int} (hk : k ≤ 1000) {l : List Of} (h : ∀ y ∈ l, SmallV k y.V) : ∀ y ∈ l, SmallO y := fun y hy => by
 obtain ⟨a, b⟩ := h y hy
 exact ⟨by omega, by omega⟩
def idleS (c : Cf) (n : Nd) : Bool := decide (¬ MayC c ∨ n.Tick < 3 ∨ IntKind.i64.wrap (n.Tick.tdiv 3) > 1048576)
theorem idle_gate (c : Cf) (n : Nd) : ((F64 c).bind fun v2 => bif !v2 then some true else bif decide (n.Tick < 3) then some true else some (decide ((IntKind.i64.wrap (n.Tick.tdiv 3)) > 1048576))) = some (idleS c n) := by
 rw [F64_eq, ob]
 unfold idleS
 by_cases h1 : MayC c
 ·rw [decide_eq_true h1, Bool.not_true, cf]
  by_cases h2 : n.Tick < 3
  ·rw [decide_eq_true h2, ct, decide_eq_true (.inr (.inl h2))]
  ·rw [decide_eq_false h2, cf]
   by_cases h3 : IntKind.i64.wrap (n.Tick.tdiv 3) > 1048576
   ·rw [decide_eq_true h3, decide_eq_true (.inr (.inr h3))]
   ·rw [decide_eq_false h3, decide_eq_false]
    rintro (h | h | h)
    ·exact h h1
    ·exact h2 h
    ·exact h3 h
 ·rw [decide_eq_false h1, Bool.not_false, ct, decide_eq_true (.inl h1)]
def inS (c : Cf) (n : Nd) (inp : Vw) : Vw := joinP n.In (onlyP c inp)
def slotS (n : Nd) : Int := IntKind.i64.wrap (n.Tick.tdiv 3)
def hrdS (c : Cf) (n : Nd) (o : List Of) : List Of × Bool := hearP n.Tick c (slotS n) n.Full (n.O ++ o)
def nodeS (c : Cf) (n : Nd) (inp : Vw) (o : List Of) : Nd := ⟨n.No, n.Tick, n.V, inS c n inp, [], n.C, (hrdS c n o).2⟩
theorem in_len {c : Cf} {n : Nd} {inp : Vw} {o : List Of} (hf : FewS c n inp o) : (inS c n inp).B.length ≤ 60 ∧ (inS c n inp).V.length ≤ 60 := by
 obtain ⟨⟨-, ⟨b1, b2⟩, -, -⟩, ⟨e1, e2⟩, -, -⟩ := hf
 have h1 := join_len2 n.In (onlyP c inp)
 have h2 := only_len c inp
 unfold inS
 omega
theorem F3018_go {c : Cf} {n : Nd} {inp : Vw} {o : List Of} (hf : FewS c n inp o) (h : idleS c n = false) : F3018 c n inp o =
  bif (n.Tick.tmod 3) == 0 then
   (FFirst (nodeS c n inp o) c (slotS n) []).bind fun v10 => some (Nd.mk n.No (IntKind.i64.wrap (n.Tick + 1)) v10.1 v10.2.1 (hrdS c n o).1 n.C v10.2.2.1, v10.2.2.2)
  else bif (n.Tick.tmod 3) == 1 then
   (FSecond (nodeS c n inp o) (hrdS c n o).1 c (slotS n)).bind fun v11 => some (Nd.mk n.No (IntKind.i64.wrap (n.Tick + 1)) v11.1 v11.2.1 [] n.C v11.2.2, [])
  else bif (n.Tick.tmod 3) == 2 then
   (FThird (nodeS c n inp o) c (slotS n)).bind fun v12 => some (Nd.mk n.No (IntKind.i64.wrap (n.Tick + 1)) v12.1 v12.2.1 [] v12.2.2.1 v12.2.2.2, [])
  else none := by
 have hi := in_len hf
 obtain ⟨⟨⟨a1, a2⟩, ⟨b1, b2⟩, c1, c2⟩, ⟨e1, e2⟩, g1, g2⟩ := hf
 have h2 := only_len c inp
 unfold F3018
 rw [idle_gate, ob, h, cf, F85_eq (by omega) (by omega), ob, F91_eq (by omega) (by omega), ob]
 rw [FHear_eq (by show n.O.length + o.length ≤ 1000; omega) (fun y hy => by
  rcases List.mem_append.1 hy with hy | hy
  ·exact small_of (by omega) c2 y hy
  ·exact small_of (by omega) g2 y hy), ob]
 rfl
theorem hrd_small {c : Cf} {n : Nd} {inp : Vw} {o : List Of} (hf : FewS c n inp o) : (hrdS c n o).1.length ≤ 8 ∧ ∀ y ∈ (hrdS c n o).1, y.V.B.length ≤ 500 ∧ y.V.V.length ≤ 500 := by
 obtain ⟨⟨-, -, -, c2⟩, -, -, g2⟩ := hf
 obtain ⟨h1, h2, -⟩ := hear_facts n.Tick c (slotS n) n.Full (n.O ++ o)
 refine ⟨h1, fun y hy => ?_⟩
 rcases List.mem_append.1 (h2 y hy).1 with h | h
 ·obtain ⟨p, q⟩ := c2 y h; exact ⟨by omega, by omega⟩
 ·obtain ⟨p, q⟩ := g2 y h; exact ⟨by omega, by omega⟩
theorem F3018_0 {c : Cf} {n : Nd} {inp : Vw} {o : List Of} (hf : FewS c n inp o) (h : idleS c n = false) (h0 : n.Tick.tmod 3 = 0) :
  F3018 c n inp o = some (Nd.mk n.No (IntKind.i64.wrap (n.Tick + 1)) (firstP (nodeS c n inp o) c (slotS n)).1 (firstP (nodeS c n inp o) c (slotS n)).2.1 (hrdS c n o).1 n.C (firstP (nodeS c n inp o) c (slotS n)).2.2.1, (firstP (nodeS c n inp o) c (slotS n)).2.2.2) := by
 have hi := in_len hf
 rw [F3018_go hf h]
 obtain ⟨⟨⟨a1, a2⟩, -⟩, -, -, -⟩ := hf
 rw [beq_iff_eq.2 h0, ct, FFirst_eq (by show n.V.B.length ≤ 500; omega) (by show n.V.V.length ≤ 500; omega) (by show (inS c n inp).B.length ≤ 500; omega) (by show (inS c n inp).V.length ≤ 500; omega), ob]
theorem F3018_1 {c : Cf} {n : Nd} {inp : Vw} {o : List Of} (hf : FewS c n inp o) (h : idleS c n = false) (h1 : n.Tick.tmod 3 = 1) :
  F3018 c n inp o = some (Nd.mk n.No (IntKind.i64.wrap (n.Tick + 1)) (secondP (nodeS c n inp o) (hrdS c n o).1 c (slotS n)).1 (secondP (nodeS c n inp o) (hrdS c n o).1 c (slotS n)).2.1 [] n.C (secondP (nodeS c n inp o) (hrdS c n o).1 c (slotS n)).2.2, []) := by
 have hi := in_len hf
 obtain ⟨hr1, hr2⟩ := hrd_small hf
 rw [F3018_go hf h]
 obtain ⟨⟨⟨a1, a2⟩, -⟩, -, -, -⟩ := hf
 rw [show ((n.Tick.tmod 3) == 0) = false by rw [h1]; rfl, cf, beq_iff_eq.2 h1, ct, FSecond_eq (by show n.V.B.length ≤ 500; omega) (by show n.V.V.length ≤ 500; omega) (by show (inS c n inp).B.length ≤ 500; omega) (by show (inS c n inp).V.length ≤ 500; omega) hr1 hr2, ob]
theorem F3018_2 {c : Cf} {n : Nd} {inp : Vw} {o : List Of} (hf : FewS c n inp o) (h : idleS c n = false) (h2 : n.Tick.tmod 3 = 2) :
  ∃ cu, F3018 c n inp o = some (Nd.mk n.No (IntKind.i64.wrap (n.Tick + 1)) (takeP c n.V (inS c n inp) (slotS n)).1 (takeP c n.V (inS c n inp) (slotS n)).2.1 [] cu ((hrdS c n o).2 || (takeP c n.V (inS c n inp) (slotS n)).2.2), []) := by
 have hi := in_len hf
 have hm : MayC c := by
  have := of_decide_eq_false h
  exact Decidable.not_not.1 fun h => this (.inl h)
 rw [F3018_go hf h]
 obtain ⟨⟨⟨a1, a2⟩, -⟩, -, -, -⟩ := hf
 obtain ⟨cu, e⟩ := FThird_ok (x := nodeS c n inp o) (slot := slotS n) hm (by show n.V.B.length ≤ 500; omega) (by show n.V.V.length ≤ 500; omega) (by show (inS c n inp).B.length ≤ 500; omega) (by show (inS c n inp).V.length ≤ 500; omega)
 rw [show ((n.Tick.tmod 3) == 0) = false by rw [h2]; rfl, cf, show ((n.Tick.tmod 3) == 1) = false by rw [h2]; rfl, cf, beq_iff_eq.2 h2, ct, e, ob]
 exact ⟨cu, rfl⟩
theorem tick_mod {n : Nd} {c : Cf} (h : idleS c n = false) : n.Tick.tmod 3 = 0 ∨ n.Tick.tmod 3 = 1 ∨ n.Tick.tmod 3 = 2 := by
 have h3 : ¬ n.Tick < 3 := fun h2 => (of_decide_eq_false h) (.inr (.inl h2))
 rw [Int.tmod_eq_emod_of_nonneg (by omega)]
 omega
theorem mem_joinV {v : Vt} {x y : Vw} : v ∈ (joinP x y).V ↔ v ∈ x.V ∨ v ∈ y.V := withP_mem v _ _
theorem slotS_eq {n : Nd} (h1 : 3 ≤ n.Tick) (h2 : n.Tick ≤ 1000000) : slotS n = n.Tick / 3 ∧ 1 ≤ slotS n ∧ slotS n ≤ 333333 := by
 unfold slotS
 rw [Int.tdiv_eq_ediv_of_nonneg (by omega), wrapI (by omega) (by omega)]
 omega
theorem busy_of {c : Cf} {n : Nd} (hm : MayC c) (h1 : 3 ≤ n.Tick) (h2 : n.Tick ≤ 1000000) : idleS c n = false := by
 have := slotS_eq h1 h2
 unfold slotS at this
 refine decide_eq_false ?_
 rintro (h | h | h)
 ·exact h hm
 ·omega
 ·omega
theorem few_in {n : Nd} {inp : Vw} {o : List Of} (c : Cf) (hn : SmallN 25 n) (hi : SmallV 25 inp) (ho : o.length ≤ 10) (ho2 : ∀ y ∈ o, SmallV 25 y.V) : FewS c n inp o :=
 ⟨small_mono hn (by omega), ⟨by have := hi.1; omega, by have := hi.2; omega⟩, ho, fun y hy => ⟨by have := (ho2 y hy).1; omega, by have := (ho2 y hy).2; omega⟩⟩
def ownP (l : List Vt) (who slot : Int) : Nat := (l.filter fun v => decide (v.From = who ∧ v.Slot = slot)).length
def NoV (who slot : Int) (l : List Vt) : Prop := ∀ v ∈ l, ¬ (v.From = who ∧ v.Slot = slot)
theorem own_none {l : List Vt} {who slot : Int} : ownP l who slot = 0 ↔ NoV who slot l := by
 unfold ownP NoV
 rw [List.length_eq_zero_iff, List.filter_eq_nil_iff]
 simp
theorem own_le (l : List Vt) (who slot : Int) : ownP l who slot ≤ l.length := List.length_filter_le _ _
theorem own_snoc (l : List Vt) (who slot : Int) (y : Vt) : ownP (l ++ [y]) who slot = ownP l who slot + if y.From = who ∧ y.Slot = slot then 1 else 0 := by
 unfold ownP
 rw [List.filter_append, List.length_append]
 by_cases h : y.From = who ∧ y.Slot = slot
 ·simp [h]
 ·rw [if_neg h, List.filter_cons, if_neg (by simpa using h)]
  rfl
theorem F3023_eq {w : Vw} (hl : w.V.length ≤ 1000000) (who slot : Int) : F3023 w who slot = some (ownP w.V who slot : Int) := by
 have e := count_loop (step := F3023_s1 w who slot) (n := w.V.length) (fun k => F3023_L1.mk (ownP (w.V.take k) who slot : Int) (k : Int)) (F3023_L1.mk (ownP w.V who slot : Int) (w.V.length : Int)) (fun k hk => by
  obtain ⟨y, hy, -⟩ := get_of hk
  have et : w.V.take (k + 1) = w.V.take k ++ [y] := by rw [List.take_add_one, hy]; rfl
  have hle := own_le (w.V.take k) who slot
  rw [List.length_take] at hle
  unfold F3023_s1
  simp only
  rw [decide_eq_true (show (k : Int) < (w.V.length : Int) by omega), ct, ix_nat hy, ob, ob, et, own_snoc, wrap_succ (n := k) (by omega)]
  by_cases h1 : y.From = who
  ·rw [beq_iff_eq.2 h1, ct]
   by_cases h2 : y.Slot = slot
   ·rw [beq_iff_eq.2 h2, ct, if_pos ⟨h1, h2⟩, wrap_succ (by omega)]
   ·rw [show (y.Slot == slot) = false by simp [h2], cf, if_neg fun h => h2 h.2]; rfl
  ·rw [show (y.From == who) = false by simp [h1], cf, if_neg fun h => h1 h.1]; rfl) (by
  unfold F3023_s1
  simp only
  rw [decide_eq_false (show ¬ (w.V.length : Int) < (w.V.length : Int) by omega), cf, List.take_length]) (by omega)
 have e' : iter (F3023_s1 w who slot) big (F3023_L1.mk 0 0) = _ := e
 unfold F3023
 rw [e', ob]
theorem noV_join {a b : Vw} {who slot : Int} (h1 : NoV who slot a.V) (h2 : NoV who slot b.V) : NoV who slot (joinP a b).V := fun v hv => (mem_joinV.1 hv).elim (h1 v) (h2 v)
theorem noV_take {who slot : Int} (c : Cf) {w i : Vw} (s : Int) (h1 : NoV who slot w.V) (h2 : NoV who slot i.V) : NoV who slot (takeP c w i s).1.V ∧ NoV who slot (takeP c w i s).2.1.V := by
 by_cases h : MayW c w
 ·have ht := took h i s
  obtain ⟨t, e, h3⟩ := ht.preV
  refine ⟨fun v hv => ?_, fun v hv => h2 v (List.mem_filter.1 (ht.subV.subset hv)).1⟩
  rw [e] at hv
  rcases List.mem_append.1 hv with hv | hv
  ·exact h1 v hv
  ·exact h2 v (List.mem_filter.1 (h3 v hv).1).1
 ·have e : takeP c w i s = (w, i, false) := by unfold takeP; rw [if_neg h]
  rw [e]
  exact ⟨h1, h2⟩
theorem noV_fold {who slot : Int} (c : Cf) (s : Int) : ∀ (o : List Of) (x : Vw × Vw × Bool), (∀ y ∈ o, NoV who slot y.V.V) → NoV who slot x.1.V → NoV who slot x.2.1.V → NoV who slot (o.foldl (secStep c s) x).1.V ∧ NoV who slot (o.foldl (secStep c s) x).2.1.V
 | [], x, _, h1, h2 => ⟨h1, h2⟩
 | y :: r, x, h, h1, h2 => by
  rw [List.foldl_cons]
  obtain ⟨a1, a2⟩ := noV_take c (i := joinP y.V ⟨[y.B], []⟩) s h1 (noV_join (h y (List.mem_cons_self ..)) fun v hv => by cases hv)
  exact noV_fold c s r _ (fun z hz => h z (List.mem_cons_of_mem _ hz)) a1 (noV_join h2 a2)
theorem noV_first {who slot : Int} {x : Nd} (c : Cf) (s : Int) (h1 : NoV who slot x.V.V) (h2 : NoV who slot x.In.V) : NoV who slot (firstP x c s).1.V ∧ NoV who slot (firstP x c s).2.1.V := by
 unfold firstP
 split
 ·obtain ⟨a1, a2⟩ := noV_take c s h1 h2
  exact ⟨(noV_take c (i := ⟨[propB x c s], []⟩) s a1 fun v hv => by cases hv).1, a2⟩
 ·exact ⟨h1, h2⟩
theorem first_size (x : Nd) (c : Cf) (s : Int) : (firstP x c s).1.V.length ≤ x.V.V.length + 480 ∧ (firstP x c s).2.1.V.length ≤ x.In.V.length := by
 have h1 := take_size c x.V x.In s
 have h2 := take_size c (takeP c x.V x.In s).1 ⟨[propB x c s], []⟩ s
 unfold firstP
 split
 ·simp only; omega
 ·simp only; omega
theorem own_loop1 {n : Nd} (hl : n.O.length ≤ 1000) (hs : ∀ y ∈ n.O, SmallV 25 y.V) : iter (F3005_s1 n) big (F3005_L1.mk 0) = some (.inr true) ∨ (iter (F3005_s1 n) big (F3005_L1.mk 0) = some (.inl (F3005_L1.mk (n.O.length : Int))) ∧ ∀ y ∈ n.O, NoV n.No (slotS n) y.V.V) := by
 have h := scan_loop (step := F3005_s1 n) (n := n.O.length) (fun k => F3005_L1.mk (k : Int)) true (fun k => ∀ y, n.O[k]? = some y → NoV n.No (slotS n) y.V.V) (fun k hk => by
  obtain ⟨y, hy, hm⟩ := get_of hk
  have := (hs y hm).2
  unfold F3005_s1
  simp only
  rw [decide_eq_true (show (k : Int) < (n.O.length : Int) by omega), ct, ix_nat hy, ob, F3023_eq (by omega), ob]
  by_cases h0 : ownP y.V.V n.No (slotS n) = 0
  ·right
   rw [show ownP y.V.V n.No (IntKind.i64.wrap (n.Tick.tdiv 3)) = 0 from h0, wrap_succ (n := k) (by omega)]
   refine ⟨rfl, fun z hz => ?_⟩
   rw [hy] at hz
   obtain rfl := Option.some.inj hz
   exact own_none.1 h0
  ·left
   have h0' : ¬ ownP y.V.V n.No (IntKind.i64.wrap (n.Tick.tdiv 3)) = 0 := h0
   rw [decide_eq_true (by omega), ct]) (by
  unfold F3005_s1
  simp only
  rw [decide_eq_false (show ¬ (n.O.length : Int) < (n.O.length : Int) by omega), cf]) (by omega)
 rcases h with h | ⟨h, h2⟩
 ·exact .inl h
 ·refine .inr ⟨h, fun y hy => ?_⟩
  obtain ⟨k, hk, e⟩ := List.getElem_of_mem hy
  exact h2 k hk y (by rw [List.getElem?_eq_getElem hk, e])
theorem own_loop2 {n : Nd} {o : List Of} (hl : o.length ≤ 1000) (hs : ∀ y ∈ o, SmallV 25 y.V) : iter (F3005_s2 n o) big (F3005_L2.mk 0) = some (.inr true) ∨ (iter (F3005_s2 n o) big (F3005_L2.mk 0) = some (.inl (F3005_L2.mk (o.length : Int))) ∧ ∀ y ∈ o, NoV n.No (slotS n) y.V.V) := by
 have h := scan_loop (step := F3005_s2 n o) (n := o.length) (fun k => F3005_L2.mk (k : Int)) true (fun k => ∀ y, o[k]? = some y → NoV n.No (slotS n) y.V.V) (fun k hk => by
  obtain ⟨y, hy, hm⟩ := get_of hk
  have := (hs y hm).2
  unfold F3005_s2
  simp only
  rw [decide_eq_true (show (k : Int) < (o.length : Int) by omega), ct, ix_nat hy, ob, F3023_eq (by omega), ob]
  by_cases h0 : ownP y.V.V n.No (slotS n) = 0
  ·right
   rw [show ownP y.V.V n.No (IntKind.i64.wrap (n.Tick.tdiv 3)) = 0 from h0, wrap_succ (n := k) (by omega)]
   refine ⟨rfl, fun z hz => ?_⟩
   rw [hy] at hz
   obtain rfl := Option.some.inj hz
   exact own_none.1 h0
  ·left
   have h0' : ¬ ownP y.V.V n.No (IntKind.i64.wrap (n.Tick.tdiv 3)) = 0 := h0
   rw [decide_eq_true (by omega), ct]) (by
  unfold F3005_s2
  simp only
  rw [decide_eq_false (show ¬ (o.length : Int) < (o.length : Int) by omega), cf]) (by omega)
 rcases h with h | ⟨h, h2⟩
 ·exact .inl h
 ·refine .inr ⟨h, fun y hy => ?_⟩
  obtain ⟨k, hk, e⟩ := List.getElem_of_mem hy
  exact h2 k hk y (by rw [List.getElem?_eq_getElem hk, e])
theorem votesNone {c : Cf} {n x : Nd} (h1 : x.V.V.length ≤ 100000) (h2 : x.In.V.length ≤ 100000) (h3 : NoV n.No (slotS n) x.V.V) (h4 : NoV n.No (slotS n) x.In.V) (hb : ((bif (n.Tick.tmod 3) != 1 then some true else (F74 c (IntKind.i64.wrap (n.Tick.tdiv 3)) n.No).bind fun v16 => some (!v16)) : Option Bool) = some true) :
  ((F3023 x.V n.No (IntKind.i64.wrap (n.Tick.tdiv 3))).bind fun v13 =>
   (F3023 x.In n.No (IntKind.i64.wrap (n.Tick.tdiv 3))).bind fun v14 =>
   ((bif (n.Tick.tmod 3) != 1 then some true else (F74 c (IntKind.i64.wrap (n.Tick.tdiv 3)) n.No).bind fun v16 => some (!v16)) : Option Bool).bind fun v15 =>
   bif v15 then some ((IntKind.i64.wrap (v13 + v14)) == 0)
   else
    bif (IntKind.i64.wrap (v13 + v14)) == 1 then
     bif decide ((x.In.V.length : Int) > 0) then
      (ix x.In.V (IntKind.i64.wrap ((x.In.V.length : Int) - 1))).bind fun y3 =>
      (F1030 c x).bind fun v17 =>
      some ((y3.From == n.No) && ((y3.Slot == (IntKind.i64.wrap (n.Tick.tdiv 3))) && ((y3.Head.1 == v17.1) && ((y3.Head.2 == v17.2) && true))))
     else some false
    else some false) = some true := by
 rw [hb, F3023_eq (by omega), ob, F3023_eq (by omega), ob, ob, ct]
 rw [show ownP x.V.V n.No (IntKind.i64.wrap (n.Tick.tdiv 3)) = 0 from own_none.2 h3, show ownP x.In.V n.No (IntKind.i64.wrap (n.Tick.tdiv 3)) = 0 from own_none.2 h4]
 rfl
open Classical in
theorem votesOne {c : Cf} {n x : Nd} {l : List Vt} {h : ID} (h1 : x.V.V.length ≤ 1000) (hB : x.V.B.length ≤ 1000) (h2 : x.In.V.length ≤ 100000) (h3 : NoV n.No (slotS n) x.V.V) (hl : x.In.V = l ++ [⟨n.No, slotS n, h⟩]) (h4 : NoV n.No (slotS n) l) (hh : nodeHead c x = h) (ht : n.Tick.tmod 3 = 1) (hc : n.No ∈ cmP c (slotS n)) :
  ((F3023 x.V n.No (IntKind.i64.wrap (n.Tick.tdiv 3))).bind fun v13 =>
   (F3023 x.In n.No (IntKind.i64.wrap (n.Tick.tdiv 3))).bind fun v14 =>
   ((bif (n.Tick.tmod 3) != 1 then some true else (F74 c (IntKind.i64.wrap (n.Tick.tdiv 3)) n.No).bind fun v16 => some (!v16)) : Option Bool).bind fun v15 =>
   bif v15 then some ((IntKind.i64.wrap (v13 + v14)) == 0)
   else
    bif (IntKind.i64.wrap (v13 + v14)) == 1 then
     bif decide ((x.In.V.length : Int) > 0) then
      (ix x.In.V (IntKind.i64.wrap ((x.In.V.length : Int) - 1))).bind fun y3 =>
      (F1030 c x).bind fun v17 =>
      some ((y3.From == n.No) && ((y3.Slot == (IntKind.i64.wrap (n.Tick.tdiv 3))) && ((y3.Head.1 == v17.1) && ((y3.Head.2 == v17.2) && true))))
     else some false
    else some false) = some true := by
 have hlen : x.In.V.length = l.length + 1 := by rw [hl]; simp
 rw [F3023_eq (by omega), ob, F3023_eq (by omega), ob, show (n.Tick.tmod 3 != 1) = false by simp [ht], cf, F74_eq, ob, ob]
 rw [decide_eq_true (show n.No ∈ cmP c (IntKind.i64.wrap (n.Tick.tdiv 3)) from hc), Bool.not_true, cf]
 have e1 : ownP x.In.V n.No (IntKind.i64.wrap (n.Tick.tdiv 3)) = 1 := by
  show ownP x.In.V n.No (slotS n) = 1
  rw [hl, own_snoc, if_pos ⟨rfl, rfl⟩, own_none.2 h4]
 have hx : x.In.V[l.length]? = some ⟨n.No, slotS n, h⟩ := by rw [hl]; simp
 rw [show ownP x.V.V n.No (IntKind.i64.wrap (n.Tick.tdiv 3)) = 0 from own_none.2 h3, e1, show (IntKind.i64.wrap (((0 : Nat) : Int) + ((1 : Nat) : Int)) == 1) = true from rfl, ct, decide_eq_true (by omega), ct]
 rw [wrapI (n := (x.In.V.length : Int) - 1) (by omega) (by omega), show (x.In.V.length : Int) - 1 = (l.length : Int) by omega, ix_nat hx, ob, F1030_eq hB h1, ob, hh]
 show some ((n.No == n.No) && ((slotS n == slotS n) && ((h.1 == h.1) && ((h.2 == h.2) && true)))) = some true
 simp
open Classical in
theorem nodeVotes (ha : F3013 = some true) (c : Cf) (n : Nd) (o : List Of) : F3005 c n o = some true := by
 unfold F3005
 rw [ha, ob]
 rcases F3014_or n 25 with e | ⟨e, hs⟩
 ·rcases F3016_or o 25 with e2 | ⟨e2, -⟩ <;> rw [e, ob, e2, ob, Bool.not_true, cf, Bool.not_false, ct, ob, ct]
 rw [e, ob]
 rcases F3016_or o 25 with e2 | ⟨e2, ho1, ho2⟩
 ·rw [e2, ob, Bool.not_true, cf, cf]
  rfl
 rw [e2, ob, Bool.not_true, cf, cf, cf]
 by_cases hw : (c.W.length : Int) > 40
 ·rw [decide_eq_true hw, ct, ob, ct]
 rw [decide_eq_false hw, cf, F64_eq, ob]
 by_cases hm : MayC c
 rotate_left
 ·rw [decide_eq_false hm, Bool.not_false, ct, ob, ct]
 rw [decide_eq_true hm, Bool.not_true, cf]
 by_cases h3 : n.Tick < 3
 ·rw [decide_eq_true h3, ct, ob, ct]
 rw [decide_eq_false h3, cf]
 by_cases h4 : n.Tick > 1000000
 ·rw [decide_eq_true h4, ob, ct]
 rw [decide_eq_false h4, ob, cf]
 obtain ⟨⟨a1, a2⟩, ⟨b1, b2⟩, d1, d2⟩ := id hs
 rcases own_loop1 (n := n) (by omega) d2 with e | ⟨e, hn1⟩
 ·rw [e, ob]; rfl
 rw [e, ob, sl]
 rcases own_loop2 (n := n) (o := o) (by omega) ho2 with e | ⟨e, hn2⟩
 ·rw [e, ob]; rfl
 rw [e, ob, sl, F3023_eq (by omega), ob, F3023_eq (by omega), ob]
 have g1 := own_le n.V.V n.No (IntKind.i64.wrap (n.Tick.tdiv 3))
 have g2 := own_le n.In.V n.No (IntKind.i64.wrap (n.Tick.tdiv 3))
 rw [wrapI (by omega) (by omega)]
 by_cases hz : (ownP n.V.V n.No (IntKind.i64.wrap (n.Tick.tdiv 3)) : Int) + (ownP n.In.V n.No (IntKind.i64.wrap (n.Tick.tdiv 3)) : Int) > 0
 ·rw [decide_eq_true hz, ct]
 rw [decide_eq_false hz, cf]
 have q1 : NoV n.No (slotS n) n.V.V := own_none.1 (show ownP n.V.V n.No (IntKind.i64.wrap (n.Tick.tdiv 3)) = 0 by omega)
 have q2 : NoV n.No (slotS n) n.In.V := own_none.1 (show ownP n.In.V n.No (IntKind.i64.wrap (n.Tick.tdiv 3)) = 0 by omega)
 have hf := few_in c hs (inp := ⟨[], []⟩) ⟨by simp, by simp⟩ ho1 ho2
 have hid := busy_of hm (n := n) (by omega) (by omega)
 have hsl := slotS_eq (n := n) (by omega) (by omega)
 have hin := in_len hf
 have q3 : NoV n.No (slotS n) (inS c n ⟨[], []⟩).V := noV_join q2 fun v hv => by cases hv
 obtain ⟨r1, r2⟩ := hrd_small hf
 have q4 : ∀ y ∈ (hrdS c n o).1, NoV n.No (slotS n) y.V.V := fun y hy => by
  rcases List.mem_append.1 ((hear_facts n.Tick c (slotS n) n.Full (n.O ++ o)).2.1 y hy).1 with h | h
  ·exact hn1 y h
  ·exact hn2 y h
 rcases tick_mod hid with h | h | h
 ·rw [F3018_0 hf hid h, ob]
  have hq := noV_first (x := nodeS c n ⟨[], []⟩ o) c (slotS n) q1 q3
  have hz := first_size (nodeS c n ⟨[], []⟩ o) c (slotS n)
  have hz1 : (firstP (nodeS c n ⟨[], []⟩ o) c (slotS n)).1.V.length ≤ n.V.V.length + 480 := hz.1
  have hz2 : (firstP (nodeS c n ⟨[], []⟩ o) c (slotS n)).2.1.V.length ≤ (inS c n ⟨[], []⟩).V.length := hz.2
  exact votesNone (x := ⟨_, _, _, _, _, _, _⟩) (by simp only; omega) (by simp only; omega) hq.1 hq.2 (by rw [show (n.Tick.tmod 3 != 1) = true by simp [h], ct])
 ·rw [F3018_1 hf hid h, ob]
  have hz := sec_size (x := nodeS c n ⟨[], []⟩ o) (c := c) (slot := slotS n) (show n.V.B.length ≤ 500 by omega) (show n.V.V.length ≤ 500 by omega) (show (inS c n ⟨[], []⟩).B.length ≤ 500 by omega) (show (inS c n ⟨[], []⟩).V.length ≤ 500 by omega) 8 _ r1 r2
  have hq := noV_fold c (slotS n) (hrdS c n o).1 (n.V, inS c n ⟨[], []⟩, (hrdS c n o).2) q4 q1 q3
  have hq1 : NoV n.No (slotS n) (secFold (nodeS c n ⟨[], []⟩ o) (hrdS c n o).1 c (slotS n)).1.V := hq.1
  have hq2 : NoV n.No (slotS n) (secFold (nodeS c n ⟨[], []⟩ o) (hrdS c n o).1 c (slotS n)).2.1.V := hq.2
  by_cases hc : n.No ∈ cmP c (slotS n)
  ·have es : secondP (nodeS c n ⟨[], []⟩ o) (hrdS c n o).1 c (slotS n) = ((secFold (nodeS c n ⟨[], []⟩ o) (hrdS c n o).1 c (slotS n)).1, joinP (secFold (nodeS c n ⟨[], []⟩ o) (hrdS c n o).1 c (slotS n)).2.1 ⟨[], [⟨n.No, slotS n, headP c (secFold (nodeS c n ⟨[], []⟩ o) (hrdS c n o).1 c (slotS n)).1.B (goldP c (secFold (nodeS c n ⟨[], []⟩ o) (hrdS c n o).1 c (slotS n)).1.V (IntKind.i64.wrap (slotS n - 1)))⟩]⟩, (secFold (nodeS c n ⟨[], []⟩ o) (hrdS c n o).1 c (slotS n)).2.2) := by
    unfold secondP
    rw [if_pos (show (nodeS c n ⟨[], []⟩ o).No ∈ cmP c (slotS n) from hc)]
    rfl
   rw [es]
   generalize secFold (nodeS c n ⟨[], []⟩ o) (hrdS c n o).1 c (slotS n) = s at hz hq1 hq2 ⊢
   have hl : (joinP s.2.1 ⟨[], [⟨n.No, slotS n, headP c s.1.B (goldP c s.1.V (IntKind.i64.wrap (slotS n - 1)))⟩]⟩).V = s.2.1.V ++ [⟨n.No, slotS n, headP c s.1.B (goldP c s.1.V (IntKind.i64.wrap (slotS n - 1)))⟩] := by
    show withP s.2.1.V [_] = _
    unfold withP
    rw [if_neg fun hm => hq2 _ hm ⟨rfl, rfl⟩]
    rfl
   have hll := congrArg List.length hl
   rw [List.length_append, List.length_singleton] at hll
   refine votesOne (x := ⟨_, _, _, _, _, _, _⟩) (by simp only; omega) (by simp only; omega) (by simp only; omega) hq1 hl hq2 ?_ h hc
   unfold nodeHead
   have esl : slotN (IntKind.i64.wrap (n.Tick + 1)) = IntKind.i64.wrap (slotS n - 1) := by
    unfold slotN slotS
    rw [wrapI (n := n.Tick + 1) (by omega) (by omega), show n.Tick + 1 - 1 = n.Tick by omega, wrapI (n := n.Tick) (by omega) (by omega), show (n.Tick.tmod 3 != 2) = true by simp [h], ct]
   simp only
   rw [esl]
  ·have es : secondP (nodeS c n ⟨[], []⟩ o) (hrdS c n o).1 c (slotS n) = secFold (nodeS c n ⟨[], []⟩ o) (hrdS c n o).1 c (slotS n) := by
    unfold secondP
    rw [if_neg (show (nodeS c n ⟨[], []⟩ o).No ∉ cmP c (slotS n) from hc)]
   rw [es]
   exact votesNone (x := ⟨_, _, _, _, _, _, _⟩) (by simp only; omega) (by simp only; omega) hq1 hq2 (by rw [show (n.Tick.tmod 3 != 1) = false by simp [h], cf, F74_eq, ob, decide_eq_false (show n.No ∉ cmP c (IntKind.i64.wrap (n.Tick.tdiv 3)) from hc)]; rfl)
 ·obtain ⟨cu, hx⟩ := F3018_2 hf hid h
  have hm2 := take_size c n.V (inS c n ⟨[], []⟩) (slotS n)
  have hq := noV_take c (slotS n) q1 q3
  rw [hx, ob]
  exact votesNone (x := ⟨_, _, _, _, _, _, _⟩) (by simp only; omega) (by simp only; omega) hq.1 hq.2 (by rw [show (n.Tick.tmod 3 != 1) = true by simp [h], ct])
def OfOk (o : Of) : Prop := InKind .i64 o.Slot ∧ InKind .i64 o.From ∧ BkOk o.B ∧ VwOk o.V
def NdOk (n : Nd) : Prop := InKind .i64 n.No ∧ InKind .i64 n.Tick ∧ VwOk n.V ∧ VwOk n.In ∧ (∀ o ∈ n.O, OfOk o) ∧ CuOk n.C
theorem isOfO {p : PV} (h : TIs (.agg [.int .i64, .int .i64, .int .i64, .int .i64, .int .u64, .int .u64, .int .u64, .slice 5 (.agg [.int .i64, .int .i64, .int .u64, .int .u64, .int .u64]), .slice 4 (.agg [.int .i64, .int .i64, .int .u64, .int .u64])]) p) : ∃ o : Of, p = ofP o ∧ OfOk o := by
 cases h with | agg h =>
 cases h with | cons a1 h => cases h with | cons a2 h => cases h with | cons a3 h => cases h with | cons a4 h => cases h with | cons a5 h => cases h with | cons a6 h => cases h with | cons a7 h => cases h with | cons a8 h => cases h with | cons a9 h =>
  cases h
  obtain ⟨x, rfl, hx⟩ := isSliceO (fun _ h => isBkO h) a8
  obtain ⟨y, rfl, hy⟩ := isSliceO (fun _ h => isVtO h) a9
  cases a1; cases a2; cases a3; cases a4; cases a5; cases a6; cases a7
  exact ⟨⟨_, _, ⟨_, _, (_, _), _⟩, ⟨x, y⟩⟩, rfl, by assumption, by assumption, ⟨by assumption, by assumption, by assumption, by assumption, by assumption⟩, hx, hy⟩
theorem isNdO {p : PV} (h : TIs (.agg [.int .i64, .int .i64, .slice 5 (.agg [.int .i64, .int .i64, .int .u64, .int .u64, .int .u64]), .slice 4 (.agg [.int .i64, .int .i64, .int .u64, .int .u64]), .slice 5 (.agg [.int .i64, .int .i64, .int .u64, .int .u64, .int .u64]), .slice 4 (.agg [.int .i64, .int .i64, .int .u64, .int .u64]), .slice 9 (.agg [.int .i64, .int .i64, .int .i64, .int .i64, .int .u64, .int .u64, .int .u64, .slice 5 (.agg [.int .i64, .int .i64, .int .u64, .int .u64, .int .u64]), .slice 4 (.agg [.int .i64, .int .i64, .int .u64, .int .u64])]), .int .u64, .int .u64, .int .i64, .int .i64, .bool]) p) : ∃ n : Nd, p = ndP n ∧ NdOk n := by
 cases h with | agg h =>
 cases h with | cons a1 h => cases h with | cons a2 h => cases h with | cons a3 h => cases h with | cons a4 h => cases h with | cons a5 h => cases h with | cons a6 h => cases h with | cons a7 h => cases h with | cons a8 h => cases h with | cons a9 h => cases h with | cons b1 h => cases h with | cons b2 h => cases h with | cons b3 h =>
  cases h
  obtain ⟨x, rfl, hx⟩ := isSliceO (fun _ h => isBkO h) a3
  obtain ⟨y, rfl, hy⟩ := isSliceO (fun _ h => isVtO h) a4
  obtain ⟨u, rfl, hu⟩ := isSliceO (fun _ h => isBkO h) a5
  obtain ⟨v, rfl, hv⟩ := isSliceO (fun _ h => isVtO h) a6
  obtain ⟨o, rfl, ho⟩ := isSliceO (fun _ h => isOfO h) a7
  cases a1; cases a2; cases a8; cases a9; cases b1; cases b2; cases b3
  exact ⟨⟨_, _, ⟨x, y⟩, ⟨u, v⟩, o, ⟨(_, _), _, _⟩, _⟩, rfl, by assumption, by assumption, ⟨hx, hy⟩, ⟨hu, hv⟩, ho, ⟨by assumption, by assumption⟩, by assumption, by assumption⟩
end Go.Mg
namespace Go.Proofs.YtabjakfgaodocaaGreat
def io : List Nat := [104, 97, 114, 110, 101, 115, 115, 32, 56, 49, 54, 54, 102, 99, 100, 102, 54, 101, 102, 56, 52, 53, 57, 51, 98, 52, 98, 97, 101, 98, 49, 51, 97, 99, 50, 49, 100, 54, 48, 97, 49, 101, 97, 54, 52, 98, 97, 100, 50, 101, 49, 97, 55, 52, 57, 54, 55, 56, 51, 102, 99, 98, 50, 53, 56, 57, 57, 102, 98, 51, 51, 57, 32, 99, 117, 116, 32, 97, 116, 32, 109, 97, 114, 105, 103, 111, 108, 100, 47, 109, 97, 114, 105, 103, 111, 108, 100, 108, 97, 119, 49, 56, 46, 78, 111, 100, 101, 75, 101, 101, 112, 115, 32, 109, 97, 114, 105, 103, 111, 108, 100, 47, 109, 97, 114, 105, 103, 111, 108, 100, 108, 97, 119, 49, 56, 46, 78, 111, 100, 101, 87, 97, 105, 116, 115, 32, 109, 97, 114, 105, 103, 111, 108, 100, 47, 109, 97, 114, 105, 103, 111, 108, 100, 108, 97, 119, 49, 56, 46, 78, 111, 100, 101, 86, 111, 116, 101, 115, 32, 109, 97, 114, 105, 103, 111, 108, 100, 47, 109, 97, 114, 105, 103, 111, 108, 100, 108, 97, 119, 49, 56, 46, 78, 111, 100, 101, 75, 110, 111, 119, 110, 32, 109, 97, 114, 105, 103, 111, 108, 100, 47, 109, 97, 114, 105, 103, 111, 108, 100, 108, 97, 119, 49, 57, 46, 78, 101, 116, 65, 108, 108, 32, 109, 97, 114, 105, 103, 111, 108, 100, 47, 109, 97, 114, 105, 103, 111, 108, 100, 108, 97, 119, 49, 57, 46, 78, 101, 116, 79, 114, 100, 101, 114, 32, 109, 97, 114, 105, 103, 111, 108, 100, 47, 109, 97, 114, 105, 103, 111, 108, 100, 108, 97, 119, 49, 57, 46, 78, 101, 116, 67, 108, 97, 115, 104, 32, 109, 97, 114, 105, 103, 111, 108, 100, 47, 109, 97, 114, 105, 103, 111, 108, 100, 108, 97, 119, 49, 57, 46, 78, 101, 116, 72, 101, 97, 100, 115, 32, 109, 97, 114, 105, 103, 111, 108, 100, 47, 109, 97, 114, 105, 103, 111, 108, 100, 108, 97, 119, 49, 56, 46, 78, 111, 100, 101, 84, 105, 99, 107, 115, 32, 109, 97, 114, 105, 103, 111, 108, 100, 47, 109, 97, 114, 105, 103, 111, 108, 100, 108, 97, 119, 49, 56, 46, 78, 111, 100, 101, 83, 116, 101, 112, 115]
theorem ioEq : Tryz.prog.initOrder = String.ofList (io.map Char.ofNat) := by kernel_rfl
theorem ioList : Tryz.prog.initOrder.toList = io.map Char.ofNat := by rw [ioEq, String.toList_ofList]
def ws : List (List Nat) := [[99, 117, 116], [97, 116], [109, 97, 114, 105, 103, 111, 108, 100, 47, 109, 97, 114, 105, 103, 111, 108, 100, 108, 97, 119, 49, 56, 46, 78, 111, 100, 101, 75, 101, 101, 112, 115], [109, 97, 114, 105, 103, 111, 108, 100, 47, 109, 97, 114, 105, 103, 111, 108, 100, 108, 97, 119, 49, 56, 46, 78, 111, 100, 101, 87, 97, 105, 116, 115], [109, 97, 114, 105, 103, 111, 108, 100, 47, 109, 97, 114, 105, 103, 111, 108, 100, 108, 97, 119, 49, 56, 46, 78, 111, 100, 101, 86, 111, 116, 101, 115], [109, 97, 114, 105, 103, 111, 108, 100, 47, 109, 97, 114, 105, 103, 111, 108, 100, 108, 97, 119, 49, 56, 46, 78, 111, 100, 101, 75, 110, 111, 119, 110], [109, 97, 114, 105, 103, 111, 108, 100, 47, 109, 97, 114, 105, 103, 111, 108, 100, 108, 97, 119, 49, 57, 46, 78, 101, 116, 65, 108, 108], [109, 97, 114, 105, 103, 111, 108, 100, 47, 109, 97, 114, 105, 103, 111, 108, 100, 108, 97, 119, 49, 57, 46, 78, 101, 116, 79, 114, 100, 101, 114], [109, 97, 114, 105, 103, 111, 108, 100, 47, 109, 97, 114, 105, 103, 111, 108, 100, 108, 97, 119, 49, 57, 46, 78, 101, 116, 67, 108, 97, 115, 104], [109, 97, 114, 105, 103, 111, 108, 100, 47, 109, 97, 114, 105, 103, 111, 108, 100, 108, 97, 119, 49, 57, 46, 78, 101, 116, 72, 101, 97, 100, 115], [109, 97, 114, 105, 103, 111, 108, 100, 47, 109, 97, 114, 105, 103, 111, 108, 100, 108, 97, 119, 49, 56, 46, 78, 111, 100, 101, 84, 105, 99, 107, 115], [109, 97, 114, 105, 103, 111, 108, 100, 47, 109, 97, 114, 105, 103, 111, 108, 100, 108, 97, 119, 49, 56, 46, 78, 111, 100, 101, 83, 116, 101, 112, 115]]
theorem words : behindMainWord (wordsSigns Tryz.prog.initOrder.toList) = ws.map (List.map Char.ofNat) := by
 rw [ioList]
 kernel_rfl
theorem strip : stripLifts liftWords (ws.map (List.map Char.ofNat)) = ([], ws.map (List.map Char.ofNat)) := by kernel_rfl
theorem rows0 : Tryz.prog.doorRows = [] := by kernel_rfl
theorem lays : Tryz.prog.laysLater = false := by kernel_rfl
theorem refl0 : Tryz.prog.bearsReflect = false := by kernel_rfl
theorem headw : (ws.map (List.map Char.ofNat)).head? = some "cut".toList := by kernel_rfl
theorem enters (P : Program) (W : List (List Char)) (hW : behindMainWord (wordsSigns P.initOrder.toList) = W) (hs : stripLifts liftWords W = ([], W)) (hh : W.head? = some "cut".toList) (hr : P.doorRows = []) (hl : P.laysLater = false) (hb : P.bearsReflect = false) : P.mayEnter = true := by
 unfold Program.mayEnter
 rw [hW]
 cases W with
 | nil => cases hh
 | cons c r =>
  simp only [hs, hh, hl, hb, Program.doorFits, hr]
  simp
theorem mayEnter : Tryz.prog.mayEnter = true := enters Tryz.prog _ words strip headw rows0 lays refl0
theorem own : ownKnob Tryz.prog.godebug = none := by kernel_rfl
theorem laidOut : laidOutB Tryz.prog = true := by kernel_rfl
theorem rowed : mapsRowed Tryz.prog = true := by kernel_rfl
theorem heard : Tryz.prog.stopsHeard = true := by kernel_rfl
theorem make_of (P : Program) (W : List (List Char)) (hW : behindMainWord (wordsSigns P.initOrder.toList) = W) (hh : W.head? = some "cut".toList) : P.make = some .cut := by
 unfold Program.make
 rw [hW]
 cases W with
 | nil => cases hh
 | cons c r =>
  have e : c = "cut".toList := by simpa using hh
  subst e
  show (if _ then _ else _) = _
  rw [if_neg (by decide), if_pos (by simp)]
theorem makes : Tryz.prog.make = some .cut := make_of Tryz.prog _ words headw
theorem lifts : Tryz.prog.liftsFinal = false := by
 unfold Program.liftsFinal Program.headLifts
 rw [words]
 kernel_rfl
end Go.Proofs.YtabjakfgaodocaaGreat
