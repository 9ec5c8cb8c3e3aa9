/- Plain laws of views: what is taken, as the program does it. Plain laws of views: votes that are taken, as the program does it. Plain laws of views: view.Take. Plain laws of views: what holds of what is taken. Laws of views. The laws of views' example. Laws of views. Laws of views: ViewOnly, ViewJoin. Laws of views. Laws of views. Laws of views: ViewMay, ViewKeeps. Plain laws of views: what is counted, as a set. Laws of views. Laws of views. Laws of views. Plain laws of views: order, and all. Nets, plain: how much nodes have; what they have together. Laws of nets, plain: what all have together, in whatever order. The votes of a committee, and the head by them, plain. Products compared, plain. A node behind a tick, plain. A node behind a tick, plain: the phases. A node behind a tick, plain: the whole. NodeKnown, plain. NodeKeeps, plain. What a node is behind a tick: what it has, how much that is. A world behind a tick, plain. Worlds that go on, plain. Worlds that go on: what is so of them goes on. A world that begins; what is begun; worlds that are the same. AuditSeen, plain. What arguments are: offers, nodes. What arguments are: acts. How the program's own line of words reads, letter by letter; facts of the whole program that each row asks for. Conditions: none. -/
import Derived.Test.YtbjmcafamkdokaaGreatX9
import Derived.Test.YtbjmcafamkdokaaGreatX7
import Derived.Test.YtbjmcafamkdokaaGreatX8
import Derived.Test.YtbjmcafamkdokaaGreatX6
import Derived.Test.YtbjmcafamkdokaaGreatRows
import Derived.ProofKit
import Derived.OpenShut
namespace Go.Mg
structure SmR (B : List Bk) (sm : List (ID × Int)) : Prop where
 find : SmOk B sm
 len : sm.length ≤ B.length + 1
structure HmR (V : List Vt) (hm : List (Vt × Bool)) : Prop where
 find : HmOk V hm
 len : hm.length ≤ V.length
theorem F135_r {b : Bk} {B : List Bk} {sm : List (ID × Int)} {upto : Int} {full : Bool} (hs : SmR B sm) (hB : B.length ≤ 1000) :
  ∃ sm', F135 b B sm upto full = some ((stepB upto B full b).1, (stepB upto B full b).2.1, sm', (stepB upto B full b).2.2) ∧ SmR (stepB upto B full b).2.1 sm' := by
 obtain ⟨sm', h1, h2, h3⟩ := F135_eq (b := b) (upto := upto) (full := full) hs.find hB (by have := hs.len; omega);have hg := stepB_grow upto B full b;exact ⟨sm', h1, h2, by have := hs.len; omega⟩
theorem F136_r {v : Vt} {B : List Bk} {V : List Vt} {sm : List (ID × Int)} {hm : List (Vt × Bool)} {upto : Int} {full : Bool} (hs : SmR B sm) (hh : HmR V hm) (hV : V.length ≤ 1000) :
  ∃ hm', F136 v V sm hm upto full = some ((stepV upto B V full v).1, (stepV upto B V full v).2.1, hm', (stepV upto B V full v).2.2) ∧ HmR (stepV upto B V full v).2.1 hm' := by
 obtain ⟨hm', h1, h2, h3⟩ := F136_eq (v := v) (upto := upto) (full := full) hs.find hh.find hV (by have := hh.len; omega);have hg := stepV_grow upto B V full v;exact ⟨hm', h1, h2, by have := hh.len; omega⟩
theorem take_one {α : Type} {l : List α} {j : Nat} {y : α} (h : l[j]? = some y) : l.take (j + 1) = l.take j ++ [y] := take_succ_getG h
theorem F160_eq {lB l B : List Bk} {kk : Nat} {sm : List (ID × Int)} {upto : Int} {full : Bool} (hl : lB.take kk = l) (hk : l.length = kk) (hs : SmR B sm) (hB : B.length + kk ≤ 900) :
  ∃ i B' sm' f', F160 lB kk B sm upto full = some (i, B', sm', f') ∧ SmR B' sm' ∧ ((i = -1 ∧ passB upto B full l = (l, B', f')) ∨ ∃ j : Nat, i = j ∧ j < kk ∧ passB upto B full (l.take (j + 1)) = (l.take j, B', f')) := by
 unfold F160
 have key := iter_inv (step := F160_s1 lB kk upto) (fun x => ∃ j : Nat, j ≤ kk ∧ x.t8 = j ∧ passB upto B full (l.take j) = (l.take j, x.o6, x.o10_5) ∧ SmR x.o6 x.o8) (fun x => kk - x.t8.toNat)
  (fun b => (∃ x, b = .inl x ∧ passB upto B full l = (l, x.o6, x.o10_5) ∧ SmR x.o6 x.o8) ∨ ∃ (j : Nat) (B' : List Bk) (sm' : List (ID × Int)) (f' : Bool), b = .inr ((j : Int), B', sm', f') ∧ j < kk ∧ passB upto B full (l.take (j + 1)) = (l.take j, B', f') ∧ SmR B' sm') (by
   rintro ⟨t, B1, sm1, f1⟩ ⟨j, hj, h1, h2, h3⟩;simp only at h1 h2 h3;subst h1;by_cases hlt : j < kk
   ·obtain ⟨y, hy, -⟩ := get_of (l := l) (n := j) (by omega);have hgr := passG_grow (step := stepB upto) (stepB_grow upto) (l.take j) B full;have h2' : passG (stepB upto) B full (l.take j) = (l.take j, B1, f1) := h2;rw [h2'] at hgr;simp only at hgr;rw [List.length_take] at hgr;obtain ⟨sm', e, hr⟩ := F135_r (b := y) (upto := upto) (full := f1) h3 (by omega)
    have hsn : passB upto B full (l.take (j + 1)) = (if (stepB upto B1 f1 y).1 then l.take j else l.take j ++ [y], (stepB upto B1 f1 y).2) := by
     rw [take_one hy];unfold passB;rw [passG_snoc, h2']
    generalize stepB upto B1 f1 y = q at e hr hsn;obtain ⟨g, B2, f2⟩ := q;simp only at e hr hsn
    have hstep : F160_s1 lB kk upto ⟨(j : Int), B1, sm1, f1⟩ = bif g then some (.inr (.inr ((j : Int), B2, sm', f2))) else some (.inl ⟨((j + 1 : Nat) : Int), B2, sm', f2⟩) := by
     unfold F160_s1;simp only;rw [decide_eq_true (show (j : Int) < (kk : Int) by omega), ct, hl, ix_nat hy, ob, e, ob, wrap_succ (n := j) (by omega)]
    cases g with
    | true =>
     right;rw [ct] at hstep;rw [if_pos rfl] at hsn;exact ⟨_, hstep, .inr ⟨j, B2, sm', f2, rfl, hlt, hsn, hr⟩⟩
    | false =>
     left;rw [cf] at hstep;rw [if_neg (by simp)] at hsn;refine ⟨_, hstep, ⟨j + 1, hlt, rfl, ?_, hr⟩, by simp only; omega⟩;rw [hsn, take_one hy]
   ·right
    obtain rfl : j = kk := by omega
    refine ⟨.inl ⟨(j : Int), B1, sm1, f1⟩, ?_, .inl ⟨_, rfl, ?_, h3⟩⟩
    ·unfold F160_s1;simp only;rw [decide_eq_false (show ¬ (j : Int) < (j : Int) by omega), cf]
    ·rw [List.take_of_length_le (by omega)] at h2; exact h2) (n := big) (x := ⟨0, B, sm, full⟩) ⟨0, by omega, rfl, by simp [passB, passG], hs⟩ (big_gt (by simp only; omega))
 obtain ⟨b, e, ⟨x, rfl, h1, h2⟩ | ⟨j, B', sm', f', rfl, h0, h1, h2⟩⟩ := key
 ·exact ⟨-1, x.o6, x.o8, x.o10_5, by rw [e, ob, sl], h2, .inl ⟨rfl, h1⟩⟩
 ·exact ⟨j, B', sm', f', by rw [e, ob, sr], h2, .inr ⟨j, rfl, h0, h1⟩⟩
structure PreL {α : Type} (lB : List α) (k : Nat) (l : List α) : Prop where
 take : lB.take k = l
 le : k ≤ lB.length
theorem PreL.len {α : Type} {lB l : List α} {k : Nat} (h : PreL lB k l) : l.length = k := by
 rw [← h.take, List.length_take]; have := h.le; omega
theorem clr_pre {α : Type} {a l : List α} {i kk : Nat} {z : α} (hi : i ≤ kk) (hk : kk ≤ a.length) (h : a.take i = l) : PreL (clrL a i (kk - i) z) i l := by
 have hlen := clrL_len (l := a) (off := i) (k := kk - i) (z := z) (by omega);refine ⟨?_, by omega⟩;unfold clrL;rw [List.append_assoc, List.take_left' (by rw [List.length_take]; omega), h]
structure Mv {α : Type} (l a : List α) (i j : Nat) (left : List α) : Prop where
 ij : i < j
 jl : j ≤ l.length
 len : l.length ≤ a.length
 left : a.take i = left
 rest : ∀ q, j ≤ q → q < l.length → a[q]? = l[q]?
theorem Mv.next_gone {α : Type} {l a : List α} {i j : Nat} {left : List α} (h : Mv l a i j left) (hj : j < l.length) : Mv l a i (j + 1) left :=
 ⟨by have := h.ij; omega, hj, h.len, h.left, fun q h1 h2 => h.rest q (by omega) h2⟩
theorem Mv.next_stay {α : Type} {l a : List α} {i j : Nat} {left : List α} {y : α} (h : Mv l a i j left) (hj : j < l.length) (_ : l[j]? = some y) : Mv l (a.set i y) (i + 1) (j + 1) (left ++ [y]) := by
 have h1 := h.ij;have h2 := h.len;refine ⟨by omega, hj, by rw [List.length_set]; exact h2, ?_, fun q h3 h4 => ?_⟩
 ·have hi : (a.set i y)[i]? = some y := by rw [List.getElem?_set]; simp; omega
  rw [take_one hi, List.take_set_of_le (Nat.le_refl _), h.left]
 ·rw [List.getElem?_set, if_neg (by omega)];exact h.rest q (by omega) h4
theorem F137_eq {lB l B : List Bk} {kk : Nat} {sm : List (ID × Int)} {upto : Int} {full : Bool} (hl : PreL lB kk l) (hs : SmR B sm) (hB : B.length + kk ≤ 900) :
  ∃ k' lB' sm', F137 lB kk B sm upto full = some (k', lB', (passB upto B full l).2.1, sm', (passB upto B full l).2.2) ∧ SmR (passB upto B full l).2.1 sm' ∧ PreL lB' k' (passB upto B full l).1 := by
 have hk := hl.len;obtain ⟨i, B0, sm0, f0, e0, hr0, h0⟩ := F160_eq (upto := upto) (full := full) hl.take hk hs hB;unfold F137;rw [e0, ob];rcases h0 with ⟨rfl, hp⟩ | ⟨j0, rfl, hj0, hp⟩
 ·rw [hp];refine ⟨kk, lB, sm0, ?_, hr0, hl⟩;simp only;rw [show ((-1 : Int) == -1) = true from rfl, ct]
 ·simp only;rw [show ((j0 : Int) == -1) = false by rw [beq_eq_false_iff_ne]; omega, cf, wrap_succ (n := j0) (by omega)]
  have key := iter_inv (step := F137_s1 kk upto) (fun x => ∃ (i j : Nat), x.i = i ∧ x.j = j ∧ SmR x.o6 x.o8 ∧ (passB upto B full (l.take j)).2 = (x.o6, x.o10_5) ∧ Mv l x.o14 i j (passB upto B full (l.take j)).1) (fun x => kk - x.j.toNat)
   (fun x => ∃ i : Nat, x.i = i ∧ i ≤ kk ∧ SmR x.o6 x.o8 ∧ (passB upto B full l).2 = (x.o6, x.o10_5) ∧ x.o14.take i = (passB upto B full l).1 ∧ kk ≤ x.o14.length) (by
   rintro ⟨i', j', B1, sm1, f1, a⟩ ⟨i, j, h1, h2, h3, h4, h5⟩;simp only at h1 h2 h3 h4 h5;subst h1 h2;have hij := h5.ij;have hjl := h5.jl;have hal := h5.len;by_cases hlt : j < kk
   ·left;obtain ⟨y, hy, -⟩ := get_of (l := l) (n := j) (by omega)
    have hya : (a.take kk)[j]? = some y := by rw [List.getElem?_take_of_lt hlt, h5.rest j (Nat.le_refl _) (by omega), hy]
    obtain ⟨z, hz, -⟩ := get_of (l := a.take kk) (n := i) (by rw [List.length_take]; omega);have hgr := passG_grow (step := stepB upto) (stepB_grow upto) (l.take j) B full;have h4' : (passG (stepB upto) B full (l.take j)).2 = (B1, f1) := h4;rw [h4'] at hgr;simp only at hgr;rw [List.length_take] at hgr;obtain ⟨sm', e, hr⟩ := F135_r (b := y) (upto := upto) (full := f1) h3 (by omega)
    have hsn : passB upto B full (l.take (j + 1)) = (if (stepB upto B1 f1 y).1 then (passB upto B full (l.take j)).1 else (passB upto B full (l.take j)).1 ++ [y], (stepB upto B1 f1 y).2) := by
     rw [take_one hy];unfold passB;rw [passG_snoc, h4']
    generalize stepB upto B1 f1 y = q at e hr hsn;obtain ⟨g, B2, f2⟩ := q;simp only at e hr hsn
    have hstep : F137_s1 kk upto ⟨(i : Int), (j : Int), B1, sm1, f1, a⟩ = bif !g then some (.inl ⟨((i + 1 : Nat) : Int), ((j + 1 : Nat) : Int), B2, sm', f2, a.set i y⟩) else some (.inl ⟨(i : Int), ((j + 1 : Nat) : Int), B2, sm', f2, a⟩) := by
     unfold F137_s1;simp only;rw [decide_eq_true (show (j : Int) < (kk : Int) by omega), ct, ix_nat hya, ob, e, ob, ix_nat hz, ob, wrap_succ (n := j) (by omega), wrap_succ (n := i) (by omega), Int.toNat_natCast]
    cases g with
    | true =>
     rw [Bool.not_true, cf] at hstep;rw [if_pos rfl] at hsn;refine ⟨_, hstep, ⟨i, j + 1, rfl, rfl, hr, by rw [hsn], ?_⟩, by simp only; omega⟩;rw [hsn];exact h5.next_gone (by omega)
    | false =>
     rw [Bool.not_false, ct] at hstep;rw [if_neg (by simp)] at hsn;refine ⟨_, hstep, ⟨i + 1, j + 1, rfl, rfl, hr, by rw [hsn], ?_⟩, by simp only; omega⟩;rw [hsn];exact h5.next_stay (by omega) hy
   ·right
    have hjk : j = kk := by omega
    have htl : l.take j = l := List.take_of_length_le (by omega);rw [htl] at h4 h5;refine ⟨⟨(i : Int), (j : Int), B1, sm1, f1, a⟩, ?_, i, rfl, by omega, h3, h4, h5.left, by show kk ≤ a.length; omega⟩;unfold F137_s1;simp only
    rw [decide_eq_false (show ¬ (j : Int) < (kk : Int) by omega), cf]) (n := big) (x := ⟨(j0 : Int), ((j0 + 1 : Nat) : Int), B0, sm0, f0, lB⟩)
   ⟨j0, j0 + 1, rfl, rfl, hr0, by rw [hp], by
    rw [hp];refine ⟨by omega, by omega, by have := hl.le; simp only; omega, ?_, fun q h1 h2 => ?_⟩
    ·show lB.take j0 = l.take j0;rw [← hl.take, List.take_take, Nat.min_eq_left (by omega)]
    ·rw [← hl.take, List.getElem?_take_of_lt (by omega)]⟩ (big_gt (by simp only; omega))
  obtain ⟨x, ex, i, hi, hik, hr, h1, h2, h3⟩ := key;generalize passB upto B full l = p at h1 h2 ⊢;obtain ⟨pl, pB, pf⟩ := p;simp only at h1 h2 ⊢;rw [ex, ob, hi, decide_eq_true (show 0 ≤ (i : Int) ∧ (i : Int) ≤ (kk : Int) by omega), ct, Int.toNat_natCast, decide_eq_true (show i + (kk - i) ≤ x.o14.length by omega), ct, ct];cases h1;exact ⟨i, clrL x.o14 i (kk - i) ⟨0, 0, (0, 0), 0⟩, x.o8, rfl, hr, clr_pre hik h3 h2⟩
theorem F158_eq {lV l V : List Vt} {kk : Nat} {BB : List Bk} {sm0 : List (ID × Int)} {hm : List (Vt × Bool)} {upto : Int} {full : Bool} (hl : lV.take kk = l) (hk : l.length = kk) (hsm : SmR BB sm0) (hs : HmR V hm) (hB : V.length + kk ≤ 900) :
  ∃ i V' hm' f', F158 lV kk V sm0 hm upto full = some (i, V', hm', f') ∧ HmR V' hm' ∧ ((i = -1 ∧ passV upto BB V full l = (l, V', f')) ∨ ∃ j : Nat, i = j ∧ j < kk ∧ passV upto BB V full (l.take (j + 1)) = (l.take j, V', f')) := by
 unfold F158
 have key := iter_inv (step := F158_s1 lV kk sm0 upto) (fun x => ∃ j : Nat, j ≤ kk ∧ x.t8 = j ∧ passV upto BB V full (l.take j) = (l.take j, x.o7, x.o10_5) ∧ HmR x.o7 x.o9) (fun x => kk - x.t8.toNat)
  (fun b => (∃ x, b = .inl x ∧ passV upto BB V full l = (l, x.o7, x.o10_5) ∧ HmR x.o7 x.o9) ∨ ∃ (j : Nat) (V' : List Vt) (hm' : List (Vt × Bool)) (f' : Bool), b = .inr ((j : Int), V', hm', f') ∧ j < kk ∧ passV upto BB V full (l.take (j + 1)) = (l.take j, V', f') ∧ HmR V' hm') (by
   rintro ⟨t, V1, hm1, f1⟩ ⟨j, hj, h1, h2, h3⟩;simp only at h1 h2 h3;subst h1;by_cases hlt : j < kk
   ·obtain ⟨y, hy, -⟩ := get_of (l := l) (n := j) (by omega);have hgr := passG_grow (step := stepV upto BB) (stepV_grow upto BB) (l.take j) V full;have h2' : passG (stepV upto BB) V full (l.take j) = (l.take j, V1, f1) := h2;rw [h2'] at hgr;simp only at hgr;rw [List.length_take] at hgr;obtain ⟨hm', e, hr⟩ := F136_r (v := y) (upto := upto) (full := f1) hsm h3 (by omega)
    have hsn : passV upto BB V full (l.take (j + 1)) = (if (stepV upto BB V1 f1 y).1 then l.take j else l.take j ++ [y], (stepV upto BB V1 f1 y).2) := by
     rw [take_one hy];unfold passV;rw [passG_snoc, h2']
    generalize stepV upto BB V1 f1 y = q at e hr hsn;obtain ⟨g, V2, f2⟩ := q;simp only at e hr hsn
    have hstep : F158_s1 lV kk sm0 upto ⟨(j : Int), V1, hm1, f1⟩ = bif g then some (.inr (.inr ((j : Int), V2, hm', f2))) else some (.inl ⟨((j + 1 : Nat) : Int), V2, hm', f2⟩) := by
     unfold F158_s1;simp only;rw [decide_eq_true (show (j : Int) < (kk : Int) by omega), ct, hl, ix_nat hy, ob, e, ob, wrap_succ (n := j) (by omega)]
    cases g with
    | true =>
     right;rw [ct] at hstep;rw [if_pos rfl] at hsn;exact ⟨_, hstep, .inr ⟨j, V2, hm', f2, rfl, hlt, hsn, hr⟩⟩
    | false =>
     left;rw [cf] at hstep;rw [if_neg (by simp)] at hsn;refine ⟨_, hstep, ⟨j + 1, hlt, rfl, ?_, hr⟩, by simp only; omega⟩;rw [hsn, take_one hy]
   ·right
    obtain rfl : j = kk := by omega
    refine ⟨.inl ⟨(j : Int), V1, hm1, f1⟩, ?_, .inl ⟨_, rfl, ?_, h3⟩⟩
    ·unfold F158_s1;simp only;rw [decide_eq_false (show ¬ (j : Int) < (j : Int) by omega), cf]
    ·rw [List.take_of_length_le (by omega)] at h2; exact h2) (n := big) (x := ⟨0, V, hm, full⟩) ⟨0, by omega, rfl, by simp [passV, passG], hs⟩ (big_gt (by simp only; omega))
 obtain ⟨b, e, ⟨x, rfl, h1, h2⟩ | ⟨j, V', hm', f', rfl, h0, h1, h2⟩⟩ := key
 ·exact ⟨-1, x.o7, x.o9, x.o10_5, by rw [e, ob, sl], h2, .inl ⟨rfl, h1⟩⟩
 ·exact ⟨j, V', hm', f', by rw [e, ob, sr], h2, .inr ⟨j, rfl, h0, h1⟩⟩
theorem F138_eq {lV l V : List Vt} {kk : Nat} {BB : List Bk} {sm0 : List (ID × Int)} {hm : List (Vt × Bool)} {upto : Int} {full : Bool} (hl : PreL lV kk l) (hsm : SmR BB sm0) (hs : HmR V hm) (hB : V.length + kk ≤ 900) :
  ∃ k' lV' hm', F138 lV kk V sm0 hm upto full = some (k', lV', (passV upto BB V full l).2.1, hm', (passV upto BB V full l).2.2) ∧ HmR (passV upto BB V full l).2.1 hm' ∧ PreL lV' k' (passV upto BB V full l).1 := by
 have hk := hl.len;obtain ⟨i, V0, hm0, f0, e0, hr0, h0⟩ := F158_eq (upto := upto) (full := full) hl.take hk hsm hs hB;unfold F138;rw [e0, ob];rcases h0 with ⟨rfl, hp⟩ | ⟨j0, rfl, hj0, hp⟩
 ·rw [hp];refine ⟨kk, lV, hm0, ?_, hr0, hl⟩;simp only;rw [show ((-1 : Int) == -1) = true from rfl, ct]
 ·simp only;rw [show ((j0 : Int) == -1) = false by rw [beq_eq_false_iff_ne]; omega, cf, wrap_succ (n := j0) (by omega)]
  have key := iter_inv (step := F138_s1 kk sm0 upto) (fun x => ∃ (i j : Nat), x.i = i ∧ x.j = j ∧ HmR x.o7 x.o9 ∧ (passV upto BB V full (l.take j)).2 = (x.o7, x.o10_5) ∧ Mv l x.o15 i j (passV upto BB V full (l.take j)).1) (fun x => kk - x.j.toNat)
   (fun x => ∃ i : Nat, x.i = i ∧ i ≤ kk ∧ HmR x.o7 x.o9 ∧ (passV upto BB V full l).2 = (x.o7, x.o10_5) ∧ x.o15.take i = (passV upto BB V full l).1 ∧ kk ≤ x.o15.length) (by
   rintro ⟨i', j', V1, hm1, f1, a⟩ ⟨i, j, h1, h2, h3, h4, h5⟩;simp only at h1 h2 h3 h4 h5;subst h1 h2;have hij := h5.ij;have hjl := h5.jl;have hal := h5.len;by_cases hlt : j < kk
   ·left;obtain ⟨y, hy, -⟩ := get_of (l := l) (n := j) (by omega)
    have hya : (a.take kk)[j]? = some y := by rw [List.getElem?_take_of_lt hlt, h5.rest j (Nat.le_refl _) (by omega), hy]
    obtain ⟨z, hz, -⟩ := get_of (l := a.take kk) (n := i) (by rw [List.length_take]; omega);have hgr := passG_grow (step := stepV upto BB) (stepV_grow upto BB) (l.take j) V full;have h4' : (passG (stepV upto BB) V full (l.take j)).2 = (V1, f1) := h4;rw [h4'] at hgr;simp only at hgr;rw [List.length_take] at hgr;obtain ⟨hm', e, hr⟩ := F136_r (v := y) (upto := upto) (full := f1) hsm h3 (by omega)
    have hsn : passV upto BB V full (l.take (j + 1)) = (if (stepV upto BB V1 f1 y).1 then (passV upto BB V full (l.take j)).1 else (passV upto BB V full (l.take j)).1 ++ [y], (stepV upto BB V1 f1 y).2) := by
     rw [take_one hy];unfold passV;rw [passG_snoc, h4']
    generalize stepV upto BB V1 f1 y = q at e hr hsn;obtain ⟨g, V2, f2⟩ := q;simp only at e hr hsn
    have hstep : F138_s1 kk sm0 upto ⟨(i : Int), (j : Int), V1, hm1, f1, a⟩ = bif !g then some (.inl ⟨((i + 1 : Nat) : Int), ((j + 1 : Nat) : Int), V2, hm', f2, a.set i y⟩) else some (.inl ⟨(i : Int), ((j + 1 : Nat) : Int), V2, hm', f2, a⟩) := by
     unfold F138_s1;simp only;rw [decide_eq_true (show (j : Int) < (kk : Int) by omega), ct, ix_nat hya, ob, e, ob, ix_nat hz, ob, wrap_succ (n := j) (by omega), wrap_succ (n := i) (by omega), Int.toNat_natCast]
    cases g with
    | true =>
     rw [Bool.not_true, cf] at hstep;rw [if_pos rfl] at hsn;refine ⟨_, hstep, ⟨i, j + 1, rfl, rfl, hr, by rw [hsn], ?_⟩, by simp only; omega⟩;rw [hsn];exact h5.next_gone (by omega)
    | false =>
     rw [Bool.not_false, ct] at hstep;rw [if_neg (by simp)] at hsn;refine ⟨_, hstep, ⟨i + 1, j + 1, rfl, rfl, hr, by rw [hsn], ?_⟩, by simp only; omega⟩;rw [hsn];exact h5.next_stay (by omega) hy
   ·right
    have hjk : j = kk := by omega
    have htl : l.take j = l := List.take_of_length_le (by omega);rw [htl] at h4 h5;refine ⟨⟨(i : Int), (j : Int), V1, hm1, f1, a⟩, ?_, i, rfl, by omega, h3, h4, h5.left, by show kk ≤ a.length; omega⟩;unfold F138_s1;simp only
    rw [decide_eq_false (show ¬ (j : Int) < (kk : Int) by omega), cf]) (n := big) (x := ⟨(j0 : Int), ((j0 + 1 : Nat) : Int), V0, hm0, f0, lV⟩)
   ⟨j0, j0 + 1, rfl, rfl, hr0, by rw [hp], by
    rw [hp];refine ⟨by omega, by omega, by have := hl.le; simp only; omega, ?_, fun q h1 h2 => ?_⟩
    ·show lV.take j0 = l.take j0;rw [← hl.take, List.take_take, Nat.min_eq_left (by omega)]
    ·rw [← hl.take, List.getElem?_take_of_lt (by omega)]⟩ (big_gt (by simp only; omega))
  obtain ⟨x, ex, i, hi, hik, hr, h1, h2, h3⟩ := key;generalize passV upto BB V full l = p at h1 h2 ⊢;obtain ⟨pl, pV, pf⟩ := p;simp only at h1 h2 ⊢;rw [ex, ob, hi, decide_eq_true (show 0 ≤ (i : Int) ∧ (i : Int) ≤ (kk : Int) by omega), ct, Int.toNat_natCast, decide_eq_true (show i + (kk - i) ≤ x.o15.length by omega), ct, ct];cases h1;exact ⟨i, clrL x.o15 i (kk - i) ⟨0, 0, (0, 0)⟩, x.o9, rfl, hr, clr_pre hik h3 h2⟩
structure GvS where
 B : List Bk
 V : List Vt
 full : Bool
 lB : List Bk
 lV : List Vt
def roundT (upto : Int) (s : GvS) : GvS :=
 ⟨(passB upto s.B s.full s.lB).2.1, (passV upto (passB upto s.B s.full s.lB).2.1 s.V (passB upto s.B s.full s.lB).2.2 s.lV).2.1, (passV upto (passB upto s.B s.full s.lB).2.1 s.V (passB upto s.B s.full s.lB).2.2 s.lV).2.2,
  (passB upto s.B s.full s.lB).1, (passV upto (passB upto s.B s.full s.lB).2.1 s.V (passB upto s.B s.full s.lB).2.2 s.lV).1⟩
def sizeT (s : GvS) : Nat := s.B.length + s.V.length
def takeN (upto : Int) : Nat → GvS → GvS
 | 0, s => s
 | n + 1, s => if sizeT (roundT upto s) = sizeT s then roundT upto s else takeN upto n (roundT upto s)
def takeT (upto : Int) (s : GvS) : GvS := takeN upto 1000 s
open Classical in
noncomputable def takeP (c : Cf) (w inp : Vw) (slot : Int) : Vw × Vw × Bool :=
 if MayW c w then (⟨(takeT slot ⟨w.B, w.V, false, (onlyP c inp).B, (onlyP c inp).V⟩).B, (takeT slot ⟨w.B, w.V, false, (onlyP c inp).B, (onlyP c inp).V⟩).V⟩, ⟨(takeT slot ⟨w.B, w.V, false, (onlyP c inp).B, (onlyP c inp).V⟩).lB, (takeT slot ⟨w.B, w.V, false, (onlyP c inp).B, (onlyP c inp).V⟩).lV⟩, (takeT slot ⟨w.B, w.V, false, (onlyP c inp).B, (onlyP c inp).V⟩).full)
 else (w, inp, false)
def BelowT (s : GvS) : Prop := s.B.length ≤ 60 ∧ s.V.length ≤ 240
theorem stepB_room {upto : Int} {B : List Bk} {f : Bool} {b : Bk} (h : B.length ≤ 60) : (stepB upto B f b).2.1.length ≤ 60 := by
 unfold stepB; split <;> (try split) <;> (try split) <;> simp <;> omega
theorem stepV_room {upto : Int} {B : List Bk} {V : List Vt} {f : Bool} {v : Vt} (h : V.length ≤ 240) : (stepV upto B V f v).2.1.length ≤ 240 := by
 unfold stepV; split <;> (try split) <;> (try split) <;> simp <;> omega
theorem passG_inv {α : Type} {step : List α → Bool → α → Bool × List α × Bool} {Q : List α → Prop} (h : ∀ B f b, Q B → Q (step B f b).2.1) : ∀ (l B : List α) (f : Bool), Q B → Q (passG step B f l).2.1
 | [], B, f, hB => by simpa only [passG] using hB
 | x :: r, B, f, hB => by
  have := passG_inv h r (step B f x).2.1 (step B f x).2.2 (h B f x hB);simpa only [passG] using this
theorem passB_room {upto : Int} {l B : List Bk} {f : Bool} (h : B.length ≤ 60) : (passB upto B f l).2.1.length ≤ 60 := passG_inv (step := stepB upto) (Q := fun B => B.length ≤ 60) (fun _ _ _ h => stepB_room h) l B f h
theorem passV_room {upto : Int} {BB : List Bk} {l V : List Vt} {f : Bool} (h : V.length ≤ 240) : (passV upto BB V f l).2.1.length ≤ 240 := passG_inv (step := stepV upto BB) (Q := fun V => V.length ≤ 240) (fun _ _ _ h => stepV_room h) l V f h
theorem roundT_below {upto : Int} {s : GvS} (h : BelowT s) : BelowT (roundT upto s) := ⟨passB_room h.1, passV_room h.2⟩
theorem roundT_left (upto : Int) (s : GvS) : (roundT upto s).lB.length ≤ s.lB.length ∧ (roundT upto s).lV.length ≤ s.lV.length := ⟨passG_len _ _ _, passG_len _ _ _⟩
theorem roundT_grow (upto : Int) (s : GvS) : s.B.length ≤ (roundT upto s).B.length ∧ s.V.length ≤ (roundT upto s).V.length :=
 ⟨(passG_grow (stepB_grow upto) _ _ _).1, (passG_grow (stepV_grow upto _) _ _ _).1⟩
structure RepT (s : GvS) (x : F90_L1) : Prop where
 o6 : x.o6 = s.B
 o7 : x.o7 = s.V
 full : x.x_5 = s.full
 sm : SmR s.B x.o8
 hm : HmR s.V x.o9
 lB : PreL x.o14 x.left_0 s.lB
 lV : PreL x.o15 x.left_1 s.lV
theorem F90_round {upto : Int} {s : GvS} {x : F90_L1} (h : RepT s x) (hb : BelowT s) (hl1 : s.lB.length ≤ 800) (hl2 : s.lV.length ≤ 600) (hn : x.n ≠ (sizeT s : Int)) : ∃ y, F90_s1 upto x = some (.inl y) ∧ RepT (roundT upto s) y ∧ y.n = (sizeT s : Int) := by
 obtain ⟨n, o6, o7, o8, o9, f, o14, o15, k0, k1⟩ := x;obtain ⟨e6, e7, ef, hsm, hhm, hlB, hlV⟩ := h;simp only at e6 e7 ef hsm hhm hlB hlV hn;subst e6 e7 ef;have hb1 := hb.1;have hb2 := hb.2;obtain ⟨k', lB', sm', e1, r1, p1⟩ := F137_eq (upto := upto) (full := s.full) hlB hsm (by have := hlB.len; omega);unfold roundT;generalize passB upto s.B s.full s.lB = p at e1 r1 p1 ⊢;obtain ⟨pl, pB, pf⟩ := p;simp only at e1 r1 p1 ⊢;obtain ⟨k2, lV', hm', e2, r2, p2⟩ := F138_eq (upto := upto) (full := pf) hlV r1 hhm (by have := hlV.len; omega);generalize passV upto pB s.V pf s.lV = q at e2 r2 p2 ⊢;obtain ⟨ql, qV, qf⟩ := q;simp only at e2 r2 p2 ⊢
 have hw : IntKind.i64.wrap ((s.B.length : Int) + (s.V.length : Int)) = (sizeT s : Int) := by
  unfold sizeT; rw [wrapI (by omega) (by omega)]; omega
 refine ⟨F90_L1.mk (sizeT s : Int) pB qV sm' hm' qf lB' lV' k' k2, ?_, ⟨rfl, rfl, rfl, r1, r2, p1, p2⟩, rfl⟩;unfold F90_s1;simp only;rw [hw, show (n != (sizeT s : Int)) = true by rw [bne_iff_ne]; exact hn, ct, e1, ob];simp only;rw [e2, ob]
theorem F90_loop {upto : Int} : ∀ (m : Nat) (s : GvS) (x : F90_L1) (q : Nat), RepT s x → BelowT s → s.lB.length ≤ 800 → s.lV.length ≤ 600 → x.n ≠ (sizeT s : Int) → 300 < m + sizeT s → m < q →
  ∃ y, iter (F90_s1 upto) (q + 1) x = some y ∧ RepT (takeN upto m s) y
 | 0, s, x, q, _, hb, _, _, _, hm, _ => by
  have h1 := hb.1;have h2 := hb.2;unfold sizeT at hm;omega
 | m + 1, s, x, q, h, hb, hl1, hl2, hn, hm, hq => by
  obtain ⟨y, e, hr, hy⟩ := F90_round h hb hl1 hl2 hn;have hg := roundT_grow upto s;have hlen := roundT_left upto s;have hb' := roundT_below (upto := upto) hb;obtain ⟨q, rfl⟩ : ∃ p, q = p + 1 := ⟨q - 1, by omega⟩;rw [iter_go e];unfold takeN;by_cases hs : sizeT (roundT upto s) = sizeT s
  ·rw [if_pos hs];refine ⟨y, iter_end ?_, hr⟩
   have hw : IntKind.i64.wrap ((y.o6.length : Int) + (y.o7.length : Int)) = (sizeT s : Int) := by
    rw [hr.o6, hr.o7, ← hs];have h1 := hb'.1;have h2 := hb'.2;unfold sizeT; rw [wrapI (by omega) (by omega)]; omega
   unfold F90_s1;rw [hw, hy, show (((sizeT s : Nat) : Int) != (sizeT s : Int)) = false by simp, cf, ← hy]
  ·rw [if_neg hs];exact F90_loop m (roundT upto s) y q hr hb' (by omega) (by omega) (by rw [hy]; omega) (by unfold sizeT at *; omega) (by omega)
open Classical in
theorem F90_eq {c : Cf} {w inp : Vw} {slot : Int} (h1 : w.B.length ≤ 1000) (h2 : w.V.length ≤ 1000) (h3 : inp.B.length ≤ 800) (h4 : inp.V.length ≤ 600) : F90 c w inp slot = some (takeP c w inp slot) := by
 unfold F90 takeP;rw [F130_eq (by omega) (by omega), ob, F89_eq h1 h2, ob];by_cases hm : MayW c w
 ·rw [decide_eq_true hm, Bool.not_true, cf, if_pos hm, F85V_eq (by omega) (by omega), ob];simp only;have hfB : (onlyP c inp).B.length ≤ inp.B.length := List.length_filter_le _ _;have hfV : (onlyP c inp).V.length ≤ inp.V.length := List.length_filter_le _ _
  have hr : RepT ⟨w.B, w.V, false, (onlyP c inp).B, (onlyP c inp).V⟩ (F90_L1.mk (-1) w.B w.V (smOf w.B) (hmOf w.V) false (onlyP c inp).B (onlyP c inp).V ((onlyP c inp).B.map blkP).length ((onlyP c inp).V.map vtP).length) :=
   ⟨rfl, rfl, rfl, ⟨smOf_find hm.valid, smOf_len w.B⟩, ⟨hmOf_find w.V, (hmOf_len w.V).1⟩, ⟨by simp, by simp⟩, ⟨by simp, by simp⟩⟩
  have hbel : BelowT ⟨w.B, w.V, false, (onlyP c inp).B, (onlyP c inp).V⟩ := ⟨hm.lenB, hm.lenV⟩;generalize onlyP c inp = o at *;obtain ⟨y, e, hy⟩ := F90_loop (upto := slot) 1000 _ _ 4611686018427387903 hr hbel (by simp only; omega) (by simp only; omega) (by simp only; omega) (by omega) (by omega);have e' : iter (F90_s1 slot) big (F90_L1.mk (-1) w.B w.V (smOf w.B) (hmOf w.V) false o.B o.V (o.B.map blkP).length (o.V.map vtP).length) = some y := e;rw [e', ob];change RepT (takeT slot _) y at hy;generalize takeT slot ⟨w.B, w.V, false, o.B, o.V⟩ = s at hy ⊢;rw [Nat.ble_eq_true_of_le hy.lB.le, ct, Nat.ble_eq_true_of_le hy.lV.le, ct, hy.o6, hy.o7, hy.full, hy.lB.take, hy.lV.take]
 ·rw [decide_eq_false hm, Bool.not_false, ct, if_neg hm, room_ok (by omega) (by omega), ct, room_ok (by omega) (by omega), ct]
theorem goneB_mono {B : List Bk} {b : Bk} (h : goneB B b = true) (t : List Bk) : goneB (B ++ t) b = true := by
 unfold goneB at h ⊢;rw [Bool.or_eq_true] at h ⊢;rcases h with h | h
 ·left;obtain ⟨s, hs⟩ := Option.isSome_iff_exists.1 h;rw [slotQ_mono hs]; rfl
 ·right
  cases hp : slotQ B b.Parent with
  | none => rw [hp] at h; cases h
  | some s => rw [hp] at h; rw [slotQ_mono hp]; exact h
theorem goneV_mono {B : List Bk} {V : List Vt} {v : Vt} (h : goneV B V v = true) (t : List Bk) (u : List Vt) : goneV (B ++ t) (V ++ u) v = true := by
 unfold goneV at h ⊢;rw [Bool.or_eq_true] at h ⊢;rcases h with h | h
 ·left;exact decide_eq_true (List.mem_append_left _ (of_decide_eq_true h))
 ·right
  cases hp : slotQ B v.Head with
  | none => rw [hp] at h; cases h
  | some s => rw [hp] at h; rw [slotQ_mono hp]; exact h
theorem goneB_self {B : List Bk} {b : Bk} (h : b ∈ B) : goneB B b = true := by
 obtain ⟨s, hs⟩ := slotQ_some h;unfold goneB; rw [hs]; rfl
theorem goneV_self {B : List Bk} {V : List Vt} {v : Vt} (h : v ∈ V) : goneV B V v = true := by
 unfold goneV; rw [decide_eq_true h]; rfl
theorem stepB_ways (upto : Int) (B : List Bk) (f : Bool) (b : Bk) :
  (goneB B b = true ∧ stepB upto B f b = (true, B, f)) ∨ (goneB B b = false ∧ waitB B upto b = true ∧ stepB upto B f b = (false, B, f)) ∨
  (goneB B b = false ∧ waitB B upto b = false ∧ B.length < 60 ∧ stepB upto B f b = (true, B ++ [b], f)) ∨ (goneB B b = false ∧ waitB B upto b = false ∧ 60 ≤ B.length ∧ stepB upto B f b = (false, B, true)) := by
 unfold stepB
 cases h1 : goneB B b with
 | true => exact .inl ⟨rfl, by rw [if_pos rfl]⟩
 | false =>
  right;rw [if_neg (by simp)]
  cases h2 : waitB B upto b with
  | true => exact .inl ⟨rfl, rfl, by rw [if_pos rfl]⟩
  | false =>
   right;rw [if_neg (by simp)];by_cases h3 : B.length < 60
   ·exact .inl ⟨rfl, rfl, h3, by rw [if_pos h3]⟩
   ·exact .inr ⟨rfl, rfl, by omega, by rw [if_neg h3]⟩
theorem stepV_ways (upto : Int) (B : List Bk) (V : List Vt) (f : Bool) (v : Vt) :
  (goneV B V v = true ∧ stepV upto B V f v = (true, V, f)) ∨ (goneV B V v = false ∧ waitV B upto v = true ∧ stepV upto B V f v = (false, V, f)) ∨
  (goneV B V v = false ∧ waitV B upto v = false ∧ V.length < 240 ∧ stepV upto B V f v = (true, V ++ [v], f)) ∨ (goneV B V v = false ∧ waitV B upto v = false ∧ 240 ≤ V.length ∧ stepV upto B V f v = (false, V, true)) := by
 unfold stepV
 cases h1 : goneV B V v with
 | true => exact .inl ⟨rfl, by rw [if_pos rfl]⟩
 | false =>
  right;rw [if_neg (by simp)]
  cases h2 : waitV B upto v with
  | true => exact .inl ⟨rfl, rfl, by rw [if_pos rfl]⟩
  | false =>
   right;rw [if_neg (by simp)];by_cases h3 : V.length < 240
   ·exact .inl ⟨rfl, rfl, h3, by rw [if_pos h3]⟩
   ·exact .inr ⟨rfl, rfl, by omega, by rw [if_neg h3]⟩
section
variable {α : Type} {step : List α → Bool → α → Bool × List α × Bool}
theorem passG_ind {Q : List α → Bool → Prop} : ∀ {l B : List α} {f : Bool}, (∀ B f b, b ∈ l → Q B f → Q (step B f b).2.1 (step B f b).2.2) → Q B f → Q (passG step B f l).2.1 (passG step B f l).2.2
 | [], B, f, _, hB => by simpa only [passG] using hB
 | x :: r, B, f, h, hB => by
  have := passG_ind (l := r) (fun B f b hb => h B f b (.tail _ hb)) (h B f x (.head _) hB);simpa only [passG] using this
theorem passG_sub : ∀ (l B : List α) (f : Bool), (passG step B f l).1.Sublist l
 | [], B, f => by simp [passG]
 | x :: r, B, f => by
  have := passG_sub r (step B f x).2.1 (step B f x).2.2;simp only [passG];split
  ·exact this.cons x
  ·exact this.cons_cons x
theorem passG_gone {G : List α → α → Prop} (hs : ∀ B f b, (step B f b).1 = true → G (step B f b).2.1 b) (hm : ∀ B f b c, G B c → G (step B f b).2.1 c) : ∀ (l B : List α) (f : Bool) (b : α), b ∈ l → b ∈ (passG step B f l).1 ∨ G (passG step B f l).2.1 b
 | x :: r, B, f, b, hb => by
  have hkeep : ∀ (r B : List α) (f : Bool) (c : α), G B c → G (passG step B f r).2.1 c := fun r B f c hc => passG_ind (Q := fun B _ => G B c) (fun B f b _ hB => hm B f b c hB) hc;simp only [passG];rcases List.mem_cons.1 hb with e | hb
  ·subst e
   cases h : (step B f b).1 with
   | true => exact .inr (hkeep _ _ _ _ (hs B f b h))
   | false => left; rw [if_neg (by simp)]; exact .head _
  ·rcases passG_gone hs hm r (step B f x).2.1 (step B f x).2.2 b hb with h | h
   ·left;split
    ·exact h
    ·exact .tail _ h
   ·exact .inr h
end
section
variable {α : Type} {g w : List α → α → Bool} {cap : Nat}
def stepX (g w : List α → α → Bool) (cap : Nat) (B : List α) (f : Bool) (b : α) : Bool × List α × Bool :=
 if g B b then (true, B, f) else if w B b then (false, B, f) else if B.length < cap then (true, B ++ [b], f) else (false, B, true)
def stillX (g w : List α → α → Bool) (B : List α) (f : Bool) (l : List α) : List α × List α × Bool := (l.filter fun b => !g B b, B, f || l.any fun b => !g B b && !w B b)
theorem still_of : ∀ {l B : List α} {f : Bool}, (∀ b ∈ l, g B b = false → w B b = false → cap ≤ B.length) → passG (stepX g w cap) B f l = stillX g w B f l
 | [], B, f, _ => by simp [passG, stillX]
 | x :: r, B, f, h => by
  have ih := fun f => still_of (l := r) (f := f) (B := B) fun b hb => h b (.tail _ hb);unfold stillX at ih ⊢;simp only [passG]
  cases h1 : g B x with
  | true =>
   have e : stepX g w cap B f x = (true, B, f) := by unfold stepX; rw [h1, if_pos rfl]
   rw [e];simp [ih, h1]
  | false =>
   cases h2 : w B x with
   | true =>
    have e : stepX g w cap B f x = (false, B, f) := by unfold stepX; rw [h1, if_neg (by simp), h2, if_pos rfl]
    rw [e];simp [ih, h1, h2]
   | false =>
    have e : stepX g w cap B f x = (false, B, true) := by
     unfold stepX; rw [h1, if_neg (by simp), h2, if_neg (by simp), if_neg];have := h x (.head _) h1 h2;omega
    rw [e];simp [ih, h1, h2]
theorem stepX_pre (B : List α) (f : Bool) (b : α) : ∃ t, (stepX g w cap B f b).2.1 = B ++ t := by
 unfold stepX;split
 ·exact ⟨[], by simp⟩
 ·split
  ·exact ⟨[], by simp⟩
  ·split
   ·exact ⟨[b], rfl⟩
   ·exact ⟨[], by simp⟩
theorem passX_pre (l B : List α) (f : Bool) : ∃ u, (passG (stepX g w cap) B f l).2.1 = B ++ u :=
 passG_ind (Q := fun C _ => ∃ u, C = B ++ u) (fun C f b _ ⟨u, hu⟩ => by
  obtain ⟨t, ht⟩ := stepX_pre (g := g) (w := w) (cap := cap) C f b
  exact ⟨u ++ t, by rw [ht, hu, List.append_assoc]⟩) ⟨[], by simp⟩
theorem still_by : ∀ {l B : List α} {f : Bool}, (passG (stepX g w cap) B f l).2.1.length = B.length → ∀ b ∈ l, g B b = false → w B b = false → cap ≤ B.length
 | x :: r, B, f, h, b, hb, h1, h2 => by
  simp only [passG] at h;obtain ⟨t, ht⟩ := stepX_pre (g := g) (w := w) (cap := cap) B f x;obtain ⟨u, hu⟩ := passX_pre (g := g) (w := w) (cap := cap) r (stepX g w cap B f x).2.1 (stepX g w cap B f x).2.2
  have hB : (stepX g w cap B f x).2.1 = B := by
   rw [hu, ht, List.length_append, List.length_append] at h;have : t = [] := List.length_eq_zero_iff.1 (by omega);rw [ht, this, List.append_nil]
  rcases List.mem_cons.1 hb with e | hb
  ·subst e;refine Classical.byContradiction fun hc => ?_
   have e : stepX g w cap B f b = (true, B ++ [b], f) := by
    unfold stepX; rw [h1, if_neg (by simp), h2, if_neg (by simp), if_pos (by omega)]
   rw [e] at hB;have := congrArg List.length hB;simp at this
  ·rw [hB] at h;exact still_by h b hb h1 h2
end
structure InvT (w o : Vw) (upto : Int) (s : GvS) : Prop where
 preB : ∃ t, s.B = w.B ++ t ∧ ∀ b ∈ t, b ∈ o.B ∧ b.Slot ≤ upto
 preV : ∃ t, s.V = w.V ++ t ∧ ∀ v ∈ t, v ∈ o.V ∧ v.Slot ≤ upto
 valid : ValidB s.B
 nodup : s.V.Nodup
 forB : ∀ v ∈ s.V, forB s.B v
 below : BelowT s
 subB : s.lB.Sublist o.B
 subV : s.lV.Sublist o.V
 allB : ∀ b ∈ o.B, b ∈ s.lB ∨ goneB s.B b = true
 allV : ∀ v ∈ o.V, v ∈ s.lV ∨ goneV s.B s.V v = true
theorem wait_known {B : List Bk} {upto : Int} {b : Bk} (h1 : goneB B b = false) (h2 : waitB B upto b = false) : (∃ s, slotQ B b.Parent = some s ∧ s < b.Slot) ∧ slotQ B (nm b) = none ∧ b.Slot ≤ upto := by
 unfold goneB at h1;unfold waitB at h2;rw [Bool.or_eq_false_iff] at h1
 have hn : slotQ B (nm b) = none := by
  cases h : slotQ B (nm b) with
  | none => rfl
  | some s => rw [h] at h1; cases h1.1
 cases hp : slotQ B b.Parent with
 | none => rw [hp] at h2; cases h2
 | some s =>
  rw [hp] at h1 h2;have a1 := of_decide_eq_false h1.2;have a2 := of_decide_eq_false h2;exact ⟨⟨s, rfl, by omega⟩, hn, by omega⟩
theorem wait_knownV {B : List Bk} {V : List Vt} {upto : Int} {v : Vt} (h1 : goneV B V v = false) (h2 : waitV B upto v = false) : forB B v ∧ v ∉ V ∧ v.Slot ≤ upto := by
 unfold goneV at h1;unfold waitV at h2;rw [Bool.or_eq_false_iff] at h1;have hn := of_decide_eq_false h1.1
 cases hp : slotQ B v.Head with
 | none => rw [hp] at h2; cases h2
 | some s =>
  rw [hp] at h1 h2;have a1 := of_decide_eq_false h1.2;have a2 := of_decide_eq_false h2;exact ⟨⟨s, hp, by omega⟩, hn, by omega⟩
theorem forB_mono {B : List Bk} {v : Vt} (h : forB B v) (t : List Bk) : forB (B ++ t) v := by
 obtain ⟨s, h1, h2⟩ := h;exact ⟨s, slotQ_mono h1 t, h2⟩
theorem passB_inv {w o : Vw} {upto : Int} {s : GvS} (h : InvT w o upto s) : InvT w o upto ⟨(passB upto s.B s.full s.lB).2.1, s.V, (passB upto s.B s.full s.lB).2.2, (passB upto s.B s.full s.lB).1, s.lV⟩ := by
 have key : ∃ u, (passB upto s.B s.full s.lB).2.1 = s.B ++ u ∧ (∀ b ∈ u, b ∈ o.B ∧ b.Slot ≤ upto) ∧ ValidB (s.B ++ u) ∧ (s.B ++ u).length ≤ 60 := by
  have := passG_ind (step := stepB upto) (l := s.lB) (B := s.B) (f := s.full) (Q := fun C _ => ∃ u, C = s.B ++ u ∧ (∀ b ∈ u, b ∈ o.B ∧ b.Slot ≤ upto) ∧ ValidB (s.B ++ u) ∧ (s.B ++ u).length ≤ 60)
   (fun C f b hb ⟨u, hu, h1, h2, h3⟩ => by
    subst hu;rcases stepB_ways upto (s.B ++ u) f b with ⟨-, e⟩ | ⟨-, -, e⟩ | ⟨a1, a2, a3, e⟩ | ⟨-, -, -, e⟩
    ·rw [e]; exact ⟨u, rfl, h1, h2, h3⟩
    ·rw [e]; exact ⟨u, rfl, h1, h2, h3⟩
    ·rw [e];obtain ⟨k1, k2, k3⟩ := wait_known a1 a2;refine ⟨u ++ [b], by simp, fun c hc => ?_, ?_, ?_⟩
     ·rcases List.mem_append.1 hc with hc | hc
      ·exact h1 c hc
      ·rw [List.mem_singleton] at hc; subst hc;exact ⟨h.subB.subset hb, k3⟩
     ·rw [← List.append_assoc]; exact valid_snoc.2 ⟨h2, k1, k2⟩
     ·rw [← List.append_assoc, List.length_append, List.length_singleton]; omega
    ·rw [e]; exact ⟨u, rfl, h1, h2, h3⟩)
   ⟨[], by simp, by simp, by simpa using h.valid, by simpa using h.below.1⟩
  exact this
 obtain ⟨u, hu, h1, h2, h3⟩ := key
 have hgone : ∀ b ∈ s.lB, b ∈ (passB upto s.B s.full s.lB).1 ∨ goneB (passB upto s.B s.full s.lB).2.1 b = true :=
  passG_gone (step := stepB upto) (G := fun B b => goneB B b = true) (fun B f b hb => by
   rcases stepB_ways upto B f b with ⟨a, e⟩ | ⟨-, -, e⟩ | ⟨-, -, -, e⟩ | ⟨-, -, -, e⟩ <;> rw [e] at hb ⊢
   ·exact a
   ·cases hb
   ·exact goneB_self (by simp)
   ·cases hb) (fun B f b c hc => by
   rcases stepB_ways upto B f b with ⟨a, e⟩ | ⟨-, -, e⟩ | ⟨-, -, -, e⟩ | ⟨-, -, -, e⟩ <;> rw [e]
   ·exact hc
   ·exact hc
   ·exact goneB_mono hc _
   ·exact hc) s.lB s.B s.full
 obtain ⟨t, ht, ht2⟩ := h.preB
 refine ⟨⟨t ++ u, by simp only; rw [hu, ht, List.append_assoc], fun b hb => (List.mem_append.1 hb).elim (ht2 b) (h1 b)⟩, h.preV, by simp only [hu]; exact h2, h.nodup, fun v hv => ?_, ⟨by simp only [hu]; exact h3, h.below.2⟩,
  (passG_sub s.lB s.B s.full).trans h.subB, h.subV, fun b hb => ?_, fun v hv => ?_⟩
 ·simp only [hu]; exact forB_mono (h.forB v hv) u
 ·rcases h.allB b hb with h5 | h5
  ·exact hgone b h5
  ·right; simp only [hu]; exact goneB_mono h5 u
 ·rcases h.allV v hv with h5 | h5
  ·exact .inl h5
  ·right;simp only [hu];have := goneV_mono h5 u []
   rwa [List.append_nil] at this
theorem passV_inv {w o : Vw} {upto : Int} {s : GvS} (h : InvT w o upto s) : InvT w o upto ⟨s.B, (passV upto s.B s.V s.full s.lV).2.1, (passV upto s.B s.V s.full s.lV).2.2, s.lB, (passV upto s.B s.V s.full s.lV).1⟩ := by
 have key : ∃ u, (passV upto s.B s.V s.full s.lV).2.1 = s.V ++ u ∧ (∀ v ∈ u, v ∈ o.V ∧ v.Slot ≤ upto) ∧ (s.V ++ u).Nodup ∧ (∀ v ∈ s.V ++ u, Go.Mg.forB s.B v) ∧ (s.V ++ u).length ≤ 240 := by
  have := passG_ind (step := stepV upto s.B) (l := s.lV) (B := s.V) (f := s.full) (Q := fun C _ => ∃ u, C = s.V ++ u ∧ (∀ v ∈ u, v ∈ o.V ∧ v.Slot ≤ upto) ∧ (s.V ++ u).Nodup ∧ (∀ v ∈ s.V ++ u, Go.Mg.forB s.B v) ∧ (s.V ++ u).length ≤ 240)
   (fun C f v hv ⟨u, hu, h1, h2, h4, h3⟩ => by
    subst hu;rcases stepV_ways upto s.B (s.V ++ u) f v with ⟨-, e⟩ | ⟨-, -, e⟩ | ⟨a1, a2, a3, e⟩ | ⟨-, -, -, e⟩
    ·rw [e]; exact ⟨u, rfl, h1, h2, h4, h3⟩
    ·rw [e]; exact ⟨u, rfl, h1, h2, h4, h3⟩
    ·rw [e];obtain ⟨k1, k2, k3⟩ := wait_knownV a1 a2;refine ⟨u ++ [v], by simp, fun c hc => ?_, ?_, fun c hc => ?_, ?_⟩
     ·rcases List.mem_append.1 hc with hc | hc
      ·exact h1 c hc
      ·rw [List.mem_singleton] at hc; subst hc;exact ⟨h.subV.subset hv, k3⟩
     ·rw [← List.append_assoc, List.nodup_append];exact ⟨h2, by simp, fun a ha b hb => by rw [List.mem_singleton] at hb; subst hb; exact fun q => k2 (q ▸ ha)⟩
     ·rw [← List.append_assoc] at hc;rcases List.mem_append.1 hc with hc | hc
      ·exact h4 c hc
      ·rw [List.mem_singleton] at hc; subst hc; exact k1
     ·rw [← List.append_assoc, List.length_append, List.length_singleton]; omega
    ·rw [e]; exact ⟨u, rfl, h1, h2, h4, h3⟩)
   ⟨[], by simp, by simp, by simpa using h.nodup, by simpa using h.forB, by simpa using h.below.2⟩
  exact this
 obtain ⟨u, hu, h1, h2, h4, h3⟩ := key
 have hgone : ∀ v ∈ s.lV, v ∈ (passV upto s.B s.V s.full s.lV).1 ∨ goneV s.B (passV upto s.B s.V s.full s.lV).2.1 v = true :=
  passG_gone (step := stepV upto s.B) (G := fun V v => goneV s.B V v = true) (fun V f v hb => by
   rcases stepV_ways upto s.B V f v with ⟨a, e⟩ | ⟨-, -, e⟩ | ⟨-, -, -, e⟩ | ⟨-, -, -, e⟩ <;> rw [e] at hb ⊢
   ·exact a
   ·cases hb
   ·exact goneV_self (by simp)
   ·cases hb) (fun V f v c hc => by
   rcases stepV_ways upto s.B V f v with ⟨a, e⟩ | ⟨-, -, e⟩ | ⟨-, -, -, e⟩ | ⟨-, -, -, e⟩ <;> rw [e]
   ·exact hc
   ·exact hc
   ·have := goneV_mono hc [] [v]; rwa [List.append_nil] at this
   ·exact hc) s.lV s.V s.full
 obtain ⟨t, ht, ht2⟩ := h.preV
 refine ⟨h.preB, ⟨t ++ u, by simp only; rw [hu, ht, List.append_assoc], fun b hb => (List.mem_append.1 hb).elim (ht2 b) (h1 b)⟩, h.valid, by simp only [hu]; exact h2, fun v hv => ?_, ⟨h.below.1, by simp only [hu]; exact h3⟩,
  h.subB, (passG_sub s.lV s.V s.full).trans h.subV, h.allB, fun v hv => ?_⟩
 ·simp only [hu] at hv; exact h4 v hv
 ·rcases h.allV v hv with h5 | h5
  ·exact hgone v h5
  ·right;simp only [hu];have := goneV_mono h5 [] u
   rwa [List.append_nil] at this
theorem roundT_inv {w o : Vw} {upto : Int} {s : GvS} (h : InvT w o upto s) : InvT w o upto (roundT upto s) := passV_inv (passB_inv h)
structure EndT (upto : Int) (s : GvS) : Prop where
 B : ∀ b ∈ s.lB, goneB s.B b = false ∧ (waitB s.B upto b = true ∨ 60 ≤ s.B.length ∧ s.full = true)
 V : ∀ v ∈ s.lV, goneV s.B s.V v = false ∧ (waitV s.B upto v = true ∨ 240 ≤ s.V.length ∧ s.full = true)
theorem roundT_end {upto : Int} {s : GvS} (h : sizeT (roundT upto s) = sizeT s) : EndT upto (roundT upto s) := by
 have hg := roundT_grow upto s
 have hB : (passB upto s.B s.full s.lB).2.1.length = s.B.length := by unfold sizeT at h; have : (roundT upto s).B = (passB upto s.B s.full s.lB).2.1 := rfl; rw [← this]; omega
 have h1 : ∀ b ∈ s.lB, goneB s.B b = false → waitB s.B upto b = false → 60 ≤ s.B.length := still_by (g := goneB) (w := fun B b => waitB B upto b) (cap := 60) (f := s.full) hB;have e1 : passB upto s.B s.full s.lB = stillX goneB (fun B b => waitB B upto b) s.B s.full s.lB := still_of h1
 have hV : (passV upto s.B s.V (passB upto s.B s.full s.lB).2.2 s.lV).2.1.length = s.V.length := by
  have : (roundT upto s).V = (passV upto (passB upto s.B s.full s.lB).2.1 s.V (passB upto s.B s.full s.lB).2.2 s.lV).2.1 := rfl
  have e2 : (passB upto s.B s.full s.lB).2.1 = s.B := by rw [e1]; rfl
  rw [e2] at this;rw [← this];unfold sizeT at h; omega
 have h2 : ∀ v ∈ s.lV, goneV s.B s.V v = false → waitV s.B upto v = false → 240 ≤ s.V.length := still_by (g := goneV s.B) (w := fun _ v => waitV s.B upto v) (cap := 240) (f := (passB upto s.B s.full s.lB).2.2) hV;unfold roundT;rw [e1];unfold stillX;simp only;have e2 : passV upto s.B s.V (s.full || s.lB.any fun b => !goneB s.B b && !waitB s.B upto b) s.lV = stillX (goneV s.B) (fun _ v => waitV s.B upto v) s.V (s.full || s.lB.any fun b => !goneB s.B b && !waitB s.B upto b) s.lV := still_of h2;rw [e2];unfold stillX;refine ⟨fun b hb => ?_, fun v hv => ?_⟩
 ·simp only [List.mem_filter, Bool.not_eq_true'] at hb;refine ⟨hb.2, ?_⟩
  cases hw : waitB s.B upto b with
  | true => exact .inl rfl
  | false =>
   right;refine ⟨h1 b hb.1 hb.2 hw, ?_⟩;simp only [Bool.or_eq_true];exact .inl (.inr (List.any_eq_true.2 ⟨b, hb.1, by simp [hb.2, hw]⟩))
 ·simp only [List.mem_filter, Bool.not_eq_true'] at hv;refine ⟨hv.2, ?_⟩
  cases hw : waitV s.B upto v with
  | true => exact .inl rfl
  | false =>
   right;refine ⟨h2 v hv.1 hv.2 hw, ?_⟩;simp only [Bool.or_eq_true];exact .inr (List.any_eq_true.2 ⟨v, hv.1, by simp [hv.2, hw]⟩)
theorem takeN_end {w o : Vw} {upto : Int} : ∀ (m : Nat) (s : GvS), InvT w o upto s → 300 < m + sizeT s → InvT w o upto (takeN upto m s) ∧ EndT upto (takeN upto m s)
 | 0, s, h, hm => by
  have h1 := h.below.1;have h2 := h.below.2;unfold sizeT at hm;omega
 | m + 1, s, h, hm => by
  have hr := roundT_inv h;have hg := roundT_grow upto s;unfold takeN;by_cases hs : sizeT (roundT upto s) = sizeT s
  ·rw [if_pos hs]; exact ⟨hr, roundT_end hs⟩
  ·rw [if_neg hs];exact takeN_end m (roundT upto s) hr (by unfold sizeT at *; omega)
theorem inv_start {c : Cf} {w o : Vw} {upto : Int} (h : MayW c w) : InvT w o upto ⟨w.B, w.V, false, o.B, o.V⟩ :=
 ⟨⟨[], by simp, by simp⟩, ⟨[], by simp, by simp⟩, h.valid, h.nodup, h.forB, ⟨h.lenB, h.lenV⟩, List.Sublist.refl _, List.Sublist.refl _, fun _ h => .inl h, fun _ h => .inl h⟩
theorem take_end {c : Cf} {w o : Vw} {upto : Int} (h : MayW c w) : InvT w o upto (takeT upto ⟨w.B, w.V, false, o.B, o.V⟩) ∧ EndT upto (takeT upto ⟨w.B, w.V, false, o.B, o.V⟩) :=
 takeN_end 1000 _ (inv_start h) (by omega)
structure Took (c : Cf) (w inp : Vw) (upto : Int) (r : Vw × Vw × Bool) : Prop where
 may : MayW c r.1
 preB : ∃ t, r.1.B = w.B ++ t ∧ ∀ b ∈ t, b ∈ (onlyP c inp).B ∧ b.Slot ≤ upto
 preV : ∃ t, r.1.V = w.V ++ t ∧ ∀ v ∈ t, v ∈ (onlyP c inp).V ∧ v.Slot ≤ upto
 subB : r.2.1.B.Sublist (onlyP c inp).B
 subV : r.2.1.V.Sublist (onlyP c inp).V
 allB : ∀ b ∈ (onlyP c inp).B, b ∈ r.2.1.B ∨ goneB r.1.B b = true
 allV : ∀ v ∈ (onlyP c inp).V, v ∈ r.2.1.V ∨ goneV r.1.B r.1.V v = true
 endB : ∀ b ∈ r.2.1.B, goneB r.1.B b = false ∧ (waitB r.1.B upto b = true ∨ 60 ≤ r.1.B.length ∧ r.2.2 = true)
 endV : ∀ v ∈ r.2.1.V, goneV r.1.B r.1.V v = false ∧ (waitV r.1.B upto v = true ∨ 240 ≤ r.1.V.length ∧ r.2.2 = true)
theorem took {c : Cf} {w : Vw} (h : MayW c w) (inp : Vw) (upto : Int) : Took c w inp upto (takeP c w inp upto) := by
 unfold takeP;rw [if_pos h];have hmB : ∀ b ∈ (onlyP c inp).B, mayB c b = true := fun b hb => (List.mem_filter.1 hb).2;have hmV : ∀ v ∈ (onlyP c inp).V, mayV c v = true := fun b hb => (List.mem_filter.1 hb).2;have := take_end (o := onlyP c inp) (upto := upto) h;obtain ⟨hi, he⟩ := this;generalize takeT upto ⟨w.B, w.V, false, (onlyP c inp).B, (onlyP c inp).V⟩ = s at hi he ⊢;obtain ⟨t, ht, ht2⟩ := hi.preB;obtain ⟨u, hu, hu2⟩ := hi.preV;refine ⟨⟨h.conf, hi.valid, hi.below.1, hi.below.2, fun b hb => ?_, fun v hv => ?_, hi.nodup, hi.forB⟩, ⟨t, ht, ht2⟩, ⟨u, hu, hu2⟩, hi.subB, hi.subV, hi.allB, hi.allV, he.B, he.V⟩
 ·simp only [ht] at hb;rcases List.mem_append.1 hb with hb | hb
  ·exact h.mayB b hb
  ·exact hmB b (ht2 b hb).1
 ·simp only [hu] at hv;rcases List.mem_append.1 hv with hv | hv
  ·exact h.mayV v hv
  ·exact hmV v (hu2 v hv).1
open Go.Proofs
open Go.Proofs
theorem only_len (c : Cf) (w : Vw) : (onlyP c w).B.length ≤ w.B.length ∧ (onlyP c w).V.length ≤ w.V.length := ⟨List.length_filter_le _ _, List.length_filter_le _ _⟩
theorem filter_len_snoc {α : Type} {p : α → Bool} {l : List α} {n : Nat} {y : α} (hy : l[n]? = some y) : ((l.take (n + 1)).filter p).length = ((l.take n).filter p).length + bif p y then 1 else 0 := by
 rw [filter_take_snoc hy, List.length_append];cases p y <;> rfl
open Go.Proofs
open Go.Proofs
theorem took_len {c : Cf} {w inp : Vw} {upto : Int} {r : Vw × Vw × Bool} (h : Took c w inp upto r) : w.B.length ≤ r.1.B.length ∧ w.V.length ≤ r.1.V.length ∧ r.2.1.B.length ≤ inp.B.length ∧ r.2.1.V.length ≤ inp.V.length := by
 obtain ⟨t, ht, -⟩ := h.preB;obtain ⟨u, hu, -⟩ := h.preV;exact ⟨by rw [ht]; simp, by rw [hu]; simp, (h.subB.trans List.filter_sublist).length_le, (h.subV.trans List.filter_sublist).length_le⟩
theorem took_take {c : Cf} {w inp : Vw} {upto : Int} {r : Vw × Vw × Bool} (h : Took c w inp upto r) : r.1.B.take w.B.length = w.B ∧ r.1.V.take w.V.length = w.V := by
 obtain ⟨t, ht, -⟩ := h.preB;obtain ⟨u, hu, -⟩ := h.preV;rw [ht, hu];exact ⟨List.take_left' rfl, List.take_left' rfl⟩
theorem nodup_len {α : Type} [DecidableEq α] : ∀ {l L : List α}, l.Nodup → (∀ x ∈ l, x ∈ L) → l.length ≤ L.length
 | [], _, _, _ => Nat.zero_le _
 | x :: r, L, h, hs => by
  rw [List.nodup_cons] at h;have hx := hs x (.head _);have h1 := nodup_len (L := L.erase x) h.2 fun y hy => (List.mem_erase_of_ne (show y ≠ x from fun e => h.1 (by rw [← e]; exact hy))).2 (hs y (.tail _ hy));have h2 := List.length_erase_of_mem hx;have h3 := List.length_pos_of_mem hx;simp only [List.length_cons]; omega
inductive CB (base o : List Bk) (upto : Int) : Bk → Prop
 | base {b : Bk} : b ∈ base → CB base o upto b
 | root {b : Bk} : b ∈ o → b.Slot ≤ upto → b.Parent = (0, 0) → 0 < b.Slot → CB base o upto b
 | step {b p : Bk} : b ∈ o → b.Slot ≤ upto → CB base o upto p → nm p = b.Parent → p.Slot < b.Slot → CB base o upto b
theorem CB.mono {base base' o o' : List Bk} {upto upto' : Int} (h1 : ∀ b ∈ base, CB base' o' upto' b) (h2 : ∀ b ∈ o, b ∈ o') (h3 : upto ≤ upto') {b : Bk} (h : CB base o upto b) : CB base' o' upto' b := by
 induction h with
 | base h => exact h1 _ h
 | root a1 a2 a3 a4 => exact .root (h2 _ a1) (Int.le_trans a2 h3) a3 a4
 | step a1 a2 _ a4 a5 ih => exact .step (h2 _ a1) (Int.le_trans a2 h3) ih a4 a5
structure Rm (U : Vw) : Prop where
 inj : ∀ a ∈ U.B, ∀ b ∈ U.B, nm a = nm b → a = b
 B : U.B.length < 60
 V : U.V.length < 240
open Go.Proofs
open Go.Proofs
open Go.Proofs
open Classical in
theorem scan_loop {S R : Type} {step : S → Option (S ⊕ (S ⊕ R))} {n : Nat} (mk : Nat → S) (r0 : R) (P : Nat → Prop) (hs : ∀ j, j < n → step (mk j) = some (.inr (.inr r0)) ∨ (step (mk j) = some (.inl (mk (j + 1))) ∧ P j))
  (he : step (mk n) = some (.inr (.inl (mk n)))) (hn : n < 4000000000000000000) : iter step big (mk 0) = some (.inr r0) ∨ (iter step big (mk 0) = some (.inl (mk n)) ∧ ∀ j, j < n → P j) := by
 have e := search_loop mk (fun j => if step (mk j) = some (.inl (mk (j + 1))) ∧ P j then none else some r0) (fun j hj => by
  by_cases h : step (mk j) = some (.inl (mk (j + 1))) ∧ P j
  ·simp only [if_pos h]; exact h.1
  ·simp only [if_neg h]; exact (hs j hj).resolve_right h) he hn
 rw [e]
 cases h : firstF (fun j => if step (mk j) = some (.inl (mk (j + 1))) ∧ P j then none else some r0) 0 n with
 | none =>
  right;refine ⟨rfl, fun j hj => ?_⟩;have := firstF_none.1 h j (Nat.zero_le _) (by omega);split at this
  ·rename_i h2; exact h2.2
  ·cases this
 | some r =>
  left;obtain ⟨j, -, -, h2, -⟩ := firstF_some h;split at h2
  ·cases h2
  ·cases h2; rfl
theorem F163_eq {l : List Vt} (hl : l.length ≤ 100000) (v : Vt) : F163 l v = some ((l.filter fun y => decide (y = v)).length : Int) := by
 have e := count_loop (step := F163_s1 l v) (n := l.length) (fun k => F163_L1.mk (((l.take k).filter fun y => decide (y = v)).length : Int) (k : Int)) (F163_L1.mk ((l.filter fun y => decide (y = v)).length : Int) (l.length : Int)) (fun k hk => by
  obtain ⟨y, hy, -⟩ := get_of hk;have hf := filter_take_len (p := fun y => decide (y = v)) (l := l) k;unfold F163_s1;simp only;rw [decide_eq_true (show (k : Int) < (l.length : Int) by omega), ct, ix_nat hy, ob, eqVt, filter_len_snoc hy, wrap_succ (n := k) (by omega), wrap_succ (n := _) (by omega)]
  cases decide (y = v) with
  | true => rw [ct, ct]
  | false => rw [cf, cf]; rfl) (by
  unfold F163_s1;simp only
  rw [decide_eq_false (show ¬ (l.length : Int) < (l.length : Int) by omega), cf, List.take_length]) (by omega)
 have e' : iter (F163_s1 l v) big (F163_L1.mk 0 0) = some (F163_L1.mk ((l.filter fun y => decide (y = v)).length : Int) (l.length : Int)) := e;unfold F163;rw [e', ob]
theorem count_zero {l : List Vt} {v : Vt} : (((l.filter fun y => decide (y = v)).length : Int) == 0) = !decide (v ∈ l) := by
 by_cases h : v ∈ l
 ·rw [decide_eq_true h];have : 0 < (l.filter fun y => decide (y = v)).length := List.length_pos_of_mem (List.mem_filter.2 ⟨h, decide_eq_true rfl⟩);rw [beq_eq_false_iff_ne.2 (by omega)]; rfl
 ·rw [decide_eq_false h, List.filter_eq_nil_iff.2 fun y hy he => h (by rw [← of_decide_eq_true he]; exact hy)]; rfl
theorem F141_eq {a b : Vw} (h1 : a.B.length + b.B.length ≤ 90000) (h2 : a.V.length + b.V.length ≤ 90000) : F141 a b = some (joinP a b) := by
 have e1 := count_loop (step := F141_s1 b) (n := b.B.length) (fun k => F141_L1.mk (k : Int) (withP a.B (b.B.take k))) (F141_L1.mk (b.B.length : Int) (withP a.B b.B)) (fun k hk => by
  obtain ⟨y, hy, -⟩ := get_of hk;have hlen := withP_len (b.B.take k) a.B
  have htl : (b.B.take k).length ≤ k := by rw [List.length_take]; omega
  rw [take_succ_getG hy, withP_snoc];generalize withP a.B (b.B.take k) = o at hlen ⊢
  have e := count_loop (step := F141_s2 b (F141_L1.mk (k : Int) o)) (n := o.length) (fun j => F141_L2.mk (decide (y ∈ o.take j)) (j : Int)) (F141_L2.mk (decide (y ∈ o)) (o.length : Int)) (fun j hj => by
   obtain ⟨z, hz, -⟩ := get_of hj;unfold F141_s2;simp only;rw [decide_eq_true (show (j : Int) < (o.length : Int) by omega), ct, wrap_succ (n := j) (by omega), take_succ_getG hz];by_cases hm : y ∈ o.take j
   ·rw [decide_eq_true hm, ct, decide_eq_true (List.mem_append_left _ hm)]
   ·rw [decide_eq_false hm, cf, ix_nat hz, ob, ix_nat hy, ob, eqBk]
    rw [show decide (y ∈ o.take j ++ [z]) = decide (z = y) from decide_eq_decide.2 ⟨fun h => by
     rcases List.mem_append.1 h with h | h
     ·exact absurd h hm
     ·exact (List.mem_singleton.1 h).symm, fun h => List.mem_append_right _ (List.mem_singleton.2 h.symm)⟩]) (by
   unfold F141_s2;simp only
   rw [decide_eq_false (show ¬ (o.length : Int) < (o.length : Int) by omega), cf, List.take_length]) (by omega)
  have e' : iter (F141_s2 b (F141_L1.mk (k : Int) o)) big (F141_L2.mk false 0) = some (F141_L2.mk (decide (y ∈ o)) (o.length : Int)) := e;unfold F141_s1;simp only;rw [decide_eq_true (show (k : Int) < (b.B.length : Int) by omega), ct, e', ob, wrap_succ (n := k) (by omega)];by_cases hm : y ∈ o
  ·simp only [decide_eq_true hm, Bool.not_true, cf, if_pos hm]
  ·simp only [decide_eq_false hm, Bool.not_false, ct, if_neg hm]
   rw [ix_nat hy, ob, room_ok (by simp only [List.length_singleton]; omega) (by omega), ct]) (by
  unfold F141_s1;simp only
  rw [decide_eq_false (show ¬ (b.B.length : Int) < (b.B.length : Int) by omega), cf, List.take_length]) (by omega)
 have e1' : iter (F141_s1 b) big (F141_L1.mk 0 a.B) = some (F141_L1.mk (b.B.length : Int) (withP a.B b.B)) := e1
 have e2 := count_loop (step := F141_s3 b) (n := b.V.length) (fun k => F141_L3.mk (k : Int) (withP a.V (b.V.take k))) (F141_L3.mk (b.V.length : Int) (withP a.V b.V)) (fun k hk => by
  obtain ⟨y, hy, -⟩ := get_of hk;have hlen := withP_len (b.V.take k) a.V
  have htl : (b.V.take k).length ≤ k := by rw [List.length_take]; omega
  rw [take_succ_getG hy, withP_snoc];generalize withP a.V (b.V.take k) = o at hlen ⊢;unfold F141_s3;simp only;rw [decide_eq_true (show (k : Int) < (b.V.length : Int) by omega), ct, ix_nat hy, ob, F163_eq (by omega), ob, count_zero, wrap_succ (n := k) (by omega)];by_cases hm : y ∈ o
  ·simp only [decide_eq_true hm, Bool.not_true, cf, if_pos hm]
  ·simp only [decide_eq_false hm, Bool.not_false, ct, if_neg hm]
   rw [ob, room_ok (by simp only [List.length_singleton]; omega) (by omega), ct]) (by
  unfold F141_s3;simp only
  rw [decide_eq_false (show ¬ (b.V.length : Int) < (b.V.length : Int) by omega), cf, List.take_length]) (by omega)
 have e2' : iter (F141_s3 b) big (F141_L3.mk 0 a.V) = some (F141_L3.mk (b.V.length : Int) (withP a.V b.V)) := e2;unfold F141;rw [room_ok (by omega) (by omega), ct, room_ok (by omega) (by omega), ct, e1', ob, e2', ob];rfl
def SmallV (k : Int) (w : Vw) : Prop := (w.B.length : Int) ≤ k ∧ (w.V.length : Int) ≤ k
def SmallN (k : Int) (n : Nd) : Prop := SmallV k n.V ∧ SmallV k n.In ∧ n.O.length ≤ 10 ∧ ∀ o ∈ n.O, SmallV k o.V
def knownP (n : Nd) : Vw := joinP n.V n.In
theorem known_len {n : Nd} {k : Int} (h : SmallN k n) : ((knownP n).B.length : Int) ≤ 2 * k ∧ ((knownP n).V.length : Int) ≤ 2 * k := by
 obtain ⟨⟨a1, a2⟩, ⟨b1, b2⟩, -⟩ := h;have h1 := withP_len n.In.B n.V.B;have h2 := withP_len n.In.V n.V.V;unfold knownP joinP;simp only;omega
theorem F1051_eq {n : Nd} {k : Int} (h : SmallN k n) (hk : k ≤ 1000) : F1051 n = some (knownP n) := by
 obtain ⟨⟨a1, a2⟩, ⟨b1, b2⟩, -⟩ := h;unfold F1051;rw [F91_eq (by omega) (by omega)]; rfl
def allP (l : List Nd) (w : Vw) : Vw := l.foldl (fun w n => joinP w (knownP n)) w
theorem allP_snoc (l : List Nd) (n : Nd) (w : Vw) : allP (l ++ [n]) w = joinP (allP l w) (knownP n) := by unfold allP; rw [List.foldl_append]; rfl
theorem allP_len {k : Int} : ∀ {l : List Nd} {w : Vw}, (∀ n ∈ l, SmallN k n) → ((allP l w).B.length : Int) ≤ w.B.length + l.length * (2 * k) ∧ ((allP l w).V.length : Int) ≤ w.V.length + l.length * (2 * k)
 | [], w, _ => by simp [allP]
 | n :: r, w, h => by
  have h1 := known_len (h n (.head _));have h2 := allP_len (l := r) (w := joinP w (knownP n)) fun m hm => h m (.tail _ hm);have h3 := withP_len (knownP n).B w.B;have h4 := withP_len (knownP n).V w.V;have e : allP (n :: r) w = allP r (joinP w (knownP n)) := rfl;have e1 : (joinP w (knownP n)).B = withP w.B (knownP n).B := rfl;have e2 : (joinP w (knownP n)).V = withP w.V (knownP n).V := rfl;rw [e, List.length_cons, Int.natCast_add, Int.add_mul];rw [e1, e2] at h2;omega
theorem all_nodup : ∀ {l : List Nd} {w : Vw}, w.B.Nodup → w.V.Nodup → (allP l w).B.Nodup ∧ (allP l w).V.Nodup
 | [], w, h1, h2 => ⟨h1, h2⟩
 | n :: r, w, h1, h2 => all_nodup (l := r) (w := joinP w (knownP n)) (withP_nodup h1) (withP_nodup h2)
theorem FEachA_eqG {k0 : Int} {l : List Nd} {w : Vw} (h0 : 0 ≤ k0) (hk0 : k0 ≤ 1000) (hl : (l.length : Int) * (2 * k0) ≤ 40000) (hl2 : l.length ≤ 100000) (hs : ∀ n ∈ l, SmallN k0 n) (h1 : w.B.length ≤ 1000) (h2 : w.V.length ≤ 1000) : FEachA l w = some (allP l w) := by
 have e := count_loop (step := FEachA_s1 l) (n := l.length) (fun k => FEachA_L1.mk (k : Int) (allP (l.take k) w)) (FEachA_L1.mk (l.length : Int) (allP l w)) (fun k hk => by
  obtain ⟨y, hy, hm⟩ := get_of hk
  have et : l.take (k + 1) = l.take k ++ [y] := by rw [List.take_add_one, hy]; rfl
  have hsy := hs y hm;have hlen := allP_len (l := l.take k) (w := w) fun m hm => hs m (List.mem_of_mem_take hm);rw [List.length_take] at hlen;have hkn := known_len hsy;have hmul : ((Min.min k l.length : Nat) : Int) * (2 * k0) ≤ l.length * (2 * k0) := Int.mul_le_mul_of_nonneg_right (by omega) (by omega);unfold FEachA_s1;simp only;rw [decide_eq_true (show (k : Int) < (l.length : Int) by omega), ct, ix_nat hy, ob, et, allP_snoc, wrap_succ (n := k) (by omega)];unfold FAll1;rw [F1051_eq hsy (by omega), ob, F91_eq (by omega) (by omega), ob]
  rfl) (by
  unfold FEachA_s1;simp only
  rw [decide_eq_false (show ¬ (l.length : Int) < (l.length : Int) by omega), cf, List.take_length]) (by omega)
 have e' : iter (FEachA_s1 l) big (FEachA_L1.mk 0 w) = _ := e;unfold FEachA;rw [e', ob]
theorem F1031_eqG {l : List Nd} (hl : l.length ≤ 40) (hs : ∀ n ∈ l, SmallN 500 n) : F1031 l = some (allP l ⟨[], []⟩) := by
 unfold F1031;rw [FEachA_eqG (k0 := 500) (by omega) (by omega) (by omega) (by omega) hs (Nat.zero_le _) (Nat.zero_le _)]; rfl
theorem withP_nil {α : Type} [DecidableEq α] {l : List α} (h : l.Nodup) : withP [] l = l := by
 have key : ∀ k, k ≤ l.length → withP [] (l.take k) = l.take k := by
  intro k
  induction k with
  | zero => intro _; rfl
  | succ k ih =>
   intro hk;obtain ⟨y, hy, -⟩ := get_of (l := l) (n := k) (by omega)
   have ht : l.take (k + 1) = l.take k ++ [y] := by rw [List.take_add_one, hy]; rfl
   have hn : y ∉ l.take k := fun hm => by
    have h2 : (l.take (k + 1)).Nodup := h.sublist (List.take_sublist _ _);rw [ht, List.nodup_append] at h2;exact h2.2.2 y hm y (List.mem_singleton.2 Z) Z
   rw [ht, withP_snoc, ih (by omega), if_neg hn]
 have := key l.length (Nat.le_refl _)
 rwa [List.take_length] at this
theorem join_sub {a b : Vw} (h1 : ∀ x ∈ b.B, x ∈ a.B) (h2 : ∀ x ∈ b.V, x ∈ a.V) : joinP a b = a := by
 unfold joinP;rw [withP_sub h1, withP_sub h2]
theorem F1089_eq {l : List Int} (hl : l.length ≤ 100000) (v : Int) : F1089 l v = some (decide (v ∈ l)) := by
 have e := search_loop (step := F1103_s1 l v) (n := l.length) (fun k => F1103_L1.mk (k : Int)) (hasAt l v) (fun j hj => by
  obtain ⟨y, hy, -⟩ := get_of hj;unfold F1103_s1 hasAt;simp only;rw [decide_eq_true (show (j : Int) < (l.length : Int) by omega), ct, ix_nat hy, ob, wrap_succ (n := j) (by omega), hy];by_cases h : v = y
  ·rw [beq_iff_eq.2 h, ct, if_pos (by rw [h])]
  ·rw [beq_eq_false_iff_ne.2 h, cf, if_neg (fun e => h (Option.some.inj e).symm)]) (by
  unfold F1103_s1;simp only
  rw [decide_eq_false (show ¬ (l.length : Int) < (l.length : Int) by omega), cf]) (by omega)
 unfold F1089 F1103;rw [← hasAt_first];have e' : iter (F1103_s1 l v) big (F1103_L1.mk 0) = some (outF (F1103_L1.mk (l.length : Int)) (firstF (hasAt l v) 0 l.length)) := e;rw [e', ob]
 cases h : firstF (hasAt l v) 0 l.length with
 | none => rw [outF, sl, ob]; rfl
 | some r => rw [outF, sr, ob, decide_eq_true (hasAt_nn h)]; rfl
def inC (cm : List Int) (v : Vt) : Bool := decide (v.From ∈ cm)
theorem F1076_eq {cm : List Int} (hl : cm.length ≤ 100000) (v : Vt) : F1076 cm v = some (!inC cm v) := by
 unfold F1076;rw [F1089_eq hl, ob];rfl
theorem F158G_eq {l : List Vt} {cm : List Int} (hc : cm.length ≤ 100000) (hl : l.length ≤ 100000) :
  ∃ i, F158G l l.length cm = some i ∧ ((i = -1 ∧ l.filter (inC cm) = l) ∨ ∃ j : Nat, i = j ∧ j < l.length ∧ (l.take (j + 1)).filter (inC cm) = l.take j) := by
 unfold F158G
 have key := iter_inv (step := F158G_s1 l l.length cm) (fun x => ∃ j : Nat, j ≤ l.length ∧ x.t8 = j ∧ (l.take j).filter (inC cm) = l.take j) (fun x => l.length - x.t8.toNat)
  (fun b => (∃ x, b = .inl x ∧ l.filter (inC cm) = l) ∨ ∃ j : Nat, b = .inr (j : Int) ∧ j < l.length ∧ (l.take (j + 1)).filter (inC cm) = l.take j) (by
   rintro ⟨t⟩ ⟨j, hj, h1, h2⟩;simp only at h1 h2;subst h1;by_cases hlt : j < l.length
   ·obtain ⟨y, hy, -⟩ := get_of hlt;have hsn := filter_take_snoc (p := inC cm) hy
    have hstep : F158G_s1 l l.length cm ⟨(j : Int)⟩ = bif !inC cm y then some (.inr (.inr (j : Int))) else some (.inl ⟨((j + 1 : Nat) : Int)⟩) := by
     unfold F158G_s1;simp only;rw [decide_eq_true (show (j : Int) < (l.length : Int) by omega), ct, List.take_length, ix_nat hy, ob, F1076_eq hc, ob, wrap_succ (n := j) (by omega)]
    rw [h2] at hsn
    cases hp : inC cm y with
    | true =>
     rw [hp, Bool.not_true, cf] at hstep;rw [hp, ct] at hsn;exact .inl ⟨_, hstep, ⟨j + 1, by omega, rfl, by rw [hsn, take_one hy]⟩, by simp only; omega⟩
    | false =>
     rw [hp, Bool.not_false, ct] at hstep;rw [hp, cf, List.append_nil] at hsn;exact .inr ⟨_, hstep, .inr ⟨j, rfl, hlt, hsn⟩⟩
   ·right
    obtain rfl : j = l.length := by omega
    refine ⟨.inl ⟨(l.length : Int)⟩, ?_, .inl ⟨_, rfl, ?_⟩⟩
    ·unfold F158G_s1;simp only;rw [decide_eq_false (show ¬ (l.length : Int) < (l.length : Int) by omega), cf]
    ·rw [List.take_length] at h2; exact h2) (n := big) (x := ⟨0⟩) ⟨0, by omega, rfl, by simp⟩ (big_gt (by simp only; omega))
 obtain ⟨b, e, ⟨x, rfl, h1⟩ | ⟨j, rfl, h0, h1⟩⟩ := key
 ·exact ⟨-1, by rw [e, ob, sl], .inl ⟨rfl, h1⟩⟩
 ·exact ⟨j, by rw [e, ob, sr], .inr ⟨j, rfl, h0, h1⟩⟩
theorem F138G_eq {l : List Vt} {cm : List Int} (hc : cm.length ≤ 100000) (hl : l.length ≤ 100000) : ∃ k' l', F138G l l.length cm = some (k', l') ∧ PreL l' k' (l.filter (inC cm)) := by
 obtain ⟨i, e0, h0⟩ := F158G_eq hc hl;unfold F138G;rw [e0, ob];rcases h0 with ⟨rfl, hp⟩ | ⟨j0, rfl, hj0, hp⟩
 ·rw [hp, show ((-1 : Int) == -1) = true from rfl, ct];exact ⟨_, _, rfl, List.take_length, Nat.le_refl _⟩
 ·rw [show ((j0 : Int) == -1) = false by rw [beq_eq_false_iff_ne]; omega, cf, wrap_succ (n := j0) (by omega)]
  have key := iter_inv (step := F138G_s1 l.length cm) (fun x => ∃ (i j : Nat), x.i = i ∧ x.j = j ∧ Mv l x.o1 i j ((l.take j).filter (inC cm))) (fun x => l.length - x.j.toNat)
   (fun x => ∃ i : Nat, x.i = i ∧ i ≤ l.length ∧ x.o1.take i = l.filter (inC cm) ∧ l.length ≤ x.o1.length) (by
   rintro ⟨i', j', a⟩ ⟨i, j, h1, h2, h5⟩;simp only at h1 h2 h5;subst h1 h2;have hij := h5.ij;have hjl := h5.jl;have hal := h5.len;by_cases hlt : j < l.length
   ·left;obtain ⟨y, hy, -⟩ := get_of hlt
    have hya : (a.take l.length)[j]? = some y := by rw [List.getElem?_take_of_lt hlt, h5.rest j (Nat.le_refl _) (by omega), hy]
    obtain ⟨z, hz, -⟩ := get_of (l := a.take l.length) (n := i) (by rw [List.length_take]; omega);have hsn := filter_take_snoc (p := inC cm) hy
    have hstep : F138G_s1 l.length cm ⟨(i : Int), (j : Int), a⟩ = bif inC cm y then some (.inl ⟨((i + 1 : Nat) : Int), ((j + 1 : Nat) : Int), a.set i y⟩) else some (.inl ⟨(i : Int), ((j + 1 : Nat) : Int), a⟩) := by
     unfold F138G_s1;simp only;rw [decide_eq_true (show (j : Int) < (l.length : Int) by omega), ct, ix_nat hya, ob, F1076_eq hc, ob, ix_nat hz, ob, wrap_succ (n := j) (by omega), wrap_succ (n := i) (by omega), Int.toNat_natCast, Bool.not_not]
    cases hp : inC cm y with
    | false =>
     rw [hp, cf] at hstep;rw [hp, cf, List.append_nil] at hsn;refine ⟨_, hstep, ⟨i, j + 1, rfl, rfl, ?_⟩, by simp only; omega⟩;rw [hsn];exact h5.next_gone (by omega)
    | true =>
     rw [hp, ct] at hstep;rw [hp, ct] at hsn;refine ⟨_, hstep, ⟨i + 1, j + 1, rfl, rfl, ?_⟩, by simp only; omega⟩;rw [hsn];exact h5.next_stay (by omega) hy
   ·right
    have hjk : j = l.length := by omega
    have htl : l.take j = l := List.take_of_length_le (by omega);rw [htl] at h5;refine ⟨⟨(i : Int), (j : Int), a⟩, ?_, i, rfl, by omega, h5.left, by show l.length ≤ a.length; omega⟩;unfold F138G_s1;simp only
    rw [decide_eq_false (show ¬ (j : Int) < (l.length : Int) by omega), cf]) (n := big) (x := ⟨(j0 : Int), ((j0 + 1 : Nat) : Int), l⟩)
   ⟨j0, j0 + 1, rfl, rfl, by
    rw [hp]
    exact ⟨by omega, by omega, Nat.le_refl _, rfl, fun q h1 h2 => rfl⟩⟩ (big_gt (by simp only; omega))
  obtain ⟨x, ex, i, hi, hik, h2, h3⟩ := key;rw [ex, ob, hi, decide_eq_true (show 0 ≤ (i : Int) ∧ (i : Int) ≤ (l.length : Int) by omega), ct, Int.toNat_natCast, decide_eq_true (show i + (l.length - i) ≤ x.o1.length by omega), ct, ct];exact ⟨_, _, rfl, clr_pre hik h3 h2⟩
def goldP (c : Cf) (v : List Vt) (slot : Int) : List Vt := (ofV v slot).filter (inC (cmP c slot))
theorem of_len (v : List Vt) (slot : Int) : (ofV v slot).length ≤ v.length := by
 unfold ofV;rw [(sortV_perm _).length_eq];exact Nat.le_trans (List.length_filterMap_le _ _) (book_keys v).2
theorem gold_len (c : Cf) (v : List Vt) (slot : Int) : (goldP c v slot).length ≤ v.length := Nat.le_trans (List.length_filter_le _ _) (of_len v slot)
theorem F1064_eq {v : List Vt} (hv : v.length ≤ 90000) (c : Cf) (slot : Int) : F1064 c v slot = some (goldP c v slot) := by
 have hl := of_len v slot;have hc := cm_len c slot;obtain ⟨k', l', e, hp⟩ := F138G_eq (l := ofV v slot) (cm := cmP c slot) (by omega) (by omega);unfold F1064 FOfV;rw [show Nat.ble v.length 90000 = true from Nat.ble_eq_true_of_le hv, ct, ob, F65_eq, ob, List.length_map, e, ob];simp only;rw [show Nat.ble k' l'.length = true from Nat.ble_eq_true_of_le hp.le, ct, hp.take];rfl
theorem F1048_eq {w : Vw} (h1 : w.B.length ≤ 1000) (h2 : w.V.length ≤ 1000) (c : Cf) (slot : Int) : F1048 c w slot = some (headP c w.B (goldP c w.V slot)) := by
 have hg := gold_len c w.V slot;unfold F1048;rw [F1064_eq (by omega), ob, F81_eq h1 (by omega), ob]
theorem F1058_eq (n : Int) : F1058 n = some (decide (0 ≤ n ∧ n ≤ 4611686018427387904)) := by
 unfold F1058;by_cases h : 0 ≤ n
 ·rw [decide_eq_true (show n ≥ 0 from h), ct]; congr 1; exact decide_eq_decide.2 ⟨fun h2 => ⟨h, h2⟩, fun h2 => h2.2⟩
 ·rw [decide_eq_false (show ¬ n ≥ 0 from h), cf, decide_eq_false fun h2 => h h2.1]
theorem FIxf_ok {l : List Int} (hl : l.length ≤ 1000) (h : ∀ x ∈ l, 0 ≤ x ∧ x ≤ 4611686018427387904) : F1042 l = some true := by
 have e := count_loop (step := FIxf_s1 l) (n := l.length) (fun k => FIxf_L1.mk (k : Int)) (.inl (FIxf_L1.mk (l.length : Int))) (fun k hk => by
  obtain ⟨y, hy, hm⟩ := get_of hk;unfold FIxf_s1 F1057;simp only
  rw [decide_eq_true (show (k : Int) < (l.length : Int) by omega), ct, ix_nat hy, ob, F1058_eq, ob, ob, decide_eq_true (h y hm), Bool.not_true, cf, wrap_succ (n := k) (by omega)]) (by
  unfold FIxf_s1;simp only
  rw [decide_eq_false (show ¬ (l.length : Int) < (l.length : Int) by omega), cf]) (by omega)
 have e' : iter (FIxf_s1 l) big (FIxf_L1.mk 0) = _ := e;unfold F1042 FCf FIxf;rw [e', ob, sl, ob, ob];rfl
theorem band_mask {x : Int} (h0 : 0 ≤ x) (h1 : x ≤ 18446744073709551615) : bits .and .u64 x 4294967295 = x % 4294967296 := by
 obtain ⟨n, rfl⟩ : ∃ n : Nat, x = n := ⟨x.toNat, by omega⟩;have e : bits .and .u64 (n : Int) 4294967295 = IntKind.u64.wrap ((BitVec.ofInt 64 (n : Int) &&& BitVec.ofInt 64 4294967295).toNat : Int) := rfl
 have e2 : (BitVec.ofInt 64 4294967295).toNat = 2 ^ 32 - 1 := by decide
 have e3 : (BitVec.ofInt 64 (n : Int)).toNat = n := by
  rw [BitVec.toNat_ofInt]; omega
 rw [e, BitVec.toNat_and, e2, e3, Nat.and_two_pow_sub_one_eq_mod, wrapU (by omega) (by omega)];omega
theorem F1059_small {x y : Int} (hx : 0 ≤ x) (hx1 : x ≤ 26388279066624) (hy : 0 ≤ y) (hy1 : y ≤ 3000) : F1059 x y = some (0, x * y) := by
 have e : ∀ z, IntKind.u64.wrap z = z % 18446744073709551616 := fun z => rfl
 have hp : ((2 : Int) ^ (min (Int.toNat 32) IntKind.u64.bits)) = 4294967296 := by decide
 have hd : ∀ z : Int, z.fdiv 4294967296 = z / 4294967296 := fun z => Int.fdiv_eq_ediv_of_nonneg z (by omega)
 have h0 : y / 4294967296 = 0 := by omega
 have h1 : y % 4294967296 = y := by omega
 unfold F1059;rw [hp, hd, hd, hd, hd, hd, band_mask (x := y) hy (by omega), band_mask (x := x) hx (by omega), h0, h1];have a1 : 0 ≤ x / 4294967296 * y := Int.mul_nonneg (by omega) hy;have a2 : x / 4294967296 * y ≤ 6144 * 3000 := Int.mul_le_mul (by omega) hy1 hy (by omega);have a3 : 0 ≤ x % 4294967296 * y := Int.mul_nonneg (by omega) hy;have a4 : x % 4294967296 * y ≤ 4294967295 * 3000 := Int.mul_le_mul (by omega) hy1 hy (by omega);have a5 : 0 ≤ x * y := Int.mul_nonneg hx hy;have a6 : x * y ≤ 26388279066624 * 3000 := Int.mul_le_mul hx1 hy1 hy (by omega);rw [Int.mul_zero, Int.mul_zero];generalize x / 4294967296 * y = q at a1 a2 ⊢;generalize x % 4294967296 * y = p at a3 a4 ⊢;generalize x * y = r at a5 a6 ⊢
 have ht : IntKind.u64.wrap (IntKind.u64.wrap q + IntKind.u64.wrap p / 4294967296) = q + p / 4294967296 := by simp only [e]; omega
 rw [ht, band_mask (by omega) (by omega)];refine congrArg some (Prod.ext ?_ ?_)
 ·simp only [e]; omega
 ·simp only [e]; omega
theorem F1026_eq {a b c d : Int} (ha : 0 ≤ a ∧ a ≤ 26388279066624) (hb : 0 ≤ b ∧ b ≤ 3000) (hc : 0 ≤ c ∧ c ≤ 26388279066624) (hd : 0 ≤ d ∧ d ≤ 3000) : F1026 a b c d = some (decide (a * b > c * d)) := by
 unfold F1026;rw [FIxf_ok (by simp) (by simp; omega), ob, Bool.not_true, cf];unfold F1043;rw [wrapU ha.1 (by omega), wrapU hb.1 (by omega), wrapU hc.1 (by omega), wrapU hd.1 (by omega), F1059_small ha.1 ha.2 hb.1 hb.2, ob, ob, F1059_small hc.1 hc.2 hd.1 hd.2, ob, ob];simp only;rw [F151_two, ob];generalize a * b = x;generalize c * d = y;unfold cmpI;by_cases h : x = y
 ·subst h; simp
 ·have hb : (x == y) = false := beq_eq_false_iff_ne.2 h;by_cases h2 : x > y
  ·simp [hb, h2, show ¬ x < y by omega]
  ·simp [hb, h2, show x < y by omega]
def zOf : Of := Of.mk 0 0 (Bk.mk 0 0 (0, 0) 0) (Vw.mk [] [])
theorem FGrow_eq {n : Nat} (hn : n ≤ 1000) : FGrow (n : Int) = some (List.replicate n zOf) := by
 have e : IntKind.i64.wrap ((n : Int) - (IntKind.i64.wrap (0 - 0))) = n := by
  rw [show IntKind.i64.wrap (0 - 0) = 0 from by decide, wrapI (by omega) (by omega)]; omega
 unfold FGrow;rw [decide_eq_false (show ¬ (n : Int) < 0 by omega), cf, e];by_cases h0 : (n : Int) > 0
 ·rw [decide_eq_true h0, ct, show mkOk (n : Int) 104 = true from decide_eq_true (by omega), ct];simp [zOf]
 ·rw [decide_eq_false h0, cf]
  obtain rfl : n = 0 := by omega
  rfl
theorem F3095_eq {a b : List Of} (h : a.length + b.length ≤ 1000) : F3095 [a, b] = some (a ++ b) := by
 have e1 := count_loop (step := F3095_s1 [a, b]) (n := 2) (fun k => match k with | 0 => F3095_L1.mk 0 0 | 1 => F3095_L1.mk (a.length : Int) 1 | _ => F3095_L1.mk ((a.length + b.length : Nat) : Int) 2) (F3095_L1.mk ((a.length + b.length : Nat) : Int) 2) (fun k hk => by
  match k, hk with
  | 0, _ =>
   unfold F3095_s1;simp only;rw [decide_eq_true (show (0 : Int) < (([a, b] : List (List Of)).length : Int) by simp), ct, show ix [a, b] 0 = some a from rfl, ob, wrapI (by omega) (by omega), decide_eq_false (show ¬ (0 : Int) + (a.length : Int) < 0 by omega), cf, Int.zero_add];rfl
  | 1, _ =>
   unfold F3095_s1;simp only;rw [decide_eq_true (show (1 : Int) < (([a, b] : List (List Of)).length : Int) by simp), ct, show ix [a, b] 1 = some b from rfl, ob, wrapI (by omega) (by omega), decide_eq_false (show ¬ (a.length : Int) + (b.length : Int) < 0 by omega), cf, Int.natCast_add]
   rfl) (by
  unfold F3095_s1;simp only
  rw [decide_eq_false (show ¬ (2 : Int) < (([a, b] : List (List Of)).length : Int) by simp), cf]) (by omega)
 have e1' : iter (F3095_s1 [a, b]) big (F3095_L1.mk 0 0) = _ := e1;obtain ⟨r, hr⟩ : ∃ r, r = List.replicate (a.length + b.length) zOf := ⟨_, rfl⟩
 have hrl : r.length = a.length + b.length := by rw [hr]; simp
 have p1 : putL r 0 a = a ++ r.drop a.length := by unfold putL; simp
 have p1l : (putL r 0 a).length = a.length + b.length := by rw [p1]; simp; omega
 have p2 : (putL (putL r 0 a) a.length b).take (a.length + b.length) = a ++ b := by
  have e : (putL r 0 a).take a.length = a := by rw [p1, List.take_left']; rfl
  unfold putL at e ⊢;rw [e, List.take_left'];simp
 have p2l : (putL (putL r 0 a) a.length b).length = a.length + b.length := by rw [putL_len (by rw [p1l]; omega), p1l]
 have e2 := count_loop (step := F3095_s2 [a, b]) (n := 2) (fun k => match k with | 0 => F3095_L2.mk 0 0 r | 1 => F3095_L2.mk a.length 1 (putL r 0 a) | _ => F3095_L2.mk (a.length + b.length) 2 (putL (putL r 0 a) a.length b)) (F3095_L2.mk (a.length + b.length) 2 (putL (putL r 0 a) a.length b)) (fun k hk => by
  match k, hk with
  | 0, _ =>
   unfold F3095_s2;simp only;rw [decide_eq_true (show (0 : Int) < (([a, b] : List (List Of)).length : Int) by simp), ct, show ix [a, b] 0 = some a from rfl, ob, decide_eq_true (show 0 + a.length ≤ r.length by omega), ct, Nat.zero_add];rfl
  | 1, _ =>
   unfold F3095_s2;simp only;rw [decide_eq_true (show (1 : Int) < (([a, b] : List (List Of)).length : Int) by simp), ct, show ix [a, b] 1 = some b from rfl, ob, decide_eq_true (show a.length + b.length ≤ (putL r 0 a).length by omega), ct]
   rfl) (by
  unfold F3095_s2;simp only
  rw [decide_eq_false (show ¬ (2 : Int) < (([a, b] : List (List Of)).length : Int) by simp), cf]) (by omega)
 have e2' : iter (F3095_s2 [a, b]) big (F3095_L2.mk 0 0 r) = _ := e2;unfold F3095;rw [e1', ob];simp only;rw [FGrow_eq h, ob, ← hr, e2', ob];simp only;rw [show Nat.ble (a.length + b.length) (putL (putL r 0 a) a.length b).length = true from Nat.ble_eq_true_of_le (by omega), ct, p2]
def SmallO (o : Of) : Prop := o.V.B.length ≤ 1000 ∧ o.V.V.length ≤ 1000
theorem F3051_eq {v : Vw} (h1 : v.B.length ≤ 1000) (h2 : v.V.length ≤ 1000) : F3051 v = some v := by
 unfold F3051;rw [room_ok (by omega) (by omega), ct, room_ok (by omega) (by omega), ct]
theorem F3052_eq {o : Of} (h : SmallO o) : F3052 o = some o := by
 unfold F3052;rw [F3051_eq h.1 h.2];rfl
def okO (t : Int) (c : Cf) (slot : Int) (o : Of) : Bool := decide (¬ t.tmod 3 = 2 ∧ o.Slot = slot ∧ o.From = prP c slot)
def stepH (t : Int) (c : Cf) (slot : Int) (s : List Of × Bool) (o : Of) : List Of × Bool := if okO t c slot o = true then (if s.1.length = 8 then (s.1, true) else (s.1 ++ [o], s.2)) else s
def hearP (t : Int) (c : Cf) (slot : Int) (full : Bool) (l : List Of) : List Of × Bool := l.foldl (stepH t c slot) ([], full)
theorem hear_snoc (t : Int) (c : Cf) (slot : Int) (full : Bool) (l : List Of) (o : Of) : hearP t c slot full (l ++ [o]) = stepH t c slot (hearP t c slot full l) o := by unfold hearP; rw [List.foldl_append]; rfl
theorem hear_go {t : Int} {c : Cf} {slot : Int} : ∀ (l : List Of) (s : List Of × Bool), s.1.length ≤ 8 → (l.foldl (stepH t c slot) s).1.length ≤ 8 ∧ (∀ o ∈ (l.foldl (stepH t c slot) s).1, o ∈ s.1 ∨ (o ∈ l ∧ okO t c slot o = true)) ∧ (s.2 = true → (l.foldl (stepH t c slot) s).2 = true)
 | [], s, h => ⟨h, fun o ho => .inl ho, id⟩
 | x :: r, s, h => by
  rw [List.foldl_cons]
  have hs : (stepH t c slot s x).1.length ≤ 8 ∧ (∀ o ∈ (stepH t c slot s x).1, o ∈ s.1 ∨ (o = x ∧ okO t c slot o = true)) ∧ (s.2 = true → (stepH t c slot s x).2 = true) := by
   unfold stepH;split
   ·rename_i hk;split
    ·exact ⟨h, fun o ho => .inl ho, fun _ => rfl⟩
    ·refine ⟨by simp only [List.length_append, List.length_singleton]; omega, fun o ho => ?_, id⟩;rcases List.mem_append.1 ho with ho | ho
     ·exact .inl ho
     ·rw [List.mem_singleton] at ho; subst ho; exact .inr ⟨rfl, hk⟩
   ·exact ⟨h, fun o ho => .inl ho, id⟩
  obtain ⟨h1, h2, h3⟩ := hear_go r (stepH t c slot s x) hs.1;refine ⟨h1, fun o ho => ?_, fun e => h3 (hs.2.2 e)⟩;rcases h2 o ho with h4 | ⟨h4, h5⟩
  ·rcases hs.2.1 o h4 with h5 | ⟨rfl, h5⟩
   ·exact .inl h5
   ·exact .inr ⟨.head _, h5⟩
  ·exact .inr ⟨.tail _ h4, h5⟩
theorem hear_facts (t : Int) (c : Cf) (slot : Int) (full : Bool) (l : List Of) : (hearP t c slot full l).1.length ≤ 8 ∧ (∀ o ∈ (hearP t c slot full l).1, o ∈ l ∧ okO t c slot o = true) ∧ (full = true → (hearP t c slot full l).2 = true) := by
 obtain ⟨h1, h2, h3⟩ := hear_go (t := t) (c := c) (slot := slot) l ([], full) (by simp);refine ⟨h1, fun o ho => ?_, h3⟩;rcases h2 o ho with h4 | h4
 ·simp at h4
 ·exact h4
theorem FHear_eq {l : List Of} {x : Nd} {c : Cf} {slot : Int} (hl : x.O.length + l.length ≤ 1000) (hs : ∀ o ∈ x.O ++ l, SmallO o) : FHear l x c slot = some (hearP x.Tick c slot x.Full (x.O ++ l)) := by
 unfold FHear;rw [F3095_eq hl, ob];generalize hL : x.O ++ l = L at hs
 have hLl : L.length ≤ 1000 := by rw [← hL, List.length_append]; omega
 have e := count_loop (step := FHear_s1 x c slot L) (n := L.length) (fun k => FHear_L1.mk (k : Int) (hearP x.Tick c slot x.Full (L.take k)).2 (hearP x.Tick c slot x.Full (L.take k)).1) (FHear_L1.mk (L.length : Int) (hearP x.Tick c slot x.Full L).2 (hearP x.Tick c slot x.Full L).1) (fun k hk => by
  obtain ⟨y, hy, hm⟩ := get_of hk
  have et : L.take (k + 1) = L.take k ++ [y] := by rw [List.take_add_one, hy]; rfl
  have hf := hear_facts x.Tick c slot x.Full (L.take k);unfold FHear_s1;simp only;rw [decide_eq_true (show (k : Int) < (L.length : Int) by omega), ct, ix_nat hy, ob, et, hear_snoc, wrap_succ (n := k) (by omega)];generalize hearP x.Tick c slot x.Full (L.take k) = s at hf ⊢
  have hgate : (bif (x.Tick.tmod 3) == 2 then some ((x.Tick.tmod 3) == 2) else bif y.Slot != slot then some (y.Slot != slot) else (F63 c slot).bind fun v4 => some (y.From != v4)) = some (!okO x.Tick c slot y) := by
   rw [F63_eq, ob];unfold okO;by_cases h1 : x.Tick.tmod 3 = 2
   ·rw [beq_iff_eq.2 h1, ct, decide_eq_false fun h => h.1 h1]; rfl
   ·rw [beq_eq_false_iff_ne.2 h1, cf];by_cases h2 : y.Slot = slot
    ·rw [show (y.Slot != slot) = false by simp [h2], cf];by_cases h3 : y.From = prP c slot
     ·rw [show (y.From != prP c slot) = false by simp [h3], decide_eq_true ⟨h1, h2, h3⟩]; rfl
     ·rw [show (y.From != prP c slot) = true by simp [h3], decide_eq_false fun h => h3 h.2.2]; rfl
    ·rw [show (y.Slot != slot) = true by simp [h2], ct, decide_eq_false fun h => h2 h.2.1]; rfl
  rw [hgate, ob];unfold stepH
  cases hk2 : okO x.Tick c slot y with
  | false => rw [Bool.not_false, ct]; rfl
  | true =>
   rw [Bool.not_true, cf, if_pos rfl];by_cases h8 : s.1.length = 8
   ·rw [show ((s.1.length : Int) == 8) = true by simp [h8], ct, if_pos h8]
   ·rw [show ((s.1.length : Int) == 8) = false by rw [beq_eq_false_iff_ne]; omega, cf, F3052_eq (hs y hm), ob, room_ok (by simp only [List.length_singleton]; omega) (by omega), ct, if_neg h8]) (by
  unfold FHear_s1;simp only
  rw [decide_eq_false (show ¬ (L.length : Int) < (L.length : Int) by omega), cf, List.take_length]) (by omega)
 have e' : iter (FHear_s1 x c slot L) big (FHear_L1.mk 0 x.Full []) = _ := e;rw [e', ob]
theorem take_size (c : Cf) (w i : Vw) (s : Int) : w.B.length ≤ (takeP c w i s).1.B.length ∧ (takeP c w i s).1.B.length ≤ w.B.length + 60 ∧ w.V.length ≤ (takeP c w i s).1.V.length ∧ (takeP c w i s).1.V.length ≤ w.V.length + 240 ∧ (takeP c w i s).2.1.B.length ≤ i.B.length ∧ (takeP c w i s).2.1.V.length ≤ i.V.length := by
 by_cases h : MayW c w
 ·have ht := took h i s;have hl := took_len ht;have h1 := ht.may.lenB;have h2 := ht.may.lenV;omega
 ·have e : takeP c w i s = (w, i, false) := by unfold takeP; rw [if_neg h]
  rw [e];simp only;omega
theorem FCount_eq {inp : Vw} {c : Cf} {slot : Int} {v : Vw} {full : Bool} (h1 : v.B.length ≤ 1000) (h2 : v.V.length ≤ 1000) (h3 : inp.B.length ≤ 800) (h4 : inp.V.length ≤ 600) :
  FCount inp c slot v full = some ((takeP c v inp slot).2.1, (takeP c v inp slot).1, full || (takeP c v inp slot).2.2) := by
 unfold FCount;rw [F90_eq h1 h2 h3 h4, ob];cases full <;> rfl
theorem take_max (c : Cf) (w i : Vw) (s : Int) : (takeP c w i s).1.B.length ≤ max w.B.length 60 ∧ (takeP c w i s).1.V.length ≤ max w.V.length 240 := by
 by_cases h : MayW c w
 ·have ht := took h i s;have h1 := ht.may.lenB;have h2 := ht.may.lenV;omega
 ·have e : takeP c w i s = (w, i, false) := by unfold takeP; rw [if_neg h]
  rw [e];simp only;omega
theorem Vw.eta (w : Vw) : Vw.mk w.B w.V = w := rfl
noncomputable def propB (x : Nd) (c : Cf) (slot : Int) : Bk := ⟨slot, x.No, headP c (takeP c x.V x.In slot).1.B (goldP c (takeP c x.V x.In slot).1.V (IntKind.i64.wrap (slot - 1))), 0⟩
noncomputable def firstP (x : Nd) (c : Cf) (slot : Int) : Vw × Vw × Bool × List Of :=
 if x.No = prP c slot then
  ((takeP c (takeP c x.V x.In slot).1 ⟨[propB x c slot], []⟩ slot).1, (takeP c x.V x.In slot).2.1, (x.Full || (takeP c x.V x.In slot).2.2) || (takeP c (takeP c x.V x.In slot).1 ⟨[propB x c slot], []⟩ slot).2.2, [⟨slot, x.No, propB x c slot, (takeP c x.V x.In slot).1⟩])
 else (x.V, x.In, x.Full, [])
theorem FFirst_eq {x : Nd} {c : Cf} {slot : Int} (h1 : x.V.B.length ≤ 500) (h2 : x.V.V.length ≤ 500) (h3 : x.In.B.length ≤ 500) (h4 : x.In.V.length ≤ 500) : FFirst x c slot [] = some (firstP x c slot) := by
 have hm := take_max c x.V x.In slot;unfold FFirst firstP;rw [F63_eq, ob];by_cases h : x.No = prP c slot
 ·rw [show (x.No != prP c slot) = false by simp [h], cf, if_pos h, FCount_eq (by omega) (by omega) (by omega) (by omega), ob];simp only;rw [F1048_eq (by omega) (by omega), ob];have hs : SmallO (Of.mk slot x.No (Bk.mk slot x.No (headP c (takeP c x.V x.In slot).1.B (goldP c (takeP c x.V x.In slot).1.V (IntKind.i64.wrap (slot - 1)))) 0) (takeP c x.V x.In slot).1) := ⟨by show (takeP c x.V x.In slot).1.B.length ≤ 1000; omega, by show (takeP c x.V x.In slot).1.V.length ≤ 1000; omega⟩;rw [F3052_eq hs, ob];unfold F3098;rw [ob, FCount_eq (by omega) (by omega) (by simp) (by simp), ob];rfl
 ·rw [show (x.No != prP c slot) = true by simp [h], ct, if_neg h]
noncomputable def secStep (c : Cf) (slot : Int) (s : Vw × Vw × Bool) (o : Of) : Vw × Vw × Bool :=
 ((takeP c s.1 (joinP o.V ⟨[o.B], []⟩) slot).1, joinP s.2.1 (takeP c s.1 (joinP o.V ⟨[o.B], []⟩) slot).2.1, s.2.2 || (takeP c s.1 (joinP o.V ⟨[o.B], []⟩) slot).2.2)
noncomputable def secFold (x : Nd) (o : List Of) (c : Cf) (slot : Int) : Vw × Vw × Bool := o.foldl (secStep c slot) (x.V, x.In, x.Full)
noncomputable def secondP (x : Nd) (o : List Of) (c : Cf) (slot : Int) : Vw × Vw × Bool :=
 if x.No ∈ cmP c slot then
  ((secFold x o c slot).1, joinP (secFold x o c slot).2.1 ⟨[], [⟨x.No, slot, headP c (secFold x o c slot).1.B (goldP c (secFold x o c slot).1.V (IntKind.i64.wrap (slot - 1)))⟩]⟩, (secFold x o c slot).2.2)
 else secFold x o c slot
theorem sec_snoc (x : Nd) (o : List Of) (c : Cf) (slot : Int) (y : Of) : secFold x (o ++ [y]) c slot = secStep c slot (secFold x o c slot) y := by unfold secFold; rw [List.foldl_append]; rfl
theorem lone_len (o : Of) : (joinP o.V ⟨[o.B], []⟩).B.length ≤ o.V.B.length + 1 ∧ (joinP o.V ⟨[o.B], []⟩).V.length ≤ o.V.V.length := by
 have h1 := withP_len [o.B] o.V.B;have h2 := withP_len ([] : List Vt) o.V.V;exact ⟨h1, h2⟩
theorem join_len2 (a b : Vw) : (joinP a b).B.length ≤ a.B.length + b.B.length ∧ (joinP a b).V.length ≤ a.V.length + b.V.length := ⟨withP_len _ _, withP_len _ _⟩
theorem sec_size {x : Nd} {c : Cf} {slot : Int} (h1 : x.V.B.length ≤ 500) (h2 : x.V.V.length ≤ 500) (h3 : x.In.B.length ≤ 500) (h4 : x.In.V.length ≤ 500) : ∀ (k : Nat) (o : List Of), o.length ≤ k → (∀ y ∈ o, y.V.B.length ≤ 500 ∧ y.V.V.length ≤ 500) →
  (secFold x o c slot).1.B.length ≤ 500 ∧ (secFold x o c slot).1.V.length ≤ 500 ∧ (secFold x o c slot).2.1.B.length ≤ 500 + 501 * k ∧ (secFold x o c slot).2.1.V.length ≤ 500 + 501 * k := by
 intro k
 induction k with
 | zero =>
  intro o ho _;obtain rfl : o = [] := List.length_eq_zero_iff.1 (by omega);exact ⟨h1, h2, Nat.le_trans h3 (by omega), Nat.le_trans h4 (by omega)⟩
 | succ k ih =>
  intro o ho hs;rcases List.eq_nil_or_concat o with rfl | ⟨r, y, rfl⟩
  ·exact ⟨h1, h2, Nat.le_trans h3 (by omega), Nat.le_trans h4 (by omega)⟩
  ·rw [List.concat_eq_append] at ho hs ⊢;rw [List.length_append, List.length_singleton] at ho;obtain ⟨a1, a2, a3, a4⟩ := ih r (by omega) fun z hz => hs z (List.mem_append_left _ hz);have hy := hs y (List.mem_append_right _ (List.mem_singleton.2 rfl));have hl := lone_len y;rw [sec_snoc];unfold secStep;generalize secFold x r c slot = s at a1 a2 a3 a4 ⊢;have hm := take_max c s.1 (joinP y.V ⟨[y.B], []⟩) slot;have hz := take_size c s.1 (joinP y.V ⟨[y.B], []⟩) slot;have hj := join_len2 s.2.1 (takeP c s.1 (joinP y.V ⟨[y.B], []⟩) slot).2.1;simp only;omega
theorem FSecond_eq {x : Nd} {o : List Of} {c : Cf} {slot : Int} (h1 : x.V.B.length ≤ 500) (h2 : x.V.V.length ≤ 500) (h3 : x.In.B.length ≤ 500) (h4 : x.In.V.length ≤ 500) (ho : o.length ≤ 8) (hs : ∀ y ∈ o, y.V.B.length ≤ 500 ∧ y.V.V.length ≤ 500) :
  FSecond x o c slot = some (secondP x o c slot) := by
 have e := count_loop (step := FSecond_s1 o c slot) (n := o.length) (fun k => FSecond_L1.mk (k : Int) (secFold x (o.take k) c slot).1.B (secFold x (o.take k) c slot).1.V (secFold x (o.take k) c slot).2.1.B (secFold x (o.take k) c slot).2.1.V (secFold x (o.take k) c slot).2.2)
  (FSecond_L1.mk (o.length : Int) (secFold x o c slot).1.B (secFold x o c slot).1.V (secFold x o c slot).2.1.B (secFold x o c slot).2.1.V (secFold x o c slot).2.2) (fun k hk => by
  obtain ⟨y, hy, hm⟩ := get_of hk
  have et : o.take (k + 1) = o.take k ++ [y] := by rw [List.take_add_one, hy]; rfl
  have hsz := sec_size (c := c) (slot := slot) h1 h2 h3 h4 8 (o.take k) (by rw [List.length_take]; omega) fun z hz => hs z (List.mem_of_mem_take hz);have hy2 := hs y hm;have hl := lone_len y;unfold FSecond_s1;simp only;rw [decide_eq_true (show (k : Int) < (o.length : Int) by omega), ct, ix_nat hy, ob, et, sec_snoc, wrap_succ (n := k) (by omega)];generalize secFold x (o.take k) c slot = s at hsz ⊢;have hz := take_size c s.1 (joinP y.V ⟨[y.B], []⟩) slot;unfold F3098;rw [ob, F91_eq (by simp only [List.length_singleton]; omega) (by simp only [List.length_nil]; omega), ob, Vw.eta, Vw.eta, FCount_eq (by omega) (by omega) (by omega) (by omega), ob];simp only;rw [F91_eq (by omega) (by omega), ob]
  rfl) (by
  unfold FSecond_s1;simp only
  rw [decide_eq_false (show ¬ (o.length : Int) < (o.length : Int) by omega), cf, List.take_length]) (by omega)
 have e' : iter (FSecond_s1 o c slot) big (FSecond_L1.mk 0 x.V.B x.V.V x.In.B x.In.V x.Full) = _ := e;have hsz := sec_size (c := c) (slot := slot) h1 h2 h3 h4 8 o ho hs;unfold FSecond secondP;rw [e', ob, F74_eq, ob];simp only [Vw.eta];generalize secFold x o c slot = s at hsz ⊢;by_cases h : x.No ∈ cmP c slot
 ·rw [decide_eq_true h, ct, if_pos h, F1048_eq (by omega) (by omega), ob, F91_eq (by simp only [List.length_nil]; omega) (by simp only [List.length_singleton]; omega), ob]
 ·rw [decide_eq_false h, cf, if_neg h]
def SureP (c : Cf) (w : Vw) (slot : Int) (id : ID) : Prop := wtP c (cmP c slot) * (c.Den + 2 * c.Num) < 2 * onP c w.B (goldP c w.V slot) id * c.Den
theorem F3099_top {c : Cf} {w : Vw} {slot : Int} {head : ID} (hm : MayC c) (h1 : w.B.length ≤ 1000) (h2 : w.V.length ≤ 1000) : ∃ r, F3099 c w slot head = some r ∧ (r.2 = true → SureP c w slot r.1) := by
 have hg := gold_len c w.V slot;have hc := cm_len c slot;unfold F3099 FQof;rw [F1064_eq (by omega), ob, F65_eq, ob, F70_eq (by omega), ob, ob, show few w.B = true from decide_eq_true h1, ct];have hwt := wt_in c (cmP c slot)
 obtain ⟨b, hb, hs⟩ := iter_inv (step := FTop_s1 c w) (fun x => x.v = goldP c w.V slot ∧ x.al = wtP c (cmP c slot)) (fun x => x.l.length) (fun r => r.2 = true → SureP c w slot r.1) (by
  rintro ⟨l, v, al⟩ ⟨e1, e2⟩;simp only at e1 e2;subst e1 e2;by_cases hl : (l.length : Int) < 2
  ·right;refine ⟨((0, 0), false), ?_, fun h => by cases h⟩;unfold FTop_s1;simp only;rw [decide_eq_true hl, ct]
  ·obtain ⟨y, hy, -⟩ := get_of (l := l) (n := 0) (by omega);have hy' : ix l 0 = some y := ix_nat hy;obtain ⟨-, -, -, -, -, m1, m2, m3, m4⟩ := hm;have hon : 0 ≤ onP c w.B (goldP c w.V slot) y ∧ onP c w.B (goldP c w.V slot) y ≤ 13194139533312 := wt_in _ _
   have hstep : FTop_s1 c w ⟨l, goldP c w.V slot, wtP c (cmP c slot)⟩ = bif decide (2 * onP c w.B (goldP c w.V slot) y * c.Den > wtP c (cmP c slot) * (c.Den + 2 * c.Num)) then some (.inr (y, true)) else some (.inl ⟨l.drop 1, goldP c w.V slot, wtP c (cmP c slot)⟩) := by
    unfold FTop_s1 FQon FQsure;simp only
    rw [decide_eq_false hl, cf, hy', ob, F121_eq h1 (by omega), ob, ob, wrapI (by omega) (by omega), wrapI (n := 2 * c.Num) (by omega) (by omega), wrapI (by omega) (by omega), F1026_eq ⟨by omega, by omega⟩ ⟨by omega, by omega⟩ ⟨by omega, by omega⟩ ⟨by omega, by omega⟩, ob, ob, ob,
     show inL l 1 l.length = true from decide_eq_true (by omega), ct]
    rfl
   cases hd : decide (2 * onP c w.B (goldP c w.V slot) y * c.Den > wtP c (cmP c slot) * (c.Den + 2 * c.Num)) with
   | true => rw [hd, ct] at hstep; exact .inr ⟨_, hstep, fun _ => show wtP c (cmP c slot) * (c.Den + 2 * c.Num) < _ from of_decide_eq_true hd⟩
   | false =>
    rw [hd, cf] at hstep;refine .inl ⟨_, hstep, ⟨rfl, rfl⟩, ?_⟩;simp only [List.length_drop]
    omega) (n := big) (x := FTop_L1.mk (chainOf w.B head) (goldP c w.V slot) (wtP c (cmP c slot))) ⟨rfl, rfl⟩ (big_gt (by have : (chainOf w.B head).length ≤ w.B.length + 1 := chain_len head; simp only; omega))
 exact ⟨b, hb, hs⟩
theorem FThird_top {x : Nd} {c : Cf} {slot : Int} (hm : MayC c) (h1 : x.V.B.length ≤ 500) (h2 : x.V.V.length ≤ 500) (h3 : x.In.B.length ≤ 500) (h4 : x.In.V.length ≤ 500) :
  ∃ r, F3099 c (takeP c x.V x.In slot).1 slot (headP c (takeP c x.V x.In slot).1.B (goldP c (takeP c x.V x.In slot).1.V slot)) = some r ∧ (r.2 = true → SureP c (takeP c x.V x.In slot).1 slot r.1) ∧ FThird x c slot = some ((takeP c x.V x.In slot).1, (takeP c x.V x.In slot).2.1, moveOf x.C (takeP c x.V x.In slot).1.B (headP c (takeP c x.V x.In slot).1.B (goldP c (takeP c x.V x.In slot).1.V slot)) r.1 r.2 slot, x.Full || (takeP c x.V x.In slot).2.2) := by
 have hx := take_max c x.V x.In slot;obtain ⟨r, hr, hs⟩ := F3099_top (slot := slot) (head := headP c (takeP c x.V x.In slot).1.B (goldP c (takeP c x.V x.In slot).1.V slot)) hm (w := (takeP c x.V x.In slot).1) (by omega) (by omega);refine ⟨r, hr, hs, ?_⟩;unfold FThird;rw [FCount_eq (by omega) (by omega) (by omega) (by omega), ob];simp only;rw [F1048_eq (by omega) (by omega), ob, hr, ob, show few (takeP c x.V x.In slot).1.B = true from decide_eq_true (by omega), ct]
theorem FThird_ok {x : Nd} {c : Cf} {slot : Int} (hm : MayC c) (h1 : x.V.B.length ≤ 500) (h2 : x.V.V.length ≤ 500) (h3 : x.In.B.length ≤ 500) (h4 : x.In.V.length ≤ 500) :
  ∃ cu, FThird x c slot = some ((takeP c x.V x.In slot).1, (takeP c x.V x.In slot).2.1, cu, x.Full || (takeP c x.V x.In slot).2.2) :=
 have ⟨_, _, _, e⟩ := FThird_top hm h1 h2 h3 h4
 ⟨_, e⟩
structure FewS (c : Cf) (n : Nd) (inp : Vw) (o : List Of) : Prop where
 n : SmallN 30 n
 inp : SmallV 30 inp
 len : o.length ≤ 10
 o : ∀ y ∈ o, SmallV 30 y.V
theorem small_of {k : Int} (hk : k ≤ 1000) {l : List Of} (h : ∀ y ∈ l, SmallV k y.V) : ∀ y ∈ l, SmallO y := fun y hy => by
 obtain ⟨a, b⟩ := h y hy;exact ⟨by omega, by omega⟩
structure FewG (c : Cf) (n : Nd) (inp : Vw) (o : List Of) : Prop where
 vw : n.V.B.length ≤ 500 ∧ n.V.V.length ≤ 500
 inw : n.In.B.length ≤ 1000 ∧ n.In.V.length ≤ 1000
 came : inp.B.length ≤ 2000 ∧ inp.V.length ≤ 2000
 ins : (joinP n.In (onlyP c inp)).B.length ≤ 500 ∧ (joinP n.In (onlyP c inp)).V.length ≤ 500
 len : n.O.length + o.length ≤ 1000
 offs : ∀ y ∈ n.O ++ o, y.V.B.length ≤ 500 ∧ y.V.V.length ≤ 500
theorem copy_loop {n : Nd} (hl : n.O.length ≤ 1000) (hs : ∀ y ∈ n.O, SmallO y) : iter (F3018_s1 n) big (F3018_L1.mk 0 []) = some (F3018_L1.mk (n.O.length : Int) n.O) := by
 have e := count_loop (step := F3018_s1 n) (n := n.O.length) (fun k => F3018_L1.mk (k : Int) (n.O.take k)) (F3018_L1.mk (n.O.length : Int) n.O) (fun k hk => by
  obtain ⟨y, hy, hm⟩ := get_of hk
  have et : n.O.take (k + 1) = n.O.take k ++ [y] := by rw [List.take_add_one, hy]; rfl
  unfold F3018_s1;simp only
  rw [decide_eq_true (show (k : Int) < (n.O.length : Int) by omega), ct, ix_nat hy, ob, F3052_eq (hs y hm), ob, room_ok (by rw [List.length_take]; simp only [List.length_singleton]; omega) (by omega), ct, et, wrap_succ (n := k) (by omega)]) (by
  unfold F3018_s1;simp only
  rw [decide_eq_false (show ¬ (n.O.length : Int) < (n.O.length : Int) by omega), cf, List.take_length]) (by omega)
 exact e
def idleS (c : Cf) (n : Nd) : Bool := decide (¬ MayC c ∨ n.Tick < 3 ∨ IntKind.i64.wrap (n.Tick.tdiv 3) > 1048576)
theorem idle_gate (c : Cf) (n : Nd) : ((F64 c).bind fun v2 => bif !v2 then some true else bif decide (n.Tick < 3) then some true else some (decide ((IntKind.i64.wrap (n.Tick.tdiv 3)) > 1048576))) = some (idleS c n) := by
 rw [F64_eq, ob];unfold idleS;by_cases h1 : MayC c
 ·rw [decide_eq_true h1, Bool.not_true, cf];by_cases h2 : n.Tick < 3
  ·rw [decide_eq_true h2, ct, decide_eq_true (.inr (.inl h2))]
  ·rw [decide_eq_false h2, cf];by_cases h3 : IntKind.i64.wrap (n.Tick.tdiv 3) > 1048576
   ·rw [decide_eq_true h3, decide_eq_true (.inr (.inr h3))]
   ·rw [decide_eq_false h3, decide_eq_false];rintro (h | h | h)
    ·exact h h1
    ·exact h2 h
    ·exact h3 h
 ·rw [decide_eq_false h1, Bool.not_false, ct, decide_eq_true (.inl h1)]
theorem F3018_idleG {c : Cf} {n : Nd} {inp : Vw} {o : List Of} (hf : FewG c n inp o) (h : idleS c n = true) : F3018 c n inp o = some (n, []) := by
 obtain ⟨⟨a1, a2⟩, ⟨b1, b2⟩, -, -, c1, c2⟩ := hf;unfold F3018;rw [idle_gate, ob, h, ct, F3051_eq (by omega) (by omega), ob, F3051_eq (by omega) (by omega), ob, copy_loop (by omega) (fun y hy => by have := c2 y (List.mem_append_left _ hy); exact ⟨by omega, by omega⟩), ob]
def inS (c : Cf) (n : Nd) (inp : Vw) : Vw := joinP n.In (onlyP c inp)
def slotS (n : Nd) : Int := IntKind.i64.wrap (n.Tick.tdiv 3)
def hrdS (c : Cf) (n : Nd) (o : List Of) : List Of × Bool := hearP n.Tick c (slotS n) n.Full (n.O ++ o)
def nodeS (c : Cf) (n : Nd) (inp : Vw) (o : List Of) : Nd := ⟨n.No, n.Tick, n.V, inS c n inp, [], n.C, (hrdS c n o).2⟩
theorem F3018_go {c : Cf} {n : Nd} {inp : Vw} {o : List Of} (hf : FewG c n inp o) (h : idleS c n = false) : F3018 c n inp o =
  bif (n.Tick.tmod 3) == 0 then
   (FFirst (nodeS c n inp o) c (slotS n) []).bind fun v10 => some (Nd.mk n.No (IntKind.i64.wrap (n.Tick + 1)) v10.1 v10.2.1 (hrdS c n o).1 n.C v10.2.2.1, v10.2.2.2)
  else bif (n.Tick.tmod 3) == 1 then
   (FSecond (nodeS c n inp o) (hrdS c n o).1 c (slotS n)).bind fun v11 => some (Nd.mk n.No (IntKind.i64.wrap (n.Tick + 1)) v11.1 v11.2.1 [] n.C v11.2.2, [])
  else bif (n.Tick.tmod 3) == 2 then
   (FThird (nodeS c n inp o) c (slotS n)).bind fun v12 => some (Nd.mk n.No (IntKind.i64.wrap (n.Tick + 1)) v12.1 v12.2.1 [] v12.2.2.1 v12.2.2.2, [])
  else none := by
 obtain ⟨⟨a1, a2⟩, ⟨b1, b2⟩, ⟨e1, e2⟩, -, g1, g2⟩ := hf;have h2 := only_len c inp;unfold F3018;rw [idle_gate, ob, h, cf, F85_eq (by omega) (by omega), ob, F91_eq (by omega) (by omega), ob];rw [FHear_eq (by show n.O.length + o.length ≤ 1000; omega) (fun y hy => by have := g2 y hy; exact ⟨by omega, by omega⟩), ob];rfl
theorem hrd_smallG {c : Cf} {n : Nd} {inp : Vw} {o : List Of} (hf : FewG c n inp o) : (hrdS c n o).1.length ≤ 8 ∧ ∀ y ∈ (hrdS c n o).1, y.V.B.length ≤ 500 ∧ y.V.V.length ≤ 500 := by
 obtain ⟨h1, h2, -⟩ := hear_facts n.Tick c (slotS n) n.Full (n.O ++ o);exact ⟨h1, fun y hy => hf.offs y (h2 y hy).1⟩
theorem F3018_0G {c : Cf} {n : Nd} {inp : Vw} {o : List Of} (hf : FewG c n inp o) (h : idleS c n = false) (h0 : n.Tick.tmod 3 = 0) :
  F3018 c n inp o = some (Nd.mk n.No (IntKind.i64.wrap (n.Tick + 1)) (firstP (nodeS c n inp o) c (slotS n)).1 (firstP (nodeS c n inp o) c (slotS n)).2.1 (hrdS c n o).1 n.C (firstP (nodeS c n inp o) c (slotS n)).2.2.1, (firstP (nodeS c n inp o) c (slotS n)).2.2.2) := by
 have hi : (inS c n inp).B.length ≤ 500 ∧ (inS c n inp).V.length ≤ 500 := hf.ins;rw [F3018_go hf h];obtain ⟨⟨a1, a2⟩, -⟩ := hf;rw [beq_iff_eq.2 h0, ct, FFirst_eq (by show n.V.B.length ≤ 500; omega) (by show n.V.V.length ≤ 500; omega) (by show (inS c n inp).B.length ≤ 500; omega) (by show (inS c n inp).V.length ≤ 500; omega), ob]
theorem F3018_1G {c : Cf} {n : Nd} {inp : Vw} {o : List Of} (hf : FewG c n inp o) (h : idleS c n = false) (h1 : n.Tick.tmod 3 = 1) :
  F3018 c n inp o = some (Nd.mk n.No (IntKind.i64.wrap (n.Tick + 1)) (secondP (nodeS c n inp o) (hrdS c n o).1 c (slotS n)).1 (secondP (nodeS c n inp o) (hrdS c n o).1 c (slotS n)).2.1 [] n.C (secondP (nodeS c n inp o) (hrdS c n o).1 c (slotS n)).2.2, []) := by
 have hi : (inS c n inp).B.length ≤ 500 ∧ (inS c n inp).V.length ≤ 500 := hf.ins;obtain ⟨hr1, hr2⟩ := hrd_smallG hf;rw [F3018_go hf h];obtain ⟨⟨a1, a2⟩, -⟩ := hf;rw [show ((n.Tick.tmod 3) == 0) = false by rw [h1]; rfl, cf, beq_iff_eq.2 h1, ct, FSecond_eq (by show n.V.B.length ≤ 500; omega) (by show n.V.V.length ≤ 500; omega) (by show (inS c n inp).B.length ≤ 500; omega) (by show (inS c n inp).V.length ≤ 500; omega) hr1 hr2, ob]
theorem F3018_2G {c : Cf} {n : Nd} {inp : Vw} {o : List Of} (hf : FewG c n inp o) (h : idleS c n = false) (h2 : n.Tick.tmod 3 = 2) :
  ∃ cu, F3018 c n inp o = some (Nd.mk n.No (IntKind.i64.wrap (n.Tick + 1)) (takeP c n.V (inS c n inp) (slotS n)).1 (takeP c n.V (inS c n inp) (slotS n)).2.1 [] cu ((hrdS c n o).2 || (takeP c n.V (inS c n inp) (slotS n)).2.2), []) := by
 have hi : (inS c n inp).B.length ≤ 500 ∧ (inS c n inp).V.length ≤ 500 := hf.ins
 have hm : MayC c := by
  have := of_decide_eq_false h;exact Decidable.not_not.1 fun h => this (.inl h)
 rw [F3018_go hf h];obtain ⟨⟨a1, a2⟩, -⟩ := hf;obtain ⟨cu, e⟩ := FThird_ok (x := nodeS c n inp o) (slot := slotS n) hm (by show n.V.B.length ≤ 500; omega) (by show n.V.V.length ≤ 500; omega) (by show (inS c n inp).B.length ≤ 500; omega) (by show (inS c n inp).V.length ≤ 500; omega);rw [show ((n.Tick.tmod 3) == 0) = false by rw [h2]; rfl, cf, show ((n.Tick.tmod 3) == 1) = false by rw [h2]; rfl, cf, beq_iff_eq.2 h2, ct, e, ob];exact ⟨cu, rfl⟩
theorem tick_mod {n : Nd} {c : Cf} (h : idleS c n = false) : n.Tick.tmod 3 = 0 ∨ n.Tick.tmod 3 = 1 ∨ n.Tick.tmod 3 = 2 := by
 have h3 : ¬ n.Tick < 3 := fun h2 => (of_decide_eq_false h) (.inr (.inl h2));rw [Int.tmod_eq_emod_of_nonneg (by omega)];omega
theorem mem_joinB {b : Bk} {x y : Vw} : b ∈ (joinP x y).B ↔ b ∈ x.B ∨ b ∈ y.B := withP_mem b _ _
theorem mem_joinV {v : Vt} {x y : Vw} : v ∈ (joinP x y).V ↔ v ∈ x.V ∨ v ∈ y.V := withP_mem v _ _
theorem slotS_eq {n : Nd} (h1 : 3 ≤ n.Tick) (h2 : n.Tick ≤ 1000000) : slotS n = n.Tick / 3 ∧ 1 ≤ slotS n ∧ slotS n ≤ 333333 := by
 unfold slotS;rw [Int.tdiv_eq_ediv_of_nonneg (by omega), wrapI (by omega) (by omega)];omega
theorem busy_of {c : Cf} {n : Nd} (hm : MayC c) (h1 : 3 ≤ n.Tick) (h2 : n.Tick ≤ 1000000) : idleS c n = false := by
 have := slotS_eq h1 h2;unfold slotS at this;refine decide_eq_false ?_;rintro (h | h | h)
 ·exact h hm
 ·omega
 ·omega
def Keeps (c : Cf) (v w : Vw) : Prop := MayW c w ∧ w.B.take v.B.length = v.B ∧ w.V.take v.V.length = v.V
theorem keeps_refl {c : Cf} {v : Vw} (h : MayW c v) : Keeps c v v := ⟨h, List.take_length, List.take_length⟩
theorem take_pre {α : Type} {a b d : List α} (h1 : b.take a.length = a) (h2 : d.take b.length = b) : d.take a.length = a := by
 have hl := congrArg List.length h1;rw [List.length_take] at hl
 have e : d.take a.length = (d.take b.length).take a.length := by
  rw [List.take_take];congr 1;omega
 rw [e, h2, h1]
theorem keeps_trans {c : Cf} {u v w : Vw} (h1 : Keeps c u v) (h2 : Keeps c v w) : Keeps c u w := ⟨h2.1, take_pre h1.2.1 h2.2.1, take_pre h1.2.2 h2.2.2⟩
theorem keeps_take {c : Cf} {v : Vw} (h : MayW c v) (i : Vw) (s : Int) : Keeps c v (takeP c v i s).1 := by
 have ht := took h i s;obtain ⟨h1, h2⟩ := took_take ht;exact ⟨ht.may, h1, h2⟩
theorem keeps_first {x : Nd} {c : Cf} {slot : Int} (h : MayW c x.V) : Keeps c x.V (firstP x c slot).1 := by
 unfold firstP;split
 ·exact keeps_trans (keeps_take h _ _) (keeps_take (keeps_take h _ _).1 _ _)
 ·exact keeps_refl h
theorem keeps_fold {c : Cf} {slot : Int} : ∀ (o : List Of) (s : Vw × Vw × Bool), MayW c s.1 → Keeps c s.1 (o.foldl (secStep c slot) s).1
 | [], s, h => keeps_refl h
 | y :: r, s, h => by
  rw [List.foldl_cons];have h1 : Keeps c s.1 (secStep c slot s y).1 := keeps_take h _ _;exact keeps_trans h1 (keeps_fold r _ h1.1)
theorem keeps_second {x : Nd} {o : List Of} {c : Cf} {slot : Int} (h : MayW c x.V) : Keeps c x.V (secondP x o c slot).1 := by
 unfold secondP;split
 ·exact keeps_fold o _ h
 ·exact keeps_fold o _ h
noncomputable def stepN (c : Cf) (n : Nd) (inp : Vw) (o : List Of) : Nd × List Of := (F3018 c n inp o).getD (n, [])
theorem step_idle {c : Cf} {n : Nd} {inp : Vw} {o : List Of} (hf : FewG c n inp o) (h : idleS c n = true) : F3018 c n inp o = some (stepN c n inp o) ∧ stepN c n inp o = (n, []) := by
 have e := F3018_idleG hf h;unfold stepN;rw [e];exact ⟨rfl, rfl⟩
theorem step_way {c : Cf} {n : Nd} {inp : Vw} {o : List Of} (hf : FewG c n inp o) : F3018 c n inp o = some (stepN c n inp o) ∧
    ((idleS c n = true ∧ stepN c n inp o = (n, [])) ∨
     (idleS c n = false ∧ n.Tick.tmod 3 = 0 ∧ stepN c n inp o = (Nd.mk n.No (IntKind.i64.wrap (n.Tick + 1)) (firstP (nodeS c n inp o) c (slotS n)).1 (firstP (nodeS c n inp o) c (slotS n)).2.1 (hrdS c n o).1 n.C (firstP (nodeS c n inp o) c (slotS n)).2.2.1, (firstP (nodeS c n inp o) c (slotS n)).2.2.2)) ∨
     (idleS c n = false ∧ n.Tick.tmod 3 = 1 ∧ stepN c n inp o = (Nd.mk n.No (IntKind.i64.wrap (n.Tick + 1)) (secondP (nodeS c n inp o) (hrdS c n o).1 c (slotS n)).1 (secondP (nodeS c n inp o) (hrdS c n o).1 c (slotS n)).2.1 [] n.C (secondP (nodeS c n inp o) (hrdS c n o).1 c (slotS n)).2.2, [])) ∨
     (idleS c n = false ∧ n.Tick.tmod 3 = 2 ∧ ∃ cu, stepN c n inp o = (Nd.mk n.No (IntKind.i64.wrap (n.Tick + 1)) (takeP c n.V (inS c n inp) (slotS n)).1 (takeP c n.V (inS c n inp) (slotS n)).2.1 [] cu ((hrdS c n o).2 || (takeP c n.V (inS c n inp) (slotS n)).2.2), []))) := by
  cases hid : idleS c n with
  | true => exact ⟨(step_idle hf hid).1, .inl ⟨rfl, (step_idle hf hid).2⟩⟩
  | false =>
    rcases tick_mod hid with h | h | h
    · have e := F3018_0G hf hid h;unfold stepN;rw [e];exact ⟨rfl, .inr (.inl ⟨rfl, h, rfl⟩)⟩
    · have e := F3018_1G hf hid h;unfold stepN;rw [e];exact ⟨rfl, .inr (.inr (.inl ⟨rfl, h, rfl⟩))⟩
    · obtain ⟨cu, e⟩ := F3018_2G hf hid h;unfold stepN;rw [e];exact ⟨rfl, .inr (.inr (.inr ⟨rfl, h, cu, rfl⟩))⟩
def AllV (P : Bk → Prop) (Q : Vt → Prop) (v : Vw) : Prop := (∀ b ∈ v.B, P b) ∧ ∀ x ∈ v.V, Q x
def AllO (P : Bk → Prop) (Q : Vt → Prop) (o : Of) : Prop := P o.B ∧ AllV P Q o.V
def AllN (P : Bk → Prop) (Q : Vt → Prop) (n : Nd) : Prop := AllV P Q n.V ∧ AllV P Q n.In ∧ ∀ o ∈ n.O, AllO P Q o
section
variable {P : Bk → Prop} {Q : Vt → Prop}
theorem allV_nil : AllV P Q ⟨[], []⟩ := ⟨fun b hb => (by cases hb), fun x hx => (by cases hx)⟩
theorem allV_join {a b : Vw} (h1 : AllV P Q a) (h2 : AllV P Q b) : AllV P Q (joinP a b) := ⟨fun x hx => (mem_joinB.1 hx).elim (h1.1 x) (h2.1 x), fun x hx => (mem_joinV.1 hx).elim (h1.2 x) (h2.2 x)⟩
theorem allV_only {c : Cf} {a : Vw} (h : AllV P Q a) : AllV P Q (onlyP c a) := ⟨fun x hx => h.1 x (List.mem_filter.1 hx).1, fun x hx => h.2 x (List.mem_filter.1 hx).1⟩
theorem allV_take (c : Cf) {w i : Vw} (s : Int) (h1 : AllV P Q w) (h2 : AllV P Q i) : AllV P Q (takeP c w i s).1 ∧ AllV P Q (takeP c w i s).2.1 := by
 by_cases h : MayW c w
 ·have ht := took h i s;obtain ⟨t, e, h3⟩ := ht.preB;obtain ⟨u, e2, h4⟩ := ht.preV;refine ⟨⟨fun b hb => ?_, fun v hv => ?_⟩, fun b hb => h2.1 b (List.mem_filter.1 (ht.subB.subset hb)).1, fun v hv => h2.2 v (List.mem_filter.1 (ht.subV.subset hv)).1⟩
  ·rw [e] at hb;rcases List.mem_append.1 hb with hb | hb
   ·exact h1.1 b hb
   ·exact h2.1 b (List.mem_filter.1 (h3 b hb).1).1
  ·rw [e2] at hv;rcases List.mem_append.1 hv with hv | hv
   ·exact h1.2 v hv
   ·exact h2.2 v (List.mem_filter.1 (h4 v hv).1).1
 ·have e : takeP c w i s = (w, i, false) := by unfold takeP; rw [if_neg h]
  rw [e];exact ⟨h1, h2⟩
theorem allV_fold (c : Cf) (s : Int) : ∀ (o : List Of) (x : Vw × Vw × Bool), (∀ y ∈ o, AllO P Q y) → AllV P Q x.1 → AllV P Q x.2.1 → AllV P Q (o.foldl (secStep c s) x).1 ∧ AllV P Q (o.foldl (secStep c s) x).2.1
 | [], x, _, h1, h2 => ⟨h1, h2⟩
 | y :: r, x, h, h1, h2 => by
  rw [List.foldl_cons];have hy := h y (List.mem_cons_self ..);obtain ⟨a1, a2⟩ := allV_take c (i := joinP y.V ⟨[y.B], []⟩) s h1 (allV_join hy.2 ⟨fun b hb => by rw [List.mem_singleton.1 hb]; exact hy.1, fun x hx => (by cases hx)⟩);exact allV_fold c s r _ (fun z hz => h z (List.mem_cons_of_mem _ hz)) a1 (allV_join h2 a2)
noncomputable def voteS (c : Cf) (n : Nd) (inp : Vw) (o : List Of) : Vt := ⟨n.No, slotS n, headP c (secFold (nodeS c n inp o) (hrdS c n o).1 c (slotS n)).1.B (goldP c (secFold (nodeS c n inp o) (hrdS c n o).1 c (slotS n)).1.V (IntKind.i64.wrap (slotS n - 1)))⟩
theorem step_all {c : Cf} {n : Nd} {inp : Vw} {o : List Of} (hf : FewG c n inp o) (hn : AllN P Q n) (hi : AllV P Q inp) (ho : ∀ y ∈ o, AllO P Q y)
  (hp : idleS c n = false → n.Tick.tmod 3 = 0 → n.No = prP c (slotS n) → P (propB (nodeS c n inp o) c (slotS n)))
  (hv : idleS c n = false → n.Tick.tmod 3 = 1 → n.No ∈ cmP c (slotS n) → Q (voteS c n inp o)) : AllN P Q (stepN c n inp o).1 ∧ ∀ y ∈ (stepN c n inp o).2, AllO P Q y := by
 obtain ⟨n1, n2, n3⟩ := id hn;have hin : AllV P Q (inS c n inp) := allV_join n2 (allV_only hi)
 have hh : ∀ y ∈ (hrdS c n o).1, AllO P Q y := fun y hy => by
  rcases List.mem_append.1 ((hear_facts n.Tick c (slotS n) n.Full (n.O ++ o)).2.1 y hy).1 with h | h
  ·exact n3 y h
  ·exact ho y h
 rcases (step_way hf).2 with ⟨-, e⟩ | ⟨hid, ht, e⟩ | ⟨hid, ht, e⟩ | ⟨hid, ht, cu, e⟩
 ·rw [e];exact ⟨hn, fun y hy => by cases hy⟩
 ·rw [e];by_cases h : n.No = prP c (slotS n)
  ·have hb := hp hid ht h;unfold firstP;rw [if_pos (show (nodeS c n inp o).No = prP c (slotS n) from h)];obtain ⟨a1, a2⟩ := allV_take c (slotS n) n1 hin;have a3 := (allV_take c (i := ⟨[propB (nodeS c n inp o) c (slotS n)], []⟩) (slotS n) a1 ⟨fun b hb' => by rw [List.mem_singleton.1 hb']; exact hb, fun x hx => (by cases hx)⟩).1;refine ⟨⟨a3, a2, hh⟩, fun y hy => ?_⟩;rw [List.mem_singleton.1 hy];exact ⟨hb, a1⟩
  ·unfold firstP;rw [if_neg (show (nodeS c n inp o).No ≠ prP c (slotS n) from h)];exact ⟨⟨n1, hin, hh⟩, fun y hy => by cases hy⟩
 ·rw [e];obtain ⟨a1, a2⟩ := allV_fold c (slotS n) (hrdS c n o).1 (n.V, inS c n inp, (hrdS c n o).2) hh n1 hin;refine ⟨?_, fun y hy => by cases hy⟩;unfold secondP;by_cases h : n.No ∈ cmP c (slotS n)
  ·rw [if_pos (show (nodeS c n inp o).No ∈ cmP c (slotS n) from h)];refine ⟨a1, allV_join a2 ⟨fun b hb => (by cases hb), fun x hx => ?_⟩, fun y hy => by cases hy⟩;rw [List.mem_singleton.1 hx];exact hv hid ht h
  ·rw [if_neg (show (nodeS c n inp o).No ∉ cmP c (slotS n) from h)];exact ⟨a1, a2, fun y hy => by cases hy⟩
 ·rw [e];obtain ⟨a1, a2⟩ := allV_take c (slotS n) n1 hin;exact ⟨⟨a1, a2, fun y hy => by cases hy⟩, fun y hy => by cases hy⟩
end
def NdV (v : Vw) : Prop := v.B.Nodup ∧ v.V.Nodup
theorem ndV_join {a b : Vw} (h : NdV a) : NdV (joinP a b) := ⟨withP_nodup h.1, withP_nodup h.2⟩
theorem ndV_only {c : Cf} {a : Vw} (h : NdV a) : NdV (onlyP c a) := ⟨h.1.sublist List.filter_sublist, h.2.sublist List.filter_sublist⟩
theorem ndV_left {c : Cf} {w i : Vw} {s : Int} (hw : MayW c w) (h : NdV i) : NdV (takeP c w i s).2.1 := by
 have ht := took hw i s;exact ⟨(ndV_only h).1.sublist ht.subB, (ndV_only h).2.sublist ht.subV⟩
theorem ndV_fold (c : Cf) (s : Int) : ∀ (o : List Of) (x : Vw × Vw × Bool), NdV x.2.1 → NdV (o.foldl (secStep c s) x).2.1
 | [], x, h => h
 | y :: r, x, h => by
  rw [List.foldl_cons];exact ndV_fold c s r _ (ndV_join h)
theorem step_same {c : Cf} {n : Nd} {inp : Vw} {o : List Of} (hf : FewG c n inp o) (hm : MayW c n.V) (hd : NdV n.In) (h8 : n.O.length ≤ 8) :
  (stepN c n inp o).1.No = n.No ∧ ((stepN c n inp o).1.Tick = if idleS c n = true then n.Tick else IntKind.i64.wrap (n.Tick + 1)) ∧ Keeps c n.V (stepN c n inp o).1.V ∧ NdV (stepN c n inp o).1.In ∧ (stepN c n inp o).1.O.length ≤ 8 ∧
   ((stepN c n inp o).2 ≠ [] → idleS c n = false ∧ n.Tick.tmod 3 = 0 ∧ n.No = prP c (slotS n)) ∧ (stepN c n inp o).2.length ≤ 1 ∧ (∀ y ∈ (stepN c n inp o).1.O, y ∈ n.O ++ o) ∧ ∀ y ∈ (stepN c n inp o).2, MayW c y.V := by
 have hdi : NdV (inS c n inp) := ndV_join hd;have hh := (hear_facts n.Tick c (slotS n) n.Full (n.O ++ o)).1;have ho := fun y hy => ((hear_facts n.Tick c (slotS n) n.Full (n.O ++ o)).2.1 y hy).1;rcases (step_way hf).2 with ⟨hid, e⟩ | ⟨hid, ht, e⟩ | ⟨hid, ht, e⟩ | ⟨hid, ht, cu, e⟩
 ·rw [e, hid];exact ⟨rfl, rfl, keeps_refl hm, hd, h8, fun h => absurd Z h, by simp, fun y hy => List.mem_append_left _ hy, fun y hy => by cases hy⟩
 ·rw [e, hid];refine ⟨rfl, rfl, keeps_first (x := nodeS c n inp o) hm, ?_, hh, ?_, ?_, ho, ?_⟩
  ·unfold firstP;split
   ·exact ndV_left hm hdi
   ·exact hdi
  ·unfold firstP;split
   ·rename_i h;exact fun _ => ⟨rfl, ht, h⟩
   ·exact fun h => absurd Z h
  ·unfold firstP;split <;> simp
  ·unfold firstP;split
   ·intro y hy;rw [List.mem_singleton.1 hy];exact (keeps_take hm _ _).1
   ·exact fun y hy => by cases hy
 ·rw [e, hid];refine ⟨rfl, rfl, keeps_second (x := nodeS c n inp o) hm, ?_, by simp, fun h => absurd Z h, by simp, fun y hy => (by cases hy), fun y hy => (by cases hy)⟩;have := ndV_fold c (slotS n) (hrdS c n o).1 (n.V, inS c n inp, (hrdS c n o).2) hdi;unfold secondP;split
  ·exact ndV_join this
  ·exact this
 ·rw [e, hid];exact ⟨rfl, rfl, keeps_take hm _ _, ndV_left hm hdi, by simp, fun h => absurd Z h, by simp, fun y hy => (by cases hy), fun y hy => (by cases hy)⟩
def offP (to at_ : Int) : Bool := (bits .and .i64 (to.fdiv (2 ^ (min (Int.toNat at_) IntKind.i64.bits))) 1) == 0
def fineP (bad : List Int) (al : Vw) (a : Ac) : Vw := ⟨a.B.filter fun b => decide (b.From ∈ bad ∨ b ∈ al.B), a.V.filter fun v => decide (v.From ∈ bad ∨ v ∈ al.V)⟩
def toStep (slot wh : Int) (bad : List Int) (al : Vw) (me : Bool) (at_ : Int) (s : Vw × List Of) (a : Ac) : Vw × List Of :=
 if offP a.To at_ = true then s
 else if a.Offer = false then (joinP s.1 (fineP bad al a), s.2)
 else if me = true then
  match (fineP bad al a).B with
  | [] => s
  | b :: r => (s.1, s.2 ++ [⟨slot, wh, b, ⟨r, (fineP bad al a).V⟩⟩])
 else s
def slotW (w : Wd) : Int := IntKind.i64.wrap (w.Tick.tdiv 3)
def callsP (w : Wd) (l : List Ac) : List Ac := l.filter fun a => decide (a.Tick = w.Tick ∧ a.To ≥ 0)
def allW (w : Wd) : Vw := allP w.N ⟨[], []⟩
def whoW (w : Wd) : Int := prP w.C (slotW w)
def comeP (w : Wd) (l : List Ac) (k : Nat) : Vw × List Of := (callsP w l).foldl (toStep (slotW w) (whoW w) w.Bad (allW w) (decide (whoW w ∈ w.Bad)) (k : Int)) (allW w, w.O)
noncomputable def stepsP (w : Wd) (l : List Ac) : List (Nd × List Of) := w.N.zipIdx.map fun p => stepN w.C p.1 (comeP w l p.2).1 (comeP w l p.2).2
def idleW (w : Wd) : Bool := decide (¬ MayC w.C ∨ w.Tick < 3 ∨ w.Tick ≥ 3145728)
noncomputable def doP (w : Wd) (l : List Ac) : Wd := if idleW w = true then w else ⟨w.C, w.Bad, IntKind.i64.wrap (w.Tick + 1), (stepsP w l).map (·.1), (stepsP w l).flatMap (·.2)⟩
structure FitW (w : Wd) : Prop where
 n : w.N.length ≤ 10
 nodes : ∀ n ∈ w.N, SmallN 500 n
 o : w.O.length ≤ 20
 offs : ∀ o ∈ w.O, SmallV 500 o.V
 bad : w.Bad.length ≤ 100
structure FitA (l : List Ac) : Prop where
 len : l.length ≤ 30
 each : ∀ a ∈ l, a.B.length ≤ 8 ∧ a.V.length ≤ 8
theorem F4083_eq {v : Vw} (h1 : v.B.length ≤ 1000) (h2 : v.V.length ≤ 1000) : F4083 v = some v := by
 unfold F4083;rw [room_ok (by omega) (by omega), ct, room_ok (by omega) (by omega), ct]
theorem F4082_eq {l : List Of} (hl : l.length ≤ 1000) (hs : ∀ o ∈ l, SmallO o) : F4082 l = some l := by
 have e := count_loop (step := F4082_s1 l) (n := l.length) (fun k => F4082_L1.mk (k : Int)) (F4082_L1.mk (l.length : Int)) (fun k hk => by
  obtain ⟨y, hy, hm⟩ := get_of hk;have := hs y hm;unfold F4082_s1;simp only
  rw [decide_eq_true (show (k : Int) < (l.length : Int) by omega), ct, ix_nat hy, ob, F4083_eq this.1 this.2, ob, ob, wrap_succ (n := k) (by omega)]) (by
  unfold F4082_s1;simp only
  rw [decide_eq_false (show ¬ (l.length : Int) < (l.length : Int) by omega), cf]) (by omega)
 have e' : iter (F4082_s1 l) big (F4082_L1.mk 0) = _ := e;unfold F4082;rw [room_ok (by omega) (by omega), ct, e', ob]
theorem F4050_eq {w : Wd} (h : FitW w) : F4050 w = some w := by
 have hN : w.N.length ≤ 10 := h.n
 have e := count_loop (step := F4050_s1 w) (n := w.N.length) (fun k => F4050_L1.mk (k : Int)) (F4050_L1.mk (w.N.length : Int)) (fun k hk => by
  obtain ⟨y, hy, hm⟩ := get_of hk;obtain ⟨⟨a1, a2⟩, ⟨b1, b2⟩, c1, c2⟩ := h.nodes y hm;unfold F4050_s1;simp only
  rw [decide_eq_true (show (k : Int) < (w.N.length : Int) by omega), ct, ix_nat hy, ob, F4083_eq (by omega) (by omega), ob, F4083_eq (by omega) (by omega), ob, F4082_eq (by omega) (small_of (by omega) c2), ob, wrap_succ (n := k) (by omega)]) (by
  unfold F4050_s1;simp only
  rw [decide_eq_false (show ¬ (w.N.length : Int) < (w.N.length : Int) by omega), cf]) (by omega)
 have e' : iter (F4050_s1 w) big (F4050_L1.mk 0) = _ := e;unfold F4050;have := h.bad;have := h.o;rw [room_ok (by omega) (by omega), ct, room_ok (by omega) (by omega), ct, F4082_eq (by omega) (small_of (by omega) h.offs), ob, e', ob]
theorem FOf31_eq {w : Wd} {al : Vw} (x : Bk) (hb : w.Bad.length ≤ 100) (hl : al.B.length ≤ 100000) : FOf31 x w al = some (decide (x.From ∈ w.Bad ∨ x ∈ al.B)) := by
 unfold FOf31 FOf2;rw [F119_eq (by omega), ob, ob];by_cases h : x.From ∈ w.Bad
 ·rw [decide_eq_true h, ct, decide_eq_true (.inl h)]
 ·rw [decide_eq_false h, cf, F161_eq hl, ob];by_cases h2 : x ∈ al.B
  ·rw [decide_eq_true h2, decide_eq_true (.inr h2)]
  ·rw [decide_eq_false h2, decide_eq_false fun h3 => h3.elim h h2]
theorem FOf32_eq {w : Wd} {al : Vw} (x : Vt) (hb : w.Bad.length ≤ 100) (hl : al.V.length ≤ 100000) : FOf32 x w al = some (decide (x.From ∈ w.Bad ∨ x ∈ al.V)) := by
 unfold FOf32 FOf2;rw [F119_eq (by omega), ob, ob];by_cases h : x.From ∈ w.Bad
 ·rw [decide_eq_true h, ct, decide_eq_true (.inl h)]
 ·rw [decide_eq_false h, cf, F162_eq hl, ob];by_cases h2 : x ∈ al.V
  ·rw [decide_eq_true h2, decide_eq_true (.inr h2)]
  ·rw [decide_eq_false h2, decide_eq_false fun h3 => h3.elim h h2]
theorem FOnlyB_eq {l : List Bk} {w : Wd} {al : Vw} (hl : l.length ≤ 100000) (hb : w.Bad.length ≤ 100) (ha : al.B.length ≤ 100000) : FOnlyB l w al = some (l.filter fun x => decide (x.From ∈ w.Bad ∨ x ∈ al.B)) := by
 have e := count_loop (step := FOnlyB_s1 l w al) (n := l.length) (fun k => FOnlyB_L1.mk (k : Int) ((l.take k).filter fun x => decide (x.From ∈ w.Bad ∨ x ∈ al.B))) (FOnlyB_L1.mk (l.length : Int) (l.filter fun x => decide (x.From ∈ w.Bad ∨ x ∈ al.B))) (fun k hk => by
  obtain ⟨y, hy, -⟩ := get_of hk;have hlen := filter_take_len (p := fun x : Bk => decide (x.From ∈ w.Bad ∨ x ∈ al.B)) (l := l) k;unfold FOnlyB_s1;simp only;rw [decide_eq_true (show (k : Int) < (l.length : Int) by omega), ct, ix_nat hy, ob, FOf31_eq y hb ha, ob, filter_take_snoc hy, wrap_succ (n := k) (by omega)]
  cases decide (y.From ∈ w.Bad ∨ y ∈ al.B) with
  | true => rw [ct, room_ok (by simp only [List.length_singleton]; omega) (by omega), ct, ct]
  | false => rw [cf, cf, List.append_nil]) (by
  unfold FOnlyB_s1;simp only
  rw [decide_eq_false (show ¬ (l.length : Int) < (l.length : Int) by omega), cf, List.take_length]) (by omega)
 have e' : iter (FOnlyB_s1 l w al) big (FOnlyB_L1.mk 0 []) = _ := e;unfold FOnlyB;rw [e', ob]
theorem FOnlyV_eq {l : List Vt} {w : Wd} {al : Vw} (hl : l.length ≤ 100000) (hb : w.Bad.length ≤ 100) (ha : al.V.length ≤ 100000) : FOnlyV l w al = some (l.filter fun x => decide (x.From ∈ w.Bad ∨ x ∈ al.V)) := by
 have e := count_loop (step := FOnlyV_s1 l w al) (n := l.length) (fun k => FOnlyV_L1.mk (k : Int) ((l.take k).filter fun x => decide (x.From ∈ w.Bad ∨ x ∈ al.V))) (FOnlyV_L1.mk (l.length : Int) (l.filter fun x => decide (x.From ∈ w.Bad ∨ x ∈ al.V))) (fun k hk => by
  obtain ⟨y, hy, -⟩ := get_of hk;have hlen := filter_take_len (p := fun x : Vt => decide (x.From ∈ w.Bad ∨ x ∈ al.V)) (l := l) k;unfold FOnlyV_s1;simp only;rw [decide_eq_true (show (k : Int) < (l.length : Int) by omega), ct, ix_nat hy, ob, FOf32_eq y hb ha, ob, filter_take_snoc hy, wrap_succ (n := k) (by omega)]
  cases decide (y.From ∈ w.Bad ∨ y ∈ al.V) with
  | true => rw [ct, room_ok (by simp only [List.length_singleton]; omega) (by omega), ct, ct]
  | false => rw [cf, cf, List.append_nil]) (by
  unfold FOnlyV_s1;simp only
  rw [decide_eq_false (show ¬ (l.length : Int) < (l.length : Int) by omega), cf, List.take_length]) (by omega)
 have e' : iter (FOnlyV_s1 l w al) big (FOnlyV_L1.mk 0 []) = _ := e;unfold FOnlyV;rw [e', ob]
theorem FFine_eq {a : Ac} {w : Wd} {al : Vw} (h1 : a.B.length ≤ 1000) (h2 : a.V.length ≤ 1000) (hb : w.Bad.length ≤ 100) (h3 : al.B.length ≤ 100000) (h4 : al.V.length ≤ 100000) : FFine a w al = some (fineP w.Bad al a) := by
 unfold FFine;rw [FOnlyB_eq (by omega) hb h3, ob, FOnlyV_eq (by omega) hb h4, ob];rfl
theorem FOnlyA_eq {l : List Ac} {w : Wd} (hl : l.length ≤ 100000) : FOnlyA l w = some (callsP w l) := by
 have e := count_loop (step := FOnlyA_s1 l w) (n := l.length) (fun k => FOnlyA_L1.mk (k : Int) (callsP w (l.take k))) (FOnlyA_L1.mk (l.length : Int) (callsP w l)) (fun k hk => by
  obtain ⟨y, hy, -⟩ := get_of hk;have hlen := filter_take_len (p := fun a : Ac => decide (a.Tick = w.Tick ∧ a.To ≥ 0)) (l := l) k;unfold callsP at hlen ⊢;unfold FOnlyA_s1 FOf1;simp only;rw [decide_eq_true (show (k : Int) < (l.length : Int) by omega), ct, ix_nat hy, ob, filter_take_snoc hy, wrap_succ (n := k) (by omega)];by_cases h1 : y.Tick = w.Tick
  ·rw [beq_iff_eq.2 h1, ct, ob];by_cases h2 : y.To ≥ 0
   ·rw [decide_eq_true h2, ct, decide_eq_true ⟨h1, h2⟩, ct, room_ok (by simp only [List.length_singleton]; omega) (by omega), ct]
   ·rw [decide_eq_false h2, cf, decide_eq_false fun h => h2 h.2, cf, List.append_nil]
  ·rw [show (y.Tick == w.Tick) = false by simp [h1], cf, ob, cf, decide_eq_false fun h => h1 h.1, cf, List.append_nil]) (by
  unfold FOnlyA_s1;simp only
  rw [decide_eq_false (show ¬ (l.length : Int) < (l.length : Int) by omega), cf, List.take_length]) (by omega)
 have e' : iter (FOnlyA_s1 l w) big (FOnlyA_L1.mk 0 []) = _ := e;unfold FOnlyA;rw [e', ob]
theorem all_fit {w : Wd} (h : FitW w) : (allW w).B.length ≤ 10000 ∧ (allW w).V.length ≤ 10000 := by
 have h1 := allP_len (l := w.N) (w := ⟨[], []⟩) (k := 500) h.nodes;have h2 := h.n;unfold allW;simp only [List.length_nil] at h1;omega
theorem FMail_eq {w : Wd} {l : List Ac} (h : FitW w) (hl : l.length ≤ 100000) : FMail w l = some (allW w, whoW w, decide (whoW w ∈ w.Bad), callsP w l) := by
 unfold FMail;rw [F1031_eqG (by have := h.n; omega) h.nodes, ob, F63_eq, ob, F119_eq (by have := h.bad; omega), ob, FOnlyA_eq hl, ob];rfl
theorem fine_len (bad : List Int) (al : Vw) (a : Ac) : (fineP bad al a).B.length ≤ a.B.length ∧ (fineP bad al a).V.length ≤ a.V.length := ⟨List.length_filter_le _ _, List.length_filter_le _ _⟩
theorem to_len {slot wh : Int} {bad : List Int} {al : Vw} {me : Bool} {k : Int} : ∀ {l : List Ac} {s : Vw × List Of}, (∀ a ∈ l, a.B.length ≤ 8 ∧ a.V.length ≤ 8) → (l.foldl (toStep slot wh bad al me k) s).1.B.length ≤ s.1.B.length + 8 * l.length ∧ (l.foldl (toStep slot wh bad al me k) s).1.V.length ≤ s.1.V.length + 8 * l.length ∧ (l.foldl (toStep slot wh bad al me k) s).2.length ≤ s.2.length + l.length
 | [], s, _ => by simp
 | a :: r, s, h => by
  rw [List.foldl_cons, List.length_cons];obtain ⟨h1, h2⟩ := h a (List.mem_cons_self ..);have ih := to_len (slot := slot) (wh := wh) (bad := bad) (al := al) (me := me) (k := k) (l := r) (s := toStep slot wh bad al me k s a) fun b hb => h b (List.mem_cons_of_mem _ hb);have hf := fine_len bad al a;have hj := join_len2 s.1 (fineP bad al a)
  have : (toStep slot wh bad al me k s a).1.B.length ≤ s.1.B.length + 8 ∧ (toStep slot wh bad al me k s a).1.V.length ≤ s.1.V.length + 8 ∧ (toStep slot wh bad al me k s a).2.length ≤ s.2.length + 1 := by
   unfold toStep;split
   ·omega
   ·split
    ·simp only; omega
    ·split
     ·split
      ·omega
      ·simp only [List.length_append, List.length_singleton]; omega
     ·omega
  omega
theorem FTo_eq {w : Wd} {l : List Ac} (h : FitW w) (hl : FitA l) (k : Nat) : FTo w (allW w) (whoW w) (decide (whoW w ∈ w.Bad)) (callsP w l) (k : Int) = some (comeP w l k) := by
 have hal := all_fit h;have hcl : (callsP w l).length ≤ 30 := Nat.le_trans (List.length_filter_le _ _) hl.len;have hce : ∀ a ∈ callsP w l, a.B.length ≤ 8 ∧ a.V.length ≤ 8 := fun a ha => hl.each a (List.mem_filter.1 ha).1;unfold comeP;generalize callsP w l = cl at hcl hce;generalize hst : toStep (slotW w) (whoW w) w.Bad (allW w) (decide (whoW w ∈ w.Bad)) (k : Int) = st;have ho := h.o;have hb := h.bad
 have e := count_loop (step := FTo_s1 w (allW w) (whoW w) (decide (whoW w ∈ w.Bad)) cl (k : Int)) (n := cl.length) (fun j => FTo_L1.mk (j : Int) ((cl.take j).foldl st (allW w, w.O)).1 ((cl.take j).foldl st (allW w, w.O)).2) (FTo_L1.mk (cl.length : Int) (cl.foldl st (allW w, w.O)).1 (cl.foldl st (allW w, w.O)).2) (fun j hj => by
  obtain ⟨y, hy, hm⟩ := get_of hj
  have et : cl.take (j + 1) = cl.take j ++ [y] := by rw [List.take_add_one, hy]; rfl
  have hlen := to_len (slot := slotW w) (wh := whoW w) (bad := w.Bad) (al := allW w) (me := decide (whoW w ∈ w.Bad)) (k := (k : Int)) (l := cl.take j) (s := (allW w, w.O)) fun a ha => hce a (List.mem_of_mem_take ha);rw [hst, List.length_take] at hlen;obtain ⟨y1, y2⟩ := hce y hm;have hf := fine_len w.Bad (allW w) y;unfold FTo_s1;simp only;rw [et, List.foldl_append, List.foldl_cons, List.foldl_nil];generalize (cl.take j).foldl st (allW w, w.O) = s at hlen ⊢;simp only at hlen;rw [decide_eq_true (show (j : Int) < (cl.length : Int) by omega), ct, ix_nat hy, ob, decide_eq_true (show (0 : Int) ≤ (k : Int) by omega), ct, wrap_succ (n := j) (by omega), ← hst];show (bif offP y.To (k : Int) then _ else _) = _;unfold toStep
  cases hof : offP y.To (k : Int) with
  | true => rw [ct, if_pos rfl]
  | false =>
   rw [cf, if_neg (by simp), FFine_eq (by omega) (by omega) hb (by omega) (by omega), ob]
   cases hoff : y.Offer with
   | false => rw [Bool.not_false, ct, if_pos rfl, F91_eq (by omega) (by omega), ob]
   | true =>
    rw [Bool.not_true, cf, if_neg (by simp)]
    cases hme : decide (whoW w ∈ w.Bad) with
    | false => rw [cf, ob, cf, if_neg (by simp)]
    | true =>
     rw [ct, ob, if_pos rfl]
     cases hB : (fineP w.Bad (allW w) y).B with
     | nil => rfl
     | cons b r =>
      rw [decide_eq_true (by simp), ct];show (bif inL (b :: r) 1 (b :: r).length then _ else none) = _;rw [show inL (b :: r) 1 ((b :: r).length : Int) = true from decide_eq_true (by simp only [List.length_cons]; omega), ct, room_ok (by simp only [List.length_singleton]; omega) (by omega), ct]
      rfl) (by
  unfold FTo_s1;simp only
  rw [decide_eq_false (show ¬ (cl.length : Int) < (cl.length : Int) by omega), cf, List.take_length]) (by omega)
 have e' : iter (FTo_s1 w (allW w) (whoW w) (decide (whoW w ∈ w.Bad)) cl (k : Int)) big (FTo_L1.mk 0 (allW w) w.O) = _ := e;unfold FTo;rw [room_ok (by omega) (by omega), ct, e', ob]
theorem steps_get {w : Wd} {l : List Ac} {k : Nat} {n : Nd} (h : w.N[k]? = some n) : (stepsP w l)[k]? = some (stepN w.C n (comeP w l k).1 (comeP w l k).2) := by
 unfold stepsP;rw [List.getElem?_map, List.getElem?_zipIdx, h];simp
theorem steps_len (w : Wd) (l : List Ac) : (stepsP w l).length = w.N.length := by
 unfold stepsP;rw [List.length_map, List.length_zipIdx]
theorem idleW_gate (w : Wd) : ((F64 w.C).bind fun v2 => bif !v2 then some true else bif decide (w.Tick < 3) then some true else some (decide (w.Tick ≥ 3145728))) = some (idleW w) := by
 rw [F64_eq, ob];unfold idleW;by_cases h1 : MayC w.C
 ·rw [decide_eq_true h1, Bool.not_true, cf];by_cases h2 : w.Tick < 3
  ·rw [decide_eq_true h2, ct, decide_eq_true (.inr (.inl h2))]
  ·rw [decide_eq_false h2, cf];by_cases h3 : w.Tick ≥ 3145728
   ·rw [decide_eq_true h3, decide_eq_true (.inr (.inr h3))]
   ·rw [decide_eq_false h3, decide_eq_false];rintro (h | h | h)
    ·exact h h1
    ·exact h2 h
    ·exact h3 h
 ·rw [decide_eq_false h1, Bool.not_false, ct, decide_eq_true (.inl h1)]
theorem F4017_eq {w : Wd} {l : List Ac} (h : FitW w) (hl : FitA l) (hG : ∀ k n, w.N[k]? = some n → FewG w.C n (comeP w l k).1 (comeP w l k).2) (hT : ∀ k n, w.N[k]? = some n → (stepN w.C n (comeP w l k).1 (comeP w l k).2).2.length ≤ 1) : F4017 w l = some (doP w l) := by
 have hN := h.n;unfold F4017 doP;rw [idleW_gate, ob]
 cases hi : idleW w with
 | true => rw [ct, F4050_eq h, ob, if_pos rfl]
 | false =>
  have hsl := steps_len w l
  have hfl : ∀ k, k ≤ w.N.length → (((stepsP w l).take k).flatMap (·.2)).length ≤ k := by
   intro k
   induction k with
   | zero => intro _; simp
   | succ k ih =>
    intro hk;obtain ⟨n, hn⟩ : ∃ n, w.N[k]? = some n := ⟨_, List.getElem?_eq_getElem (by omega)⟩;rw [List.take_add_one, steps_get hn, List.flatMap_append, List.length_append];have := ih (by omega);have := hT k n hn;simp only [Option.toList_some, List.flatMap_cons, List.flatMap_nil, List.append_nil];omega
  have e := count_loop (step := F4017_s1 w (allW w, whoW w, decide (whoW w ∈ w.Bad), callsP w l)) (n := w.N.length) (fun k => F4017_L1.mk (k : Int) (((stepsP w l).take k).map (·.1)) (((stepsP w l).take k).flatMap (·.2))) (F4017_L1.mk (w.N.length : Int) ((stepsP w l).map (·.1)) ((stepsP w l).flatMap (·.2))) (fun k hk => by
   obtain ⟨y, hy, hm⟩ := get_of hk;have hk2 := hfl k (by omega);have hT1 := hT k y hy;have hw := (step_way (hG k y hy)).1;unfold F4017_s1;simp only;rw [decide_eq_true (show (k : Int) < (w.N.length : Int) by omega), ct, FTo_eq h hl k, ob, ix_nat hy, ob, hw, ob, room_ok (by rw [List.length_map, List.length_take]; simp only [List.length_singleton]; omega) (by omega), ct, room_ok (by omega) (by omega), ct, wrap_succ (n := k) (by omega)];rw [List.take_add_one, steps_get hy, List.map_append, List.flatMap_append]
   simp) (by
   unfold F4017_s1;simp only
   rw [decide_eq_false (show ¬ (w.N.length : Int) < (w.N.length : Int) by omega), cf, List.take_of_length_le (by omega)]) (by omega)
  have e' : iter (F4017_s1 w (allW w, whoW w, decide (whoW w ∈ w.Bad), callsP w l)) big (F4017_L1.mk 0 [] []) = _ := e;have := h.bad;rw [cf, FMail_eq h (by have := hl.len; omega), ob, room_ok (by omega) (by omega), ct, e', ob, if_neg (by simp)]
def SzO (o : Of) : Prop := o.V.B.length ≤ 60 ∧ o.V.V.length ≤ 240
structure NOk (c : Cf) (U : Vw) (n : Nd) : Prop where
 may : MayW c n.V
 nd : NdV n.In
 few : n.O.length ≤ 8
 all : AllN (· ∈ U.B) (· ∈ U.V) n
 sz : ∀ o ∈ n.O, SzO o
structure WOk (U : Vw) (w : Wd) : Prop where
 len : w.N.length ≤ 6
 bad : w.Bad.length ≤ 10
 nodes : ∀ n ∈ w.N, NOk w.C U n
 told : w.O.length ≤ 6
 offs : ∀ o ∈ w.O, AllO (· ∈ U.B) (· ∈ U.V) o ∧ SzO o
def actsV (l : List Ac) : Vw := ⟨l.flatMap Ac.B, l.flatMap Ac.V⟩
def SubU (a b : Vw) : Prop := (∀ x ∈ a.B, x ∈ b.B) ∧ ∀ x ∈ a.V, x ∈ b.V
theorem sub_refl (a : Vw) : SubU a a := ⟨fun _ h => h, fun _ h => h⟩
theorem sub_trans {a b d : Vw} (h1 : SubU a b) (h2 : SubU b d) : SubU a d := ⟨fun x h => h2.1 x (h1.1 x h), fun x h => h2.2 x (h1.2 x h)⟩
theorem allN_mono {P P' : Bk → Prop} {Q Q' : Vt → Prop} (hP : ∀ b, P b → P' b) (hQ : ∀ v, Q v → Q' v) {n : Nd} (h : AllN P Q n) : AllN P' Q' n :=
 ⟨⟨fun b hb => hP b (h.1.1 b hb), fun v hv => hQ v (h.1.2 v hv)⟩, ⟨fun b hb => hP b (h.2.1.1 b hb), fun v hv => hQ v (h.2.1.2 v hv)⟩, fun o ho => ⟨hP _ (h.2.2 o ho).1, fun b hb => hP b ((h.2.2 o ho).2.1 b hb), fun v hv => hQ v ((h.2.2 o ho).2.2 v hv)⟩⟩
theorem allO_mono {P P' : Bk → Prop} {Q Q' : Vt → Prop} (hP : ∀ b, P b → P' b) (hQ : ∀ v, Q v → Q' v) {o : Of} (h : AllO P Q o) : AllO P' Q' o :=
 ⟨hP _ h.1, fun b hb => hP b (h.2.1 b hb), fun v hv => hQ v (h.2.2 v hv)⟩
theorem nOk_mono {c : Cf} {U U' : Vw} (h : SubU U U') {n : Nd} (hn : NOk c U n) : NOk c U' n := ⟨hn.may, hn.nd, hn.few, allN_mono h.1 h.2 hn.all, hn.sz⟩
theorem wOk_mono {U U' : Vw} (h : SubU U U') {w : Wd} (hw : WOk U w) : WOk U' w := ⟨hw.len, hw.bad, fun n hn => nOk_mono h (hw.nodes n hn), hw.told, fun o ho => ⟨allO_mono h.1 h.2 (hw.offs o ho).1, (hw.offs o ho).2⟩⟩
section
variable {P : Bk → Prop} {Q : Vt → Prop}
theorem all_all : ∀ {l : List Nd} {w : Vw}, AllV P Q w → (∀ n ∈ l, AllN P Q n) → AllV P Q (allP l w)
 | [], w, h, _ => h
 | n :: r, w, h, hs => by
  have hn := hs n (List.mem_cons_self ..);exact all_all (l := r) (w := joinP w (knownP n)) (allV_join h (allV_join hn.1 hn.2.1)) fun m hm => hs m (List.mem_cons_of_mem _ hm)
theorem allV_fine {bad : List Int} {al : Vw} {a : Ac} (hal : AllV P Q al) (hB : ∀ b ∈ a.B, b.From ∈ bad → P b) (hV : ∀ v ∈ a.V, v.From ∈ bad → Q v) : AllV P Q (fineP bad al a) := by
 refine ⟨fun b hb => ?_, fun v hv => ?_⟩
 ·obtain ⟨h1, h2⟩ := List.mem_filter.1 hb;rcases of_decide_eq_true h2 with h | h
  ·exact hB b h1 h
  ·exact hal.1 b h
 ·obtain ⟨h1, h2⟩ := List.mem_filter.1 hv;rcases of_decide_eq_true h2 with h | h
  ·exact hV v h1 h
  ·exact hal.2 v h
theorem to_all {slot wh : Int} {bad : List Int} {al : Vw} {me : Bool} {k : Int} (hal : AllV P Q al) : ∀ {l : List Ac} {s : Vw × List Of}, (∀ a ∈ l, (∀ b ∈ a.B, b.From ∈ bad → P b) ∧ ∀ v ∈ a.V, v.From ∈ bad → Q v) → AllV P Q s.1 → (∀ o ∈ s.2, AllO P Q o) → AllV P Q (l.foldl (toStep slot wh bad al me k) s).1 ∧ ∀ o ∈ (l.foldl (toStep slot wh bad al me k) s).2, AllO P Q o
 | [], s, _, h1, h2 => ⟨h1, h2⟩
 | a :: r, s, h, h1, h2 => by
  rw [List.foldl_cons];have hf := allV_fine hal (h a (List.mem_cons_self ..)).1 (h a (List.mem_cons_self ..)).2
  have : AllV P Q (toStep slot wh bad al me k s a).1 ∧ ∀ o ∈ (toStep slot wh bad al me k s a).2, AllO P Q o := by
   unfold toStep;split
   ·exact ⟨h1, h2⟩
   ·split
    ·exact ⟨allV_join h1 hf, h2⟩
    ·split
     ·split
      ·exact ⟨h1, h2⟩
      ·rename_i b q hB;refine ⟨h1, fun o ho => ?_⟩;rcases List.mem_append.1 ho with ho | ho
       ·exact h2 o ho
       ·rw [List.mem_singleton.1 ho];exact ⟨hf.1 b (by rw [hB]; exact List.mem_cons_self ..), fun x hx => hf.1 x (by rw [hB]; exact List.mem_cons_of_mem _ hx), hf.2⟩
     ·exact ⟨h1, h2⟩
  exact to_all hal (fun b hb => h b (List.mem_cons_of_mem _ hb)) this.1 this.2
theorem to_nd {slot wh : Int} {bad : List Int} {al : Vw} {me : Bool} {k : Int} : ∀ {l : List Ac} {s : Vw × List Of}, NdV s.1 → NdV (l.foldl (toStep slot wh bad al me k) s).1
 | [], s, h => h
 | a :: r, s, h => by
  rw [List.foldl_cons];refine to_nd ?_;unfold toStep;split
  ·exact h
  ·split
   ·exact ndV_join h
   ·split
    ·split <;> exact h
    ·exact h
theorem to_sz {slot wh : Int} {bad : List Int} {al : Vw} {me : Bool} {k : Int} : ∀ {l : List Ac} {s : Vw × List Of}, (∀ a ∈ l, a.B.length ≤ 8 ∧ a.V.length ≤ 8) → (∀ o ∈ s.2, SzO o) → ∀ o ∈ (l.foldl (toStep slot wh bad al me k) s).2, SzO o
 | [], s, _, h => h
 | a :: r, s, hl, h => by
  rw [List.foldl_cons];refine to_sz (fun b hb => hl b (List.mem_cons_of_mem _ hb)) ?_;have hf := fine_len bad al a;have ha := hl a (List.mem_cons_self ..);unfold toStep;split
  ·exact h
  ·split
   ·exact h
   ·split
    ·split
     ·exact h
     ·rename_i b q hB;intro o ho;rcases List.mem_append.1 ho with ho | ho
      ·exact h o ho
      ·rw [List.mem_singleton.1 ho];have := congrArg List.length hB;rw [List.length_cons] at this;exact ⟨show q.length ≤ 60 by omega, show (fineP bad al a).V.length ≤ 240 by omega⟩
    ·exact h
end
def SzU (U : Vw) : Prop := U.B.length ≤ 400 ∧ U.V.length ≤ 400
theorem wOk_fit {U : Vw} {w : Wd} (hw : WOk U w) (hU : SzU U) : FitW w := by
 refine ⟨by have := hw.len; omega, fun n hn => ?_, by have := hw.told; omega, fun o ho => ?_, by have := hw.bad; omega⟩
 ·have h := hw.nodes n hn;have h1 := h.may.lenB;have h2 := h.may.lenV;have h3 := nodup_len h.nd.1 h.all.2.1.1;have h4 := nodup_len h.nd.2 h.all.2.1.2;have h5 := h.few;obtain ⟨u1, u2⟩ := hU;exact ⟨⟨by omega, by omega⟩, ⟨by omega, by omega⟩, by omega, fun o ho => by have := h.sz o ho; exact ⟨by have := this.1; omega, by have := this.2; omega⟩⟩
 ·have := (hw.offs o ho).2;exact ⟨by have := this.1; omega, by have := this.2; omega⟩
theorem come_all {P : Bk → Prop} {Q : Vt → Prop} {w : Wd} {l : List Ac} (hn : ∀ n ∈ w.N, AllN P Q n) (ho : ∀ o ∈ w.O, AllO P Q o) (ha : ∀ a ∈ l, (∀ b ∈ a.B, b.From ∈ w.Bad → P b) ∧ ∀ v ∈ a.V, v.From ∈ w.Bad → Q v) (k : Nat) :
  AllV P Q (comeP w l k).1 ∧ ∀ o ∈ (comeP w l k).2, AllO P Q o := by
 have hal : AllV P Q (allW w) := all_all allV_nil hn;exact to_all hal (fun a h => ha a (List.mem_filter.1 h).1) hal ho
theorem come_nd (w : Wd) (l : List Ac) (k : Nat) : NdV (comeP w l k).1 := to_nd (all_nodup List.nodup_nil List.nodup_nil)
theorem come_len {w : Wd} {l : List Ac} (hl : FitA l) (k : Nat) : (comeP w l k).2.length ≤ w.O.length + 30 := by
 have h := (to_len (slot := slotW w) (wh := whoW w) (bad := w.Bad) (al := allW w) (me := decide (whoW w ∈ w.Bad)) (k := (k : Int)) (l := callsP w l) (s := (allW w, w.O)) fun a ha => hl.each a (List.mem_filter.1 ha).1).2.2;have h2 : (callsP w l).length ≤ l.length := List.length_filter_le _ _;have h3 := hl.len;unfold comeP;simp only at h;omega
theorem come_sz {U : Vw} {w : Wd} {l : List Ac} (hw : WOk U w) (hl : FitA l) (k : Nat) : ∀ o ∈ (comeP w l k).2, SzO o := to_sz (fun a ha => hl.each a (List.mem_filter.1 ha).1) fun o ho => (hw.offs o ho).2
theorem acts_in {l : List Ac} {U : Vw} (hs : SubU (actsV l) U) (bad : List Int) : ∀ a ∈ l, (∀ b ∈ a.B, b.From ∈ bad → b ∈ U.B) ∧ ∀ v ∈ a.V, v.From ∈ bad → v ∈ U.V :=
 fun a ha => ⟨fun b hb _ => hs.1 b (List.mem_flatMap.2 ⟨a, ha, hb⟩), fun v hv _ => hs.2 v (List.mem_flatMap.2 ⟨a, ha, hv⟩)⟩
theorem fewW {U : Vw} {w : Wd} {l : List Ac} (hw : WOk U w) (hU : SzU U) (hl : FitA l) (hs : SubU (actsV l) U) {k : Nat} {n : Nd} (hk : w.N[k]? = some n) : FewG w.C n (comeP w l k).1 (comeP w l k).2 := by
 have hn := hw.nodes n (List.mem_of_getElem? hk);obtain ⟨u1, u2⟩ := hU;have hc := come_all (fun n hn => (hw.nodes n hn).all) (fun o ho => (hw.offs o ho).1) (acts_in hs w.Bad) k;have hd := come_nd w l k;have hi := nodup_len hd.1 hc.1.1;have hi2 := nodup_len hd.2 hc.1.2;have hj : NdV (joinP n.In (onlyP w.C (comeP w l k).1)) := ndV_join hn.nd;have hja : AllV (· ∈ U.B) (· ∈ U.V) (joinP n.In (onlyP w.C (comeP w l k).1)) := allV_join hn.all.2.1 (allV_only hc.1);have h1 := hn.may.lenB;have h2 := hn.may.lenV;have h3 := nodup_len hn.nd.1 hn.all.2.1.1;have h4 := nodup_len hn.nd.2 hn.all.2.1.2;have h5 := nodup_len hj.1 hja.1;have h6 := nodup_len hj.2 hja.2;have h7 := come_len (w := w) hl k;have h8 := hw.told;have h9 := hn.few;refine ⟨by omega, by omega, by omega, by omega, by omega, fun y hy => ?_⟩
 have : SzO y := by
  rcases List.mem_append.1 hy with hy | hy
  ·exact hn.sz y hy
  ·exact come_sz hw hl k y hy
 exact ⟨by have := this.1; omega, by have := this.2; omega⟩
noncomputable def newB (w : Wd) (l : List Ac) : List Bk := w.N.zipIdx.map fun p => propB (nodeS w.C p.1 (comeP w l p.2).1 (comeP w l p.2).2) w.C (slotS p.1)
noncomputable def newV (w : Wd) (l : List Ac) : List Vt := w.N.zipIdx.map fun p => voteS w.C p.1 (comeP w l p.2).1 (comeP w l p.2).2
noncomputable def nextU (U : Vw) (w : Wd) (l : List Ac) : Vw := ⟨U.B ++ newB w l, U.V ++ newV w l⟩
theorem next_sub (U : Vw) (w : Wd) (l : List Ac) : SubU U (nextU U w l) := ⟨fun _ h => List.mem_append_left _ h, fun _ h => List.mem_append_left _ h⟩
theorem next_len {U : Vw} {w : Wd} (hw : w.N.length ≤ 6) (l : List Ac) : (nextU U w l).B.length ≤ U.B.length + 6 ∧ (nextU U w l).V.length ≤ U.V.length + 6 := by
 unfold nextU newB newV;simp only [List.length_append, List.length_map, List.length_zipIdx];omega
theorem zip_get {w : Wd} {k : Nat} {n : Nd} (h : w.N[k]? = some n) : (n, k) ∈ w.N.zipIdx := by
 refine List.mem_of_getElem? (i := k) ?_;rw [List.getElem?_zipIdx, h];simp
theorem do_node {w : Wd} {l : List Ac} (hi : idleW w = false) {k : Nat} : ((doP w l).N[k]? = (w.N[k]?).map fun n => (stepN w.C n (comeP w l k).1 (comeP w l k).2).1) := by
 unfold doP;rw [if_neg (by simp [hi])];simp only;rw [List.getElem?_map]
 cases h : w.N[k]? with
 | none =>
  have := List.getElem?_eq_none_iff.1 h;rw [List.getElem?_eq_none (by rw [steps_len]; exact this)];rfl
 | some n => rw [steps_get h]; rfl
theorem do_told {w : Wd} {l : List Ac} (hi : idleW w = false) {o : Of} (ho : o ∈ (doP w l).O) : ∃ k n, w.N[k]? = some n ∧ o ∈ (stepN w.C n (comeP w l k).1 (comeP w l k).2).2 := by
 unfold doP at ho;rw [if_neg (by simp [hi])] at ho;obtain ⟨p, hp, h⟩ := List.mem_flatMap.1 ho;obtain ⟨k, hk, e⟩ := List.getElem_of_mem hp;rw [steps_len] at hk;obtain ⟨n, hn⟩ : ∃ n, w.N[k]? = some n := ⟨_, List.getElem?_eq_getElem hk⟩;refine ⟨k, n, hn, ?_⟩;have h1 := steps_get (l := l) hn;rw [List.getElem?_eq_getElem (by rw [steps_len]; exact hk), e] at h1;rw [← Option.some.inj h1];exact h
theorem do_len (w : Wd) (l : List Ac) : (doP w l).N.length = w.N.length := by
 unfold doP;split
 ·rfl
 ·simp only [List.length_map, steps_len]
theorem do_ok {U : Vw} {w : Wd} {l : List Ac} (hw : WOk U w) (hU : SzU U) (hl : FitA l) (hs : SubU (actsV l) U) : F4017 w l = some (doP w l) ∧ WOk (nextU U w l) (doP w l) := by
 have hfit := wOk_fit hw hU;have hG : ∀ k n, w.N[k]? = some n → FewG w.C n (comeP w l k).1 (comeP w l k).2 := fun k n h => fewW hw hU hl hs h;have hsame := fun k n (h : w.N[k]? = some n) => step_same (hG k n h) (hw.nodes n (List.mem_of_getElem? h)).may (hw.nodes n (List.mem_of_getElem? h)).nd (hw.nodes n (List.mem_of_getElem? h)).few;have hc := fun k => come_all (fun n hn => (hw.nodes n hn).all) (fun o ho => (hw.offs o ho).1) (acts_in hs w.Bad) k;refine ⟨F4017_eq hfit hl hG fun k n h => (hsame k n h).2.2.2.2.2.2.1, ?_⟩
 cases hi : idleW w with
 | true => unfold doP; rw [if_pos hi]; exact wOk_mono (next_sub U w l) hw
 | false =>
  have hall := fun k n (h : w.N[k]? = some n) => step_all (P := (· ∈ (nextU U w l).B)) (Q := (· ∈ (nextU U w l).V)) (hG k n h)
   (allN_mono (next_sub U w l).1 (next_sub U w l).2 (hw.nodes n (List.mem_of_getElem? h)).all)
   ⟨fun b hb => (next_sub U w l).1 b ((hc k).1.1 b hb), fun v hv => (next_sub U w l).2 v ((hc k).1.2 v hv)⟩
   (fun y hy => allO_mono (next_sub U w l).1 (next_sub U w l).2 ((hc k).2 y hy))
   (fun _ _ _ => List.mem_append_right _ (List.mem_map.2 ⟨_, zip_get h, rfl⟩)) (fun _ _ _ => List.mem_append_right _ (List.mem_map.2 ⟨_, zip_get h, rfl⟩))
  have hC : (doP w l).C = w.C := by unfold doP; rw [if_neg (by simp [hi])]
  have hB : (doP w l).Bad = w.Bad := by unfold doP; rw [if_neg (by simp [hi])]
  have hO : (doP w l).O.length ≤ 6 := by
   have : ∀ k, k ≤ w.N.length → (((stepsP w l).take k).flatMap (·.2)).length ≤ k := by
    intro k
    induction k with
    | zero => intro _; simp
    | succ k ih =>
     intro hk;obtain ⟨n, hn⟩ : ∃ n, w.N[k]? = some n := ⟨_, List.getElem?_eq_getElem (by omega)⟩;rw [List.take_add_one, steps_get hn, List.flatMap_append, List.length_append];have := ih (by omega);have := (hsame k n hn).2.2.2.2.2.2.1;simp only [Option.toList_some, List.flatMap_cons, List.flatMap_nil, List.append_nil];omega
   have h2 := this w.N.length (Nat.le_refl _);rw [List.take_of_length_le (by rw [steps_len]; omega)] at h2;have h3 := hw.len;unfold doP;rw [if_neg (by simp [hi])];simp only;omega
  refine ⟨by rw [do_len]; exact hw.len, by rw [hB]; exact hw.bad, fun x hx => ?_, hO, fun o ho => ?_⟩
  ·obtain ⟨k, hk, e⟩ := List.getElem_of_mem hx
   have h1 : (doP w l).N[k]? = some x := by rw [List.getElem?_eq_getElem hk, e]
   rw [do_node hi] at h1
   cases hn : w.N[k]? with
   | none => rw [hn] at h1; cases h1
   | some n =>
    rw [hn] at h1;have e2 := Option.some.inj h1;subst e2;obtain ⟨s1, s2, s3, s4, s5, s6, s7, s8, s9⟩ := hsame k n hn;rw [hC];refine ⟨s3.1, s4, s5, (hall k n hn).1, fun o ho => ?_⟩;rcases List.mem_append.1 (s8 o ho) with h | h
    ·exact (hw.nodes n (List.mem_of_getElem? hn)).sz o h
    ·exact come_sz hw hl k o h
  ·obtain ⟨k, n, hn, h⟩ := do_told hi ho;obtain ⟨s1, s2, s3, s4, s5, s6, s7, s8, s9⟩ := hsame k n hn;exact ⟨(hall k n hn).2 o h, (s9 o h).lenB, (s9 o h).lenV⟩
structure TOk (w : Wd) : Prop where
 may : MayC w.C
 lo : 3 ≤ w.Tick
 hi : w.Tick ≤ 100000
 at_ : ∀ n ∈ w.N, n.Tick = w.Tick
theorem tOk_busy {w : Wd} (h : TOk w) : idleW w = false := by
 refine decide_eq_false ?_;have h1 := h.lo;have h2 := h.hi;rintro (h3 | h3 | h3)
 ·exact h3 h.may
 ·omega
 ·omega
theorem tOk_node {w : Wd} (h : TOk w) {n : Nd} (hn : n ∈ w.N) : idleS w.C n = false := by
 have h1 := h.lo;have h2 := h.hi;have h3 := h.at_ n hn;exact busy_of h.may (by omega) (by omega)
theorem do_time {U : Vw} {w : Wd} {l : List Ac} (hw : WOk U w) (hU : SzU U) (hl : FitA l) (hs : SubU (actsV l) U) (ht : TOk w) : (doP w l).C = w.C ∧ (doP w l).Bad = w.Bad ∧ (doP w l).Tick = w.Tick + 1 ∧ (∀ n ∈ (doP w l).N, n.Tick = w.Tick + 1) ∧ (doP w l).N.map Nd.No = w.N.map Nd.No := by
 have hi := tOk_busy ht;have h1 := ht.lo;have h2 := ht.hi;have hG : ∀ k n, w.N[k]? = some n → FewG w.C n (comeP w l k).1 (comeP w l k).2 := fun k n h => fewW hw hU hl hs h;have hsame := fun k n (h : w.N[k]? = some n) => step_same (hG k n h) (hw.nodes n (List.mem_of_getElem? h)).may (hw.nodes n (List.mem_of_getElem? h)).nd (hw.nodes n (List.mem_of_getElem? h)).few;refine ⟨by unfold doP; rw [if_neg (by simp [hi])], by unfold doP; rw [if_neg (by simp [hi])], by unfold doP; rw [if_neg (by simp [hi])]; exact wrapI (by omega) (by omega), fun x hx => ?_, ?_⟩
 ·obtain ⟨k, hk, e⟩ := List.getElem_of_mem hx
  have h1 : (doP w l).N[k]? = some x := by rw [List.getElem?_eq_getElem hk, e]
  rw [do_node hi] at h1
  cases hn : w.N[k]? with
  | none => rw [hn] at h1; cases h1
  | some n =>
   rw [hn] at h1;have e2 := Option.some.inj h1;subst e2;have hm := List.mem_of_getElem? hn;have := (hsame k n hn).2.1;rw [tOk_node ht hm, if_neg (by simp), ht.at_ n hm, wrapI (by omega) (by omega)] at this;exact this
 ·apply List.ext_getElem?;intro k;rw [List.getElem?_map, List.getElem?_map, do_node hi]
  cases hn : w.N[k]? with
  | none => rfl
  | some n =>
   simp only [Option.map_some];rw [(hsame k n hn).1]
noncomputable def runP (w : Wd) (l : List Ac) : Nat → Wd
 | 0 => w
 | n + 1 => doP (runP w l n) l
noncomputable def runU (U : Vw) (w : Wd) (l : List Ac) : Nat → Vw
 | 0 => U
 | n + 1 => nextU (runU U w l n) (runP w l n) l
structure ROk (U : Vw) (w : Wd) (l : List Ac) (k : Nat) : Prop where
 ok : WOk (runU U w l k) (runP w l k)
 B : (runU U w l k).B.length ≤ U.B.length + 6 * k
 V : (runU U w l k).V.length ≤ U.V.length + 6 * k
 sub : SubU U (runU U w l k)
 time : TOk (runP w l k)
 tick : (runP w l k).Tick = w.Tick + k
 conf : (runP w l k).C = w.C
 bad : (runP w l k).Bad = w.Bad
 nos : (runP w l k).N.map Nd.No = w.N.map Nd.No
theorem run_ok {U : Vw} {w : Wd} {l : List Ac} (hw : WOk U w) (hl : FitA l) (hs : SubU (actsV l) U) (ht : TOk w) (hB : U.B.length ≤ 300) (hV : U.V.length ≤ 300) (hT : w.Tick ≤ 1000) : ∀ k, k ≤ 15 → ROk U w l k
 | 0, _ => ⟨hw, by simp [runU], by simp [runU], sub_refl U, ht, by simp [runP], rfl, rfl, rfl⟩
 | k + 1, h => by
  obtain ⟨r1, r2, r3, r4, r5, r6, r7, r8, r9⟩ := run_ok hw hl hs ht hB hV hT k (by omega);have hU : SzU (runU U w l k) := ⟨by omega, by omega⟩;have hs' := sub_trans hs r4;have hd := do_ok r1 hU hl hs';obtain ⟨t1, t2, t3, t4, t5⟩ := do_time r1 hU hl hs' r5;have hn := next_len (U := runU U w l k) r1.len l;have h1 := r5.lo;refine ⟨hd.2, ?_, ?_, sub_trans r4 (next_sub _ _ _), ⟨by show MayC (doP _ _).C; rw [t1]; exact r5.may, by show 3 ≤ (doP _ _).Tick; omega, by show (doP _ _).Tick ≤ _; omega, fun n hn => by rw [t4 n hn]; exact t3.symm⟩, ?_, t1.trans r7, t2.trans r8, t5.trans r9⟩
  ·show (nextU _ _ _).B.length ≤ _; omega
  ·show (nextU _ _ _).V.length ≤ _; omega
  ·show (doP _ _).Tick = _; rw [t3, r6]; omega
theorem do_run {U : Vw} {w : Wd} {l : List Ac} (hl : FitA l) (hs : SubU (actsV l) U) (hB : U.B.length ≤ 300) (hV : U.V.length ≤ 300) {k : Nat} (hk : k ≤ 15) (h : ROk U w l k) : F4017 (runP w l k) l = some (runP w l (k + 1)) := by
 have h2 := h.B;have h3 := h.V;exact (do_ok h.ok ⟨by omega, by omega⟩ hl (sub_trans hs h.sub)).1
theorem F4031_eq {U : Vw} {w : Wd} {l : List Ac} (hl : FitA l) (hs : SubU (actsV l) U) (hB : U.B.length ≤ 300) (hV : U.V.length ≤ 300) {t : Int} (ht : t ≤ 15) (h : ∀ k : Nat, (k : Int) ≤ t ∨ k = 0 → ROk U w l k) : F4031 w l t = some (runP w l t.toNat) := by
 have h0 := h 0 (.inr rfl);have hU : SzU U := ⟨by omega, by omega⟩
 have e := count_loop (step := F4031_s1 l t) (n := t.toNat) (fun k => F4031_L1.mk (k : Int) (runP w l k)) (F4031_L1.mk (t.toNat : Int) (runP w l t.toNat)) (fun k hk => by
  unfold F4031_s1;simp only
  rw [if_neg (by omega), decide_eq_true (show (k : Int) < t by omega), ct, do_run hl hs hB hV (by omega) (h k (.inl (by omega))), ob, wrap_succ (n := k) (by omega)]) (by
  unfold F4031_s1;simp only
  rw [if_neg (by omega), decide_eq_false (show ¬ (t.toNat : Int) < t by omega), cf]) (by omega)
 have e' : iter (F4031_s1 l t) big (F4031_L1.mk 0 w) = _ := e;unfold F4031;rw [F4050_eq (wOk_fit (U := U) (w := w) h0.ok hU), ob, e', ob]
theorem F4036_or (l : List Ac) {k : Int} (hk : k ≤ 100) : F4036 l k = some false ∨ (F4036 l k = some true ∧ (l.length : Int) ≤ k ∧ ∀ a ∈ l, a.B.length ≤ 8 ∧ a.V.length ≤ 8) := by
 unfold F4036;by_cases h : (l.length : Int) > k
 ·rw [decide_eq_true h, ct]; exact .inl rfl
 ·rw [decide_eq_false h, cf]
  have e := scan_loop (step := F4036_s1 l) (n := l.length) (fun j => F4036_L1.mk (j : Int)) false (fun j => ∀ a, l[j]? = some a → a.B.length ≤ 8 ∧ a.V.length ≤ 8) (fun j hj => by
   obtain ⟨y, hy, -⟩ := get_of hj;unfold F4036_s1;simp only;rw [decide_eq_true (show (j : Int) < (l.length : Int) by omega), ct, ix_nat hy, ob, ob];by_cases h1 : (y.B.length : Int) > 8
   ·rw [decide_eq_true h1, ct]; exact .inl rfl
   ·rw [decide_eq_false h1, cf];by_cases h2 : (y.V.length : Int) > 8
    ·rw [decide_eq_true h2, ct]; exact .inl rfl
    ·rw [decide_eq_false h2, cf, wrap_succ (n := j) (by omega)];refine .inr ⟨rfl, fun a ha => ?_⟩;rw [hy] at ha;obtain rfl := Option.some.inj ha
     omega) (by
   unfold F4036_s1;simp only
   rw [decide_eq_false (show ¬ (l.length : Int) < (l.length : Int) by omega), cf]) (by omega)
  have e2 : iter (F4036_s1 l) big (F4036_L1.mk 0) = some (.inr false) ∨ (iter (F4036_s1 l) big (F4036_L1.mk 0) = some (.inl (F4036_L1.mk (l.length : Int))) ∧ _) := e;rcases e2 with e2 | ⟨e2, h3⟩
  ·rw [e2, ob]; exact .inl rfl
  ·rw [e2, ob];refine .inr ⟨rfl, by omega, fun a ha => ?_⟩;obtain ⟨j, hj⟩ := List.getElem?_of_mem ha;exact h3 j (List.getElem?_eq_some_iff.1 hj).1 a hj
structure Begun (c : Cf) (bad : List Int) (l : List Ac) : Prop where
 acts : FitA l
 len : l.length ≤ 25
 may : MayC c
 w : c.W.length ≤ 6
 bad : bad.length ≤ 6
theorem F4030_or (c : Cf) (bad : List Int) (l : List Ac) : F4030 c bad l = some false ∨ (F4030 c bad l = some true ∧ Begun c bad l) := by
 unfold F4030;rcases F4036_or l (k := 25) (by omega) with e | ⟨e, h1, h2⟩
 ·rw [e, ob, cf]; exact .inl rfl
 ·rw [e, ob, ct, F64_eq, ob];by_cases hm : MayC c
  ·rw [decide_eq_true hm, ct];by_cases hw : (c.W.length : Int) ≤ 6
   ·rw [decide_eq_true hw, ct];by_cases hb : (bad.length : Int) ≤ 6
    ·rw [decide_eq_true hb]; exact .inr ⟨rfl, ⟨by omega, h2⟩, by omega, hm, by omega, by omega⟩
    ·rw [decide_eq_false hb]; exact .inl rfl
   ·rw [decide_eq_false hw, cf]; exact .inl rfl
  ·rw [decide_eq_false hm, cf]; exact .inl rfl
def goods (bad : List Int) (n : Nat) : List Int := ((List.range n).map Int.ofNat).filter fun i => decide (i ∉ bad)
theorem goods_succ (bad : List Int) (n : Nat) : goods bad (n + 1) = goods bad n ++ if (n : Int) ∈ bad then [] else [(n : Int)] := by
 unfold goods;rw [List.range_succ, List.map_append, List.filter_append];by_cases h : (n : Int) ∈ bad <;> simp [h]
theorem goods_len (bad : List Int) (n : Nat) : (goods bad n).length ≤ n := Nat.le_trans (List.length_filter_le _ _) (by simp)
def newN (i : Int) : Nd := ⟨i, 3, ⟨[], []⟩, ⟨[], []⟩, [], ⟨(0, 0), 0, 0⟩, false⟩
def newW (c : Cf) (bad : List Int) : Wd := ⟨c, bad, 3, (goods bad c.W.length).map newN, []⟩
theorem F4016_eq {c : Cf} {bad : List Int} (hm : MayC c) (hb : bad.length ≤ 100) : F4016 c bad = some (newW c bad) := by
 have hw := hm.2.1
 have e := count_loop (step := F4016_s1 c bad) (n := c.W.length) (fun k => F4016_L1.mk (k : Int) ((goods bad k).map newN)) (F4016_L1.mk (c.W.length : Int) ((goods bad c.W.length).map newN)) (fun k hk => by
  have hg := goods_len bad k;unfold F4016_s1;simp only;rw [decide_eq_true (show (k : Int) < (c.W.length : Int) by omega), ct, F119_eq (by omega), ob, goods_succ, wrap_succ (n := k) (by omega)];by_cases h : (k : Int) ∈ bad
  ·rw [decide_eq_true h, Bool.not_true, cf, if_pos h, List.append_nil]
  ·rw [decide_eq_false h, Bool.not_false, ct, if_neg h];unfold F3043;rw [ob, room_ok (by rw [List.length_map]; simp only [List.length_singleton]; omega) (by omega), ct, List.map_append]
   rfl) (by
  unfold F4016_s1;simp only
  rw [decide_eq_false (show ¬ (c.W.length : Int) < (c.W.length : Int) by omega), cf]) (by omega)
 have e' : iter (F4016_s1 c bad) big (F4016_L1.mk 0 []) = _ := e;unfold F4016;rw [room_ok (by omega) (by omega), ct, F64_eq, ob, decide_eq_true hm, Bool.not_true, cf, e', ob];rfl
theorem mayW_nil {c : Cf} (hm : MayC c) : MayW c ⟨[], []⟩ := ⟨hm, valid_nil, by simp, by simp, fun b hb => (by cases hb), fun v hv => (by cases hv), List.nodup_nil, fun v hv => (by cases hv)⟩
theorem actsV_len {l : List Ac} {k : Nat} (hk : l.length ≤ k) (h : ∀ a ∈ l, a.B.length ≤ 8 ∧ a.V.length ≤ 8) : (actsV l).B.length ≤ 8 * k ∧ (actsV l).V.length ≤ 8 * k := by
 have : ∀ m : List Ac, (∀ a ∈ m, a.B.length ≤ 8 ∧ a.V.length ≤ 8) → (m.flatMap Ac.B).length ≤ 8 * m.length ∧ (m.flatMap Ac.V).length ≤ 8 * m.length := by
  intro m
  induction m with
  | nil => intro _; simp
  | cons a r ih =>
   intro h;have h1 := ih fun b hb => h b (List.mem_cons_of_mem _ hb);have h2 := h a (List.mem_cons_self ..);rw [List.flatMap_cons, List.flatMap_cons, List.length_append, List.length_append, List.length_cons];omega
 have := this l h;unfold actsV;simp only;omega
theorem new_ok {c : Cf} {bad : List Int} (hm : MayC c) (hw : c.W.length ≤ 6) (hb : bad.length ≤ 10) (U : Vw) : WOk U (newW c bad) ∧ TOk (newW c bad) := by
 have hg := goods_len bad c.W.length
 have hN : ∀ n ∈ (newW c bad).N, ∃ i, n = newN i := fun n hn => by
  obtain ⟨i, -, h⟩ := List.mem_map.1 hn;exact ⟨i, h.symm⟩
 refine ⟨⟨by show ((goods bad c.W.length).map newN).length ≤ 6; rw [List.length_map]; omega, hb, fun n hn => ?_, Nat.zero_le _, fun o ho => by cases ho⟩, ⟨hm, Int.le_refl _, by show (3 : Int) ≤ 100000; omega, fun n hn => ?_⟩⟩
 ·obtain ⟨i, rfl⟩ := hN n hn;exact ⟨mayW_nil hm, ⟨List.nodup_nil, List.nodup_nil⟩, Nat.zero_le _, ⟨allV_nil, allV_nil, fun o ho => (by cases ho)⟩, fun o ho => (by cases ho)⟩
 ·obtain ⟨i, rfl⟩ := hN n hn;rfl
theorem begun_ok {c : Cf} {bad : List Int} {l : List Ac} (hm : MayC c) (hw : c.W.length ≤ 6) (hb : bad.length ≤ 10) (hl : FitA l) : ∀ k, k ≤ 15 → ROk (actsV l) (newW c bad) l k := by
 have h := new_ok hm hw hb (actsV l);have h1 := actsV_len hl.len hl.each;exact run_ok h.1 hl (sub_refl _) h.2 (by omega) (by omega) (by show (3 : Int) ≤ 1000; omega)
theorem begun_run {c : Cf} {bad : List Int} {l : List Ac} (hm : MayC c) (hw : c.W.length ≤ 6) (hb : bad.length ≤ 10) (hl : FitA l) {t : Int} (ht : t ≤ 15) : F4031 (newW c bad) l t = some (runP (newW c bad) l t.toNat) := by
 have h1 := actsV_len hl.len hl.each;exact F4031_eq hl (sub_refl _) (by omega) (by omega) ht fun k hk => begun_ok hm hw hb hl k (by omega)
theorem rOk_fit {U : Vw} {w : Wd} {l : List Ac} {k : Nat} (hB : U.B.length ≤ 300) (hV : U.V.length ≤ 300) (hk : k ≤ 15) (h : ROk U w l k) : FitW (runP w l k) := wOk_fit h.ok ⟨by have := h.B; omega, by have := h.V; omega⟩
theorem F1006_eq : F1006 = some true := by kernel_rfl
def seenO (w : Wd) (v : Vw) : Vw := w.O.foldl (fun v o => joinP (joinP v o.V) ⟨[o.B], []⟩) v
def seenA (l : List Ac) (v : Vw) : Vw := l.foldl (fun v a => joinP v ⟨a.B, a.V⟩) v
def seenP (w : Wd) (l : List Ac) : Vw := seenA l (seenO w (allW w))
theorem seenO_len : ∀ {l : List Of} {v : Vw}, (∀ o ∈ l, SmallV 500 o.V) → (l.foldl (fun v o => joinP (joinP v o.V) ⟨[o.B], []⟩) v).B.length ≤ v.B.length + 501 * l.length ∧ (l.foldl (fun v o => joinP (joinP v o.V) ⟨[o.B], []⟩) v).V.length ≤ v.V.length + 501 * l.length
 | [], v, _ => by simp
 | o :: r, v, h => by
  rw [List.foldl_cons, List.length_cons];have ih := seenO_len (l := r) (v := joinP (joinP v o.V) ⟨[o.B], []⟩) fun q hq => h q (List.mem_cons_of_mem _ hq);obtain ⟨h1, h2⟩ := h o (List.mem_cons_self ..);have h3 := join_len2 v o.V;have h4 := join_len2 (joinP v o.V) ⟨[o.B], []⟩;simp only [List.length_singleton, List.length_nil] at h4;omega
theorem seenA_len : ∀ {l : List Ac} {v : Vw}, (∀ a ∈ l, a.B.length ≤ 8 ∧ a.V.length ≤ 8) → (seenA l v).B.length ≤ v.B.length + 8 * l.length ∧ (seenA l v).V.length ≤ v.V.length + 8 * l.length
 | [], v, _ => by simp [seenA]
 | a :: r, v, h => by
  have ih := seenA_len (l := r) (v := joinP v ⟨a.B, a.V⟩) fun q hq => h q (List.mem_cons_of_mem _ hq);have e : seenA (a :: r) v = seenA r (joinP v ⟨a.B, a.V⟩) := rfl;obtain ⟨h1, h2⟩ := h a (List.mem_cons_self ..);have h3 := join_len2 v ⟨a.B, a.V⟩;rw [e, List.length_cons];simp only at h3;omega
theorem seen_len {w : Wd} {l : List Ac} (h : FitW w) (hl : FitA l) : (seenP w l).B.length ≤ 30000 ∧ (seenP w l).V.length ≤ 30000 := by
 have h1 := all_fit h;have h2 := seenO_len (v := allW w) h.offs;have h3 := seenA_len (v := seenO w (allW w)) hl.each;have h4 := h.o;have h5 := hl.len;unfold seenP;unfold seenO at h3 ⊢;omega
theorem F1013_eq {w : Wd} {l : List Ac} (h : FitW w) (hl : FitA l) : F1013 w l = some (seenP w l) := by
 have h1 := all_fit h;have ho := h.o;have hal := hl.len;have hoff := h.offs
 have e1 := count_loop (step := F1013_s1 w) (n := w.O.length) (fun k => F1013_L1.mk (k : Int) ((w.O.take k).foldl (fun v o => joinP (joinP v o.V) ⟨[o.B], []⟩) (allW w))) (F1013_L1.mk (w.O.length : Int) (seenO w (allW w))) (fun k hk => by
  obtain ⟨y, hy, hm⟩ := get_of hk
  have et : w.O.take (k + 1) = w.O.take k ++ [y] := by rw [List.take_add_one, hy]; rfl
  have hlen := seenO_len (l := w.O.take k) (v := allW w) fun o ho => hoff o (List.mem_of_mem_take ho);rw [List.length_take] at hlen;have hyo := hoff y hm;have hj := join_len2 ((w.O.take k).foldl (fun v o => joinP (joinP v o.V) ⟨[o.B], []⟩) (allW w)) y.V;unfold F1013_s1;simp only
  rw [decide_eq_true (show (k : Int) < (w.O.length : Int) by omega), ct, ix_nat hy, ob, et, List.foldl_append, List.foldl_cons, List.foldl_nil, F91_eq (by have := hyo.1; omega) (by have := hyo.2; omega), ob, F91_eq (by have := hyo.1; simp only [List.length_singleton]; omega) (by have := hyo.2; simp only [List.length_nil]; omega), ob, wrap_succ (n := k) (by omega)]) (by
  unfold F1013_s1;simp only;rw [decide_eq_false (show ¬ (w.O.length : Int) < (w.O.length : Int) by omega), cf, List.take_length]
  rfl) (by omega)
 have e1' : iter (F1013_s1 w) big (F1013_L1.mk 0 (allW w)) = _ := e1;have h2 := seenO_len (v := allW w) h.offs;have h2' : (seenO w (allW w)).B.length ≤ (allW w).B.length + 501 * w.O.length ∧ (seenO w (allW w)).V.length ≤ (allW w).V.length + 501 * w.O.length := h2
 have e2 := count_loop (step := F1013_s2 l) (n := l.length) (fun k => F1013_L2.mk (k : Int) (seenA (l.take k) (seenO w (allW w)))) (F1013_L2.mk (l.length : Int) (seenP w l)) (fun k hk => by
  obtain ⟨y, hy, hm⟩ := get_of hk
  have et : l.take (k + 1) = l.take k ++ [y] := by rw [List.take_add_one, hy]; rfl
  have hlen := seenA_len (l := l.take k) (v := seenO w (allW w)) fun o ho => hl.each o (List.mem_of_mem_take ho);rw [List.length_take] at hlen;have hya := hl.each y hm;unfold F1013_s2;simp only;rw [decide_eq_true (show (k : Int) < (l.length : Int) by omega), ct, ix_nat hy, ob, et, F91_eq (by simp only; omega) (by simp only; omega), ob, wrap_succ (n := k) (by omega)];unfold seenA;rw [List.foldl_append]
  rfl) (by
  unfold F1013_s2;simp only;rw [decide_eq_false (show ¬ (l.length : Int) < (l.length : Int) by omega), cf, List.take_length]
  rfl) (by omega)
 have e2' : iter (F1013_s2 l) big (F1013_L2.mk 0 (seenO w (allW w))) = _ := e2;unfold F1013;rw [F1031_eqG (by have := h.n; omega) h.nodes, ob];show ((iter (F1013_s1 w) big (F1013_L1.mk 0 (allW w))).bind _) = _;rw [e1', ob, e2', ob]
theorem seenA_sub : ∀ (l : List Ac) (v : Vw), SubU v (seenA l v)
 | [], v => sub_refl v
 | a :: r, v => by
  have h : SubU v (joinP v ⟨a.B, a.V⟩) := ⟨fun b hb => mem_joinB.2 (.inl hb), fun x hx => mem_joinV.2 (.inl hx)⟩;exact sub_trans h (seenA_sub r _)
theorem seenA_mem : ∀ {l : List Ac} {v : Vw} {a : Ac}, a ∈ l → SubU ⟨a.B, a.V⟩ (seenA l v)
 | b :: r, v, a, h => by
  rcases List.mem_cons.1 h with e | h
  ·subst e;have h : SubU ⟨a.B, a.V⟩ (joinP v ⟨a.B, a.V⟩) := ⟨fun b hb => mem_joinB.2 (.inr hb), fun x hx => mem_joinV.2 (.inr hx)⟩;exact sub_trans h (seenA_sub r _)
  ·exact seenA_mem (l := r) h
theorem seenA_nd : ∀ {l : List Ac} {v : Vw}, NdV v → NdV (seenA l v)
 | [], _, h => h
 | a :: r, v, h => seenA_nd (l := r) (v := joinP v ⟨a.B, a.V⟩) (ndV_join h)
theorem seenO_nd {w : Wd} {v : Vw} (h : NdV v) : NdV (seenO w v) := by
 have : ∀ (l : List Of) (v : Vw), NdV v → NdV (l.foldl (fun v o => joinP (joinP v o.V) ⟨[o.B], []⟩) v) := by
  intro l
  induction l with
  | nil => exact fun v h => h
  | cons o r ih => exact fun v h => ih _ (ndV_join (ndV_join h))
 exact this w.O v h
theorem seen_nd (w : Wd) (l : List Ac) : NdV (seenP w l) := seenA_nd (seenO_nd (all_nodup List.nodup_nil List.nodup_nil))
theorem seen_take (w : Wd) (l : List Ac) (k : Nat) : SubU (seenP w (l.take k)) (seenP w l) := by
 have e : seenP w l = seenA (l.drop k) (seenP w (l.take k)) := by
  unfold seenP seenA;rw [← List.foldl_append, List.take_append_drop]
 rw [e];exact seenA_sub _ _
theorem auditSeen (ha : F1006 = some true) (c : Cf) (bad : List Int) (l : List Ac) (t a : Int) : F4012 c bad l t a = some true := by
 unfold F4012;rw [ha, ob];rcases F4030_or c bad l with e | ⟨e, hb⟩
 ·rw [e, ob, Bool.not_true, cf, Bool.not_false, ct, ob, ct]
 rw [e, ob, Bool.not_true, cf, cf];by_cases h1 : t > 8
 ·rw [decide_eq_true h1, ct, ob, ct]
 rw [decide_eq_false h1, cf];by_cases h2 : a < 0
 ·rw [decide_eq_true h2, ct, ob, ct]
 rw [decide_eq_false h2, cf];by_cases h3 : a > (l.length : Int)
 ·rw [decide_eq_true h3, ob, ct]
 rw [decide_eq_false h3, ob, cf];have hbb := hb.bad;have hR := begun_ok (bad := bad) hb.may hb.w (by omega) hb.acts t.toNat (by omega);have hal := actsV_len hb.len hb.acts.each;have hfit := rOk_fit (by omega) (by omega) (by omega) hR;rw [F4016_eq hb.may (by omega), ob, begun_run hb.may hb.w (by omega) hb.acts (by omega), ob];generalize runP (newW c bad) l t.toNat = w at hfit ⊢;have hlt : FitA (l.take a.toNat) := ⟨Nat.le_trans (by rw [List.length_take]; exact Nat.min_le_right _ _) hb.acts.len, fun x hx => hb.acts.each x (List.mem_of_mem_take hx)⟩;have l1 := seen_len hfit hb.acts;have l2 := seen_len hfit hlt;have hn := seen_nd w l;have hs := seen_take w l a.toNat;have hm : ∀ x ∈ l, SubU ⟨x.B, x.V⟩ (seenP w l) := fun x hx => seenA_mem hx;rw [F1013_eq hfit hb.acts, ob, show inL l 0 a = true from decide_eq_true (by omega), ct, F1013_eq hfit hlt, ob, F141_eq (by omega) (by omega), ob, F141_eq (by simp only [List.length_nil]; omega) (by simp only [List.length_nil]; omega), ob, join_sub hs.1 hs.2];generalize seenP w l = v at l1 hn hm ⊢
 have e0 : joinP ⟨[], []⟩ v = v := by
  show Vw.mk (withP [] v.B) (withP [] v.V) = v;rw [withP_nil hn.1, withP_nil hn.2]
 rw [e0, F86_eq (by omega) (by omega), ob, decide_eq_true ⟨rfl, rfl⟩]
 have e := count_loop (step := F4012_s1 l v) (n := l.length) (fun k => F4012_L1.mk (k : Int)) (.inl (F4012_L1.mk (l.length : Int))) (fun k hk => by
  obtain ⟨y, hy, hmm⟩ := get_of hk;have hy8 := hb.acts.each y hmm;have hlen := hb.len;have hj := hm y hmm;unfold F4012_s1;simp only;rw [decide_eq_true (show (k : Int) < (l.length : Int) by omega), ct, ix_nat hy, ob, ob, F141_eq (by simp only; omega) (by simp only; omega), ob, join_sub hj.1 hj.2, wrap_succ (n := k) (by omega)]
  simp) (by
  unfold F4012_s1;simp only
  rw [decide_eq_false (show ¬ (l.length : Int) < (l.length : Int) by omega), cf]) (by have := hb.len; omega)
 have e' : iter (F4012_s1 l v) big (F4012_L1.mk 0) = _ := e;rw [e', ob, sl, ct, beq_self_eq_true, ct, beq_self_eq_true]
def AcOk (a : Ac) : Prop := InKind .i64 a.Tick ∧ InKind .i64 a.To ∧ (∀ b ∈ a.B, BkOk b) ∧ ∀ v ∈ a.V, VtOk v
theorem isAcO {p : PV} (h : TIs (.agg [.int .i64, .int .i64, .bool, .slice 5 (.agg [.int .i64, .int .i64, .int .u64, .int .u64, .int .u64]), .slice 4 (.agg [.int .i64, .int .i64, .int .u64, .int .u64])]) p) : ∃ a : Ac, p = acP a ∧ AcOk a := by
 cases h with | agg h =>
 cases h with | cons a1 h => cases h with | cons a2 h => cases h with | cons a3 h => cases h with | cons a4 h => cases h with | cons a5 h =>
  cases h;obtain ⟨x, rfl, hx⟩ := isSliceO (fun _ h => isBkO h) a4;obtain ⟨y, rfl, hy⟩ := isSliceO (fun _ h => isVtO h) a5;cases a1; cases a2; cases a3;exact ⟨⟨_, _, _, x, y⟩, rfl, by assumption, by assumption, hx, hy⟩
end Go.Mg
namespace Go.Proofs.YtbjmcafamkdokaaGreat
def io : List Nat := [104, 97, 114, 110, 101, 115, 115, 32, 51, 101, 97, 51, 57, 55, 99, 53, 56, 97, 55, 50, 48, 55, 49, 52, 99, 98, 101, 48, 97, 97, 50, 55, 55, 53, 56, 98, 49, 49, 48, 102, 57, 99, 99, 98, 48, 49, 99, 51, 48, 97, 49, 50, 97, 99, 97, 54, 50, 53, 52, 56, 51, 100, 97, 54, 56, 97, 98, 97, 51, 98, 50, 52, 32, 99, 117, 116, 32, 97, 116, 32, 109, 97, 114, 105, 103, 111, 108, 100, 47, 109, 97, 114, 105, 103, 111, 108, 100, 116, 111, 112, 46, 84, 111, 112, 65, 103, 114, 101, 101, 32, 109, 97, 114, 105, 103, 111, 108, 100, 47, 109, 97, 114, 105, 103, 111, 108, 100, 116, 111, 112, 46, 84, 111, 112, 83, 117, 114, 101, 32, 109, 97, 114, 105, 103, 111, 108, 100, 47, 109, 97, 114, 105, 103, 111, 108, 100, 116, 111, 112, 46, 84, 111, 112, 78, 101, 118, 101, 114, 32, 109, 97, 114, 105, 103, 111, 108, 100, 47, 109, 97, 114, 105, 103, 111, 108, 100, 108, 97, 119, 50, 48, 46, 80, 108, 97, 121, 72, 111, 110, 101, 115, 116, 32, 109, 97, 114, 105, 103, 111, 108, 100, 47, 109, 97, 114, 105, 103, 111, 108, 100, 108, 97, 119, 50, 48, 46, 80, 108, 97, 121, 80, 97, 114, 116, 115, 32, 109, 97, 114, 105, 103, 111, 108, 100, 47, 109, 97, 114, 105, 103, 111, 108, 100, 108, 97, 119, 50, 48, 46, 80, 108, 97, 121, 81, 117, 105, 101, 116, 32, 109, 97, 114, 105, 103, 111, 108, 100, 47, 109, 97, 114, 105, 103, 111, 108, 100, 108, 97, 119, 50, 48, 46, 80, 108, 97, 121, 79, 116, 104, 101, 114, 32, 109, 97, 114, 105, 103, 111, 108, 100, 47, 109, 97, 114, 105, 103, 111, 108, 100, 108, 97, 119, 50, 48, 46, 80, 108, 97, 121, 78, 111, 100, 101, 115, 32, 109, 97, 114, 105, 103, 111, 108, 100, 47, 109, 97, 114, 105, 103, 111, 108, 100, 108, 97, 119, 50, 48, 46, 80, 108, 97, 121, 83, 112, 114, 101, 97, 100, 115, 32, 109, 97, 114, 105, 103, 111, 108, 100, 47, 109, 97, 114, 105, 103, 111, 108, 100, 108, 97, 119, 50, 49, 46, 65, 117, 100, 105, 116, 83, 101, 101, 110, 32, 109, 97, 114, 105, 103, 111, 108, 100, 47, 109, 97, 114, 105, 103, 111, 108, 100, 108, 97, 119, 50, 49, 46, 65, 117, 100, 105, 116, 72, 111, 108, 100, 115]
theorem ioEq : Tryz.prog.initOrder = String.ofList (io.map Char.ofNat) := by kernel_rfl
theorem ioList : Tryz.prog.initOrder.toList = io.map Char.ofNat := by rw [ioEq, String.toList_ofList]
def ws : List (List Nat) := [[99, 117, 116], [97, 116], [109, 97, 114, 105, 103, 111, 108, 100, 47, 109, 97, 114, 105, 103, 111, 108, 100, 116, 111, 112, 46, 84, 111, 112, 65, 103, 114, 101, 101], [109, 97, 114, 105, 103, 111, 108, 100, 47, 109, 97, 114, 105, 103, 111, 108, 100, 116, 111, 112, 46, 84, 111, 112, 83, 117, 114, 101], [109, 97, 114, 105, 103, 111, 108, 100, 47, 109, 97, 114, 105, 103, 111, 108, 100, 116, 111, 112, 46, 84, 111, 112, 78, 101, 118, 101, 114], [109, 97, 114, 105, 103, 111, 108, 100, 47, 109, 97, 114, 105, 103, 111, 108, 100, 108, 97, 119, 50, 48, 46, 80, 108, 97, 121, 72, 111, 110, 101, 115, 116], [109, 97, 114, 105, 103, 111, 108, 100, 47, 109, 97, 114, 105, 103, 111, 108, 100, 108, 97, 119, 50, 48, 46, 80, 108, 97, 121, 80, 97, 114, 116, 115], [109, 97, 114, 105, 103, 111, 108, 100, 47, 109, 97, 114, 105, 103, 111, 108, 100, 108, 97, 119, 50, 48, 46, 80, 108, 97, 121, 81, 117, 105, 101, 116], [109, 97, 114, 105, 103, 111, 108, 100, 47, 109, 97, 114, 105, 103, 111, 108, 100, 108, 97, 119, 50, 48, 46, 80, 108, 97, 121, 79, 116, 104, 101, 114], [109, 97, 114, 105, 103, 111, 108, 100, 47, 109, 97, 114, 105, 103, 111, 108, 100, 108, 97, 119, 50, 48, 46, 80, 108, 97, 121, 78, 111, 100, 101, 115], [109, 97, 114, 105, 103, 111, 108, 100, 47, 109, 97, 114, 105, 103, 111, 108, 100, 108, 97, 119, 50, 48, 46, 80, 108, 97, 121, 83, 112, 114, 101, 97, 100, 115], [109, 97, 114, 105, 103, 111, 108, 100, 47, 109, 97, 114, 105, 103, 111, 108, 100, 108, 97, 119, 50, 49, 46, 65, 117, 100, 105, 116, 83, 101, 101, 110], [109, 97, 114, 105, 103, 111, 108, 100, 47, 109, 97, 114, 105, 103, 111, 108, 100, 108, 97, 119, 50, 49, 46, 65, 117, 100, 105, 116, 72, 111, 108, 100, 115]]
theorem words : behindMainWord (wordsSigns Tryz.prog.initOrder.toList) = ws.map (List.map Char.ofNat) := by
 rw [ioList]
 kernel_rfl
theorem strip : stripLifts liftWords (ws.map (List.map Char.ofNat)) = ([], ws.map (List.map Char.ofNat)) := by kernel_rfl
theorem rows0 : Tryz.prog.doorRows = [] := by kernel_rfl
theorem lays : Tryz.prog.laysLater = false := by kernel_rfl
theorem refl0 : Tryz.prog.bearsReflect = false := by kernel_rfl
theorem headw : (ws.map (List.map Char.ofNat)).head? = some "cut".toList := by kernel_rfl
theorem enters (P : Program) (W : List (List Char)) (hW : behindMainWord (wordsSigns P.initOrder.toList) = W) (hs : stripLifts liftWords W = ([], W)) (hh : W.head? = some "cut".toList) (hr : P.doorRows = []) (hl : P.laysLater = false) (hb : P.bearsReflect = false) : P.mayEnter = true := by
 unfold Program.mayEnter;rw [hW]
 cases W with
 | nil => cases hh
 | cons c r =>
  simp only [hs, hh, hl, hb, Program.doorFits, hr];simp
theorem mayEnter : Tryz.prog.mayEnter = true := enters Tryz.prog _ words strip headw rows0 lays refl0
theorem own : ownKnob Tryz.prog.godebug = none := by kernel_rfl
theorem laidOut : laidOutB Tryz.prog = true := by kernel_rfl
theorem rowed : mapsRowed Tryz.prog = true := by kernel_rfl
theorem heard : Tryz.prog.stopsHeard = true := by kernel_rfl
theorem make_of (P : Program) (W : List (List Char)) (hW : behindMainWord (wordsSigns P.initOrder.toList) = W) (hh : W.head? = some "cut".toList) : P.make = some .cut := by
 unfold Program.make;rw [hW]
 cases W with
 | nil => cases hh
 | cons c r =>
  have e : c = "cut".toList := by simpa using hh
  subst e;show (if _ then _ else _) = _;rw [if_neg (by decide), if_pos (by simp)]
theorem makes : Tryz.prog.make = some .cut := make_of Tryz.prog _ words headw
theorem lifts : Tryz.prog.liftsFinal = false := by
 unfold Program.liftsFinal Program.headLifts;rw [words]
 kernel_rfl
end Go.Proofs.YtbjmcafamkdokaaGreat
