/- Plain laws of views: what is taken. Plain laws of views: what is taken, as the program does it. Plain laws of views: votes that are taken, as the program does it. Plain laws of views: view.Take. Plain laws of views: what holds of what is taken. Laws of views. The laws of views' example. Laws of views. Laws of views: ViewOnly, ViewJoin. Laws of views. Laws of views. Laws of views: ViewMay, ViewKeeps. Plain laws of views: what is counted, as a set. Laws of views. Laws of views. Laws of views. Plain laws of views: order, and all. Nets, plain: how much nodes have; what they have together. Laws of nets, plain: what all have together, in whatever order. The votes of a committee, and the head by them, plain. Products compared, plain. A node behind a tick, plain. A node behind a tick, plain: the phases. A node behind a tick, plain: the whole. NodeKnown, plain. NodeKeeps, plain. What a node is behind a tick: what it has, how much that is. A world behind a tick, plain. Worlds that go on, plain. Worlds that go on: what is so of them goes on. A world that begins; what is begun; worlds that are the same. PlayHonest, plain. Laws of nets, plain. PlaySpreads, plain. What arguments are: offers, nodes. What arguments are: acts. How the program's own line of words reads, letter by letter; facts of the whole program that each row asks for. Conditions: none. -/
import Derived.Test.YtbjmcafamkdokaaGreatX9
import Derived.Test.YtbjmcafamkdokaaGreatX7
import Derived.Test.YtbjmcafamkdokaaGreatX8
import Derived.Test.YtbjmcafamkdokaaGreatX6
import Derived.Test.YtbjmcafamkdokaaGreatRows
import Derived.ProofKit
import Derived.OpenShut
namespace Go.Mg
def cp (B : List Bk) (b : Bk) : Bool := (aP B (nm b)).isSome || (match aP B b.Parent with | some s => decide (s ≥ b.Slot) | none => false)
def eV (B : List Bk) (upto : Int) (b : Bk) : Bool := match aP B b.Parent with | some _ => decide (b.Slot > upto) | none => true
def br (upto : Int) (B : List Bk) (full : Bool) (b : Bk) : Bool × List Bk × Bool :=
 if cp B b then (true, B, full) else if eV B upto b then (false, B, full) else if B.length < 60 then (true, B ++ [b], full) else (false, B, true)
def cB (B : List Bk) (V : List Vt) (v : Vt) : Bool := decide (v ∈ V) || (match aP B v.Head with | some s => decide (s > v.Slot) | none => false)
def fF (B : List Bk) (upto : Int) (v : Vt) : Bool := match aP B v.Head with | some _ => decide (v.Slot > upto) | none => true
def bv (upto : Int) (B : List Bk) (V : List Vt) (full : Bool) (v : Vt) : Bool × List Vt × Bool :=
 if cB B V v then (true, V, full) else if fF B upto v then (false, V, full) else if V.length < 240 then (true, V ++ [v], full) else (false, V, true)
def C3 (B : List Bk) (sm : List (ID × Int)) : Prop := ∀ id, aj sm id = aP B id
def EK (V : List Vt) (hm : List (Vt × Bool)) : Prop := ∀ v, aj hm v = if v ∈ V then some true else none
theorem wL (n most : Int) (full : Bool) : xH n most full = some (decide (n < most), if n < most then full else true) := by
 unfold xH
 cases full with
 | true => rw [ct]; by_cases h : n < most <;> simp [h]
 | false =>
  rw [cf];by_cases h : n < most
  ·rw [if_pos h, decide_eq_false (show ¬ n ≥ most by omega)]
  ·rw [if_neg h, decide_eq_true (show n ≥ most by omega)]
theorem CE {b : Bk} {B : List Bk} {sm : List (ID × Int)} {upto : Int} {full : Bool} (hs : C3 B sm) (hB : B.length ≤ 1000) (hl : sm.length ≤ 900000) :
  ∃ sm', vb b B sm upto full = some ((br upto B full b).1, (br upto B full b).2.1, sm', (br upto B full b).2.2) ∧ C3 (br upto B full b).2.1 sm' ∧ sm'.length ≤ sm.length + ((br upto B full b).2.1.length - B.length) := by
 unfold vb;rw [hs, hs]
 cases hn : aP B (nm b) with
 | some q =>
  have e : br upto B full b = (true, B, full) := by simp [br, cp, hn]
  rw [e];refine ⟨sm, ?_, hs, by simp⟩;rw [Option.isSome_some, ct, ob, ct]
 | none =>
  rw [Option.isSome_none, cf]
  cases hp : aP B b.Parent with
  | none =>
   have e : br upto B full b = (false, B, full) := by simp [br, cp, eV, hn, hp]
   rw [e];refine ⟨sm, ?_, hs, by simp⟩;rw [Option.isSome_none, cf, ob, cf, Bool.not_false, ct, ob, ct]
  | some s =>
   rw [Option.isSome_some, ct, ob, Option.getD_some];by_cases h1 : s ≥ b.Slot
   ·have e : br upto B full b = (true, B, full) := by simp [br, cp, hn, hp, h1]
    rw [e];refine ⟨sm, ?_, hs, by simp⟩;rw [decide_eq_true h1, ct]
   ·rw [decide_eq_false h1, cf, Bool.not_true, cf];by_cases h2 : b.Slot > upto
    ·have e : br upto B full b = (false, B, full) := by simp [br, cp, eV, hn, hp, h1, h2]
     rw [e];refine ⟨sm, ?_, hs, by simp⟩;rw [decide_eq_true h2, ct, ob, ct]
    ·rw [decide_eq_false h2, cf, wL, ob, ob];by_cases h3 : B.length < 60
     ·have e : br upto B full b = (true, B ++ [b], full) := by simp [br, cp, eV, hn, hp, h1, h2, h3]
      rw [e];refine ⟨aN sm (nm b) b.Slot, ?_, fun id => ?_, ?_⟩
      ·rw [decide_eq_true (show (B.length : Int) < 60 by omega), Bool.not_true, cf, aF (by simp only [List.length_singleton]; omega) (by omega), ct, show pz sm = true from decide_eq_true (by omega), ct, if_pos (show (B.length : Int) < 60 by omega)]
      ·rw [fw, qb, hs];by_cases e : nm b = id
       ·rw [if_pos e, if_pos e, ← e, hn]; rfl
       ·rw [if_neg e, if_neg e]; cases aP B id <;> rfl
      ·rw [mI, List.length_append, List.length_singleton]; split <;> omega
     ·have e : br upto B full b = (false, B, true) := by simp [br, cp, eV, hn, hp, h1, h2, h3]
      rw [e];refine ⟨sm, ?_, hs, by simp⟩;rw [decide_eq_false (show ¬ (B.length : Int) < 60 by omega), Bool.not_false, ct, if_neg (show ¬ (B.length : Int) < 60 by omega)]
theorem CF {v : Vt} {B : List Bk} {V : List Vt} {sm : List (ID × Int)} {hm : List (Vt × Bool)} {upto : Int} {full : Bool} (hs : C3 B sm) (hh : EK V hm) (hV : V.length ≤ 1000) (hl : hm.length ≤ 900000) :
  ∃ hm', vc v V sm hm upto full = some ((bv upto B V full v).1, (bv upto B V full v).2.1, hm', (bv upto B V full v).2.2) ∧ EK (bv upto B V full v).2.1 hm' ∧ hm'.length ≤ hm.length + ((bv upto B V full v).2.1.length - V.length) := by
 unfold vc;rw [hs, hh];by_cases hn : v ∈ V
 ·have e : bv upto B V full v = (true, V, full) := by simp [bv, cB, hn]
  rw [e];refine ⟨hm, ?_, hh, by simp⟩;rw [if_pos hn, Option.getD_some, ct, ob, ct]
 ·rw [if_neg hn, Option.getD_none, cf]
  cases hp : aP B v.Head with
  | none =>
   have e : bv upto B V full v = (false, V, full) := by simp [bv, cB, fF, hn, hp]
   rw [e];refine ⟨hm, ?_, hh, by simp⟩;rw [Option.isSome_none, cf, ob, cf, Bool.not_false, ct, ob, ct]
  | some s =>
   rw [Option.isSome_some, ct, ob, Option.getD_some];by_cases h1 : s > v.Slot
   ·have e : bv upto B V full v = (true, V, full) := by simp [bv, cB, hn, hp, h1]
    rw [e];refine ⟨hm, ?_, hh, by simp⟩;rw [decide_eq_true h1, ct]
   ·rw [decide_eq_false h1, cf, Bool.not_true, cf];by_cases h2 : v.Slot > upto
    ·have e : bv upto B V full v = (false, V, full) := by simp [bv, cB, fF, hn, hp, h1, h2]
     rw [e];refine ⟨hm, ?_, hh, by simp⟩;rw [decide_eq_true h2, ct, ob, ct]
    ·rw [decide_eq_false h2, cf, wL, ob, ob];by_cases h3 : V.length < 240
     ·have e : bv upto B V full v = (true, V ++ [v], full) := by simp [bv, cB, fF, hn, hp, h1, h2, h3]
      rw [e];refine ⟨aN hm v true, ?_, fun id => ?_, ?_⟩
      ·rw [decide_eq_true (show (V.length : Int) < 240 by omega), Bool.not_true, cf, aF (by simp only [List.length_singleton]; omega) (by omega), ct, show pz hm = true from decide_eq_true (by omega), ct, if_pos (show (V.length : Int) < 240 by omega)]
      ·rw [fw, hh];by_cases e : v = id
       ·subst e; simp
       ·simp [e, Ne.symm e]
      ·rw [mI, List.length_append, List.length_singleton]; split <;> omega
     ·have e : bv upto B V full v = (false, V, true) := by simp [bv, cB, fF, hn, hp, h1, h2, h3]
      rw [e];refine ⟨hm, ?_, hh, by simp⟩;rw [decide_eq_false (show ¬ (V.length : Int) < 240 by omega), Bool.not_false, ct, if_neg (show ¬ (V.length : Int) < 240 by omega)]
section
variable {α : Type}
def bg (step : List α → Bool → α → Bool × List α × Bool) : List α → Bool → List α → List α × List α × Bool
 | B, f, [] => ([], B, f)
 | B, f, b :: r => (if (step B f b).1 then (bg step (step B f b).2.1 (step B f b).2.2 r).1 else b :: (bg step (step B f b).2.1 (step B f b).2.2 r).1, (bg step (step B f b).2.1 (step B f b).2.2 r).2)
variable {step : List α → Bool → α → Bool × List α × Bool}
theorem gB (b : α) : ∀ (l B : List α) (f : Bool), bg step B f (l ++ [b]) =
  (if (step (bg step B f l).2.1 (bg step B f l).2.2 b).1 then (bg step B f l).1 else (bg step B f l).1 ++ [b], (step (bg step B f l).2.1 (bg step B f l).2.2 b).2)
 | [], B, f => by
  simp only [List.nil_append, bg];rfl
 | x :: r, B, f => by
  simp only [List.cons_append, bg, gB b r];split <;> split <;> simp_all
theorem nr : ∀ (l B : List α) (f : Bool), (bg step B f l).1.length ≤ l.length
 | [], B, f => by simp [bg]
 | x :: r, B, f => by
  have := nr r (step B f x).2.1 (step B f x).2.2;simp only [bg];split
  ·simp only [List.length_cons]; omega
  ·simp only [List.length_cons]; omega
theorem eA (h : ∀ B f b, B.length ≤ (step B f b).2.1.length ∧ (step B f b).2.1.length ≤ B.length + 1) : ∀ (l B : List α) (f : Bool), B.length ≤ (bg step B f l).2.1.length ∧ (bg step B f l).2.1.length ≤ B.length + l.length
 | [], B, f => by simp [bg]
 | x :: r, B, f => by
  have h1 := h B f x;have h2 := eA h r (step B f x).2.1 (step B f x).2.2;simp only [bg, List.length_cons];omega
end
def bq (upto : Int) : List Bk → Bool → List Bk → List Bk × List Bk × Bool := bg (br upto)
def bV (upto : Int) (B : List Bk) : List Vt → Bool → List Vt → List Vt × List Vt × Bool := bg (bv upto B)
theorem jw (upto : Int) (B : List Bk) (f : Bool) (b : Bk) : B.length ≤ (br upto B f b).2.1.length ∧ (br upto B f b).2.1.length ≤ B.length + 1 := by
 unfold br; split <;> (try split) <;> (try split) <;> simp
theorem jx (upto : Int) (B : List Bk) (V : List Vt) (f : Bool) (v : Vt) : V.length ≤ (bv upto B V f v).2.1.length ∧ (bv upto B V f v).2.1.length ≤ V.length + 1 := by
 unfold bv; split <;> (try split) <;> (try split) <;> simp
structure vn (B : List Bk) (sm : List (ID × Int)) : Prop where
 find : C3 B sm
 len : sm.length ≤ B.length + 1
structure yP (V : List Vt) (hm : List (Vt × Bool)) : Prop where
 find : EK V hm
 len : hm.length ≤ V.length
theorem zw {b : Bk} {B : List Bk} {sm : List (ID × Int)} {upto : Int} {full : Bool} (hs : vn B sm) (hB : B.length ≤ 1000) :
  ∃ sm', vb b B sm upto full = some ((br upto B full b).1, (br upto B full b).2.1, sm', (br upto B full b).2.2) ∧ vn (br upto B full b).2.1 sm' := by
 obtain ⟨sm', h1, h2, h3⟩ := CE (b := b) (upto := upto) (full := full) hs.find hB (by have := hs.len; omega);have hg := jw upto B full b;exact ⟨sm', h1, h2, by have := hs.len; omega⟩
theorem zE {v : Vt} {B : List Bk} {V : List Vt} {sm : List (ID × Int)} {hm : List (Vt × Bool)} {upto : Int} {full : Bool} (hs : vn B sm) (hh : yP V hm) (hV : V.length ≤ 1000) :
  ∃ hm', vc v V sm hm upto full = some ((bv upto B V full v).1, (bv upto B V full v).2.1, hm', (bv upto B V full v).2.2) ∧ yP (bv upto B V full v).2.1 hm' := by
 obtain ⟨hm', h1, h2, h3⟩ := CF (v := v) (upto := upto) (full := full) hs.find hh.find hV (by have := hh.len; omega);have hg := jx upto B V full v;exact ⟨hm', h1, h2, by have := hh.len; omega⟩
theorem fE {α : Type} {l : List α} {j : Nat} {y : α} (h : l[j]? = some y) : l.take (j + 1) = l.take j ++ [y] := aS h
theorem CP {lB l B : List Bk} {kk : Nat} {sm : List (ID × Int)} {upto : Int} {full : Bool} (hl : lB.take kk = l) (hk : l.length = kk) (hs : vn B sm) (hB : B.length + kk ≤ 900) :
  ∃ i B' sm' f', Ab lB kk B sm upto full = some (i, B', sm', f') ∧ vn B' sm' ∧ ((i = -1 ∧ bq upto B full l = (l, B', f')) ∨ ∃ j : Nat, i = j ∧ j < kk ∧ bq upto B full (l.take (j + 1)) = (l.take j, B', f')) := by
 unfold Ab
 have key := dx (step := kF lB kk upto) (fun x => ∃ j : Nat, j ≤ kk ∧ x.t8 = j ∧ bq upto B full (l.take j) = (l.take j, x.o6, x.o10_5) ∧ vn x.o6 x.o8) (fun x => kk - x.t8.toNat)
  (fun b => (∃ x, b = .inl x ∧ bq upto B full l = (l, x.o6, x.o10_5) ∧ vn x.o6 x.o8) ∨ ∃ (j : Nat) (B' : List Bk) (sm' : List (ID × Int)) (f' : Bool), b = .inr ((j : Int), B', sm', f') ∧ j < kk ∧ bq upto B full (l.take (j + 1)) = (l.take j, B', f') ∧ vn B' sm') (by
   rintro ⟨t, B1, sm1, f1⟩ ⟨j, hj, h1, h2, h3⟩;simp only at h1 h2 h3;subst h1;by_cases hlt : j < kk
   ·obtain ⟨y, hy, -⟩ := aA (l := l) (n := j) (by omega);have hgr := eA (step := br upto) (jw upto) (l.take j) B full;have h2' : bg (br upto) B full (l.take j) = (l.take j, B1, f1) := h2;rw [h2'] at hgr;simp only at hgr;rw [List.length_take] at hgr;obtain ⟨sm', e, hr⟩ := zw (b := y) (upto := upto) (full := f1) h3 (by omega)
    have hsn : bq upto B full (l.take (j + 1)) = (if (br upto B1 f1 y).1 then l.take j else l.take j ++ [y], (br upto B1 f1 y).2) := by
     rw [fE hy];unfold bq;rw [gB, h2']
    generalize br upto B1 f1 y = q at e hr hsn;obtain ⟨g, B2, f2⟩ := q;simp only at e hr hsn
    have hstep : kF lB kk upto ⟨(j : Int), B1, sm1, f1⟩ = bif g then some (.inr (.inr ((j : Int), B2, sm', f2))) else some (.inl ⟨((j + 1 : Nat) : Int), B2, sm', f2⟩) := by
     unfold kF;simp only;rw [decide_eq_true (show (j : Int) < (kk : Int) by omega), ct, hl, aB hy, ob, e, ob, ak (n := j) (by omega)]
    cases g with
    | true =>
     right;rw [ct] at hstep;rw [if_pos rfl] at hsn;exact ⟨_, hstep, .inr ⟨j, B2, sm', f2, rfl, hlt, hsn, hr⟩⟩
    | false =>
     left;rw [cf] at hstep;rw [if_neg (by simp)] at hsn;refine ⟨_, hstep, ⟨j + 1, hlt, rfl, ?_, hr⟩, by simp only; omega⟩;rw [hsn, fE hy]
   ·right
    obtain rfl : j = kk := by omega
    refine ⟨.inl ⟨(j : Int), B1, sm1, f1⟩, ?_, .inl ⟨_, rfl, ?_, h3⟩⟩
    ·unfold kF;simp only;rw [decide_eq_false (show ¬ (j : Int) < (j : Int) by omega), cf]
    ·rw [List.take_of_length_le (by omega)] at h2; exact h2) (n := bG) (x := ⟨0, B, sm, full⟩) ⟨0, by omega, rfl, by simp [bq, bg], hs⟩ (ew (by simp only; omega))
 obtain ⟨b, e, ⟨x, rfl, h1, h2⟩ | ⟨j, B', sm', f', rfl, h0, h1, h2⟩⟩ := key
 ·exact ⟨-1, x.o6, x.o8, x.o10_5, by rw [e, ob, sl], h2, .inl ⟨rfl, h1⟩⟩
 ·exact ⟨j, B', sm', f', by rw [e, ob, sr], h2, .inr ⟨j, rfl, h0, h1⟩⟩
structure qC {α : Type} (lB : List α) (k : Nat) (l : List α) : Prop where
 take : lB.take k = l
 le : k ≤ lB.length
theorem qC.len {α : Type} {lB l : List α} {k : Nat} (h : qC lB k l) : l.length = k := by
 rw [← h.take, List.length_take]; have := h.le; omega
theorem rW {α : Type} {a l : List α} {i kk : Nat} {z : α} (hi : i ≤ kk) (hk : kk ≤ a.length) (h : a.take i = l) : qC (g0 a i (kk - i) z) i l := by
 have hlen := pt (l := a) (off := i) (k := kk - i) (z := z) (by omega);refine ⟨?_, by omega⟩;unfold g0;rw [List.append_assoc, List.take_left' (by rw [List.length_take]; omega), h]
structure Mv {α : Type} (l a : List α) (i j : Nat) (left : List α) : Prop where
 ij : i < j
 jl : j ≤ l.length
 len : l.length ≤ a.length
 left : a.take i = left
 rest : ∀ q, j ≤ q → q < l.length → a[q]? = l[q]?
theorem Mv.next_gone {α : Type} {l a : List α} {i j : Nat} {left : List α} (h : Mv l a i j left) (hj : j < l.length) : Mv l a i (j + 1) left :=
 ⟨by have := h.ij; omega, hj, h.len, h.left, fun q h1 h2 => h.rest q (by omega) h2⟩
theorem Mv.next_stay {α : Type} {l a : List α} {i j : Nat} {left : List α} {y : α} (h : Mv l a i j left) (hj : j < l.length) (_ : l[j]? = some y) : Mv l (a.set i y) (i + 1) (j + 1) (left ++ [y]) := by
 have h1 := h.ij;have h2 := h.len;refine ⟨by omega, hj, by rw [List.length_set]; exact h2, ?_, fun q h3 h4 => ?_⟩
 ·have hi : (a.set i y)[i]? = some y := by rw [List.getElem?_set]; simp; omega
  rw [fE hi, List.take_set_of_le (Nat.le_refl _), h.left]
 ·rw [List.getElem?_set, if_neg (by omega)];exact h.rest q (by omega) h4
theorem CG {lB l B : List Bk} {kk : Nat} {sm : List (ID × Int)} {upto : Int} {full : Bool} (hl : qC lB kk l) (hs : vn B sm) (hB : B.length + kk ≤ 900) :
  ∃ k' lB' sm', zF lB kk B sm upto full = some (k', lB', (bq upto B full l).2.1, sm', (bq upto B full l).2.2) ∧ vn (bq upto B full l).2.1 sm' ∧ qC lB' k' (bq upto B full l).1 := by
 have hk := hl.len;obtain ⟨i, B0, sm0, f0, e0, hr0, h0⟩ := CP (upto := upto) (full := full) hl.take hk hs hB;unfold zF;rw [e0, ob];rcases h0 with ⟨rfl, hp⟩ | ⟨j0, rfl, hj0, hp⟩
 ·rw [hp];refine ⟨kk, lB, sm0, ?_, hr0, hl⟩;simp only;rw [show ((-1 : Int) == -1) = true from rfl, ct]
 ·simp only;rw [show ((j0 : Int) == -1) = false by rw [beq_eq_false_iff_ne]; omega, cf, ak (n := j0) (by omega)]
  have key := dx (step := ku kk upto) (fun x => ∃ (i j : Nat), x.i = i ∧ x.j = j ∧ vn x.o6 x.o8 ∧ (bq upto B full (l.take j)).2 = (x.o6, x.o10_5) ∧ Mv l x.o14 i j (bq upto B full (l.take j)).1) (fun x => kk - x.j.toNat)
   (fun x => ∃ i : Nat, x.i = i ∧ i ≤ kk ∧ vn x.o6 x.o8 ∧ (bq upto B full l).2 = (x.o6, x.o10_5) ∧ x.o14.take i = (bq upto B full l).1 ∧ kk ≤ x.o14.length) (by
   rintro ⟨i', j', B1, sm1, f1, a⟩ ⟨i, j, h1, h2, h3, h4, h5⟩;simp only at h1 h2 h3 h4 h5;subst h1 h2;have hij := h5.ij;have hjl := h5.jl;have hal := h5.len;by_cases hlt : j < kk
   ·left;obtain ⟨y, hy, -⟩ := aA (l := l) (n := j) (by omega)
    have hya : (a.take kk)[j]? = some y := by rw [List.getElem?_take_of_lt hlt, h5.rest j (Nat.le_refl _) (by omega), hy]
    obtain ⟨z, hz, -⟩ := aA (l := a.take kk) (n := i) (by rw [List.length_take]; omega);have hgr := eA (step := br upto) (jw upto) (l.take j) B full;have h4' : (bg (br upto) B full (l.take j)).2 = (B1, f1) := h4;rw [h4'] at hgr;simp only at hgr;rw [List.length_take] at hgr;obtain ⟨sm', e, hr⟩ := zw (b := y) (upto := upto) (full := f1) h3 (by omega)
    have hsn : bq upto B full (l.take (j + 1)) = (if (br upto B1 f1 y).1 then (bq upto B full (l.take j)).1 else (bq upto B full (l.take j)).1 ++ [y], (br upto B1 f1 y).2) := by
     rw [fE hy];unfold bq;rw [gB, h4']
    generalize br upto B1 f1 y = q at e hr hsn;obtain ⟨g, B2, f2⟩ := q;simp only at e hr hsn
    have hstep : ku kk upto ⟨(i : Int), (j : Int), B1, sm1, f1, a⟩ = bif !g then some (.inl ⟨((i + 1 : Nat) : Int), ((j + 1 : Nat) : Int), B2, sm', f2, a.set i y⟩) else some (.inl ⟨(i : Int), ((j + 1 : Nat) : Int), B2, sm', f2, a⟩) := by
     unfold ku;simp only;rw [decide_eq_true (show (j : Int) < (kk : Int) by omega), ct, aB hya, ob, e, ob, aB hz, ob, ak (n := j) (by omega), ak (n := i) (by omega), Int.toNat_natCast]
    cases g with
    | true =>
     rw [Bool.not_true, cf] at hstep;rw [if_pos rfl] at hsn;refine ⟨_, hstep, ⟨i, j + 1, rfl, rfl, hr, by rw [hsn], ?_⟩, by simp only; omega⟩;rw [hsn];exact h5.next_gone (by omega)
    | false =>
     rw [Bool.not_false, ct] at hstep;rw [if_neg (by simp)] at hsn;refine ⟨_, hstep, ⟨i + 1, j + 1, rfl, rfl, hr, by rw [hsn], ?_⟩, by simp only; omega⟩;rw [hsn];exact h5.next_stay (by omega) hy
   ·right
    have hjk : j = kk := by omega
    have htl : l.take j = l := List.take_of_length_le (by omega);rw [htl] at h4 h5;refine ⟨⟨(i : Int), (j : Int), B1, sm1, f1, a⟩, ?_, i, rfl, by omega, h3, h4, h5.left, by show kk ≤ a.length; omega⟩;unfold ku;simp only
    rw [decide_eq_false (show ¬ (j : Int) < (kk : Int) by omega), cf]) (n := bG) (x := ⟨(j0 : Int), ((j0 + 1 : Nat) : Int), B0, sm0, f0, lB⟩)
   ⟨j0, j0 + 1, rfl, rfl, hr0, by rw [hp], by
    rw [hp];refine ⟨by omega, by omega, by have := hl.le; simp only; omega, ?_, fun q h1 h2 => ?_⟩
    ·show lB.take j0 = l.take j0;rw [← hl.take, List.take_take, Nat.min_eq_left (by omega)]
    ·rw [← hl.take, List.getElem?_take_of_lt (by omega)]⟩ (ew (by simp only; omega))
  obtain ⟨x, ex, i, hi, hik, hr, h1, h2, h3⟩ := key;generalize bq upto B full l = p at h1 h2 ⊢;obtain ⟨pl, pB, pf⟩ := p;simp only at h1 h2 ⊢;rw [ex, ob, hi, decide_eq_true (show 0 ≤ (i : Int) ∧ (i : Int) ≤ (kk : Int) by omega), ct, Int.toNat_natCast, decide_eq_true (show i + (kk - i) ≤ x.o14.length by omega), ct, ct];cases h1;exact ⟨i, g0 x.o14 i (kk - i) ⟨0, 0, (0, 0), 0⟩, x.o8, rfl, hr, rW hik h3 h2⟩
theorem CO {lV l V : List Vt} {kk : Nat} {BB : List Bk} {sm0 : List (ID × Int)} {hm : List (Vt × Bool)} {upto : Int} {full : Bool} (hl : lV.take kk = l) (hk : l.length = kk) (hsm : vn BB sm0) (hs : yP V hm) (hB : V.length + kk ≤ 900) :
  ∃ i V' hm' f', z8 lV kk V sm0 hm upto full = some (i, V', hm', f') ∧ yP V' hm' ∧ ((i = -1 ∧ bV upto BB V full l = (l, V', f')) ∨ ∃ j : Nat, i = j ∧ j < kk ∧ bV upto BB V full (l.take (j + 1)) = (l.take j, V', f')) := by
 unfold z8
 have key := dx (step := kE lV kk sm0 upto) (fun x => ∃ j : Nat, j ≤ kk ∧ x.t8 = j ∧ bV upto BB V full (l.take j) = (l.take j, x.o7, x.o10_5) ∧ yP x.o7 x.o9) (fun x => kk - x.t8.toNat)
  (fun b => (∃ x, b = .inl x ∧ bV upto BB V full l = (l, x.o7, x.o10_5) ∧ yP x.o7 x.o9) ∨ ∃ (j : Nat) (V' : List Vt) (hm' : List (Vt × Bool)) (f' : Bool), b = .inr ((j : Int), V', hm', f') ∧ j < kk ∧ bV upto BB V full (l.take (j + 1)) = (l.take j, V', f') ∧ yP V' hm') (by
   rintro ⟨t, V1, hm1, f1⟩ ⟨j, hj, h1, h2, h3⟩;simp only at h1 h2 h3;subst h1;by_cases hlt : j < kk
   ·obtain ⟨y, hy, -⟩ := aA (l := l) (n := j) (by omega);have hgr := eA (step := bv upto BB) (jx upto BB) (l.take j) V full;have h2' : bg (bv upto BB) V full (l.take j) = (l.take j, V1, f1) := h2;rw [h2'] at hgr;simp only at hgr;rw [List.length_take] at hgr;obtain ⟨hm', e, hr⟩ := zE (v := y) (upto := upto) (full := f1) hsm h3 (by omega)
    have hsn : bV upto BB V full (l.take (j + 1)) = (if (bv upto BB V1 f1 y).1 then l.take j else l.take j ++ [y], (bv upto BB V1 f1 y).2) := by
     rw [fE hy];unfold bV;rw [gB, h2']
    generalize bv upto BB V1 f1 y = q at e hr hsn;obtain ⟨g, V2, f2⟩ := q;simp only at e hr hsn
    have hstep : kE lV kk sm0 upto ⟨(j : Int), V1, hm1, f1⟩ = bif g then some (.inr (.inr ((j : Int), V2, hm', f2))) else some (.inl ⟨((j + 1 : Nat) : Int), V2, hm', f2⟩) := by
     unfold kE;simp only;rw [decide_eq_true (show (j : Int) < (kk : Int) by omega), ct, hl, aB hy, ob, e, ob, ak (n := j) (by omega)]
    cases g with
    | true =>
     right;rw [ct] at hstep;rw [if_pos rfl] at hsn;exact ⟨_, hstep, .inr ⟨j, V2, hm', f2, rfl, hlt, hsn, hr⟩⟩
    | false =>
     left;rw [cf] at hstep;rw [if_neg (by simp)] at hsn;refine ⟨_, hstep, ⟨j + 1, hlt, rfl, ?_, hr⟩, by simp only; omega⟩;rw [hsn, fE hy]
   ·right
    obtain rfl : j = kk := by omega
    refine ⟨.inl ⟨(j : Int), V1, hm1, f1⟩, ?_, .inl ⟨_, rfl, ?_, h3⟩⟩
    ·unfold kE;simp only;rw [decide_eq_false (show ¬ (j : Int) < (j : Int) by omega), cf]
    ·rw [List.take_of_length_le (by omega)] at h2; exact h2) (n := bG) (x := ⟨0, V, hm, full⟩) ⟨0, by omega, rfl, by simp [bV, bg], hs⟩ (ew (by simp only; omega))
 obtain ⟨b, e, ⟨x, rfl, h1, h2⟩ | ⟨j, V', hm', f', rfl, h0, h1, h2⟩⟩ := key
 ·exact ⟨-1, x.o7, x.o9, x.o10_5, by rw [e, ob, sl], h2, .inl ⟨rfl, h1⟩⟩
 ·exact ⟨j, V', hm', f', by rw [e, ob, sr], h2, .inr ⟨j, rfl, h0, h1⟩⟩
theorem CH {lV l V : List Vt} {kk : Nat} {BB : List Bk} {sm0 : List (ID × Int)} {hm : List (Vt × Bool)} {upto : Int} {full : Bool} (hl : qC lV kk l) (hsm : vn BB sm0) (hs : yP V hm) (hB : V.length + kk ≤ 900) :
  ∃ k' lV' hm', zP lV kk V sm0 hm upto full = some (k', lV', (bV upto BB V full l).2.1, hm', (bV upto BB V full l).2.2) ∧ yP (bV upto BB V full l).2.1 hm' ∧ qC lV' k' (bV upto BB V full l).1 := by
 have hk := hl.len;obtain ⟨i, V0, hm0, f0, e0, hr0, h0⟩ := CO (upto := upto) (full := full) hl.take hk hsm hs hB;unfold zP;rw [e0, ob];rcases h0 with ⟨rfl, hp⟩ | ⟨j0, rfl, hj0, hp⟩
 ·rw [hp];refine ⟨kk, lV, hm0, ?_, hr0, hl⟩;simp only;rw [show ((-1 : Int) == -1) = true from rfl, ct]
 ·simp only;rw [show ((j0 : Int) == -1) = false by rw [beq_eq_false_iff_ne]; omega, cf, ak (n := j0) (by omega)]
  have key := dx (step := kw kk sm0 upto) (fun x => ∃ (i j : Nat), x.i = i ∧ x.j = j ∧ yP x.o7 x.o9 ∧ (bV upto BB V full (l.take j)).2 = (x.o7, x.o10_5) ∧ Mv l x.o15 i j (bV upto BB V full (l.take j)).1) (fun x => kk - x.j.toNat)
   (fun x => ∃ i : Nat, x.i = i ∧ i ≤ kk ∧ yP x.o7 x.o9 ∧ (bV upto BB V full l).2 = (x.o7, x.o10_5) ∧ x.o15.take i = (bV upto BB V full l).1 ∧ kk ≤ x.o15.length) (by
   rintro ⟨i', j', V1, hm1, f1, a⟩ ⟨i, j, h1, h2, h3, h4, h5⟩;simp only at h1 h2 h3 h4 h5;subst h1 h2;have hij := h5.ij;have hjl := h5.jl;have hal := h5.len;by_cases hlt : j < kk
   ·left;obtain ⟨y, hy, -⟩ := aA (l := l) (n := j) (by omega)
    have hya : (a.take kk)[j]? = some y := by rw [List.getElem?_take_of_lt hlt, h5.rest j (Nat.le_refl _) (by omega), hy]
    obtain ⟨z, hz, -⟩ := aA (l := a.take kk) (n := i) (by rw [List.length_take]; omega);have hgr := eA (step := bv upto BB) (jx upto BB) (l.take j) V full;have h4' : (bg (bv upto BB) V full (l.take j)).2 = (V1, f1) := h4;rw [h4'] at hgr;simp only at hgr;rw [List.length_take] at hgr;obtain ⟨hm', e, hr⟩ := zE (v := y) (upto := upto) (full := f1) hsm h3 (by omega)
    have hsn : bV upto BB V full (l.take (j + 1)) = (if (bv upto BB V1 f1 y).1 then (bV upto BB V full (l.take j)).1 else (bV upto BB V full (l.take j)).1 ++ [y], (bv upto BB V1 f1 y).2) := by
     rw [fE hy];unfold bV;rw [gB, h4']
    generalize bv upto BB V1 f1 y = q at e hr hsn;obtain ⟨g, V2, f2⟩ := q;simp only at e hr hsn
    have hstep : kw kk sm0 upto ⟨(i : Int), (j : Int), V1, hm1, f1, a⟩ = bif !g then some (.inl ⟨((i + 1 : Nat) : Int), ((j + 1 : Nat) : Int), V2, hm', f2, a.set i y⟩) else some (.inl ⟨(i : Int), ((j + 1 : Nat) : Int), V2, hm', f2, a⟩) := by
     unfold kw;simp only;rw [decide_eq_true (show (j : Int) < (kk : Int) by omega), ct, aB hya, ob, e, ob, aB hz, ob, ak (n := j) (by omega), ak (n := i) (by omega), Int.toNat_natCast]
    cases g with
    | true =>
     rw [Bool.not_true, cf] at hstep;rw [if_pos rfl] at hsn;refine ⟨_, hstep, ⟨i, j + 1, rfl, rfl, hr, by rw [hsn], ?_⟩, by simp only; omega⟩;rw [hsn];exact h5.next_gone (by omega)
    | false =>
     rw [Bool.not_false, ct] at hstep;rw [if_neg (by simp)] at hsn;refine ⟨_, hstep, ⟨i + 1, j + 1, rfl, rfl, hr, by rw [hsn], ?_⟩, by simp only; omega⟩;rw [hsn];exact h5.next_stay (by omega) hy
   ·right
    have hjk : j = kk := by omega
    have htl : l.take j = l := List.take_of_length_le (by omega);rw [htl] at h4 h5;refine ⟨⟨(i : Int), (j : Int), V1, hm1, f1, a⟩, ?_, i, rfl, by omega, h3, h4, h5.left, by show kk ≤ a.length; omega⟩;unfold kw;simp only
    rw [decide_eq_false (show ¬ (j : Int) < (kk : Int) by omega), cf]) (n := bG) (x := ⟨(j0 : Int), ((j0 + 1 : Nat) : Int), V0, hm0, f0, lV⟩)
   ⟨j0, j0 + 1, rfl, rfl, hr0, by rw [hp], by
    rw [hp];refine ⟨by omega, by omega, by have := hl.le; simp only; omega, ?_, fun q h1 h2 => ?_⟩
    ·show lV.take j0 = l.take j0;rw [← hl.take, List.take_take, Nat.min_eq_left (by omega)]
    ·rw [← hl.take, List.getElem?_take_of_lt (by omega)]⟩ (ew (by simp only; omega))
  obtain ⟨x, ex, i, hi, hik, hr, h1, h2, h3⟩ := key;generalize bV upto BB V full l = p at h1 h2 ⊢;obtain ⟨pl, pV, pf⟩ := p;simp only at h1 h2 ⊢;rw [ex, ob, hi, decide_eq_true (show 0 ≤ (i : Int) ∧ (i : Int) ≤ (kk : Int) by omega), ct, Int.toNat_natCast, decide_eq_true (show i + (kk - i) ≤ x.o15.length by omega), ct, ct];cases h1;exact ⟨i, g0 x.o15 i (kk - i) ⟨0, 0, (0, 0)⟩, x.o9, rfl, hr, rW hik h3 h2⟩
structure qA where
 B : List Bk
 V : List Vt
 full : Bool
 lB : List Bk
 lV : List Vt
def c8 (upto : Int) (s : qA) : qA :=
 ⟨(bq upto s.B s.full s.lB).2.1, (bV upto (bq upto s.B s.full s.lB).2.1 s.V (bq upto s.B s.full s.lB).2.2 s.lV).2.1, (bV upto (bq upto s.B s.full s.lB).2.1 s.V (bq upto s.B s.full s.lB).2.2 s.lV).2.2,
  (bq upto s.B s.full s.lB).1, (bV upto (bq upto s.B s.full s.lB).2.1 s.V (bq upto s.B s.full s.lB).2.2 s.lV).1⟩
def c9 (s : qA) : Nat := s.B.length + s.V.length
def qm (upto : Int) : Nat → qA → qA
 | 0, s => s
 | n + 1, s => if c9 (c8 upto s) = c9 s then c8 upto s else qm upto n (c8 upto s)
def lj (upto : Int) (s : qA) : qA := qm upto 1000 s
open Classical in
noncomputable def aE (c : Cf) (w inp : Vw) (slot : Int) : Vw × Vw × Bool :=
 if fd c w then (⟨(lj slot ⟨w.B, w.V, false, (aY c inp).B, (aY c inp).V⟩).B, (lj slot ⟨w.B, w.V, false, (aY c inp).B, (aY c inp).V⟩).V⟩, ⟨(lj slot ⟨w.B, w.V, false, (aY c inp).B, (aY c inp).V⟩).lB, (lj slot ⟨w.B, w.V, false, (aY c inp).B, (aY c inp).V⟩).lV⟩, (lj slot ⟨w.B, w.V, false, (aY c inp).B, (aY c inp).V⟩).full)
 else (w, inp, false)
def mU (s : qA) : Prop := s.B.length ≤ 60 ∧ s.V.length ≤ 240
theorem wg {upto : Int} {B : List Bk} {f : Bool} {b : Bk} (h : B.length ≤ 60) : (br upto B f b).2.1.length ≤ 60 := by
 unfold br; split <;> (try split) <;> (try split) <;> simp <;> omega
theorem wi {upto : Int} {B : List Bk} {V : List Vt} {f : Bool} {v : Vt} (h : V.length ≤ 240) : (bv upto B V f v).2.1.length ≤ 240 := by
 unfold bv; split <;> (try split) <;> (try split) <;> simp <;> omega
theorem nq {α : Type} {step : List α → Bool → α → Bool × List α × Bool} {Q : List α → Prop} (h : ∀ B f b, Q B → Q (step B f b).2.1) : ∀ (l B : List α) (f : Bool), Q B → Q (bg step B f l).2.1
 | [], B, f, hB => by simpa only [bg] using hB
 | x :: r, B, f, hB => by
  have := nq h r (step B f x).2.1 (step B f x).2.2 (h B f x hB);simpa only [bg] using this
theorem vU {upto : Int} {l B : List Bk} {f : Bool} (h : B.length ≤ 60) : (bq upto B f l).2.1.length ≤ 60 := nq (step := br upto) (Q := fun B => B.length ≤ 60) (fun _ _ _ h => wg h) l B f h
theorem vV {upto : Int} {BB : List Bk} {l V : List Vt} {f : Bool} (h : V.length ≤ 240) : (bV upto BB V f l).2.1.length ≤ 240 := nq (step := bv upto BB) (Q := fun V => V.length ≤ 240) (fun _ _ _ h => wi h) l V f h
theorem sq {upto : Int} {s : qA} (h : mU s) : mU (c8 upto s) := ⟨vU h.1, vV h.2⟩
theorem uH (upto : Int) (s : qA) : (c8 upto s).lB.length ≤ s.lB.length ∧ (c8 upto s).lV.length ≤ s.lV.length := ⟨nr _ _ _, nr _ _ _⟩
theorem ke (upto : Int) (s : qA) : s.B.length ≤ (c8 upto s).B.length ∧ s.V.length ≤ (c8 upto s).V.length :=
 ⟨(eA (jw upto) _ _ _).1, (eA (jx upto _) _ _ _).1⟩
structure xW (s : qA) (x : e8) : Prop where
 o6 : x.o6 = s.B
 o7 : x.o7 = s.V
 full : x.x_5 = s.full
 sm : vn s.B x.o8
 hm : yP s.V x.o9
 lB : qC x.o14 x.left_0 s.lB
 lV : qC x.o15 x.left_1 s.lV
theorem xN {upto : Int} {s : qA} {x : e8} (h : xW s x) (hb : mU s) (hl1 : s.lB.length ≤ 800) (hl2 : s.lV.length ≤ 600) (hn : x.n ≠ (c9 s : Int)) : ∃ y, lr upto x = some (.inl y) ∧ xW (c8 upto s) y ∧ y.n = (c9 s : Int) := by
 obtain ⟨n, o6, o7, o8, o9, f, o14, o15, k0, k1⟩ := x;obtain ⟨e6, e7, ef, hsm, hhm, hlB, hlV⟩ := h;simp only at e6 e7 ef hsm hhm hlB hlV hn;subst e6 e7 ef;have hb1 := hb.1;have hb2 := hb.2;obtain ⟨k', lB', sm', e1, r1, p1⟩ := CG (upto := upto) (full := s.full) hlB hsm (by have := hlB.len; omega);unfold c8;generalize bq upto s.B s.full s.lB = p at e1 r1 p1 ⊢;obtain ⟨pl, pB, pf⟩ := p;simp only at e1 r1 p1 ⊢;obtain ⟨k2, lV', hm', e2, r2, p2⟩ := CH (upto := upto) (full := pf) hlV r1 hhm (by have := hlV.len; omega);generalize bV upto pB s.V pf s.lV = q at e2 r2 p2 ⊢;obtain ⟨ql, qV, qf⟩ := q;simp only at e2 r2 p2 ⊢
 have hw : IntKind.i64.wrap ((s.B.length : Int) + (s.V.length : Int)) = (c9 s : Int) := by
  unfold c9; rw [eI (by omega) (by omega)]; omega
 refine ⟨e8.mk (c9 s : Int) pB qV sm' hm' qf lB' lV' k' k2, ?_, ⟨rfl, rfl, rfl, r1, r2, p1, p2⟩, rfl⟩;unfold lr;simp only;rw [hw, show (n != (c9 s : Int)) = true by rw [bne_iff_ne]; exact hn, ct, e1, ob];simp only;rw [e2, ob]
theorem te {upto : Int} : ∀ (m : Nat) (s : qA) (x : e8) (q : Nat), xW s x → mU s → s.lB.length ≤ 800 → s.lV.length ≤ 600 → x.n ≠ (c9 s : Int) → 300 < m + c9 s → m < q →
  ∃ y, iter (lr upto) (q + 1) x = some y ∧ xW (qm upto m s) y
 | 0, s, x, q, _, hb, _, _, _, hm, _ => by
  have h1 := hb.1;have h2 := hb.2;unfold c9 at hm;omega
 | m + 1, s, x, q, h, hb, hl1, hl2, hn, hm, hq => by
  obtain ⟨y, e, hr, hy⟩ := xN h hb hl1 hl2 hn;have hg := ke upto s;have hlen := uH upto s;have hb' := sq (upto := upto) hb;obtain ⟨q, rfl⟩ : ∃ p, q = p + 1 := ⟨q - 1, by omega⟩;rw [mn e];unfold qm;by_cases hs : c9 (c8 upto s) = c9 s
  ·rw [if_pos hs];refine ⟨y, fB ?_, hr⟩
   have hw : IntKind.i64.wrap ((y.o6.length : Int) + (y.o7.length : Int)) = (c9 s : Int) := by
    rw [hr.o6, hr.o7, ← hs];have h1 := hb'.1;have h2 := hb'.2;unfold c9; rw [eI (by omega) (by omega)]; omega
   unfold lr;rw [hw, hy, show (((c9 s : Nat) : Int) != (c9 s : Int)) = false by simp, cf, ← hy]
  ·rw [if_neg hs];exact te m (c8 upto s) y q hr hb' (by omega) (by omega) (by rw [hy]; omega) (by unfold c9 at *; omega) (by omega)
open Classical in
theorem EE {c : Cf} {w inp : Vw} {slot : Int} (h1 : w.B.length ≤ 1000) (h2 : w.V.length ≤ 1000) (h3 : inp.B.length ≤ 800) (h4 : inp.V.length ≤ 600) : Ga c w inp slot = some (aE c w inp slot) := by
 unfold Ga aE;rw [wH (by omega) (by omega), ob, ED h1 h2, ob];by_cases hm : fd c w
 ·rw [decide_eq_true hm, Bool.not_true, cf, if_pos hm, CU (by omega) (by omega), ob];simp only;have hfB : (aY c inp).B.length ≤ inp.B.length := List.length_filter_le _ _;have hfV : (aY c inp).V.length ≤ inp.V.length := List.length_filter_le _ _
  have hr : xW ⟨w.B, w.V, false, (aY c inp).B, (aY c inp).V⟩ (e8.mk (-1) w.B w.V (lR w.B) (jP w.V) false (aY c inp).B (aY c inp).V ((aY c inp).B.map au).length ((aY c inp).V.map aD).length) :=
   ⟨rfl, rfl, rfl, ⟨rB hm.valid, BT w.B⟩, ⟨rh w.V, (uc w.V).1⟩, ⟨by simp, by simp⟩, ⟨by simp, by simp⟩⟩
  have hbel : mU ⟨w.B, w.V, false, (aY c inp).B, (aY c inp).V⟩ := ⟨hm.lenB, hm.lenV⟩;generalize aY c inp = o at *;obtain ⟨y, e, hy⟩ := te (upto := slot) 1000 _ _ 4611686018427387903 hr hbel (by simp only; omega) (by simp only; omega) (by simp only; omega) (by omega) (by omega);have e' : iter (lr slot) bG (e8.mk (-1) w.B w.V (lR w.B) (jP w.V) false o.B o.V (o.B.map au).length (o.V.map aD).length) = some y := e;rw [e', ob];change xW (lj slot _) y at hy;generalize lj slot ⟨w.B, w.V, false, o.B, o.V⟩ = s at hy ⊢;rw [Nat.ble_eq_true_of_le hy.lB.le, ct, Nat.ble_eq_true_of_le hy.lV.le, ct, hy.o6, hy.o7, hy.full, hy.lB.take, hy.lV.take]
 ·rw [decide_eq_false hm, Bool.not_false, ct, if_neg hm, aF (by omega) (by omega), ct, aF (by omega) (by omega), ct]
theorem pP {B : List Bk} {b : Bk} (h : cp B b = true) (t : List Bk) : cp (B ++ t) b = true := by
 unfold cp at h ⊢;rw [Bool.or_eq_true] at h ⊢;rcases h with h | h
 ·left;obtain ⟨s, hs⟩ := Option.isSome_iff_exists.1 h;rw [ju hs]; rfl
 ·right
  cases hp : aP B b.Parent with
  | none => rw [hp] at h; cases h
  | some s => rw [hp] at h; rw [ju hp]; exact h
theorem lG {B : List Bk} {V : List Vt} {v : Vt} (h : cB B V v = true) (t : List Bk) (u : List Vt) : cB (B ++ t) (V ++ u) v = true := by
 unfold cB at h ⊢;rw [Bool.or_eq_true] at h ⊢;rcases h with h | h
 ·left;exact decide_eq_true<|List.mem_append_left _<|of_decide_eq_true h
 ·right
  cases hp : aP B v.Head with
  | none => rw [hp] at h; cases h
  | some s => rw [hp] at h; rw [ju hp]; exact h
theorem vI {B : List Bk} {b : Bk} (h : b ∈ B) : cp B b = true := by
 obtain ⟨s, hs⟩ := qc h;unfold cp; rw [hs]; rfl
theorem vJ {B : List Bk} {V : List Vt} {v : Vt} (h : v ∈ V) : cB B V v = true := by
 unfold cB; rw [decide_eq_true h]; rfl
theorem lS (upto : Int) (B : List Bk) (f : Bool) (b : Bk) :
  (cp B b = true ∧ br upto B f b = (true, B, f)) ∨ (cp B b = false ∧ eV B upto b = true ∧ br upto B f b = (false, B, f)) ∨
  (cp B b = false ∧ eV B upto b = false ∧ B.length < 60 ∧ br upto B f b = (true, B ++ [b], f)) ∨ (cp B b = false ∧ eV B upto b = false ∧ 60 ≤ B.length ∧ br upto B f b = (false, B, true)) := by
 unfold br
 cases h1 : cp B b with
 | true => exact .inl ⟨rfl, by rw [if_pos rfl]⟩
 | false =>
  right;rw [if_neg (by simp)]
  cases h2 : eV B upto b with
  | true => exact .inl ⟨rfl, rfl, by rw [if_pos rfl]⟩
  | false =>
   right;rw [if_neg (by simp)];by_cases h3 : B.length < 60
   ·exact .inl ⟨rfl, rfl, h3, by rw [if_pos h3]⟩
   ·exact .inr ⟨rfl, rfl, by omega, by rw [if_neg h3]⟩
theorem lT (upto : Int) (B : List Bk) (V : List Vt) (f : Bool) (v : Vt) :
  (cB B V v = true ∧ bv upto B V f v = (true, V, f)) ∨ (cB B V v = false ∧ fF B upto v = true ∧ bv upto B V f v = (false, V, f)) ∨
  (cB B V v = false ∧ fF B upto v = false ∧ V.length < 240 ∧ bv upto B V f v = (true, V ++ [v], f)) ∨ (cB B V v = false ∧ fF B upto v = false ∧ 240 ≤ V.length ∧ bv upto B V f v = (false, V, true)) := by
 unfold bv
 cases h1 : cB B V v with
 | true => exact .inl ⟨rfl, by rw [if_pos rfl]⟩
 | false =>
  right;rw [if_neg (by simp)]
  cases h2 : fF B upto v with
  | true => exact .inl ⟨rfl, rfl, by rw [if_pos rfl]⟩
  | false =>
   right;rw [if_neg (by simp)];by_cases h3 : V.length < 240
   ·exact .inl ⟨rfl, rfl, h3, by rw [if_pos h3]⟩
   ·exact .inr ⟨rfl, rfl, by omega, by rw [if_neg h3]⟩
section
variable {α : Type} {step : List α → Bool → α → Bool × List α × Bool}
theorem iU {Q : List α → Bool → Prop} : ∀ {l B : List α} {f : Bool}, (∀ B f b, b ∈ l → Q B f → Q (step B f b).2.1 (step B f b).2.2) → Q B f → Q (bg step B f l).2.1 (bg step B f l).2.2
 | [], B, f, _, hB => by simpa only [bg] using hB
 | x :: r, B, f, h, hB => by
  have := iU (l := r) (fun B f b hb => h B f b (.tail _ hb)) (h B f x (.head _) hB);simpa only [bg] using this
theorem ns : ∀ (l B : List α) (f : Bool), (bg step B f l).1.Sublist l
 | [], B, f => by simp [bg]
 | x :: r, B, f => by
  have := ns r (step B f x).2.1 (step B f x).2.2;simp only [bg];split
  ·exact this.cons x
  ·exact this.cons_cons x
theorem lP {G : List α → α → Prop} (hs : ∀ B f b, (step B f b).1 = true → G (step B f b).2.1 b) (hm : ∀ B f b c, G B c → G (step B f b).2.1 c) : ∀ (l B : List α) (f : Bool) (b : α), b ∈ l → b ∈ (bg step B f l).1 ∨ G (bg step B f l).2.1 b
 | x :: r, B, f, b, hb => by
  have hkeep : ∀ (r B : List α) (f : Bool) (c : α), G B c → G (bg step B f r).2.1 c := fun r B f c hc => iU (Q := fun B _ => G B c) (fun B f b _ hB => hm B f b c hB) hc;simp only [bg];rcases List.mem_cons.1 hb with e | hb
  ·subst e
   cases h : (step B f b).1 with
   | true => exact .inr (hkeep _ _ _ _ (hs B f b h))
   | false => left; rw [if_neg (by simp)]; exact .head _
  ·rcases lP hs hm r (step B f x).2.1 (step B f x).2.2 b hb with h | h
   ·left;split
    ·exact h
    ·exact .tail _ h
   ·exact .inr h
end
section
variable {α : Type} {g w : List α → α → Bool} {cap : Nat}
def fM (g w : List α → α → Bool) (cap : Nat) (B : List α) (f : Bool) (b : α) : Bool × List α × Bool :=
 if g B b then (true, B, f) else if w B b then (false, B, f) else if B.length < cap then (true, B ++ [b], f) else (false, B, true)
def lU (g w : List α → α → Bool) (B : List α) (f : Bool) (l : List α) : List α × List α × Bool := (l.filter fun b => !g B b, B, f || l.any fun b => !g B b && !w B b)
theorem qi : ∀ {l B : List α} {f : Bool}, (∀ b ∈ l, g B b = false → w B b = false → cap ≤ B.length) → bg (fM g w cap) B f l = lU g w B f l
 | [], B, f, _ => by simp [bg, lU]
 | x :: r, B, f, h => by
  have ih := fun f => qi (l := r) (f := f) (B := B) fun b hb => h b (.tail _ hb);unfold lU at ih ⊢;simp only [bg]
  cases h1 : g B x with
  | true =>
   have e : fM g w cap B f x = (true, B, f) := by unfold fM; rw [h1, if_pos rfl]
   rw [e];simp [ih, h1]
  | false =>
   cases h2 : w B x with
   | true =>
    have e : fM g w cap B f x = (false, B, f) := by unfold fM; rw [h1, if_neg (by simp), h2, if_pos rfl]
    rw [e];simp [ih, h1, h2]
   | false =>
    have e : fM g w cap B f x = (false, B, true) := by
     unfold fM; rw [h1, if_neg (by simp), h2, if_neg (by simp), if_neg];have := h x (.head _) h1 h2;omega
    rw [e];simp [ih, h1, h2]
theorem rE (B : List α) (f : Bool) (b : α) : ∃ t, (fM g w cap B f b).2.1 = B ++ t := by
 unfold fM;split
 ·exact ⟨[], by simp⟩
 ·split
  ·exact ⟨[], by simp⟩
  ·split
   ·exact ⟨[b], rfl⟩
   ·exact ⟨[], by simp⟩
theorem yt (l B : List α) (f : Bool) : ∃ u, (bg (fM g w cap) B f l).2.1 = B ++ u :=
 iU (Q := fun C _ => ∃ u, C = B ++ u) (fun C f b _ ⟨u, hu⟩ => by
  obtain ⟨t, ht⟩ := rE (g := g) (w := w) (cap := cap) C f b
  exact ⟨u ++ t, by rw [ht, hu, List.append_assoc]⟩) ⟨[], by simp⟩
theorem qh : ∀ {l B : List α} {f : Bool}, (bg (fM g w cap) B f l).2.1.length = B.length → ∀ b ∈ l, g B b = false → w B b = false → cap ≤ B.length
 | x :: r, B, f, h, b, hb, h1, h2 => by
  simp only [bg] at h;obtain ⟨t, ht⟩ := rE (g := g) (w := w) (cap := cap) B f x;obtain ⟨u, hu⟩ := yt (g := g) (w := w) (cap := cap) r (fM g w cap B f x).2.1 (fM g w cap B f x).2.2
  have hB : (fM g w cap B f x).2.1 = B := by
   rw [hu, ht, List.length_append, List.length_append] at h;have : t = [] := List.length_eq_zero_iff.1 (by omega);rw [ht, this, List.append_nil]
  rcases List.mem_cons.1 hb with e | hb
  ·subst e;refine Classical.byContradiction fun hc => ?_
   have e : fM g w cap B f b = (true, B ++ [b], f) := by
    unfold fM; rw [h1, if_neg (by simp), h2, if_neg (by simp), if_pos (by omega)]
   rw [e] at hB;have := congrArg List.length hB;simp at this
  ·rw [hB] at h;exact qh h b hb h1 h2
end
structure qB (w o : Vw) (upto : Int) (s : qA) : Prop where
 preB : ∃ t, s.B = w.B ++ t ∧ ∀ b ∈ t, b ∈ o.B ∧ b.Slot ≤ upto
 preV : ∃ t, s.V = w.V ++ t ∧ ∀ v ∈ t, v ∈ o.V ∧ v.Slot ≤ upto
 valid : bE s.B
 nodup : s.V.Nodup
 forB : ∀ v ∈ s.V, forB s.B v
 below : mU s
 subB : s.lB.Sublist o.B
 subV : s.lV.Sublist o.V
 allB : ∀ b ∈ o.B, b ∈ s.lB ∨ cp s.B b = true
 allV : ∀ v ∈ o.V, v ∈ s.lV ∨ cB s.B s.V v = true
theorem wu {B : List Bk} {upto : Int} {b : Bk} (h1 : cp B b = false) (h2 : eV B upto b = false) : (∃ s, aP B b.Parent = some s ∧ s < b.Slot) ∧ aP B (nm b) = none ∧ b.Slot ≤ upto := by
 unfold cp at h1;unfold eV at h2;rw [Bool.or_eq_false_iff] at h1
 have hn : aP B (nm b) = none := by
  cases h : aP B (nm b) with
  | none => rfl
  | some s => rw [h] at h1; cases h1.1
 cases hp : aP B b.Parent with
 | none => rw [hp] at h2; cases h2
 | some s =>
  rw [hp] at h1 h2;have a1 := of_decide_eq_false h1.2;have a2 := of_decide_eq_false h2;exact ⟨⟨s, rfl, by omega⟩, hn, by omega⟩
theorem uX {B : List Bk} {V : List Vt} {upto : Int} {v : Vt} (h1 : cB B V v = false) (h2 : fF B upto v = false) : forB B v ∧ v ∉ V ∧ v.Slot ≤ upto := by
 unfold cB at h1;unfold fF at h2;rw [Bool.or_eq_false_iff] at h1;have hn := of_decide_eq_false h1.1
 cases hp : aP B v.Head with
 | none => rw [hp] at h2; cases h2
 | some s =>
  rw [hp] at h1 h2;have a1 := of_decide_eq_false h1.2;have a2 := of_decide_eq_false h2;exact ⟨⟨s, hp, by omega⟩, hn, by omega⟩
theorem yb {B : List Bk} {v : Vt} (h : forB B v) (t : List Bk) : forB (B ++ t) v := by
 obtain ⟨s, h1, h2⟩ := h;exact ⟨s, ju h1 t, h2⟩
theorem yq {w o : Vw} {upto : Int} {s : qA} (h : qB w o upto s) : qB w o upto ⟨(bq upto s.B s.full s.lB).2.1, s.V, (bq upto s.B s.full s.lB).2.2, (bq upto s.B s.full s.lB).1, s.lV⟩ := by
 have key : ∃ u, (bq upto s.B s.full s.lB).2.1 = s.B ++ u ∧ (∀ b ∈ u, b ∈ o.B ∧ b.Slot ≤ upto) ∧ bE (s.B ++ u) ∧ (s.B ++ u).length ≤ 60 := by
  have := iU (step := br upto) (l := s.lB) (B := s.B) (f := s.full) (Q := fun C _ => ∃ u, C = s.B ++ u ∧ (∀ b ∈ u, b ∈ o.B ∧ b.Slot ≤ upto) ∧ bE (s.B ++ u) ∧ (s.B ++ u).length ≤ 60)
   (fun C f b hb ⟨u, hu, h1, h2, h3⟩ => by
    subst hu;rcases lS upto (s.B ++ u) f b with ⟨-, e⟩ | ⟨-, -, e⟩ | ⟨a1, a2, a3, e⟩ | ⟨-, -, -, e⟩
    ·rw [e]; exact ⟨u, rfl, h1, h2, h3⟩
    ·rw [e]; exact ⟨u, rfl, h1, h2, h3⟩
    ·rw [e];obtain ⟨k1, k2, k3⟩ := wu a1 a2;refine ⟨u ++ [b], by simp, fun c hc => ?_, ?_, ?_⟩
     ·rcases List.mem_append.1 hc with hc | hc
      ·exact h1 c hc
      ·rw [List.mem_singleton] at hc; subst hc;exact ⟨h.subB.subset hb, k3⟩
     ·rw [← List.append_assoc]; exact qt.2 ⟨h2, k1, k2⟩
     ·rw [← List.append_assoc, List.length_append, List.length_singleton]; omega
    ·rw [e]; exact ⟨u, rfl, h1, h2, h3⟩)
   ⟨[], by simp, by simp, by simpa using h.valid, by simpa using h.below.1⟩
  exact this
 obtain ⟨u, hu, h1, h2, h3⟩ := key
 have hgone : ∀ b ∈ s.lB, b ∈ (bq upto s.B s.full s.lB).1 ∨ cp (bq upto s.B s.full s.lB).2.1 b = true :=
  lP (step := br upto) (G := fun B b => cp B b = true) (fun B f b hb => by
   rcases lS upto B f b with ⟨a, e⟩ | ⟨-, -, e⟩ | ⟨-, -, -, e⟩ | ⟨-, -, -, e⟩ <;> rw [e] at hb ⊢
   ·exact a
   ·cases hb
   ·exact vI (by simp)
   ·cases hb) (fun B f b c hc => by
   rcases lS upto B f b with ⟨a, e⟩ | ⟨-, -, e⟩ | ⟨-, -, -, e⟩ | ⟨-, -, -, e⟩ <;> rw [e]
   ·exact hc
   ·exact hc
   ·exact pP hc _
   ·exact hc) s.lB s.B s.full
 obtain ⟨t, ht, ht2⟩ := h.preB
 refine ⟨⟨t ++ u, by simp only; rw [hu, ht, List.append_assoc], fun b hb => (List.mem_append.1 hb).elim (ht2 b) (h1 b)⟩, h.preV, by simp only [hu]; exact h2, h.nodup, fun v hv => ?_, ⟨by simp only [hu]; exact h3, h.below.2⟩,
  (ns s.lB s.B s.full).trans h.subB, h.subV, fun b hb => ?_, fun v hv => ?_⟩
 ·simp only [hu]; exact yb (h.forB v hv) u
 ·rcases h.allB b hb with h5 | h5
  ·exact hgone b h5
  ·right; simp only [hu]; exact pP h5 u
 ·rcases h.allV v hv with h5 | h5
  ·exact .inl h5
  ·right;simp only [hu];have := lG h5 u []
   rwa [List.append_nil] at this
theorem yr {w o : Vw} {upto : Int} {s : qA} (h : qB w o upto s) : qB w o upto ⟨s.B, (bV upto s.B s.V s.full s.lV).2.1, (bV upto s.B s.V s.full s.lV).2.2, s.lB, (bV upto s.B s.V s.full s.lV).1⟩ := by
 have key : ∃ u, (bV upto s.B s.V s.full s.lV).2.1 = s.V ++ u ∧ (∀ v ∈ u, v ∈ o.V ∧ v.Slot ≤ upto) ∧ (s.V ++ u).Nodup ∧ (∀ v ∈ s.V ++ u, Go.Mg.forB s.B v) ∧ (s.V ++ u).length ≤ 240 := by
  have := iU (step := bv upto s.B) (l := s.lV) (B := s.V) (f := s.full) (Q := fun C _ => ∃ u, C = s.V ++ u ∧ (∀ v ∈ u, v ∈ o.V ∧ v.Slot ≤ upto) ∧ (s.V ++ u).Nodup ∧ (∀ v ∈ s.V ++ u, Go.Mg.forB s.B v) ∧ (s.V ++ u).length ≤ 240)
   (fun C f v hv ⟨u, hu, h1, h2, h4, h3⟩ => by
    subst hu;rcases lT upto s.B (s.V ++ u) f v with ⟨-, e⟩ | ⟨-, -, e⟩ | ⟨a1, a2, a3, e⟩ | ⟨-, -, -, e⟩
    ·rw [e]; exact ⟨u, rfl, h1, h2, h4, h3⟩
    ·rw [e]; exact ⟨u, rfl, h1, h2, h4, h3⟩
    ·rw [e];obtain ⟨k1, k2, k3⟩ := uX a1 a2;refine ⟨u ++ [v], by simp, fun c hc => ?_, ?_, fun c hc => ?_, ?_⟩
     ·rcases List.mem_append.1 hc with hc | hc
      ·exact h1 c hc
      ·rw [List.mem_singleton] at hc; subst hc;exact ⟨h.subV.subset hv, k3⟩
     ·rw [← List.append_assoc, List.nodup_append];exact ⟨h2, by simp, fun a ha b hb => by rw [List.mem_singleton] at hb; subst hb; exact fun q => k2 (q ▸ ha)⟩
     ·rw [← List.append_assoc] at hc;rcases List.mem_append.1 hc with hc | hc
      ·exact h4 c hc
      ·rw [List.mem_singleton] at hc; subst hc; exact k1
     ·rw [← List.append_assoc, List.length_append, List.length_singleton]; omega
    ·rw [e]; exact ⟨u, rfl, h1, h2, h4, h3⟩)
   ⟨[], by simp, by simp, by simpa using h.nodup, by simpa using h.forB, by simpa using h.below.2⟩
  exact this
 obtain ⟨u, hu, h1, h2, h4, h3⟩ := key
 have hgone : ∀ v ∈ s.lV, v ∈ (bV upto s.B s.V s.full s.lV).1 ∨ cB s.B (bV upto s.B s.V s.full s.lV).2.1 v = true :=
  lP (step := bv upto s.B) (G := fun V v => cB s.B V v = true) (fun V f v hb => by
   rcases lT upto s.B V f v with ⟨a, e⟩ | ⟨-, -, e⟩ | ⟨-, -, -, e⟩ | ⟨-, -, -, e⟩ <;> rw [e] at hb ⊢
   ·exact a
   ·cases hb
   ·exact vJ (by simp)
   ·cases hb) (fun V f v c hc => by
   rcases lT upto s.B V f v with ⟨a, e⟩ | ⟨-, -, e⟩ | ⟨-, -, -, e⟩ | ⟨-, -, -, e⟩ <;> rw [e]
   ·exact hc
   ·exact hc
   ·have := lG hc [] [v]; rwa [List.append_nil] at this
   ·exact hc) s.lV s.V s.full
 obtain ⟨t, ht, ht2⟩ := h.preV
 refine ⟨h.preB, ⟨t ++ u, by simp only; rw [hu, ht, List.append_assoc], fun b hb => (List.mem_append.1 hb).elim (ht2 b) (h1 b)⟩, h.valid, by simp only [hu]; exact h2, fun v hv => ?_, ⟨h.below.1, by simp only [hu]; exact h3⟩,
  h.subB, (ns s.lV s.V s.full).trans h.subV, h.allB, fun v hv => ?_⟩
 ·simp only [hu] at hv; exact h4 v hv
 ·rcases h.allV v hv with h5 | h5
  ·exact hgone v h5
  ·right;simp only [hu];have := lG h5 [] u
   rwa [List.append_nil] at this
theorem wb {w o : Vw} {upto : Int} {s : qA} (h : qB w o upto s) : qB w o upto (c8 upto s) := yr (yq h)
structure Ev (upto : Int) (s : qA) : Prop where
 B : ∀ b ∈ s.lB, cp s.B b = false ∧ (eV s.B upto b = true ∨ 60 ≤ s.B.length ∧ s.full = true)
 V : ∀ v ∈ s.lV, cB s.B s.V v = false ∧ (fF s.B upto v = true ∨ 240 ≤ s.V.length ∧ s.full = true)
theorem wa {upto : Int} {s : qA} (h : c9 (c8 upto s) = c9 s) : Ev upto (c8 upto s) := by
 have hg := ke upto s
 have hB : (bq upto s.B s.full s.lB).2.1.length = s.B.length := by unfold c9 at h; have : (c8 upto s).B = (bq upto s.B s.full s.lB).2.1 := rfl; rw [← this]; omega
 have h1 : ∀ b ∈ s.lB, cp s.B b = false → eV s.B upto b = false → 60 ≤ s.B.length := qh (g := cp) (w := fun B b => eV B upto b) (cap := 60) (f := s.full) hB;have e1 : bq upto s.B s.full s.lB = lU cp (fun B b => eV B upto b) s.B s.full s.lB := qi h1
 have hV : (bV upto s.B s.V (bq upto s.B s.full s.lB).2.2 s.lV).2.1.length = s.V.length := by
  have : (c8 upto s).V = (bV upto (bq upto s.B s.full s.lB).2.1 s.V (bq upto s.B s.full s.lB).2.2 s.lV).2.1 := rfl
  have e2 : (bq upto s.B s.full s.lB).2.1 = s.B := by rw [e1]; rfl
  rw [e2] at this;rw [← this];unfold c9 at h; omega
 have h2 : ∀ v ∈ s.lV, cB s.B s.V v = false → fF s.B upto v = false → 240 ≤ s.V.length := qh (g := cB s.B) (w := fun _ v => fF s.B upto v) (cap := 240) (f := (bq upto s.B s.full s.lB).2.2) hV;unfold c8;rw [e1];unfold lU;simp only;have e2 : bV upto s.B s.V (s.full || s.lB.any fun b => !cp s.B b && !eV s.B upto b) s.lV = lU (cB s.B) (fun _ v => fF s.B upto v) s.V (s.full || s.lB.any fun b => !cp s.B b && !eV s.B upto b) s.lV := qi h2;rw [e2];unfold lU;refine ⟨fun b hb => ?_, fun v hv => ?_⟩
 ·simp only [List.mem_filter, Bool.not_eq_true'] at hb;refine ⟨hb.2, ?_⟩
  cases hw : eV s.B upto b with
  | true => exact .inl rfl
  | false =>
   right;refine ⟨h1 b hb.1 hb.2 hw, ?_⟩;simp only [Bool.or_eq_true];exact .inl<|.inr<|List.any_eq_true.2 ⟨b, hb.1, by simp [hb.2, hw]⟩
 ·simp only [List.mem_filter, Bool.not_eq_true'] at hv;refine ⟨hv.2, ?_⟩
  cases hw : fF s.B upto v with
  | true => exact .inl rfl
  | false =>
   right;refine ⟨h2 v hv.1 hv.2 hw, ?_⟩;simp only [Bool.or_eq_true];exact .inr<|List.any_eq_true.2 ⟨v, hv.1, by simp [hv.2, hw]⟩
theorem rH {w o : Vw} {upto : Int} : ∀ (m : Nat) (s : qA), qB w o upto s → 300 < m + c9 s → qB w o upto (qm upto m s) ∧ Ev upto (qm upto m s)
 | 0, s, h, hm => by
  have h1 := h.below.1;have h2 := h.below.2;unfold c9 at hm;omega
 | m + 1, s, h, hm => by
  have hr := wb h;have hg := ke upto s;unfold qm;by_cases hs : c9 (c8 upto s) = c9 s
  ·rw [if_pos hs]; exact ⟨hr, wa hs⟩
  ·rw [if_neg hs];exact rH m (c8 upto s) hr (by unfold c9 at *; omega)
theorem ye {c : Cf} {w o : Vw} {upto : Int} (h : fd c w) : qB w o upto ⟨w.B, w.V, false, o.B, o.V⟩ :=
 ⟨⟨[], by simp, by simp⟩, ⟨[], by simp, by simp⟩, h.valid, h.nodup, h.forB, ⟨h.lenB, h.lenV⟩, List.Sublist.refl _, List.Sublist.refl _, fun _ h => .inl h, fun _ h => .inl h⟩
theorem BY {c : Cf} {w o : Vw} {upto : Int} (h : fd c w) : qB w o upto (lj upto ⟨w.B, w.V, false, o.B, o.V⟩) ∧ Ev upto (lj upto ⟨w.B, w.V, false, o.B, o.V⟩) :=
 rH 1000 _ (ye h) (by omega)
structure EN (c : Cf) (w inp : Vw) (upto : Int) (r : Vw × Vw × Bool) : Prop where
 may : fd c r.1
 preB : ∃ t, r.1.B = w.B ++ t ∧ ∀ b ∈ t, b ∈ (aY c inp).B ∧ b.Slot ≤ upto
 preV : ∃ t, r.1.V = w.V ++ t ∧ ∀ v ∈ t, v ∈ (aY c inp).V ∧ v.Slot ≤ upto
 subB : r.2.1.B.Sublist (aY c inp).B
 subV : r.2.1.V.Sublist (aY c inp).V
 allB : ∀ b ∈ (aY c inp).B, b ∈ r.2.1.B ∨ cp r.1.B b = true
 allV : ∀ v ∈ (aY c inp).V, v ∈ r.2.1.V ∨ cB r.1.B r.1.V v = true
 endB : ∀ b ∈ r.2.1.B, cp r.1.B b = false ∧ (eV r.1.B upto b = true ∨ 60 ≤ r.1.B.length ∧ r.2.2 = true)
 endV : ∀ v ∈ r.2.1.V, cB r.1.B r.1.V v = false ∧ (fF r.1.B upto v = true ∨ 240 ≤ r.1.V.length ∧ r.2.2 = true)
theorem wm {c : Cf} {w : Vw} (h : fd c w) (inp : Vw) (upto : Int) : EN c w inp upto (aE c w inp upto) := by
 unfold aE;rw [if_pos h];have hmB : ∀ b ∈ (aY c inp).B, mayB c b = true := fun b hb => (List.mem_filter.1 hb).2;have hmV : ∀ v ∈ (aY c inp).V, mayV c v = true := fun b hb => (List.mem_filter.1 hb).2;have := BY (o := aY c inp) (upto := upto) h;obtain ⟨hi, he⟩ := this;generalize lj upto ⟨w.B, w.V, false, (aY c inp).B, (aY c inp).V⟩ = s at hi he ⊢;obtain ⟨t, ht, ht2⟩ := hi.preB;obtain ⟨u, hu, hu2⟩ := hi.preV;refine ⟨⟨h.conf, hi.valid, hi.below.1, hi.below.2, fun b hb => ?_, fun v hv => ?_, hi.nodup, hi.forB⟩, ⟨t, ht, ht2⟩, ⟨u, hu, hu2⟩, hi.subB, hi.subV, hi.allB, hi.allV, he.B, he.V⟩
 ·simp only [ht] at hb;rcases List.mem_append.1 hb with hb | hb
  ·exact h.mayB b hb
  ·exact hmB b (ht2 b hb).1
 ·simp only [hu] at hv;rcases List.mem_append.1 hv with hv | hv
  ·exact h.mayV v hv
  ·exact hmV v (hu2 v hv).1
open Go.Proofs
open Go.Proofs
theorem BO (c : Cf) (w : Vw) : (aY c w).B.length ≤ w.B.length ∧ (aY c w).V.length ≤ w.V.length := ⟨List.length_filter_le _ _, List.length_filter_le _ _⟩
theorem ol {α : Type} {p : α → Bool} {l : List α} {n : Nat} {y : α} (hy : l[n]? = some y) : ((l.take (n + 1)).filter p).length = ((l.take n).filter p).length + bif p y then 1 else 0 := by
 rw [bH hy, List.length_append];cases p y <;> rfl
open Go.Proofs
open Go.Proofs
theorem B5 {c : Cf} {w inp : Vw} {upto : Int} {r : Vw × Vw × Bool} (h : EN c w inp upto r) : w.B.length ≤ r.1.B.length ∧ w.V.length ≤ r.1.V.length ∧ r.2.1.B.length ≤ inp.B.length ∧ r.2.1.V.length ≤ inp.V.length := by
 obtain ⟨t, ht, -⟩ := h.preB;obtain ⟨u, hu, -⟩ := h.preV;exact ⟨by rw [ht]; simp, by rw [hu]; simp, (h.subB.trans List.filter_sublist).length_le, (h.subV.trans List.filter_sublist).length_le⟩
theorem yI {c : Cf} {w inp : Vw} {upto : Int} {r : Vw × Vw × Bool} (h : EN c w inp upto r) : r.1.B.take w.B.length = w.B ∧ r.1.V.take w.V.length = w.V := by
 obtain ⟨t, ht, -⟩ := h.preB;obtain ⟨u, hu, -⟩ := h.preV;rw [ht, hu];exact ⟨List.take_left' rfl, List.take_left' rfl⟩
theorem cZ {α : Type} [DecidableEq α] : ∀ {l L : List α}, l.Nodup → (∀ x ∈ l, x ∈ L) → l.length ≤ L.length
 | [], _, _, _ => Nat.zero_le _
 | x :: r, L, h, hs => by
  rw [List.nodup_cons] at h;have hx := hs x (.head _);have h1 := cZ (L := L.erase x) h.2 fun y hy => (List.mem_erase_of_ne (show y ≠ x from fun e => h.1 (by rw [← e]; exact hy))).2 (hs y (.tail _ hy));have h2 := List.length_erase_of_mem hx;have h3 := List.length_pos_of_mem hx;simp only [List.length_cons]; omega
theorem ry {B : List Bk} (h : bE B) {id : ID} {s : Int} : aP B id = some s ↔ (id = (0, 0) ∧ s = 0) ∨ ∃ b ∈ B, nm b = id ∧ b.Slot = s := by
 constructor
 ·intro h1;rcases nE h1 with h2 | ⟨-, h2⟩
  ·exact .inl h2
  ·exact .inr h2
 ·rintro (⟨h1, h2⟩ | ⟨b, h1, h2, h3⟩)
  ·subst h1 h2; unfold aP; rw [if_pos rfl]
  ·rw [← h2, ← h3]; exact wn h h1
theorem rz {B C : List Bk} (h : bE B) (h2 : bE C) (hs : ∀ b ∈ B, b ∈ C) {id : ID} {s : Int} (hq : aP B id = some s) : aP C id = some s := by
 rw [ry h] at hq;rw [ry h2];rcases hq with hq | ⟨b, h1, h3⟩
 ·exact .inl hq
 ·exact .inr ⟨b, hs b h1, h3⟩
inductive CB (base o : List Bk) (upto : Int) : Bk → Prop
 | base {b : Bk} : b ∈ base → CB base o upto b
 | root {b : Bk} : b ∈ o → b.Slot ≤ upto → b.Parent = (0, 0) → 0 < b.Slot → CB base o upto b
 | step {b p : Bk} : b ∈ o → b.Slot ≤ upto → CB base o upto p → nm p = b.Parent → p.Slot < b.Slot → CB base o upto b
theorem CB.mono {base base' o o' : List Bk} {upto upto' : Int} (h1 : ∀ b ∈ base, CB base' o' upto' b) (h2 : ∀ b ∈ o, b ∈ o') (h3 : upto ≤ upto') {b : Bk} (h : CB base o upto b) : CB base' o' upto' b := by
 induction h with
 | base h => exact h1 _ h
 | root a1 a2 a3 a4 => exact .root (h2 _ a1) (Int.le_trans a2 h3) a3 a4
 | step a1 a2 _ a4 a5 ih => exact .step (h2 _ a1) (Int.le_trans a2 h3) ih a4 a5
structure Rm (U : Vw) : Prop where
 inj : ∀ a ∈ U.B, ∀ b ∈ U.B, nm a = nm b → a = b
 B : U.B.length < 60
 V : U.V.length < 240
open Go.Proofs
open Go.Proofs
open Go.Proofs
open Classical in
theorem yB {S R : Type} {step : S → Option (S ⊕ (S ⊕ R))} {n : Nat} (mk : Nat → S) (r0 : R) (P : Nat → Prop) (hs : ∀ j, j < n → step (mk j) = some (.inr (.inr r0)) ∨ (step (mk j) = some (.inl (mk (j + 1))) ∧ P j))
  (he : step (mk n) = some (.inr (.inl (mk n)))) (hn : n < 4000000000000000000) : iter step bG (mk 0) = some (.inr r0) ∨ (iter step bG (mk 0) = some (.inl (mk n)) ∧ ∀ j, j < n → P j) := by
 have e := eF mk (fun j => if step (mk j) = some (.inl (mk (j + 1))) ∧ P j then none else some r0) (fun j hj => by
  by_cases h : step (mk j) = some (.inl (mk (j + 1))) ∧ P j
  ·simp only [if_pos h]; exact h.1
  ·simp only [if_neg h]; exact (hs j hj).resolve_right h) he hn
 rw [e]
 cases h : cy (fun j => if step (mk j) = some (.inl (mk (j + 1))) ∧ P j then none else some r0) 0 n with
 | none =>
  right;refine ⟨rfl, fun j hj => ?_⟩;have := fx.1 h j (Nat.zero_le _) (by omega);split at this
  ·rename_i h2; exact h2.2
  ·cases this
 | some r =>
  left;obtain ⟨j, -, -, h2, -⟩ := dK h;split at h2
  ·cases h2
  ·cases h2; rfl
theorem CQ {l : List Vt} (hl : l.length ≤ 100000) (v : Vt) : Ad l v = some ((l.filter fun y => decide (y = v)).length : Int) := by
 have e := ay (step := kG l v) (n := l.length) (fun k => ep.mk (((l.take k).filter fun y => decide (y = v)).length : Int) (k : Int)) (ep.mk ((l.filter fun y => decide (y = v)).length : Int) (l.length : Int)) (fun k hk => by
  obtain ⟨y, hy, -⟩ := aA hk;have hf := cH (p := fun y => decide (y = v)) (l := l) k;unfold kG;simp only;rw [decide_eq_true (show (k : Int) < (l.length : Int) by omega), ct, aB hy, ob, Ht, ol hy, ak (n := k) (by omega), ak (n := _) (by omega)]
  cases decide (y = v) with
  | true => rw [ct, ct]
  | false => rw [cf, cf]; rfl) (by
  unfold kG;simp only
  rw [decide_eq_false (show ¬ (l.length : Int) < (l.length : Int) by omega), cf, List.take_length]) (by omega)
 have e' : iter (kG l v) bG (ep.mk 0 0) = some (ep.mk ((l.filter fun y => decide (y = v)).length : Int) (l.length : Int)) := e;unfold Ad;rw [e', ob]
theorem vz {l : List Vt} {v : Vt} : (((l.filter fun y => decide (y = v)).length : Int) == 0) = !decide (v ∈ l) := by
 by_cases h : v ∈ l
 ·rw [decide_eq_true h];have : 0 < (l.filter fun y => decide (y = v)).length := List.length_pos_of_mem (List.mem_filter.2 ⟨h, decide_eq_true rfl⟩);rw [beq_eq_false_iff_ne.2 (by omega)]; rfl
 ·rw [decide_eq_false h, List.filter_eq_nil_iff.2 fun y hy he => h (by rw [← of_decide_eq_true he]; exact hy)]; rfl
theorem rM {a b : Vw} (h1 : a.B.length + b.B.length ≤ 90000) (h2 : a.V.length + b.V.length ≤ 90000) : vd a b = some (bx a b) := by
 have e1 := ay (step := kz b) (n := b.B.length) (fun k => de.mk (k : Int) (bA a.B (b.B.take k))) (de.mk (b.B.length : Int) (bA a.B b.B)) (fun k hk => by
  obtain ⟨y, hy, -⟩ := aA hk;have hlen := cx (b.B.take k) a.B
  have htl : (b.B.take k).length ≤ k := by rw [List.length_take]; omega
  rw [aS hy, gH];generalize bA a.B (b.B.take k) = o at hlen ⊢
  have e := ay (step := kA b (de.mk (k : Int) o)) (n := o.length) (fun j => en.mk (decide (y ∈ o.take j)) (j : Int)) (en.mk (decide (y ∈ o)) (o.length : Int)) (fun j hj => by
   obtain ⟨z, hz, -⟩ := aA hj;unfold kA;simp only;rw [decide_eq_true (show (j : Int) < (o.length : Int) by omega), ct, ak (n := j) (by omega), aS hz];by_cases hm : y ∈ o.take j
   ·rw [decide_eq_true hm, ct, decide_eq_true (List.mem_append_left _ hm)]
   ·rw [decide_eq_false hm, cf, aB hz, ob, aB hy, ob, Hq]
    rw [show decide (y ∈ o.take j ++ [z]) = decide (z = y) from decide_eq_decide.2 ⟨fun h => by
     rcases List.mem_append.1 h with h | h
     ·exact absurd h hm
     ·exact (List.mem_singleton.1 h).symm, fun h => List.mem_append_right _ (List.mem_singleton.2 h.symm)⟩]) (by
   unfold kA;simp only
   rw [decide_eq_false (show ¬ (o.length : Int) < (o.length : Int) by omega), cf, List.take_length]) (by omega)
  have e' : iter (kA b (de.mk (k : Int) o)) bG (en.mk false 0) = some (en.mk (decide (y ∈ o)) (o.length : Int)) := e;unfold kz;simp only;rw [decide_eq_true (show (k : Int) < (b.B.length : Int) by omega), ct, e', ob, ak (n := k) (by omega)];by_cases hm : y ∈ o
  ·simp only [decide_eq_true hm, Bool.not_true, cf, if_pos hm]
  ·simp only [decide_eq_false hm, Bool.not_false, ct, if_neg hm]
   rw [aB hy, ob, aF (by simp only [List.length_singleton]; omega) (by omega), ct]) (by
  unfold kz;simp only
  rw [decide_eq_false (show ¬ (b.B.length : Int) < (b.B.length : Int) by omega), cf, List.take_length]) (by omega)
 have e1' : iter (kz b) bG (de.mk 0 a.B) = some (de.mk (b.B.length : Int) (bA a.B b.B)) := e1
 have e2 := ay (step := kC b) (n := b.V.length) (fun k => eo.mk (k : Int) (bA a.V (b.V.take k))) (eo.mk (b.V.length : Int) (bA a.V b.V)) (fun k hk => by
  obtain ⟨y, hy, -⟩ := aA hk;have hlen := cx (b.V.take k) a.V
  have htl : (b.V.take k).length ≤ k := by rw [List.length_take]; omega
  rw [aS hy, gH];generalize bA a.V (b.V.take k) = o at hlen ⊢;unfold kC;simp only;rw [decide_eq_true (show (k : Int) < (b.V.length : Int) by omega), ct, aB hy, ob, CQ (by omega), ob, vz, ak (n := k) (by omega)];by_cases hm : y ∈ o
  ·simp only [decide_eq_true hm, Bool.not_true, cf, if_pos hm]
  ·simp only [decide_eq_false hm, Bool.not_false, ct, if_neg hm]
   rw [ob, aF (by simp only [List.length_singleton]; omega) (by omega), ct]) (by
  unfold kC;simp only
  rw [decide_eq_false (show ¬ (b.V.length : Int) < (b.V.length : Int) by omega), cf, List.take_length]) (by omega)
 have e2' : iter (kC b) bG (eo.mk 0 a.V) = some (eo.mk (b.V.length : Int) (bA a.V b.V)) := e2;unfold vd;rw [aF (by omega) (by omega), ct, aF (by omega) (by omega), ct, e1', ob, e2', ob];rfl
def lw (k : Int) (w : Vw) : Prop := (w.B.length : Int) ≤ k ∧ (w.V.length : Int) ≤ k
def jc (k : Int) (n : Nd) : Prop := lw k n.V ∧ lw k n.In ∧ n.O.length ≤ 10 ∧ ∀ o ∈ n.O, lw k o.V
def aV (n : Nd) : Vw := bx n.V n.In
theorem kX {n : Nd} {k : Int} (h : jc k n) : ((aV n).B.length : Int) ≤ 2 * k ∧ ((aV n).V.length : Int) ≤ 2 * k := by
 obtain ⟨⟨a1, a2⟩, ⟨b1, b2⟩, -⟩ := h;have h1 := cx n.In.B n.V.B;have h2 := cx n.In.V n.V.V;unfold aV bx;simp only;omega
theorem sG {n : Nd} {k : Int} (h : jc k n) (hk : k ≤ 1000) : qL n = some (aV n) := by
 obtain ⟨⟨a1, a2⟩, ⟨b1, b2⟩, -⟩ := h;unfold qL;rw [lu (by omega) (by omega)]; rfl
def dv (l : List Nd) (w : Vw) : Vw := l.foldl (fun w n => bx w (aV n)) w
theorem xY (l : List Nd) (n : Nd) (w : Vw) : dv (l ++ [n]) w = bx (dv l w) (aV n) := by unfold dv; rw [List.foldl_append]; rfl
theorem pi {k : Int} : ∀ {l : List Nd} {w : Vw}, (∀ n ∈ l, jc k n) → ((dv l w).B.length : Int) ≤ w.B.length + l.length * (2 * k) ∧ ((dv l w).V.length : Int) ≤ w.V.length + l.length * (2 * k)
 | [], w, _ => by simp [dv]
 | n :: r, w, h => by
  have h1 := kX (h n (.head _));have h2 := pi (l := r) (w := bx w (aV n)) fun m hm => h m (.tail _ hm);have h3 := cx (aV n).B w.B;have h4 := cx (aV n).V w.V;have e : dv (n :: r) w = dv r (bx w (aV n)) := rfl;have e1 : (bx w (aV n)).B = bA w.B (aV n).B := rfl;have e2 : (bx w (aV n)).V = bA w.V (aV n).V := rfl;rw [e, List.length_cons, Int.natCast_add, Int.add_mul];rw [e1, e2] at h2;omega
theorem pZ {b : Bk} : ∀ {l : List Nd} {w : Vw}, b ∈ (dv l w).B ↔ b ∈ w.B ∨ ∃ n ∈ l, b ∈ (aV n).B
 | [], w => by simp [dv]
 | n :: r, w => by
  have e : dv (n :: r) w = dv r (bx w (aV n)) := rfl;rw [e, pZ];have e1 : (bx w (aV n)).B = bA w.B (aV n).B := rfl;rw [e1, ff];simp [or_assoc]
theorem uo {v : Vt} : ∀ {l : List Nd} {w : Vw}, v ∈ (dv l w).V ↔ v ∈ w.V ∨ ∃ n ∈ l, v ∈ (aV n).V
 | [], w => by simp [dv]
 | n :: r, w => by
  have e : dv (n :: r) w = dv r (bx w (aV n)) := rfl;rw [e, uo];have e1 : (bx w (aV n)).V = bA w.V (aV n).V := rfl;rw [e1, ff];simp [or_assoc]
theorem m5 : ∀ {l : List Nd} {w : Vw}, w.B.Nodup → w.V.Nodup → (dv l w).B.Nodup ∧ (dv l w).V.Nodup
 | [], w, h1, h2 => ⟨h1, h2⟩
 | n :: r, w, h1, h2 => m5 (l := r) (w := bx w (aV n)) (fG h1) (fG h2)
theorem vf {k0 : Int} {l : List Nd} {w : Vw} (h0 : 0 ≤ k0) (hk0 : k0 ≤ 1000) (hl : (l.length : Int) * (2 * k0) ≤ 40000) (hl2 : l.length ≤ 100000) (hs : ∀ n ∈ l, jc k0 n) (h1 : w.B.length ≤ 1000) (h2 : w.V.length ≤ 1000) : oZ l w = some (dv l w) := by
 have e := ay (step := fT l) (n := l.length) (fun k => dz.mk (k : Int) (dv (l.take k) w)) (dz.mk (l.length : Int) (dv l w)) (fun k hk => by
  obtain ⟨y, hy, hm⟩ := aA hk
  have et : l.take (k + 1) = l.take k ++ [y] := by rw [List.take_add_one, hy]; rfl
  have hsy := hs y hm;have hlen := pi (l := l.take k) (w := w) fun m hm => hs m (List.mem_of_mem_take hm);rw [List.length_take] at hlen;have hkn := kX hsy;have hmul : ((Min.min k l.length : Nat) : Int) * (2 * k0) ≤ l.length * (2 * k0) := Int.mul_le_mul_of_nonneg_right (by omega) (by omega);unfold fT;simp only;rw [decide_eq_true (show (k : Int) < (l.length : Int) by omega), ct, aB hy, ob, et, xY, ak (n := k) (by omega)];unfold wT;rw [sG hsy (by omega), ob, lu (by omega) (by omega), ob]
  rfl) (by
  unfold fT;simp only
  rw [decide_eq_false (show ¬ (l.length : Int) < (l.length : Int) by omega), cf, List.take_length]) (by omega)
 have e' : iter (fT l) bG (dz.mk 0 w) = _ := e;unfold oZ;rw [e', ob]
theorem mV {l : List Nd} (hl : l.length ≤ 40) (hs : ∀ n ∈ l, jc 500 n) : oN l = some (dv l ⟨[], []⟩) := by
 unfold oN;rw [vf (k0 := 500) (by omega) (by omega) (by omega) (by omega) hs (Nat.zero_le _) (Nat.zero_le _)]; rfl
theorem vH (l : List Nd) : (cy (fun j => match l[j]? with | some y => if y.Full = true then some (j : Int) else none | none => none) 0 l.length).isSome = l.any Nd.Full := by
 cases h : cy (fun j => match l[j]? with | some y => if y.Full = true then some (j : Int) else none | none => none) 0 l.length with
 | none =>
  symm;rw [Option.isSome_none, List.any_eq_false];intro x hx;obtain ⟨j, hj⟩ := List.getElem?_of_mem hx;have := fx.1 h j (Nat.zero_le _) (by have := (List.getElem?_eq_some_iff.1 hj).1; omega);rw [hj] at this;simp only at this;split at this
  ·cases this
  ·assumption
 | some r =>
  symm;rw [Option.isSome_some, List.any_eq_true];obtain ⟨j, -, -, h3, -⟩ := dK h;split at h3
  ·rename_i y hy;split at h3
   ·rename_i hf; exact ⟨y, List.mem_of_getElem? hy, hf⟩
   ·cases h3
  ·cases h3
theorem Ai {l : List Nd} (hl : l.length ≤ 100000) : sT l = some (l.any Nd.Full) := by
 have e := eF (step := kM l) (n := l.length) (fun k => fN.mk (k : Int)) (fun j => match l[j]? with | some y => if y.Full = true then some (j : Int) else none | none => none) (fun j hj => by
  obtain ⟨y, hy, -⟩ := aA hj;unfold kM wR;simp only;rw [decide_eq_true (show (j : Int) < (l.length : Int) by omega), ct, aB hy, ob, ob, ak (n := j) (by omega), hy]
  cases hf : y.Full with
  | true => rw [ct]; simp [hf]
  | false => rw [cf]; simp [hf]) (by
  unfold kM;simp only
  rw [decide_eq_false (show ¬ (l.length : Int) < (l.length : Int) by omega), cf]) (by omega)
 have e' : iter (kM l) bG (fN.mk 0) = _ := e;unfold sT CV CY;rw [← vH, e', ob]
 cases h : cy (fun j => match l[j]? with | some y => if y.Full = true then some (j : Int) else none | none => none) 0 l.length with
 | none => rw [lb, sl, ob]; rfl
 | some r =>
  have h0 : r ≥ 0 := by
   obtain ⟨j, -, -, h3, -⟩ := dK h;split at h3
   ·split at h3
    ·cases h3; omega
    ·cases h3
   ·cases h3
  rw [lb, sr, ob, decide_eq_true h0]; rfl
theorem yZ {l : List Int} (hl : l.length ≤ 100000) (v : Int) : sL l v = some (decide (v ∈ l)) := by
 have e := eF (step := ip l v) (n := l.length) (fun k => dX.mk (k : Int)) (eY l v) (fun j hj => by
  obtain ⟨y, hy, -⟩ := aA hj;unfold ip eY;simp only;rw [decide_eq_true (show (j : Int) < (l.length : Int) by omega), ct, aB hy, ob, ak (n := j) (by omega), hy];by_cases h : v = y
  ·rw [beq_iff_eq.2 h, ct, if_pos (by rw [h])]
  ·rw [beq_eq_false_iff_ne.2 h, cf, if_neg (fun e => h (Option.some.inj e).symm)]) (by
  unfold ip;simp only
  rw [decide_eq_false (show ¬ (l.length : Int) < (l.length : Int) by omega), cf]) (by omega)
 unfold sL wC;rw [← j5];have e' : iter (ip l v) bG (dX.mk 0) = some (lb (dX.mk (l.length : Int)) (cy (eY l v) 0 l.length)) := e;rw [e', ob]
 cases h : cy (eY l v) 0 l.length with
 | none => rw [lb, sl, ob]; rfl
 | some r => rw [lb, sr, ob, decide_eq_true (pQ h)]; rfl
def u4 (cm : List Int) (v : Vt) : Bool := decide (v.From ∈ cm)
theorem sK {cm : List Int} (hl : cm.length ≤ 100000) (v : Vt) : qN cm v = some (!u4 cm v) := by
 unfold qN;rw [yZ hl, ob];rfl
theorem Aa {l : List Vt} {cm : List Int} (hc : cm.length ≤ 100000) (hl : l.length ≤ 100000) :
  ∃ i, sR l l.length cm = some i ∧ ((i = -1 ∧ l.filter (u4 cm) = l) ∨ ∃ j : Nat, i = j ∧ j < l.length ∧ (l.take (j + 1)).filter (u4 cm) = l.take j) := by
 unfold sR
 have key := dx (step := ir l l.length cm) (fun x => ∃ j : Nat, j ≤ l.length ∧ x.t8 = j ∧ (l.take j).filter (u4 cm) = l.take j) (fun x => l.length - x.t8.toNat)
  (fun b => (∃ x, b = .inl x ∧ l.filter (u4 cm) = l) ∨ ∃ j : Nat, b = .inr (j : Int) ∧ j < l.length ∧ (l.take (j + 1)).filter (u4 cm) = l.take j) (by
   rintro ⟨t⟩ ⟨j, hj, h1, h2⟩;simp only at h1 h2;subst h1;by_cases hlt : j < l.length
   ·obtain ⟨y, hy, -⟩ := aA hlt;have hsn := bH (p := u4 cm) hy
    have hstep : ir l l.length cm ⟨(j : Int)⟩ = bif !u4 cm y then some (.inr (.inr (j : Int))) else some (.inl ⟨((j + 1 : Nat) : Int)⟩) := by
     unfold ir;simp only;rw [decide_eq_true (show (j : Int) < (l.length : Int) by omega), ct, List.take_length, aB hy, ob, sK hc, ob, ak (n := j) (by omega)]
    rw [h2] at hsn
    cases hp : u4 cm y with
    | true =>
     rw [hp, Bool.not_true, cf] at hstep;rw [hp, ct] at hsn;exact .inl ⟨_, hstep, ⟨j + 1, by omega, rfl, by rw [hsn, fE hy]⟩, by simp only; omega⟩
    | false =>
     rw [hp, Bool.not_false, ct] at hstep;rw [hp, cf, List.append_nil] at hsn;exact .inr ⟨_, hstep, .inr ⟨j, rfl, hlt, hsn⟩⟩
   ·right
    obtain rfl : j = l.length := by omega
    refine ⟨.inl ⟨(l.length : Int)⟩, ?_, .inl ⟨_, rfl, ?_⟩⟩
    ·unfold ir;simp only;rw [decide_eq_false (show ¬ (l.length : Int) < (l.length : Int) by omega), cf]
    ·rw [List.take_length] at h2; exact h2) (n := bG) (x := ⟨0⟩) ⟨0, by omega, rfl, by simp⟩ (ew (by simp only; omega))
 obtain ⟨b, e, ⟨x, rfl, h1⟩ | ⟨j, rfl, h0, h1⟩⟩ := key
 ·exact ⟨-1, by rw [e, ob, sl], .inl ⟨rfl, h1⟩⟩
 ·exact ⟨j, by rw [e, ob, sr], .inr ⟨j, rfl, h0, h1⟩⟩
theorem zS {l : List Vt} {cm : List Int} (hc : cm.length ≤ 100000) (hl : l.length ≤ 100000) : ∃ k' l', sO l l.length cm = some (k', l') ∧ qC l' k' (l.filter (u4 cm)) := by
 obtain ⟨i, e0, h0⟩ := Aa hc hl;unfold sO;rw [e0, ob];rcases h0 with ⟨rfl, hp⟩ | ⟨j0, rfl, hj0, hp⟩
 ·rw [hp, show ((-1 : Int) == -1) = true from rfl, ct];exact ⟨_, _, rfl, List.take_length, Nat.le_refl _⟩
 ·rw [show ((j0 : Int) == -1) = false by rw [beq_eq_false_iff_ne]; omega, cf, ak (n := j0) (by omega)]
  have key := dx (step := iq l.length cm) (fun x => ∃ (i j : Nat), x.i = i ∧ x.j = j ∧ Mv l x.o1 i j ((l.take j).filter (u4 cm))) (fun x => l.length - x.j.toNat)
   (fun x => ∃ i : Nat, x.i = i ∧ i ≤ l.length ∧ x.o1.take i = l.filter (u4 cm) ∧ l.length ≤ x.o1.length) (by
   rintro ⟨i', j', a⟩ ⟨i, j, h1, h2, h5⟩;simp only at h1 h2 h5;subst h1 h2;have hij := h5.ij;have hjl := h5.jl;have hal := h5.len;by_cases hlt : j < l.length
   ·left;obtain ⟨y, hy, -⟩ := aA hlt
    have hya : (a.take l.length)[j]? = some y := by rw [List.getElem?_take_of_lt hlt, h5.rest j (Nat.le_refl _) (by omega), hy]
    obtain ⟨z, hz, -⟩ := aA (l := a.take l.length) (n := i) (by rw [List.length_take]; omega);have hsn := bH (p := u4 cm) hy
    have hstep : iq l.length cm ⟨(i : Int), (j : Int), a⟩ = bif u4 cm y then some (.inl ⟨((i + 1 : Nat) : Int), ((j + 1 : Nat) : Int), a.set i y⟩) else some (.inl ⟨(i : Int), ((j + 1 : Nat) : Int), a⟩) := by
     unfold iq;simp only;rw [decide_eq_true (show (j : Int) < (l.length : Int) by omega), ct, aB hya, ob, sK hc, ob, aB hz, ob, ak (n := j) (by omega), ak (n := i) (by omega), Int.toNat_natCast, Bool.not_not]
    cases hp : u4 cm y with
    | false =>
     rw [hp, cf] at hstep;rw [hp, cf, List.append_nil] at hsn;refine ⟨_, hstep, ⟨i, j + 1, rfl, rfl, ?_⟩, by simp only; omega⟩;rw [hsn];exact h5.next_gone (by omega)
    | true =>
     rw [hp, ct] at hstep;rw [hp, ct] at hsn;refine ⟨_, hstep, ⟨i + 1, j + 1, rfl, rfl, ?_⟩, by simp only; omega⟩;rw [hsn];exact h5.next_stay (by omega) hy
   ·right
    have hjk : j = l.length := by omega
    have htl : l.take j = l := List.take_of_length_le (by omega);rw [htl] at h5;refine ⟨⟨(i : Int), (j : Int), a⟩, ?_, i, rfl, by omega, h5.left, by show l.length ≤ a.length; omega⟩;unfold iq;simp only
    rw [decide_eq_false (show ¬ (j : Int) < (l.length : Int) by omega), cf]) (n := bG) (x := ⟨(j0 : Int), ((j0 + 1 : Nat) : Int), l⟩)
   ⟨j0, j0 + 1, rfl, rfl, by
    rw [hp]
    exact ⟨by omega, by omega, Nat.le_refl _, rfl, fun q h1 h2 => rfl⟩⟩ (ew (by simp only; omega))
  obtain ⟨x, ex, i, hi, hik, h2, h3⟩ := key;rw [ex, ob, hi, decide_eq_true (show 0 ≤ (i : Int) ∧ (i : Int) ≤ (l.length : Int) by omega), ct, Int.toNat_natCast, decide_eq_true (show i + (l.length - i) ≤ x.o1.length by omega), ct, ct];exact ⟨_, _, rfl, rW hik h3 h2⟩
def eR (c : Cf) (v : List Vt) (slot : Int) : List Vt := (FA v slot).filter (u4 (pu c slot))
theorem BM (v : List Vt) (slot : Int) : (FA v slot).length ≤ v.length := by
 unfold FA;rw [(b8 _).length_eq];exact Nat.le_trans (List.length_filterMap_le _ _) (q6 v).2
theorem t7 (c : Cf) (v : List Vt) (slot : Int) : (eR c v slot).length ≤ v.length := Nat.le_trans (List.length_filter_le _ _) (BM v slot)
theorem sJ {v : List Vt} (hv : v.length ≤ 90000) (c : Cf) (slot : Int) : qM c v slot = some (eR c v slot) := by
 have hl := BM v slot;have hc := vv c slot;obtain ⟨k', l', e, hp⟩ := zS (l := FA v slot) (cm := pu c slot) (by omega) (by omega);unfold qM C0;rw [show Nat.ble v.length 90000 = true from Nat.ble_eq_true_of_le hv, ct, ob, ve, ob, List.length_map, e, ob];simp only;rw [show Nat.ble k' l'.length = true from Nat.ble_eq_true_of_le hp.le, ct, hp.take];rfl
theorem oO {w : Vw} (h1 : w.B.length ≤ 1000) (h2 : w.V.length ≤ 1000) (c : Cf) (slot : Int) : jR c w slot = some (lh c w.B (eR c w.V slot)) := by
 have hg := t7 c w.V slot;unfold jR;rw [sJ (by omega), ob, EA h1 (by omega), ob]
theorem yY (n : Int) : sH n = some (decide (0 ≤ n ∧ n ≤ 4611686018427387904)) := by
 unfold sH;by_cases h : 0 ≤ n
 ·rw [decide_eq_true (show n ≥ 0 from h), ct]; congr 1; exact decide_eq_decide.2 ⟨fun h2 => ⟨h, h2⟩, fun h2 => h2.2⟩
 ·rw [decide_eq_false (show ¬ n ≥ 0 from h), cf, decide_eq_false fun h2 => h h2.1]
theorem CX {l : List Int} (hl : l.length ≤ 1000) (h : ∀ x ∈ l, 0 ≤ x ∧ x ≤ 4611686018427387904) : sE l = some true := by
 have e := ay (step := kL l) (n := l.length) (fun k => fi.mk (k : Int)) (.inl (fi.mk (l.length : Int))) (fun k hk => by
  obtain ⟨y, hy, hm⟩ := aA hk;unfold kL wz;simp only
  rw [decide_eq_true (show (k : Int) < (l.length : Int) by omega), ct, aB hy, ob, yY, ob, ob, decide_eq_true (h y hm), Bool.not_true, cf, ak (n := k) (by omega)]) (by
  unfold kL;simp only
  rw [decide_eq_false (show ¬ (l.length : Int) < (l.length : Int) by omega), cf]) (by omega)
 have e' : iter (kL l) bG (fi.mk 0) = _ := e;unfold sE IB CW;rw [e', ob, sl, ob, ob];rfl
theorem m6 {x : Int} (h0 : 0 ≤ x) (h1 : x ≤ 18446744073709551615) : bits .and .u64 x 4294967295 = x % 4294967296 := by
 obtain ⟨n, rfl⟩ : ∃ n : Nat, x = n := ⟨x.toNat, by omega⟩;have e : bits .and .u64 (n : Int) 4294967295 = IntKind.u64.wrap ((BitVec.ofInt 64 (n : Int) &&& BitVec.ofInt 64 4294967295).toNat : Int) := rfl
 have e2 : (BitVec.ofInt 64 4294967295).toNat = 2 ^ 32 - 1 := by decide
 have e3 : (BitVec.ofInt 64 (n : Int)).toNat = n := by
  rw [BitVec.toNat_ofInt]; omega
 rw [e, BitVec.toNat_and, e2, e3, Nat.and_two_pow_sub_one_eq_mod, qx (by omega) (by omega)];omega
theorem nK {x y : Int} (hx : 0 ≤ x) (hx1 : x ≤ 26388279066624) (hy : 0 ≤ y) (hy1 : y ≤ 3000) : sI x y = some (0, x * y) := by
 have e : ∀ z, IntKind.u64.wrap z = z % 18446744073709551616 := fun z => rfl
 have hp : ((2 : Int) ^ (min (Int.toNat 32) IntKind.u64.bits)) = 4294967296 := by decide
 have hd : ∀ z : Int, z.fdiv 4294967296 = z / 4294967296 := fun z => Int.fdiv_eq_ediv_of_nonneg z (by omega)
 have h0 : y / 4294967296 = 0 := by omega
 have h1 : y % 4294967296 = y := by omega
 unfold sI;rw [hp, hd, hd, hd, hd, hd, m6 (x := y) hy (by omega), m6 (x := x) hx (by omega), h0, h1];have a1 : 0 ≤ x / 4294967296 * y := Int.mul_nonneg (by omega) hy;have a2 : x / 4294967296 * y ≤ 6144 * 3000 := Int.mul_le_mul (by omega) hy1 hy (by omega);have a3 : 0 ≤ x % 4294967296 * y := Int.mul_nonneg (by omega) hy;have a4 : x % 4294967296 * y ≤ 4294967295 * 3000 := Int.mul_le_mul (by omega) hy1 hy (by omega);have a5 : 0 ≤ x * y := Int.mul_nonneg hx hy;have a6 : x * y ≤ 26388279066624 * 3000 := Int.mul_le_mul hx1 hy1 hy (by omega);rw [Int.mul_zero, Int.mul_zero];generalize x / 4294967296 * y = q at a1 a2 ⊢;generalize x % 4294967296 * y = p at a3 a4 ⊢;generalize x * y = r at a5 a6 ⊢
 have ht : IntKind.u64.wrap (IntKind.u64.wrap q + IntKind.u64.wrap p / 4294967296) = q + p / 4294967296 := by simp only [e]; omega
 rw [ht, m6 (by omega) (by omega)];refine congrArg some<|Prod.ext ?_ ?_
 ·simp only [e]; omega
 ·simp only [e]; omega
theorem yX {a b c d : Int} (ha : 0 ≤ a ∧ a ≤ 26388279066624) (hb : 0 ≤ b ∧ b ≤ 3000) (hc : 0 ≤ c ∧ c ≤ 26388279066624) (hd : 0 ≤ d ∧ d ≤ 3000) : sD a b c d = some (decide (a * b > c * d)) := by
 unfold sD;rw [CX (by simp) (by simp; omega), ob, Bool.not_true, cf];unfold sF;rw [qx ha.1 (by omega), qx hb.1 (by omega), qx hc.1 (by omega), qx hd.1 (by omega), nK ha.1 ha.2 hb.1 hb.2, ob, ob, nK hc.1 hc.2 hd.1 hd.2, ob, ob];simp only;rw [sQ, ob];generalize a * b = x;generalize c * d = y;unfold je;by_cases h : x = y
 ·subst h; simp
 ·have hb : (x == y) = false := beq_eq_false_iff_ne.2 h;by_cases h2 : x > y
  ·simp [hb, h2, show ¬ x < y by omega]
  ·simp [hb, h2, show x < y by omega]
def Jy : Of := Of.mk 0 0 (Bk.mk 0 0 (0, 0) 0) (Vw.mk [] [])
theorem AG {n : Nat} (hn : n ≤ 1000) : th (n : Int) = some (List.replicate n Jy) := by
 have e : IntKind.i64.wrap ((n : Int) - (IntKind.i64.wrap (0 - 0))) = n := by
  rw [show IntKind.i64.wrap (0 - 0) = 0 from by decide, eI (by omega) (by omega)]; omega
 unfold th;rw [decide_eq_false (show ¬ (n : Int) < 0 by omega), cf, e];by_cases h0 : (n : Int) > 0
 ·rw [decide_eq_true h0, ct, show ym (n : Int) 104 = true from decide_eq_true (by omega), ct];simp [Jy]
 ·rw [decide_eq_false h0, cf]
  obtain rfl : n = 0 := by omega
  rfl
theorem Al {a b : List Of} (h : a.length + b.length ≤ 1000) : sW [a, b] = some (a ++ b) := by
 have e1 := ay (step := f8 [a, b]) (n := 2) (fun k => match k with | 0 => dm.mk 0 0 | 1 => dm.mk (a.length : Int) 1 | _ => dm.mk ((a.length + b.length : Nat) : Int) 2) (dm.mk ((a.length + b.length : Nat) : Int) 2) (fun k hk => by
  match k, hk with
  | 0, _ =>
   unfold f8;simp only;rw [decide_eq_true (show (0 : Int) < (([a, b] : List (List Of)).length : Int) by simp), ct, show ix [a, b] 0 = some a from rfl, ob, eI (by omega) (by omega), decide_eq_false (show ¬ (0 : Int) + (a.length : Int) < 0 by omega), cf, Int.zero_add];rfl
  | 1, _ =>
   unfold f8;simp only;rw [decide_eq_true (show (1 : Int) < (([a, b] : List (List Of)).length : Int) by simp), ct, show ix [a, b] 1 = some b from rfl, ob, eI (by omega) (by omega), decide_eq_false (show ¬ (a.length : Int) + (b.length : Int) < 0 by omega), cf, Int.natCast_add]
   rfl) (by
  unfold f8;simp only
  rw [decide_eq_false (show ¬ (2 : Int) < (([a, b] : List (List Of)).length : Int) by simp), cf]) (by omega)
 have e1' : iter (f8 [a, b]) bG (dm.mk 0 0) = _ := e1;obtain ⟨r, hr⟩ : ∃ r, r = List.replicate (a.length + b.length) Jy := ⟨_, rfl⟩
 have hrl : r.length = a.length + b.length := by rw [hr]; simp
 have p1 : eX r 0 a = a ++ r.drop a.length := by unfold eX; simp
 have p1l : (eX r 0 a).length = a.length + b.length := by rw [p1]; simp; omega
 have p2 : (eX (eX r 0 a) a.length b).take (a.length + b.length) = a ++ b := by
  have e : (eX r 0 a).take a.length = a := by rw [p1, List.take_left']; rfl
  unfold eX at e ⊢;rw [e, List.take_left'];simp
 have p2l : (eX (eX r 0 a) a.length b).length = a.length + b.length := by rw [uD (by rw [p1l]; omega), p1l]
 have e2 := ay (step := f9 [a, b]) (n := 2) (fun k => match k with | 0 => dn.mk 0 0 r | 1 => dn.mk a.length 1 (eX r 0 a) | _ => dn.mk (a.length + b.length) 2 (eX (eX r 0 a) a.length b)) (dn.mk (a.length + b.length) 2 (eX (eX r 0 a) a.length b)) (fun k hk => by
  match k, hk with
  | 0, _ =>
   unfold f9;simp only;rw [decide_eq_true (show (0 : Int) < (([a, b] : List (List Of)).length : Int) by simp), ct, show ix [a, b] 0 = some a from rfl, ob, decide_eq_true (show 0 + a.length ≤ r.length by omega), ct, Nat.zero_add];rfl
  | 1, _ =>
   unfold f9;simp only;rw [decide_eq_true (show (1 : Int) < (([a, b] : List (List Of)).length : Int) by simp), ct, show ix [a, b] 1 = some b from rfl, ob, decide_eq_true (show a.length + b.length ≤ (eX r 0 a).length by omega), ct]
   rfl) (by
  unfold f9;simp only
  rw [decide_eq_false (show ¬ (2 : Int) < (([a, b] : List (List Of)).length : Int) by simp), cf]) (by omega)
 have e2' : iter (f9 [a, b]) bG (dn.mk 0 0 r) = _ := e2;unfold sW;rw [e1', ob];simp only;rw [AG h, ob, ← hr, e2', ob];simp only;rw [show Nat.ble (a.length + b.length) (eX (eX r 0 a) a.length b).length = true from Nat.ble_eq_true_of_le (by omega), ct, p2]
def m0 (o : Of) : Prop := o.V.B.length ≤ 1000 ∧ o.V.V.length ≤ 1000
theorem oR {v : Vw} (h1 : v.B.length ≤ 1000) (h2 : v.V.length ≤ 1000) : oQ v = some v := by
 unfold oQ;rw [aF (by omega) (by omega), ct, aF (by omega) (by omega), ct]
theorem oT {o : Of} (h : m0 o) : oS o = some o := by
 unfold oS;rw [oR h.1 h.2];rfl
def FC (t : Int) (c : Cf) (slot : Int) (o : Of) : Bool := decide (¬ t.tmod 3 = 2 ∧ o.Slot = slot ∧ o.From = n7 c slot)
def ki (t : Int) (c : Cf) (slot : Int) (s : List Of × Bool) (o : Of) : List Of × Bool := if FC t c slot o = true then (if s.1.length = 8 then (s.1, true) else (s.1 ++ [o], s.2)) else s
def iN (t : Int) (c : Cf) (slot : Int) (full : Bool) (l : List Of) : List Of × Bool := l.foldl (ki t c slot) ([], full)
theorem yd (t : Int) (c : Cf) (slot : Int) (full : Bool) (l : List Of) (o : Of) : iN t c slot full (l ++ [o]) = ki t c slot (iN t c slot full l) o := by unfold iN; rw [List.foldl_append]; rfl
theorem xj {t : Int} {c : Cf} {slot : Int} : ∀ (l : List Of) (s : List Of × Bool), s.1.length ≤ 8 → (l.foldl (ki t c slot) s).1.length ≤ 8 ∧ (∀ o ∈ (l.foldl (ki t c slot) s).1, o ∈ s.1 ∨ (o ∈ l ∧ FC t c slot o = true)) ∧ (s.2 = true → (l.foldl (ki t c slot) s).2 = true)
 | [], s, h => ⟨h, fun o ho => .inl ho, id⟩
 | x :: r, s, h => by
  rw [List.foldl_cons]
  have hs : (ki t c slot s x).1.length ≤ 8 ∧ (∀ o ∈ (ki t c slot s x).1, o ∈ s.1 ∨ (o = x ∧ FC t c slot o = true)) ∧ (s.2 = true → (ki t c slot s x).2 = true) := by
   unfold ki;split
   ·rename_i hk;split
    ·exact ⟨h, fun o ho => .inl ho, fun _ => rfl⟩
    ·refine ⟨by simp only [List.length_append, List.length_singleton]; omega, fun o ho => ?_, id⟩;rcases List.mem_append.1 ho with ho | ho
     ·exact .inl ho
     ·rw [List.mem_singleton] at ho; subst ho; exact .inr ⟨rfl, hk⟩
   ·exact ⟨h, fun o ho => .inl ho, id⟩
  obtain ⟨h1, h2, h3⟩ := xj r (ki t c slot s x) hs.1;refine ⟨h1, fun o ho => ?_, fun e => h3 (hs.2.2 e)⟩;rcases h2 o ho with h4 | ⟨h4, h5⟩
  ·rcases hs.2.1 o h4 with h5 | ⟨rfl, h5⟩
   ·exact .inl h5
   ·exact .inr ⟨.head _, h5⟩
  ·exact .inr ⟨.tail _ h4, h5⟩
theorem gv (t : Int) (c : Cf) (slot : Int) (full : Bool) (l : List Of) : (iN t c slot full l).1.length ≤ 8 ∧ (∀ o ∈ (iN t c slot full l).1, o ∈ l ∧ FC t c slot o = true) ∧ (full = true → (iN t c slot full l).2 = true) := by
 obtain ⟨h1, h2, h3⟩ := xj (t := t) (c := c) (slot := slot) l ([], full) (by simp);refine ⟨h1, fun o ho => ?_, h3⟩;rcases h2 o ho with h4 | h4
 ·simp at h4
 ·exact h4
theorem AH {l : List Of} {x : Nd} {c : Cf} {slot : Int} (hl : x.O.length + l.length ≤ 1000) (hs : ∀ o ∈ x.O ++ l, m0 o) : ti l x c slot = some (iN x.Tick c slot x.Full (x.O ++ l)) := by
 unfold ti;rw [Al hl, ob];generalize hL : x.O ++ l = L at hs
 have hLl : L.length ≤ 1000 := by rw [← hL, List.length_append]; omega
 have e := ay (step := iI x c slot L) (n := L.length) (fun k => dt.mk (k : Int) (iN x.Tick c slot x.Full (L.take k)).2 (iN x.Tick c slot x.Full (L.take k)).1) (dt.mk (L.length : Int) (iN x.Tick c slot x.Full L).2 (iN x.Tick c slot x.Full L).1) (fun k hk => by
  obtain ⟨y, hy, hm⟩ := aA hk
  have et : L.take (k + 1) = L.take k ++ [y] := by rw [List.take_add_one, hy]; rfl
  have hf := gv x.Tick c slot x.Full (L.take k);unfold iI;simp only;rw [decide_eq_true (show (k : Int) < (L.length : Int) by omega), ct, aB hy, ob, et, yd, ak (n := k) (by omega)];generalize iN x.Tick c slot x.Full (L.take k) = s at hf ⊢
  have hgate : (bif (x.Tick.tmod 3) == 2 then some ((x.Tick.tmod 3) == 2) else bif y.Slot != slot then some (y.Slot != slot) else (CT c slot).bind fun v4 => some (y.From != v4)) = some (!FC x.Tick c slot y) := by
   rw [rN, ob];unfold FC;by_cases h1 : x.Tick.tmod 3 = 2
   ·rw [beq_iff_eq.2 h1, ct, decide_eq_false fun h => h.1 h1]; rfl
   ·rw [beq_eq_false_iff_ne.2 h1, cf];by_cases h2 : y.Slot = slot
    ·rw [show (y.Slot != slot) = false by simp [h2], cf];by_cases h3 : y.From = n7 c slot
     ·rw [show (y.From != n7 c slot) = false by simp [h3], decide_eq_true ⟨h1, h2, h3⟩]; rfl
     ·rw [show (y.From != n7 c slot) = true by simp [h3], decide_eq_false fun h => h3 h.2.2]; rfl
    ·rw [show (y.Slot != slot) = true by simp [h2], ct, decide_eq_false fun h => h2 h.2.1]; rfl
  rw [hgate, ob];unfold ki
  cases hk2 : FC x.Tick c slot y with
  | false => rw [Bool.not_false, ct]; rfl
  | true =>
   rw [Bool.not_true, cf, if_pos rfl];by_cases h8 : s.1.length = 8
   ·rw [show ((s.1.length : Int) == 8) = true by simp [h8], ct, if_pos h8]
   ·rw [show ((s.1.length : Int) == 8) = false by rw [beq_eq_false_iff_ne]; omega, cf, oT (hs y hm), ob, aF (by simp only [List.length_singleton]; omega) (by omega), ct, if_neg h8]) (by
  unfold iI;simp only
  rw [decide_eq_false (show ¬ (L.length : Int) < (L.length : Int) by omega), cf, List.take_length]) (by omega)
 have e' : iter (iI x c slot L) bG (dt.mk 0 x.Full []) = _ := e;rw [e', ob]
theorem rI (c : Cf) (w i : Vw) (s : Int) : w.B.length ≤ (aE c w i s).1.B.length ∧ (aE c w i s).1.B.length ≤ w.B.length + 60 ∧ w.V.length ≤ (aE c w i s).1.V.length ∧ (aE c w i s).1.V.length ≤ w.V.length + 240 ∧ (aE c w i s).2.1.B.length ≤ i.B.length ∧ (aE c w i s).2.1.V.length ≤ i.V.length := by
 by_cases h : fd c w
 ·have ht := wm h i s;have hl := B5 ht;have h1 := ht.may.lenB;have h2 := ht.may.lenV;omega
 ·have e : aE c w i s = (w, i, false) := by unfold aE; rw [if_neg h]
  rw [e];simp only;omega
theorem kK {inp : Vw} {c : Cf} {slot : Int} {v : Vw} {full : Bool} (h1 : v.B.length ≤ 1000) (h2 : v.V.length ≤ 1000) (h3 : inp.B.length ≤ 800) (h4 : inp.V.length ≤ 600) :
  jW inp c slot v full = some ((aE c v inp slot).2.1, (aE c v inp slot).1, full || (aE c v inp slot).2.2) := by
 unfold jW;rw [EE h1 h2 h3 h4, ob];cases full <;> rfl
theorem qo (c : Cf) (w i : Vw) (s : Int) : (aE c w i s).1.B.length ≤ max w.B.length 60 ∧ (aE c w i s).1.V.length ≤ max w.V.length 240 := by
 by_cases h : fd c w
 ·have ht := wm h i s;have h1 := ht.may.lenB;have h2 := ht.may.lenV;omega
 ·have e : aE c w i s = (w, i, false) := by unfold aE; rw [if_neg h]
  rw [e];simp only;omega
theorem Vw.eta (w : Vw) : Vw.mk w.B w.V = w := rfl
noncomputable def rv (x : Nd) (c : Cf) (slot : Int) : Bk := ⟨slot, x.No, lh c (aE c x.V x.In slot).1.B (eR c (aE c x.V x.In slot).1.V (IntKind.i64.wrap (slot - 1))), 0⟩
noncomputable def cD (x : Nd) (c : Cf) (slot : Int) : Vw × Vw × Bool × List Of :=
 if x.No = n7 c slot then
  ((aE c (aE c x.V x.In slot).1 ⟨[rv x c slot], []⟩ slot).1, (aE c x.V x.In slot).2.1, (x.Full || (aE c x.V x.In slot).2.2) || (aE c (aE c x.V x.In slot).1 ⟨[rv x c slot], []⟩ slot).2.2, [⟨slot, x.No, rv x c slot, (aE c x.V x.In slot).1⟩])
 else (x.V, x.In, x.Full, [])
theorem xO {x : Nd} {c : Cf} {slot : Int} (h1 : x.V.B.length ≤ 500) (h2 : x.V.V.length ≤ 500) (h3 : x.In.B.length ≤ 500) (h4 : x.In.V.length ≤ 500) : mY x c slot [] = some (cD x c slot) := by
 have hm := qo c x.V x.In slot;unfold mY cD;rw [rN, ob];by_cases h : x.No = n7 c slot
 ·rw [show (x.No != n7 c slot) = false by simp [h], cf, if_pos h, kK (by omega) (by omega) (by omega) (by omega), ob];simp only;rw [oO (by omega) (by omega), ob];have hs : m0 (Of.mk slot x.No (Bk.mk slot x.No (lh c (aE c x.V x.In slot).1.B (eR c (aE c x.V x.In slot).1.V (IntKind.i64.wrap (slot - 1)))) 0) (aE c x.V x.In slot).1) := ⟨by show (aE c x.V x.In slot).1.B.length ≤ 1000; omega, by show (aE c x.V x.In slot).1.V.length ≤ 1000; omega⟩;rw [oT hs, ob];unfold qO;rw [ob, kK (by omega) (by omega) (by simp) (by simp), ob];rfl
 ·rw [show (x.No != n7 c slot) = true by simp [h], ct, if_neg h]
noncomputable def eT (c : Cf) (slot : Int) (s : Vw × Vw × Bool) (o : Of) : Vw × Vw × Bool :=
 ((aE c s.1 (bx o.V ⟨[o.B], []⟩) slot).1, bx s.2.1 (aE c s.1 (bx o.V ⟨[o.B], []⟩) slot).2.1, s.2.2 || (aE c s.1 (bx o.V ⟨[o.B], []⟩) slot).2.2)
noncomputable def bf (x : Nd) (o : List Of) (c : Cf) (slot : Int) : Vw × Vw × Bool := o.foldl (eT c slot) (x.V, x.In, x.Full)
noncomputable def dF (x : Nd) (o : List Of) (c : Cf) (slot : Int) : Vw × Vw × Bool :=
 if x.No ∈ pu c slot then
  ((bf x o c slot).1, bx (bf x o c slot).2.1 ⟨[], [⟨x.No, slot, lh c (bf x o c slot).1.B (eR c (bf x o c slot).1.V (IntKind.i64.wrap (slot - 1)))⟩]⟩, (bf x o c slot).2.2)
 else bf x o c slot
theorem uK (x : Nd) (o : List Of) (c : Cf) (slot : Int) (y : Of) : bf x (o ++ [y]) c slot = eT c slot (bf x o c slot) y := by unfold bf; rw [List.foldl_append]; rfl
theorem uj (o : Of) : (bx o.V ⟨[o.B], []⟩).B.length ≤ o.V.B.length + 1 ∧ (bx o.V ⟨[o.B], []⟩).V.length ≤ o.V.V.length := by
 have h1 := cx [o.B] o.V.B;have h2 := cx ([] : List Vt) o.V.V;exact ⟨h1, h2⟩
theorem nh (a b : Vw) : (bx a b).B.length ≤ a.B.length + b.B.length ∧ (bx a b).V.length ≤ a.V.length + b.V.length := ⟨cx _ _, cx _ _⟩
theorem uJ {x : Nd} {c : Cf} {slot : Int} (h1 : x.V.B.length ≤ 500) (h2 : x.V.V.length ≤ 500) (h3 : x.In.B.length ≤ 500) (h4 : x.In.V.length ≤ 500) : ∀ (k : Nat) (o : List Of), o.length ≤ k → (∀ y ∈ o, y.V.B.length ≤ 500 ∧ y.V.V.length ≤ 500) →
  (bf x o c slot).1.B.length ≤ 500 ∧ (bf x o c slot).1.V.length ≤ 500 ∧ (bf x o c slot).2.1.B.length ≤ 500 + 501 * k ∧ (bf x o c slot).2.1.V.length ≤ 500 + 501 * k := by
 intro k
 induction k with
 | zero =>
  intro o ho _;obtain rfl : o = [] := List.length_eq_zero_iff.1 (by omega);exact ⟨h1, h2, Nat.le_trans h3 (by omega), Nat.le_trans h4 (by omega)⟩
 | succ k ih =>
  intro o ho hs;rcases List.eq_nil_or_concat o with rfl | ⟨r, y, rfl⟩
  ·exact ⟨h1, h2, Nat.le_trans h3 (by omega), Nat.le_trans h4 (by omega)⟩
  ·rw [List.concat_eq_append] at ho hs ⊢;rw [List.length_append, List.length_singleton] at ho;obtain ⟨a1, a2, a3, a4⟩ := ih r (by omega) fun z hz => hs z (List.mem_append_left _ hz);have hy := hs y (List.mem_append_right _ (List.mem_singleton.2 rfl));have hl := uj y;rw [uK];unfold eT;generalize bf x r c slot = s at a1 a2 a3 a4 ⊢;have hm := qo c s.1 (bx y.V ⟨[y.B], []⟩) slot;have hz := rI c s.1 (bx y.V ⟨[y.B], []⟩) slot;have hj := nh s.2.1 (aE c s.1 (bx y.V ⟨[y.B], []⟩) slot).2.1;simp only;omega
theorem vg {x : Nd} {o : List Of} {c : Cf} {slot : Int} (h1 : x.V.B.length ≤ 500) (h2 : x.V.V.length ≤ 500) (h3 : x.In.B.length ≤ 500) (h4 : x.In.V.length ≤ 500) (ho : o.length ≤ 8) (hs : ∀ y ∈ o, y.V.B.length ≤ 500 ∧ y.V.V.length ≤ 500) :
  kN x o c slot = some (dF x o c slot) := by
 have e := ay (step := fb o c slot) (n := o.length) (fun k => cN.mk (k : Int) (bf x (o.take k) c slot).1.B (bf x (o.take k) c slot).1.V (bf x (o.take k) c slot).2.1.B (bf x (o.take k) c slot).2.1.V (bf x (o.take k) c slot).2.2)
  (cN.mk (o.length : Int) (bf x o c slot).1.B (bf x o c slot).1.V (bf x o c slot).2.1.B (bf x o c slot).2.1.V (bf x o c slot).2.2) (fun k hk => by
  obtain ⟨y, hy, hm⟩ := aA hk
  have et : o.take (k + 1) = o.take k ++ [y] := by rw [List.take_add_one, hy]; rfl
  have hsz := uJ (c := c) (slot := slot) h1 h2 h3 h4 8 (o.take k) (by rw [List.length_take]; omega) fun z hz => hs z (List.mem_of_mem_take hz);have hy2 := hs y hm;have hl := uj y;unfold fb;simp only;rw [decide_eq_true (show (k : Int) < (o.length : Int) by omega), ct, aB hy, ob, et, uK, ak (n := k) (by omega)];generalize bf x (o.take k) c slot = s at hsz ⊢;have hz := rI c s.1 (bx y.V ⟨[y.B], []⟩) slot;unfold qO;rw [ob, lu (by simp only [List.length_singleton]; omega) (by simp only [List.length_nil]; omega), ob, Vw.eta, Vw.eta, kK (by omega) (by omega) (by omega) (by omega), ob];simp only;rw [lu (by omega) (by omega), ob]
  rfl) (by
  unfold fb;simp only
  rw [decide_eq_false (show ¬ (o.length : Int) < (o.length : Int) by omega), cf, List.take_length]) (by omega)
 have e' : iter (fb o c slot) bG (cN.mk 0 x.V.B x.V.V x.In.B x.In.V x.Full) = _ := e;have hsz := uJ (c := c) (slot := slot) h1 h2 h3 h4 8 o ho hs;unfold kN dF;rw [e', ob, Az, ob];simp only [Vw.eta];generalize bf x o c slot = s at hsz ⊢;by_cases h : x.No ∈ pu c slot
 ·rw [decide_eq_true h, ct, if_pos h, oO (by omega) (by omega), ob, lu (by simp only [List.length_nil]; omega) (by simp only [List.length_singleton]; omega), ob]
 ·rw [decide_eq_false h, cf, if_neg h]
def AO (c : Cf) (w : Vw) (slot : Int) (id : ID) : Prop := wv c (pu c slot) * (c.Den + 2 * c.Num) < 2 * xq c w.B (eR c w.V slot) id * c.Den
theorem xL {c : Cf} {w : Vw} {slot : Int} {head : ID} (hm : dB c) (h1 : w.B.length ≤ 1000) (h2 : w.V.length ≤ 1000) : ∃ r, qP c w slot head = some r ∧ (r.2 = true → AO c w slot r.1) := by
 have hg := t7 c w.V slot;have hc := vv c slot;unfold qP AL;rw [sJ (by omega), ob, ve, ob, Ay (by omega), ob, ob, show few w.B = true from decide_eq_true h1, ct];have hwt := Ek c (pu c slot)
 obtain ⟨b, hb, hs⟩ := dx (step := ja c w) (fun x => x.v = eR c w.V slot ∧ x.al = wv c (pu c slot)) (fun x => x.l.length) (fun r => r.2 = true → AO c w slot r.1) (by
  rintro ⟨l, v, al⟩ ⟨e1, e2⟩;simp only at e1 e2;subst e1 e2;by_cases hl : (l.length : Int) < 2
  ·right;refine ⟨((0, 0), false), ?_, fun h => by cases h⟩;unfold ja;simp only;rw [decide_eq_true hl, ct]
  ·obtain ⟨y, hy, -⟩ := aA (l := l) (n := 0) (by omega);have hy' : ix l 0 = some y := aB hy;obtain ⟨-, -, -, -, -, m1, m2, m3, m4⟩ := hm;have hon : 0 ≤ xq c w.B (eR c w.V slot) y ∧ xq c w.B (eR c w.V slot) y ≤ 13194139533312 := Ek _ _
   have hstep : ja c w ⟨l, eR c w.V slot, wv c (pu c slot)⟩ = bif decide (2 * xq c w.B (eR c w.V slot) y * c.Den > wv c (pu c slot) * (c.Den + 2 * c.Num)) then some (.inr (y, true)) else some (.inl ⟨l.drop 1, eR c w.V slot, wv c (pu c slot)⟩) := by
    unfold ja C1 rO;simp only
    rw [decide_eq_false hl, cf, hy', ob, wE h1 (by omega), ob, ob, eI (by omega) (by omega), eI (n := 2 * c.Num) (by omega) (by omega), eI (by omega) (by omega), yX ⟨by omega, by omega⟩ ⟨by omega, by omega⟩ ⟨by omega, by omega⟩ ⟨by omega, by omega⟩, ob, ob, ob,
     show FT l 1 l.length = true from decide_eq_true (by omega), ct]
    rfl
   cases hd : decide (2 * xq c w.B (eR c w.V slot) y * c.Den > wv c (pu c slot) * (c.Den + 2 * c.Num)) with
   | true => rw [hd, ct] at hstep; exact .inr ⟨_, hstep, fun _ => show wv c (pu c slot) * (c.Den + 2 * c.Num) < _ from of_decide_eq_true hd⟩
   | false =>
    rw [hd, cf] at hstep;refine .inl ⟨_, hstep, ⟨rfl, rfl⟩, ?_⟩;simp only [List.length_drop]
    omega) (n := bG) (x := kP.mk (bd w.B head) (eR c w.V slot) (wv c (pu c slot))) ⟨rfl, rfl⟩ (ew (by have : (bd w.B head).length ≤ w.B.length + 1 := x7 head; simp only; omega))
 exact ⟨b, hb, hs⟩
theorem vi {x : Nd} {c : Cf} {slot : Int} (hm : dB c) (h1 : x.V.B.length ≤ 500) (h2 : x.V.V.length ≤ 500) (h3 : x.In.B.length ≤ 500) (h4 : x.In.V.length ≤ 500) :
  ∃ r, qP c (aE c x.V x.In slot).1 slot (lh c (aE c x.V x.In slot).1.B (eR c (aE c x.V x.In slot).1.V slot)) = some r ∧ (r.2 = true → AO c (aE c x.V x.In slot).1 slot r.1) ∧ lv x c slot = some ((aE c x.V x.In slot).1, (aE c x.V x.In slot).2.1, ez x.C (aE c x.V x.In slot).1.B (lh c (aE c x.V x.In slot).1.B (eR c (aE c x.V x.In slot).1.V slot)) r.1 r.2 slot, x.Full || (aE c x.V x.In slot).2.2) := by
 have hx := qo c x.V x.In slot;obtain ⟨r, hr, hs⟩ := xL (slot := slot) (head := lh c (aE c x.V x.In slot).1.B (eR c (aE c x.V x.In slot).1.V slot)) hm (w := (aE c x.V x.In slot).1) (by omega) (by omega);refine ⟨r, hr, hs, ?_⟩;unfold lv;rw [kK (by omega) (by omega) (by omega) (by omega), ob];simp only;rw [oO (by omega) (by omega), ob, hr, ob, show few (aE c x.V x.In slot).1.B = true from decide_eq_true (by omega), ct]
theorem xT {x : Nd} {c : Cf} {slot : Int} (hm : dB c) (h1 : x.V.B.length ≤ 500) (h2 : x.V.V.length ≤ 500) (h3 : x.In.B.length ≤ 500) (h4 : x.In.V.length ≤ 500) :
  ∃ cu, lv x c slot = some ((aE c x.V x.In slot).1, (aE c x.V x.In slot).2.1, cu, x.Full || (aE c x.V x.In slot).2.2) :=
 have ⟨_, _, _, e⟩ := vi hm h1 h2 h3 h4
 ⟨_, e⟩
structure JO (c : Cf) (n : Nd) (inp : Vw) (o : List Of) : Prop where
 n : jc 30 n
 inp : lw 30 inp
 len : o.length ≤ 10
 o : ∀ y ∈ o, lw 30 y.V
theorem uO {k : Int} (hk : k ≤ 1000) {l : List Of} (h : ∀ y ∈ l, lw k y.V) : ∀ y ∈ l, m0 y := fun y hy => by
 obtain ⟨a, b⟩ := h y hy;exact ⟨by omega, by omega⟩
structure k8 (c : Cf) (n : Nd) (inp : Vw) (o : List Of) : Prop where
 vw : n.V.B.length ≤ 500 ∧ n.V.V.length ≤ 500
 inw : n.In.B.length ≤ 1000 ∧ n.In.V.length ≤ 1000
 came : inp.B.length ≤ 2000 ∧ inp.V.length ≤ 2000
 ins : (bx n.In (aY c inp)).B.length ≤ 500 ∧ (bx n.In (aY c inp)).V.length ≤ 500
 len : n.O.length + o.length ≤ 1000
 offs : ∀ y ∈ n.O ++ o, y.V.B.length ≤ 500 ∧ y.V.V.length ≤ 500
theorem x8 {n : Nd} (hl : n.O.length ≤ 1000) (hs : ∀ y ∈ n.O, m0 y) : iter (iw n) bG (dH.mk 0 []) = some (dH.mk (n.O.length : Int) n.O) := by
 have e := ay (step := iw n) (n := n.O.length) (fun k => dH.mk (k : Int) (n.O.take k)) (dH.mk (n.O.length : Int) n.O) (fun k hk => by
  obtain ⟨y, hy, hm⟩ := aA hk
  have et : n.O.take (k + 1) = n.O.take k ++ [y] := by rw [List.take_add_one, hy]; rfl
  unfold iw;simp only
  rw [decide_eq_true (show (k : Int) < (n.O.length : Int) by omega), ct, aB hy, ob, oT (hs y hm), ob, aF (by rw [List.length_take]; simp only [List.length_singleton]; omega) (by omega), ct, et, ak (n := k) (by omega)]) (by
  unfold iw;simp only
  rw [decide_eq_false (show ¬ (n.O.length : Int) < (n.O.length : Int) by omega), cf, List.take_length]) (by omega)
 exact e
def ea (c : Cf) (n : Nd) : Bool := decide (¬ dB c ∨ n.Tick < 3 ∨ IntKind.i64.wrap (n.Tick.tdiv 3) > 1048576)
theorem rj (c : Cf) (n : Nd) : ((xM c).bind fun v2 => bif !v2 then some true else bif decide (n.Tick < 3) then some true else some (decide ((IntKind.i64.wrap (n.Tick.tdiv 3)) > 1048576))) = some (ea c n) := by
 rw [ln, ob];unfold ea;by_cases h1 : dB c
 ·rw [decide_eq_true h1, Bool.not_true, cf];by_cases h2 : n.Tick < 3
  ·rw [decide_eq_true h2, ct, decide_eq_true (.inr (.inl h2))]
  ·rw [decide_eq_false h2, cf];by_cases h3 : IntKind.i64.wrap (n.Tick.tdiv 3) > 1048576
   ·rw [decide_eq_true h3, decide_eq_true (.inr (.inr h3))]
   ·rw [decide_eq_false h3, decide_eq_false];rintro (h | h | h)
    ·exact h h1
    ·exact h2 h
    ·exact h3 h
 ·rw [decide_eq_false h1, Bool.not_false, ct, decide_eq_true (.inl h1)]
theorem sS {c : Cf} {n : Nd} {inp : Vw} {o : List Of} (hf : k8 c n inp o) (h : ea c n = true) : iv c n inp o = some (n, []) := by
 obtain ⟨⟨a1, a2⟩, ⟨b1, b2⟩, -, -, c1, c2⟩ := hf;unfold iv;rw [rj, ob, h, ct, oR (by omega) (by omega), ob, oR (by omega) (by omega), ob, x8 (by omega) (fun y hy => by have := c2 y (List.mem_append_left _ hy); exact ⟨by omega, by omega⟩), ob]
def j6 (c : Cf) (n : Nd) (inp : Vw) : Vw := bx n.In (aY c inp)
def aI (n : Nd) : Int := IntKind.i64.wrap (n.Tick.tdiv 3)
def fA (c : Cf) (n : Nd) (o : List Of) : List Of × Bool := iN n.Tick c (aI n) n.Full (n.O ++ o)
def cq (c : Cf) (n : Nd) (inp : Vw) (o : List Of) : Nd := ⟨n.No, n.Tick, n.V, j6 c n inp, [], n.C, (fA c n o).2⟩
theorem oP {c : Cf} {n : Nd} {inp : Vw} {o : List Of} (hf : k8 c n inp o) (h : ea c n = false) : iv c n inp o =
  bif (n.Tick.tmod 3) == 0 then
   (mY (cq c n inp o) c (aI n) []).bind fun v10 => some (Nd.mk n.No (IntKind.i64.wrap (n.Tick + 1)) v10.1 v10.2.1 (fA c n o).1 n.C v10.2.2.1, v10.2.2.2)
  else bif (n.Tick.tmod 3) == 1 then
   (kN (cq c n inp o) (fA c n o).1 c (aI n)).bind fun v11 => some (Nd.mk n.No (IntKind.i64.wrap (n.Tick + 1)) v11.1 v11.2.1 [] n.C v11.2.2, [])
  else bif (n.Tick.tmod 3) == 2 then
   (lv (cq c n inp o) c (aI n)).bind fun v12 => some (Nd.mk n.No (IntKind.i64.wrap (n.Tick + 1)) v12.1 v12.2.1 [] v12.2.2.1 v12.2.2.2, [])
  else none := by
 obtain ⟨⟨a1, a2⟩, ⟨b1, b2⟩, ⟨e1, e2⟩, -, g1, g2⟩ := hf;have h2 := BO c inp;unfold iv;rw [rj, ob, h, cf, AC (by omega) (by omega), ob, lu (by omega) (by omega), ob];rw [AH (by show n.O.length + o.length ≤ 1000; omega) (fun y hy => by have := g2 y hy; exact ⟨by omega, by omega⟩), ob];rfl
theorem vL {c : Cf} {n : Nd} {inp : Vw} {o : List Of} (hf : k8 c n inp o) : (fA c n o).1.length ≤ 8 ∧ ∀ y ∈ (fA c n o).1, y.V.B.length ≤ 500 ∧ y.V.V.length ≤ 500 := by
 obtain ⟨h1, h2, -⟩ := gv n.Tick c (aI n) n.Full (n.O ++ o);exact ⟨h1, fun y hy => hf.offs y (h2 y hy).1⟩
theorem Af {c : Cf} {n : Nd} {inp : Vw} {o : List Of} (hf : k8 c n inp o) (h : ea c n = false) (h0 : n.Tick.tmod 3 = 0) :
  iv c n inp o = some (Nd.mk n.No (IntKind.i64.wrap (n.Tick + 1)) (cD (cq c n inp o) c (aI n)).1 (cD (cq c n inp o) c (aI n)).2.1 (fA c n o).1 n.C (cD (cq c n inp o) c (aI n)).2.2.1, (cD (cq c n inp o) c (aI n)).2.2.2) := by
 have hi : (j6 c n inp).B.length ≤ 500 ∧ (j6 c n inp).V.length ≤ 500 := hf.ins;rw [oP hf h];obtain ⟨⟨a1, a2⟩, -⟩ := hf;rw [beq_iff_eq.2 h0, ct, xO (by show n.V.B.length ≤ 500; omega) (by show n.V.V.length ≤ 500; omega) (by show (j6 c n inp).B.length ≤ 500; omega) (by show (j6 c n inp).V.length ≤ 500; omega), ob]
theorem Ag {c : Cf} {n : Nd} {inp : Vw} {o : List Of} (hf : k8 c n inp o) (h : ea c n = false) (h1 : n.Tick.tmod 3 = 1) :
  iv c n inp o = some (Nd.mk n.No (IntKind.i64.wrap (n.Tick + 1)) (dF (cq c n inp o) (fA c n o).1 c (aI n)).1 (dF (cq c n inp o) (fA c n o).1 c (aI n)).2.1 [] n.C (dF (cq c n inp o) (fA c n o).1 c (aI n)).2.2, []) := by
 have hi : (j6 c n inp).B.length ≤ 500 ∧ (j6 c n inp).V.length ≤ 500 := hf.ins;obtain ⟨hr1, hr2⟩ := vL hf;rw [oP hf h];obtain ⟨⟨a1, a2⟩, -⟩ := hf;rw [show ((n.Tick.tmod 3) == 0) = false by rw [h1]; rfl, cf, beq_iff_eq.2 h1, ct, vg (by show n.V.B.length ≤ 500; omega) (by show n.V.V.length ≤ 500; omega) (by show (j6 c n inp).B.length ≤ 500; omega) (by show (j6 c n inp).V.length ≤ 500; omega) hr1 hr2, ob]
theorem Ah {c : Cf} {n : Nd} {inp : Vw} {o : List Of} (hf : k8 c n inp o) (h : ea c n = false) (h2 : n.Tick.tmod 3 = 2) :
  ∃ cu, iv c n inp o = some (Nd.mk n.No (IntKind.i64.wrap (n.Tick + 1)) (aE c n.V (j6 c n inp) (aI n)).1 (aE c n.V (j6 c n inp) (aI n)).2.1 [] cu ((fA c n o).2 || (aE c n.V (j6 c n inp) (aI n)).2.2), []) := by
 have hi : (j6 c n inp).B.length ≤ 500 ∧ (j6 c n inp).V.length ≤ 500 := hf.ins
 have hm : dB c := by
  have := of_decide_eq_false h;exact Decidable.not_not.1 fun h => this<|.inl h
 rw [oP hf h];obtain ⟨⟨a1, a2⟩, -⟩ := hf;obtain ⟨cu, e⟩ := xT (x := cq c n inp o) (slot := aI n) hm (by show n.V.B.length ≤ 500; omega) (by show n.V.V.length ≤ 500; omega) (by show (j6 c n inp).B.length ≤ 500; omega) (by show (j6 c n inp).V.length ≤ 500; omega);rw [show ((n.Tick.tmod 3) == 0) = false by rw [h2]; rfl, cf, show ((n.Tick.tmod 3) == 1) = false by rw [h2]; rfl, cf, beq_iff_eq.2 h2, ct, e, ob];exact ⟨cu, rfl⟩
theorem BZ {n : Nd} {c : Cf} (h : ea c n = false) : n.Tick.tmod 3 = 0 ∨ n.Tick.tmod 3 = 1 ∨ n.Tick.tmod 3 = 2 := by
 have h3 : ¬ n.Tick < 3 := fun h2 => (of_decide_eq_false h) (.inr (.inl h2));rw [Int.tmod_eq_emod_of_nonneg (by omega)];omega
theorem lO {b : Bk} {n : Nd} : b ∈ (aV n).B ↔ b ∈ n.V.B ∨ b ∈ n.In.B := ff b _ _
theorem p0 {v : Vt} {n : Nd} : v ∈ (aV n).V ↔ v ∈ n.V.V ∨ v ∈ n.In.V := ff v _ _
theorem fY {b : Bk} {x y : Vw} : b ∈ (bx x y).B ↔ b ∈ x.B ∨ b ∈ y.B := ff b _ _
theorem kY {v : Vt} {x y : Vw} : v ∈ (bx x y).V ↔ v ∈ x.V ∨ v ∈ y.V := ff v _ _
theorem BS {n : Nd} (h1 : 3 ≤ n.Tick) (h2 : n.Tick ≤ 1000000) : aI n = n.Tick / 3 ∧ 1 ≤ aI n ∧ aI n ≤ 333333 := by
 unfold aI;rw [Int.tdiv_eq_ediv_of_nonneg (by omega), eI (by omega) (by omega)];omega
theorem C7 {c : Cf} {n : Nd} (hm : dB c) (h1 : 3 ≤ n.Tick) (h2 : n.Tick ≤ 1000000) : ea c n = false := by
 have := BS h1 h2;unfold aI at this;refine decide_eq_false ?_;rintro (h | h | h)
 ·exact h hm
 ·omega
 ·omega
def jE (c : Cf) (v w : Vw) : Prop := fd c w ∧ w.B.take v.B.length = v.B ∧ w.V.take v.V.length = v.V
theorem jj {c : Cf} {v : Vw} (h : fd c v) : jE c v v := ⟨h, List.take_length, List.take_length⟩
theorem uV {α : Type} {a b d : List α} (h1 : b.take a.length = a) (h2 : d.take b.length = b) : d.take a.length = a := by
 have hl := congrArg List.length h1;rw [List.length_take] at hl
 have e : d.take a.length = (d.take b.length).take a.length := by
  rw [List.take_take];congr 1;omega
 rw [e, h2, h1]
theorem nY {c : Cf} {u v w : Vw} (h1 : jE c u v) (h2 : jE c v w) : jE c u w := ⟨h2.1, uV h1.2.1 h2.2.1, uV h1.2.2 h2.2.2⟩
theorem dL {c : Cf} {v : Vw} (h : fd c v) (i : Vw) (s : Int) : jE c v (aE c v i s).1 := by
 have ht := wm h i s;obtain ⟨h1, h2⟩ := yI ht;exact ⟨ht.may, h1, h2⟩
theorem ug {x : Nd} {c : Cf} {slot : Int} (h : fd c x.V) : jE c x.V (cD x c slot).1 := by
 unfold cD;split
 ·exact nY (dL h _ _)<|dL (dL h _ _).1 _ _
 ·exact jj h
theorem lK {c : Cf} {slot : Int} : ∀ (o : List Of) (s : Vw × Vw × Bool), fd c s.1 → jE c s.1 (o.foldl (eT c slot) s).1
 | [], s, h => jj h
 | y :: r, s, h => by
  rw [List.foldl_cons];have h1 : jE c s.1 (eT c slot s y).1 := dL h _ _;exact nY h1<|lK r _ h1.1
theorem se {x : Nd} {o : List Of} {c : Cf} {slot : Int} (h : fd c x.V) : jE c x.V (dF x o c slot).1 := by
 unfold dF;split
 ·exact lK o _ h
 ·exact lK o _ h
noncomputable def cz (c : Cf) (n : Nd) (inp : Vw) (o : List Of) : Nd × List Of := (iv c n inp o).getD (n, [])
theorem rF {c : Cf} {n : Nd} {inp : Vw} {o : List Of} (hf : k8 c n inp o) (h : ea c n = true) : iv c n inp o = some (cz c n inp o) ∧ cz c n inp o = (n, []) := by
 have e := sS hf h;unfold cz;rw [e];exact ⟨rfl, rfl⟩
theorem kj {c : Cf} {n : Nd} {inp : Vw} {o : List Of} (hf : k8 c n inp o) : iv c n inp o = some (cz c n inp o) ∧
    ((ea c n = true ∧ cz c n inp o = (n, [])) ∨
     (ea c n = false ∧ n.Tick.tmod 3 = 0 ∧ cz c n inp o = (Nd.mk n.No (IntKind.i64.wrap (n.Tick + 1)) (cD (cq c n inp o) c (aI n)).1 (cD (cq c n inp o) c (aI n)).2.1 (fA c n o).1 n.C (cD (cq c n inp o) c (aI n)).2.2.1, (cD (cq c n inp o) c (aI n)).2.2.2)) ∨
     (ea c n = false ∧ n.Tick.tmod 3 = 1 ∧ cz c n inp o = (Nd.mk n.No (IntKind.i64.wrap (n.Tick + 1)) (dF (cq c n inp o) (fA c n o).1 c (aI n)).1 (dF (cq c n inp o) (fA c n o).1 c (aI n)).2.1 [] n.C (dF (cq c n inp o) (fA c n o).1 c (aI n)).2.2, [])) ∨
     (ea c n = false ∧ n.Tick.tmod 3 = 2 ∧ ∃ cu, cz c n inp o = (Nd.mk n.No (IntKind.i64.wrap (n.Tick + 1)) (aE c n.V (j6 c n inp) (aI n)).1 (aE c n.V (j6 c n inp) (aI n)).2.1 [] cu ((fA c n o).2 || (aE c n.V (j6 c n inp) (aI n)).2.2), []))) := by
  cases hid : ea c n with
  | true => exact ⟨(rF hf hid).1, .inl ⟨rfl, (rF hf hid).2⟩⟩
  | false =>
    rcases BZ hid with h | h | h
    · have e := Af hf hid h;unfold cz;rw [e];exact ⟨rfl, .inr (.inl ⟨rfl, h, rfl⟩)⟩
    · have e := Ag hf hid h;unfold cz;rw [e];exact ⟨rfl, .inr (.inr (.inl ⟨rfl, h, rfl⟩))⟩
    · obtain ⟨cu, e⟩ := Ah hf hid h;unfold cz;rw [e];exact ⟨rfl, .inr (.inr (.inr ⟨rfl, h, cu, rfl⟩))⟩
def dW (P : Bk → Prop) (Q : Vt → Prop) (v : Vw) : Prop := (∀ b ∈ v.B, P b) ∧ ∀ x ∈ v.V, Q x
def mT (P : Bk → Prop) (Q : Vt → Prop) (o : Of) : Prop := P o.B ∧ dW P Q o.V
def u7 (P : Bk → Prop) (Q : Vt → Prop) (n : Nd) : Prop := dW P Q n.V ∧ dW P Q n.In ∧ ∀ o ∈ n.O, mT P Q o
section
variable {P : Bk → Prop} {Q : Vt → Prop}
theorem jY : dW P Q ⟨[], []⟩ := ⟨fun b hb => (by cases hb), fun x hx => (by cases hx)⟩
theorem cY {a b : Vw} (h1 : dW P Q a) (h2 : dW P Q b) : dW P Q (bx a b) := ⟨fun x hx => (fY.1 hx).elim (h1.1 x) (h2.1 x), fun x hx => (kY.1 hx).elim (h1.2 x) (h2.2 x)⟩
theorem qY {c : Cf} {a : Vw} (h : dW P Q a) : dW P Q (aY c a) := ⟨fun x hx => h.1 x (List.mem_filter.1 hx).1, fun x hx => h.2 x (List.mem_filter.1 hx).1⟩
theorem kS (c : Cf) {w i : Vw} (s : Int) (h1 : dW P Q w) (h2 : dW P Q i) : dW P Q (aE c w i s).1 ∧ dW P Q (aE c w i s).2.1 := by
 by_cases h : fd c w
 ·have ht := wm h i s;obtain ⟨t, e, h3⟩ := ht.preB;obtain ⟨u, e2, h4⟩ := ht.preV;refine ⟨⟨fun b hb => ?_, fun v hv => ?_⟩, fun b hb => h2.1 b (List.mem_filter.1 (ht.subB.subset hb)).1, fun v hv => h2.2 v (List.mem_filter.1 (ht.subV.subset hv)).1⟩
  ·rw [e] at hb;rcases List.mem_append.1 hb with hb | hb
   ·exact h1.1 b hb
   ·exact h2.1 b (List.mem_filter.1 (h3 b hb).1).1
  ·rw [e2] at hv;rcases List.mem_append.1 hv with hv | hv
   ·exact h1.2 v hv
   ·exact h2.2 v (List.mem_filter.1 (h4 v hv).1).1
 ·have e : aE c w i s = (w, i, false) := by unfold aE; rw [if_neg h]
  rw [e];exact ⟨h1, h2⟩
theorem qX (c : Cf) (s : Int) : ∀ (o : List Of) (x : Vw × Vw × Bool), (∀ y ∈ o, mT P Q y) → dW P Q x.1 → dW P Q x.2.1 → dW P Q (o.foldl (eT c s) x).1 ∧ dW P Q (o.foldl (eT c s) x).2.1
 | [], x, _, h1, h2 => ⟨h1, h2⟩
 | y :: r, x, h, h1, h2 => by
  rw [List.foldl_cons];have hy := h y (List.mem_cons_self ..);obtain ⟨a1, a2⟩ := kS c (i := bx y.V ⟨[y.B], []⟩) s h1 (cY hy.2 ⟨fun b hb => by rw [List.mem_singleton.1 hb]; exact hy.1, fun x hx => (by cases hx)⟩);exact qX c s r _ (fun z hz => h z (List.mem_cons_of_mem _ hz)) a1<|cY h2 a2
noncomputable def Ej (c : Cf) (n : Nd) (inp : Vw) (o : List Of) : Vt := ⟨n.No, aI n, lh c (bf (cq c n inp o) (fA c n o).1 c (aI n)).1.B (eR c (bf (cq c n inp o) (fA c n o).1 c (aI n)).1.V (IntKind.i64.wrap (aI n - 1)))⟩
theorem BX {c : Cf} {n : Nd} {inp : Vw} {o : List Of} (hf : k8 c n inp o) (hn : u7 P Q n) (hi : dW P Q inp) (ho : ∀ y ∈ o, mT P Q y)
  (hp : ea c n = false → n.Tick.tmod 3 = 0 → n.No = n7 c (aI n) → P (rv (cq c n inp o) c (aI n)))
  (hv : ea c n = false → n.Tick.tmod 3 = 1 → n.No ∈ pu c (aI n) → Q (Ej c n inp o)) : u7 P Q (cz c n inp o).1 ∧ ∀ y ∈ (cz c n inp o).2, mT P Q y := by
 obtain ⟨n1, n2, n3⟩ := id hn;have hin : dW P Q (j6 c n inp) := cY n2 (qY hi)
 have hh : ∀ y ∈ (fA c n o).1, mT P Q y := fun y hy => by
  rcases List.mem_append.1 ((gv n.Tick c (aI n) n.Full (n.O ++ o)).2.1 y hy).1 with h | h
  ·exact n3 y h
  ·exact ho y h
 rcases (kj hf).2 with ⟨-, e⟩ | ⟨hid, ht, e⟩ | ⟨hid, ht, e⟩ | ⟨hid, ht, cu, e⟩
 ·rw [e];exact ⟨hn, fun y hy => by cases hy⟩
 ·rw [e];by_cases h : n.No = n7 c (aI n)
  ·have hb := hp hid ht h;unfold cD;rw [if_pos (show (cq c n inp o).No = n7 c (aI n) from h)];obtain ⟨a1, a2⟩ := kS c (aI n) n1 hin;have a3 := (kS c (i := ⟨[rv (cq c n inp o) c (aI n)], []⟩) (aI n) a1 ⟨fun b hb' => by rw [List.mem_singleton.1 hb']; exact hb, fun x hx => (by cases hx)⟩).1;refine ⟨⟨a3, a2, hh⟩, fun y hy => ?_⟩;rw [List.mem_singleton.1 hy];exact ⟨hb, a1⟩
  ·unfold cD;rw [if_neg (show (cq c n inp o).No ≠ n7 c (aI n) from h)];exact ⟨⟨n1, hin, hh⟩, fun y hy => by cases hy⟩
 ·rw [e];obtain ⟨a1, a2⟩ := qX c (aI n) (fA c n o).1 (n.V, j6 c n inp, (fA c n o).2) hh n1 hin;refine ⟨?_, fun y hy => by cases hy⟩;unfold dF;by_cases h : n.No ∈ pu c (aI n)
  ·rw [if_pos (show (cq c n inp o).No ∈ pu c (aI n) from h)];refine ⟨a1, cY a2 ⟨fun b hb => (by cases hb), fun x hx => ?_⟩, fun y hy => by cases hy⟩;rw [List.mem_singleton.1 hx];exact hv hid ht h
  ·rw [if_neg (show (cq c n inp o).No ∉ pu c (aI n) from h)];exact ⟨a1, a2, fun y hy => by cases hy⟩
 ·rw [e];obtain ⟨a1, a2⟩ := kS c (aI n) n1 hin;exact ⟨⟨a1, a2, fun y hy => by cases hy⟩, fun y hy => by cases hy⟩
end
def uZ (v : Vw) : Prop := v.B.Nodup ∧ v.V.Nodup
theorem ka {a b : Vw} (h : uZ a) : uZ (bx a b) := ⟨fG h.1, fG h.2⟩
theorem uv {c : Cf} {a : Vw} (h : uZ a) : uZ (aY c a) := ⟨h.1.sublist List.filter_sublist, h.2.sublist List.filter_sublist⟩
theorem uu {c : Cf} {w i : Vw} {s : Int} (hw : fd c w) (h : uZ i) : uZ (aE c w i s).2.1 := by
 have ht := wm hw i s;exact ⟨(uv h).1.sublist ht.subB, (uv h).2.sublist ht.subV⟩
theorem ut (c : Cf) (s : Int) : ∀ (o : List Of) (x : Vw × Vw × Bool), uZ x.2.1 → uZ (o.foldl (eT c s) x).2.1
 | [], x, h => h
 | y :: r, x, h => by
  rw [List.foldl_cons];exact ut c s r _<|ka h
theorem rG {c : Cf} {n : Nd} {inp : Vw} {o : List Of} (hf : k8 c n inp o) (hm : fd c n.V) (hd : uZ n.In) (h8 : n.O.length ≤ 8) :
  (cz c n inp o).1.No = n.No ∧ ((cz c n inp o).1.Tick = if ea c n = true then n.Tick else IntKind.i64.wrap (n.Tick + 1)) ∧ jE c n.V (cz c n inp o).1.V ∧ uZ (cz c n inp o).1.In ∧ (cz c n inp o).1.O.length ≤ 8 ∧
   ((cz c n inp o).2 ≠ [] → ea c n = false ∧ n.Tick.tmod 3 = 0 ∧ n.No = n7 c (aI n)) ∧ (cz c n inp o).2.length ≤ 1 ∧ (∀ y ∈ (cz c n inp o).1.O, y ∈ n.O ++ o) ∧ ∀ y ∈ (cz c n inp o).2, fd c y.V := by
 have hdi : uZ (j6 c n inp) := ka hd;have hh := (gv n.Tick c (aI n) n.Full (n.O ++ o)).1;have ho := fun y hy => ((gv n.Tick c (aI n) n.Full (n.O ++ o)).2.1 y hy).1;rcases (kj hf).2 with ⟨hid, e⟩ | ⟨hid, ht, e⟩ | ⟨hid, ht, e⟩ | ⟨hid, ht, cu, e⟩
 ·rw [e, hid];exact ⟨rfl, rfl, jj hm, hd, h8, fun h => absurd Z h, by simp, fun y hy => List.mem_append_left _ hy, fun y hy => by cases hy⟩
 ·rw [e, hid];refine ⟨rfl, rfl, ug (x := cq c n inp o) hm, ?_, hh, ?_, ?_, ho, ?_⟩
  ·unfold cD;split
   ·exact uu hm hdi
   ·exact hdi
  ·unfold cD;split
   ·rename_i h;exact fun _ => ⟨rfl, ht, h⟩
   ·exact fun h => absurd Z h
  ·unfold cD;split <;> simp
  ·unfold cD;split
   ·intro y hy;rw [List.mem_singleton.1 hy];exact (dL hm _ _).1
   ·exact fun y hy => by cases hy
 ·rw [e, hid];refine ⟨rfl, rfl, se (x := cq c n inp o) hm, ?_, by simp, fun h => absurd Z h, by simp, fun y hy => (by cases hy), fun y hy => (by cases hy)⟩;have := ut c (aI n) (fA c n o).1 (n.V, j6 c n inp, (fA c n o).2) hdi;unfold dF;split
  ·exact ka this
  ·exact this
 ·rw [e, hid];exact ⟨rfl, rfl, dL hm _ _, uu hm hdi, by simp, fun h => absurd Z h, by simp, fun y hy => (by cases hy), fun y hy => (by cases hy)⟩
def FB (to at_ : Int) : Bool := (bits .and .i64 (to.fdiv (2 ^ (min (Int.toNat at_) IntKind.i64.bits))) 1) == 0
def lg (bad : List Int) (al : Vw) (a : Ac) : Vw := ⟨a.B.filter fun b => decide (b.From ∈ bad ∨ b ∈ al.B), a.V.filter fun v => decide (v.From ∈ bad ∨ v ∈ al.V)⟩
def db (slot wh : Int) (bad : List Int) (al : Vw) (me : Bool) (at_ : Int) (s : Vw × List Of) (a : Ac) : Vw × List Of :=
 if FB a.To at_ = true then s
 else if a.Offer = false then (bx s.1 (lg bad al a), s.2)
 else if me = true then
  match (lg bad al a).B with
  | [] => s
  | b :: r => (s.1, s.2 ++ [⟨slot, wh, b, ⟨r, (lg bad al a).V⟩⟩])
 else s
def uM (w : Wd) : Int := IntKind.i64.wrap (w.Tick.tdiv 3)
def eO (w : Wd) (l : List Ac) : List Ac := l.filter fun a => decide (a.Tick = w.Tick ∧ a.To ≥ 0)
def ft (w : Wd) : Vw := dv w.N ⟨[], []⟩
def il (w : Wd) : Int := n7 w.C (uM w)
def bR (w : Wd) (l : List Ac) (k : Nat) : Vw × List Of := (eO w l).foldl (db (uM w) (il w) w.Bad (ft w) (decide (il w ∈ w.Bad)) (k : Int)) (ft w, w.O)
noncomputable def fJ (w : Wd) (l : List Ac) : List (Nd × List Of) := w.N.zipIdx.map fun p => cz w.C p.1 (bR w l p.2).1 (bR w l p.2).2
def nU (w : Wd) : Bool := decide (¬ dB w.C ∨ w.Tick < 3 ∨ w.Tick ≥ 3145728)
noncomputable def hY (w : Wd) (l : List Ac) : Wd := if nU w = true then w else ⟨w.C, w.Bad, IntKind.i64.wrap (w.Tick + 1), (fJ w l).map (·.1), (fJ w l).flatMap (·.2)⟩
structure tq (w : Wd) : Prop where
 n : w.N.length ≤ 10
 nodes : ∀ n ∈ w.N, jc 500 n
 o : w.O.length ≤ 20
 offs : ∀ o ∈ w.O, lw 500 o.V
 bad : w.Bad.length ≤ 100
structure l8 (l : List Ac) : Prop where
 len : l.length ≤ 30
 each : ∀ a ∈ l, a.B.length ≤ 8 ∧ a.V.length ≤ 8
theorem oV {v : Vw} (h1 : v.B.length ≤ 1000) (h2 : v.V.length ≤ 1000) : l7 v = some v := by
 unfold l7;rw [aF (by omega) (by omega), ct, aF (by omega) (by omega), ct]
theorem tb {l : List Of} (hl : l.length ≤ 1000) (hs : ∀ o ∈ l, m0 o) : nN l = some l := by
 have e := ay (step := iG l) (n := l.length) (fun k => d8.mk (k : Int)) (d8.mk (l.length : Int)) (fun k hk => by
  obtain ⟨y, hy, hm⟩ := aA hk;have := hs y hm;unfold iG;simp only
  rw [decide_eq_true (show (k : Int) < (l.length : Int) by omega), ct, aB hy, ob, oV this.1 this.2, ob, ob, ak (n := k) (by omega)]) (by
  unfold iG;simp only
  rw [decide_eq_false (show ¬ (l.length : Int) < (l.length : Int) by omega), cf]) (by omega)
 have e' : iter (iG l) bG (d8.mk 0) = _ := e;unfold nN;rw [aF (by omega) (by omega), ct, e', ob]
theorem s0 {w : Wd} (h : tq w) : nM w = some w := by
 have hN : w.N.length ≤ 10 := h.n
 have e := ay (step := iF w) (n := w.N.length) (fun k => d7.mk (k : Int)) (d7.mk (w.N.length : Int)) (fun k hk => by
  obtain ⟨y, hy, hm⟩ := aA hk;obtain ⟨⟨a1, a2⟩, ⟨b1, b2⟩, c1, c2⟩ := h.nodes y hm;unfold iF;simp only
  rw [decide_eq_true (show (k : Int) < (w.N.length : Int) by omega), ct, aB hy, ob, oV (by omega) (by omega), ob, oV (by omega) (by omega), ob, tb (by omega) (uO (by omega) c2), ob, ak (n := k) (by omega)]) (by
  unfold iF;simp only
  rw [decide_eq_false (show ¬ (w.N.length : Int) < (w.N.length : Int) by omega), cf]) (by omega)
 have e' : iter (iF w) bG (d7.mk 0) = _ := e;unfold nM;have := h.bad;have := h.o;rw [aF (by omega) (by omega), ct, aF (by omega) (by omega), ct, tb (by omega) (uO (by omega) h.offs), ob, e', ob]
theorem AJ {w : Wd} {al : Vw} (x : Bk) (hb : w.Bad.length ≤ 100) (hl : al.B.length ≤ 100000) : tk x w al = some (decide (x.From ∈ w.Bad ∨ x ∈ al.B)) := by
 unfold tk xP;rw [l5 (by omega), ob, ob];by_cases h : x.From ∈ w.Bad
 ·rw [decide_eq_true h, ct, decide_eq_true (.inl h)]
 ·rw [decide_eq_false h, cf, wM hl, ob];by_cases h2 : x ∈ al.B
  ·rw [decide_eq_true h2, decide_eq_true (.inr h2)]
  ·rw [decide_eq_false h2, decide_eq_false fun h3 => h3.elim h h2]
theorem AK {w : Wd} {al : Vw} (x : Vt) (hb : w.Bad.length ≤ 100) (hl : al.V.length ≤ 100000) : tm x w al = some (decide (x.From ∈ w.Bad ∨ x ∈ al.V)) := by
 unfold tm xP;rw [l5 (by omega), ob, ob];by_cases h : x.From ∈ w.Bad
 ·rw [decide_eq_true h, ct, decide_eq_true (.inl h)]
 ·rw [decide_eq_false h, cf, wN hl, ob];by_cases h2 : x ∈ al.V
  ·rw [decide_eq_true h2, decide_eq_true (.inr h2)]
  ·rw [decide_eq_false h2, decide_eq_false fun h3 => h3.elim h h2]
theorem xR {l : List Bk} {w : Wd} {al : Vw} (hl : l.length ≤ 100000) (hb : w.Bad.length ≤ 100) (ha : al.B.length ≤ 100000) : pc l w al = some (l.filter fun x => decide (x.From ∈ w.Bad ∨ x ∈ al.B)) := by
 have e := ay (step := fV l w al) (n := l.length) (fun k => cV.mk (k : Int) ((l.take k).filter fun x => decide (x.From ∈ w.Bad ∨ x ∈ al.B))) (cV.mk (l.length : Int) (l.filter fun x => decide (x.From ∈ w.Bad ∨ x ∈ al.B))) (fun k hk => by
  obtain ⟨y, hy, -⟩ := aA hk;have hlen := cH (p := fun x : Bk => decide (x.From ∈ w.Bad ∨ x ∈ al.B)) (l := l) k;unfold fV;simp only;rw [decide_eq_true (show (k : Int) < (l.length : Int) by omega), ct, aB hy, ob, AJ y hb ha, ob, bH hy, ak (n := k) (by omega)]
  cases decide (y.From ∈ w.Bad ∨ y ∈ al.B) with
  | true => rw [ct, aF (by simp only [List.length_singleton]; omega) (by omega), ct, ct]
  | false => rw [cf, cf, List.append_nil]) (by
  unfold fV;simp only
  rw [decide_eq_false (show ¬ (l.length : Int) < (l.length : Int) by omega), cf, List.take_length]) (by omega)
 have e' : iter (fV l w al) bG (cV.mk 0 []) = _ := e;unfold pc;rw [e', ob]
theorem xS {l : List Vt} {w : Wd} {al : Vw} (hl : l.length ≤ 100000) (hb : w.Bad.length ≤ 100) (ha : al.V.length ≤ 100000) : pd l w al = some (l.filter fun x => decide (x.From ∈ w.Bad ∨ x ∈ al.V)) := by
 have e := ay (step := fW l w al) (n := l.length) (fun k => cW.mk (k : Int) ((l.take k).filter fun x => decide (x.From ∈ w.Bad ∨ x ∈ al.V))) (cW.mk (l.length : Int) (l.filter fun x => decide (x.From ∈ w.Bad ∨ x ∈ al.V))) (fun k hk => by
  obtain ⟨y, hy, -⟩ := aA hk;have hlen := cH (p := fun x : Vt => decide (x.From ∈ w.Bad ∨ x ∈ al.V)) (l := l) k;unfold fW;simp only;rw [decide_eq_true (show (k : Int) < (l.length : Int) by omega), ct, aB hy, ob, AK y hb ha, ob, bH hy, ak (n := k) (by omega)]
  cases decide (y.From ∈ w.Bad ∨ y ∈ al.V) with
  | true => rw [ct, aF (by simp only [List.length_singleton]; omega) (by omega), ct, ct]
  | false => rw [cf, cf, List.append_nil]) (by
  unfold fW;simp only
  rw [decide_eq_false (show ¬ (l.length : Int) < (l.length : Int) by omega), cf, List.take_length]) (by omega)
 have e' : iter (fW l w al) bG (cW.mk 0 []) = _ := e;unfold pd;rw [e', ob]
theorem AF {a : Ac} {w : Wd} {al : Vw} (h1 : a.B.length ≤ 1000) (h2 : a.V.length ≤ 1000) (hb : w.Bad.length ≤ 100) (h3 : al.B.length ≤ 100000) (h4 : al.V.length ≤ 100000) : tg a w al = some (lg w.Bad al a) := by
 unfold tg;rw [xR (by omega) hb h3, ob, xS (by omega) hb h4, ob];rfl
theorem xQ {l : List Ac} {w : Wd} (hl : l.length ≤ 100000) : pb l w = some (eO w l) := by
 have e := ay (step := fU l w) (n := l.length) (fun k => cU.mk (k : Int) (eO w (l.take k))) (cU.mk (l.length : Int) (eO w l)) (fun k hk => by
  obtain ⟨y, hy, -⟩ := aA hk;have hlen := cH (p := fun a : Ac => decide (a.Tick = w.Tick ∧ a.To ≥ 0)) (l := l) k;unfold eO at hlen ⊢;unfold fU CZ;simp only;rw [decide_eq_true (show (k : Int) < (l.length : Int) by omega), ct, aB hy, ob, bH hy, ak (n := k) (by omega)];by_cases h1 : y.Tick = w.Tick
  ·rw [beq_iff_eq.2 h1, ct, ob];by_cases h2 : y.To ≥ 0
   ·rw [decide_eq_true h2, ct, decide_eq_true ⟨h1, h2⟩, ct, aF (by simp only [List.length_singleton]; omega) (by omega), ct]
   ·rw [decide_eq_false h2, cf, decide_eq_false fun h => h2 h.2, cf, List.append_nil]
  ·rw [show (y.Tick == w.Tick) = false by simp [h1], cf, ob, cf, decide_eq_false fun h => h1 h.1, cf, List.append_nil]) (by
  unfold fU;simp only
  rw [decide_eq_false (show ¬ (l.length : Int) < (l.length : Int) by omega), cf, List.take_length]) (by omega)
 have e' : iter (fU l w) bG (cU.mk 0 []) = _ := e;unfold pb;rw [e', ob]
theorem rT {w : Wd} (h : tq w) : (ft w).B.length ≤ 10000 ∧ (ft w).V.length ≤ 10000 := by
 have h1 := pi (l := w.N) (w := ⟨[], []⟩) (k := 500) h.nodes;have h2 := h.n;unfold ft;simp only [List.length_nil] at h1;omega
theorem AI {w : Wd} {l : List Ac} (h : tq w) (hl : l.length ≤ 100000) : tj w l = some (ft w, il w, decide (il w ∈ w.Bad), eO w l) := by
 unfold tj;rw [mV (by have := h.n; omega) h.nodes, ob, rN, ob, l5 (by have := h.bad; omega), ob, xQ hl, ob];rfl
theorem pE (bad : List Int) (al : Vw) (a : Ac) : (lg bad al a).B.length ≤ a.B.length ∧ (lg bad al a).V.length ≤ a.V.length := ⟨List.length_filter_le _ _, List.length_filter_le _ _⟩
theorem wl {slot wh : Int} {bad : List Int} {al : Vw} {me : Bool} {k : Int} : ∀ {l : List Ac} {s : Vw × List Of}, (∀ a ∈ l, a.B.length ≤ 8 ∧ a.V.length ≤ 8) → (l.foldl (db slot wh bad al me k) s).1.B.length ≤ s.1.B.length + 8 * l.length ∧ (l.foldl (db slot wh bad al me k) s).1.V.length ≤ s.1.V.length + 8 * l.length ∧ (l.foldl (db slot wh bad al me k) s).2.length ≤ s.2.length + l.length
 | [], s, _ => by simp
 | a :: r, s, h => by
  rw [List.foldl_cons, List.length_cons];obtain ⟨h1, h2⟩ := h a (List.mem_cons_self ..);have ih := wl (slot := slot) (wh := wh) (bad := bad) (al := al) (me := me) (k := k) (l := r) (s := db slot wh bad al me k s a) fun b hb => h b (List.mem_cons_of_mem _ hb);have hf := pE bad al a;have hj := nh s.1 (lg bad al a)
  have : (db slot wh bad al me k s a).1.B.length ≤ s.1.B.length + 8 ∧ (db slot wh bad al me k s a).1.V.length ≤ s.1.V.length + 8 ∧ (db slot wh bad al me k s a).2.length ≤ s.2.length + 1 := by
   unfold db;split
   ·omega
   ·split
    ·simp only; omega
    ·split
     ·split
      ·omega
      ·simp only [List.length_append, List.length_singleton]; omega
     ·omega
  omega
theorem EI {w : Wd} {l : List Ac} (h : tq w) (hl : l8 l) (k : Nat) : Gb w (ft w) (il w) (decide (il w ∈ w.Bad)) (eO w l) (k : Int) = some (bR w l k) := by
 have hal := rT h;have hcl : (eO w l).length ≤ 30 := Nat.le_trans (List.length_filter_le _ _) hl.len;have hce : ∀ a ∈ eO w l, a.B.length ≤ 8 ∧ a.V.length ≤ 8 := fun a ha => hl.each a (List.mem_filter.1 ha).1;unfold bR;generalize eO w l = cl at hcl hce;generalize hst : db (uM w) (il w) w.Bad (ft w) (decide (il w ∈ w.Bad)) (k : Int) = st;have ho := h.o;have hb := h.bad
 have e := ay (step := mZ w (ft w) (il w) (decide (il w ∈ w.Bad)) cl (k : Int)) (n := cl.length) (fun j => fc.mk (j : Int) ((cl.take j).foldl st (ft w, w.O)).1 ((cl.take j).foldl st (ft w, w.O)).2) (fc.mk (cl.length : Int) (cl.foldl st (ft w, w.O)).1 (cl.foldl st (ft w, w.O)).2) (fun j hj => by
  obtain ⟨y, hy, hm⟩ := aA hj
  have et : cl.take (j + 1) = cl.take j ++ [y] := by rw [List.take_add_one, hy]; rfl
  have hlen := wl (slot := uM w) (wh := il w) (bad := w.Bad) (al := ft w) (me := decide (il w ∈ w.Bad)) (k := (k : Int)) (l := cl.take j) (s := (ft w, w.O)) fun a ha => hce a (List.mem_of_mem_take ha);rw [hst, List.length_take] at hlen;obtain ⟨y1, y2⟩ := hce y hm;have hf := pE w.Bad (ft w) y;unfold mZ;simp only;rw [et, List.foldl_append, List.foldl_cons, List.foldl_nil];generalize (cl.take j).foldl st (ft w, w.O) = s at hlen ⊢;simp only at hlen;rw [decide_eq_true (show (j : Int) < (cl.length : Int) by omega), ct, aB hy, ob, decide_eq_true (show (0 : Int) ≤ (k : Int) by omega), ct, ak (n := j) (by omega), ← hst];show (bif FB y.To (k : Int) then _ else _) = _;unfold db
  cases hof : FB y.To (k : Int) with
  | true => rw [ct, if_pos rfl]
  | false =>
   rw [cf, if_neg (by simp), AF (by omega) (by omega) hb (by omega) (by omega), ob]
   cases hoff : y.Offer with
   | false => rw [Bool.not_false, ct, if_pos rfl, lu (by omega) (by omega), ob]
   | true =>
    rw [Bool.not_true, cf, if_neg (by simp)]
    cases hme : decide (il w ∈ w.Bad) with
    | false => rw [cf, ob, cf, if_neg (by simp)]
    | true =>
     rw [ct, ob, if_pos rfl]
     cases hB : (lg w.Bad (ft w) y).B with
     | nil => rfl
     | cons b r =>
      rw [decide_eq_true (by simp), ct];show (bif FT (b :: r) 1 (b :: r).length then _ else none) = _;rw [show FT (b :: r) 1 ((b :: r).length : Int) = true from decide_eq_true (by simp only [List.length_cons]; omega), ct, aF (by simp only [List.length_singleton]; omega) (by omega), ct]
      rfl) (by
  unfold mZ;simp only
  rw [decide_eq_false (show ¬ (cl.length : Int) < (cl.length : Int) by omega), cf, List.take_length]) (by omega)
 have e' : iter (mZ w (ft w) (il w) (decide (il w ∈ w.Bad)) cl (k : Int)) bG (fc.mk 0 (ft w) w.O) = _ := e;unfold Gb;rw [aF (by omega) (by omega), ct, e', ob]
theorem iX {w : Wd} {l : List Ac} {k : Nat} {n : Nd} (h : w.N[k]? = some n) : (fJ w l)[k]? = some (cz w.C n (bR w l k).1 (bR w l k).2) := by
 unfold fJ;rw [List.getElem?_map, List.getElem?_zipIdx, h];simp
theorem f3 (w : Wd) (l : List Ac) : (fJ w l).length = w.N.length := by
 unfold fJ;rw [List.length_map, List.length_zipIdx]
theorem vM (w : Wd) : ((xM w.C).bind fun v2 => bif !v2 then some true else bif decide (w.Tick < 3) then some true else some (decide (w.Tick ≥ 3145728))) = some (nU w) := by
 rw [ln, ob];unfold nU;by_cases h1 : dB w.C
 ·rw [decide_eq_true h1, Bool.not_true, cf];by_cases h2 : w.Tick < 3
  ·rw [decide_eq_true h2, ct, decide_eq_true (.inr (.inl h2))]
  ·rw [decide_eq_false h2, cf];by_cases h3 : w.Tick ≥ 3145728
   ·rw [decide_eq_true h3, decide_eq_true (.inr (.inr h3))]
   ·rw [decide_eq_false h3, decide_eq_false];rintro (h | h | h)
    ·exact h h1
    ·exact h2 h
    ·exact h3 h
 ·rw [decide_eq_false h1, Bool.not_false, ct, decide_eq_true (.inl h1)]
theorem Ap {w : Wd} {l : List Ac} (h : tq w) (hl : l8 l) (hG : ∀ k n, w.N[k]? = some n → k8 w.C n (bR w l k).1 (bR w l k).2) (hT : ∀ k n, w.N[k]? = some n → (cz w.C n (bR w l k).1 (bR w l k).2).2.length ≤ 1) : nL w l = some (hY w l) := by
 have hN := h.n;unfold nL hY;rw [vM, ob]
 cases hi : nU w with
 | true => rw [ct, s0 h, ob, if_pos rfl]
 | false =>
  have hsl := f3 w l
  have hfl : ∀ k, k ≤ w.N.length → (((fJ w l).take k).flatMap (·.2)).length ≤ k := by
   intro k
   induction k with
   | zero => intro _; simp
   | succ k ih =>
    intro hk;obtain ⟨n, hn⟩ : ∃ n, w.N[k]? = some n := ⟨_, List.getElem?_eq_getElem (by omega)⟩;rw [List.take_add_one, iX hn, List.flatMap_append, List.length_append];have := ih (by omega);have := hT k n hn;simp only [Option.toList_some, List.flatMap_cons, List.flatMap_nil, List.append_nil];omega
  have e := ay (step := iD w (ft w, il w, decide (il w ∈ w.Bad), eO w l)) (n := w.N.length) (fun k => d5.mk (k : Int) (((fJ w l).take k).map (·.1)) (((fJ w l).take k).flatMap (·.2))) (d5.mk (w.N.length : Int) ((fJ w l).map (·.1)) ((fJ w l).flatMap (·.2))) (fun k hk => by
   obtain ⟨y, hy, hm⟩ := aA hk;have hk2 := hfl k (by omega);have hT1 := hT k y hy;have hw := (kj (hG k y hy)).1;unfold iD;simp only;rw [decide_eq_true (show (k : Int) < (w.N.length : Int) by omega), ct, EI h hl k, ob, aB hy, ob, hw, ob, aF (by rw [List.length_map, List.length_take]; simp only [List.length_singleton]; omega) (by omega), ct, aF (by omega) (by omega), ct, ak (n := k) (by omega)];rw [List.take_add_one, iX hy, List.map_append, List.flatMap_append]
   simp) (by
   unfold iD;simp only
   rw [decide_eq_false (show ¬ (w.N.length : Int) < (w.N.length : Int) by omega), cf, List.take_of_length_le (by omega)]) (by omega)
  have e' : iter (iD w (ft w, il w, decide (il w ∈ w.Bad), eO w l)) bG (d5.mk 0 [] []) = _ := e;have := h.bad;rw [cf, AI h (by have := hl.len; omega), ob, aF (by omega) (by omega), ct, e', ob, if_neg (by simp)]
def FR (o : Of) : Prop := o.V.B.length ≤ 60 ∧ o.V.V.length ≤ 240
structure Zz (c : Cf) (U : Vw) (n : Nd) : Prop where
 may : fd c n.V
 nd : uZ n.In
 few : n.O.length ≤ 8
 all : u7 (· ∈ U.B) (· ∈ U.V) n
 sz : ∀ o ∈ n.O, FR o
structure AP (U : Vw) (w : Wd) : Prop where
 len : w.N.length ≤ 6
 bad : w.Bad.length ≤ 10
 nodes : ∀ n ∈ w.N, Zz w.C U n
 told : w.O.length ≤ 6
 offs : ∀ o ∈ w.O, mT (· ∈ U.B) (· ∈ U.V) o ∧ FR o
def gS (l : List Ac) : Vw := ⟨l.flatMap Ac.B, l.flatMap Ac.V⟩
def jd (a b : Vw) : Prop := (∀ x ∈ a.B, x ∈ b.B) ∧ ∀ x ∈ a.V, x ∈ b.V
theorem mL (a : Vw) : jd a a := ⟨fun _ h => h, fun _ h => h⟩
theorem k5 {a b d : Vw} (h1 : jd a b) (h2 : jd b d) : jd a d := ⟨fun x h => h2.1 x (h1.1 x h), fun x h => h2.2 x (h1.2 x h)⟩
theorem qU {P P' : Bk → Prop} {Q Q' : Vt → Prop} (hP : ∀ b, P b → P' b) (hQ : ∀ v, Q v → Q' v) {n : Nd} (h : u7 P Q n) : u7 P' Q' n :=
 ⟨⟨fun b hb => hP b (h.1.1 b hb), fun v hv => hQ v (h.1.2 v hv)⟩, ⟨fun b hb => hP b (h.2.1.1 b hb), fun v hv => hQ v (h.2.1.2 v hv)⟩, fun o ho => ⟨hP _ (h.2.2 o ho).1, fun b hb => hP b ((h.2.2 o ho).2.1 b hb), fun v hv => hQ v ((h.2.2 o ho).2.2 v hv)⟩⟩
theorem qW {P P' : Bk → Prop} {Q Q' : Vt → Prop} (hP : ∀ b, P b → P' b) (hQ : ∀ v, Q v → Q' v) {o : Of} (h : mT P Q o) : mT P' Q' o :=
 ⟨hP _ h.1, fun b hb => hP b (h.2.1 b hb), fun v hv => hQ v (h.2.2 v hv)⟩
theorem BJ {c : Cf} {U U' : Vw} (h : jd U U') {n : Nd} (hn : Zz c U n) : Zz c U' n := ⟨hn.may, hn.nd, hn.few, qU h.1 h.2 hn.all, hn.sz⟩
theorem Cg {U U' : Vw} (h : jd U U') {w : Wd} (hw : AP U w) : AP U' w := ⟨hw.len, hw.bad, fun n hn => BJ h (hw.nodes n hn), hw.told, fun o ho => ⟨qW h.1 h.2 (hw.offs o ho).1, (hw.offs o ho).2⟩⟩
section
variable {P : Bk → Prop} {Q : Vt → Prop}
theorem rS : ∀ {l : List Nd} {w : Vw}, dW P Q w → (∀ n ∈ l, u7 P Q n) → dW P Q (dv l w)
 | [], w, h, _ => h
 | n :: r, w, h, hs => by
  have hn := hs n (List.mem_cons_self ..);exact rS (l := r) (w := bx w (aV n)) (cY h (cY hn.1 hn.2.1)) fun m hm => hs m<|List.mem_cons_of_mem _ hm
theorem xZ {bad : List Int} {al : Vw} {a : Ac} (hal : dW P Q al) (hB : ∀ b ∈ a.B, b.From ∈ bad → P b) (hV : ∀ v ∈ a.V, v.From ∈ bad → Q v) : dW P Q (lg bad al a) := by
 refine ⟨fun b hb => ?_, fun v hv => ?_⟩
 ·obtain ⟨h1, h2⟩ := List.mem_filter.1 hb;rcases of_decide_eq_true h2 with h | h
  ·exact hB b h1 h
  ·exact hal.1 b h
 ·obtain ⟨h1, h2⟩ := List.mem_filter.1 hv;rcases of_decide_eq_true h2 with h | h
  ·exact hV v h1 h
  ·exact hal.2 v h
theorem B4 {slot wh : Int} {bad : List Int} {al : Vw} {me : Bool} {k : Int} (hal : dW P Q al) : ∀ {l : List Ac} {s : Vw × List Of}, (∀ a ∈ l, (∀ b ∈ a.B, b.From ∈ bad → P b) ∧ ∀ v ∈ a.V, v.From ∈ bad → Q v) → dW P Q s.1 → (∀ o ∈ s.2, mT P Q o) → dW P Q (l.foldl (db slot wh bad al me k) s).1 ∧ ∀ o ∈ (l.foldl (db slot wh bad al me k) s).2, mT P Q o
 | [], s, _, h1, h2 => ⟨h1, h2⟩
 | a :: r, s, h, h1, h2 => by
  rw [List.foldl_cons];have hf := xZ hal (h a (List.mem_cons_self ..)).1 (h a (List.mem_cons_self ..)).2
  have : dW P Q (db slot wh bad al me k s a).1 ∧ ∀ o ∈ (db slot wh bad al me k s a).2, mT P Q o := by
   unfold db;split
   ·exact ⟨h1, h2⟩
   ·split
    ·exact ⟨cY h1 hf, h2⟩
    ·split
     ·split
      ·exact ⟨h1, h2⟩
      ·rename_i b q hB;refine ⟨h1, fun o ho => ?_⟩;rcases List.mem_append.1 ho with ho | ho
       ·exact h2 o ho
       ·rw [List.mem_singleton.1 ho];exact ⟨hf.1 b (by rw [hB]; exact List.mem_cons_self ..), fun x hx => hf.1 x (by rw [hB]; exact List.mem_cons_of_mem _ hx), hf.2⟩
     ·exact ⟨h1, h2⟩
  exact B4 hal (fun b hb => h b (List.mem_cons_of_mem _ hb)) this.1 this.2
theorem Eh {slot wh : Int} {bad : List Int} {al : Vw} {me : Bool} {k : Int} : ∀ {l : List Ac} {s : Vw × List Of}, uZ s.1 → uZ (l.foldl (db slot wh bad al me k) s).1
 | [], s, h => h
 | a :: r, s, h => by
  rw [List.foldl_cons];refine Eh ?_;unfold db;split
  ·exact h
  ·split
   ·exact ka h
   ·split
    ·split <;> exact h
    ·exact h
theorem Ei {slot wh : Int} {bad : List Int} {al : Vw} {me : Bool} {k : Int} : ∀ {l : List Ac} {s : Vw × List Of}, (∀ a ∈ l, a.B.length ≤ 8 ∧ a.V.length ≤ 8) → (∀ o ∈ s.2, FR o) → ∀ o ∈ (l.foldl (db slot wh bad al me k) s).2, FR o
 | [], s, _, h => h
 | a :: r, s, hl, h => by
  rw [List.foldl_cons];refine Ei (fun b hb => hl b (List.mem_cons_of_mem _ hb)) ?_;have hf := pE bad al a;have ha := hl a (List.mem_cons_self ..);unfold db;split
  ·exact h
  ·split
   ·exact h
   ·split
    ·split
     ·exact h
     ·rename_i b q hB;intro o ho;rcases List.mem_append.1 ho with ho | ho
      ·exact h o ho
      ·rw [List.mem_singleton.1 ho];have := congrArg List.length hB;rw [List.length_cons] at this;exact ⟨show q.length ≤ 60 by omega, show (lg bad al a).V.length ≤ 240 by omega⟩
    ·exact h
end
def EM (U : Vw) : Prop := U.B.length ≤ 400 ∧ U.V.length ≤ 400
theorem oL {U : Vw} {w : Wd} (hw : AP U w) (hU : EM U) : tq w := by
 refine ⟨by have := hw.len; omega, fun n hn => ?_, by have := hw.told; omega, fun o ho => ?_, by have := hw.bad; omega⟩
 ·have h := hw.nodes n hn;have h1 := h.may.lenB;have h2 := h.may.lenV;have h3 := cZ h.nd.1 h.all.2.1.1;have h4 := cZ h.nd.2 h.all.2.1.2;have h5 := h.few;obtain ⟨u1, u2⟩ := hU;exact ⟨⟨by omega, by omega⟩, ⟨by omega, by omega⟩, by omega, fun o ho => by have := h.sz o ho; exact ⟨by have := this.1; omega, by have := this.2; omega⟩⟩
 ·have := (hw.offs o ho).2;exact ⟨by have := this.1; omega, by have := this.2; omega⟩
theorem tC {P : Bk → Prop} {Q : Vt → Prop} {w : Wd} {l : List Ac} (hn : ∀ n ∈ w.N, u7 P Q n) (ho : ∀ o ∈ w.O, mT P Q o) (ha : ∀ a ∈ l, (∀ b ∈ a.B, b.From ∈ w.Bad → P b) ∧ ∀ v ∈ a.V, v.From ∈ w.Bad → Q v) (k : Nat) :
  dW P Q (bR w l k).1 ∧ ∀ o ∈ (bR w l k).2, mT P Q o := by
 have hal : dW P Q (ft w) := rS jY hn;exact B4 hal (fun a h => ha a (List.mem_filter.1 h).1) hal ho
theorem Di (w : Wd) (l : List Ac) (k : Nat) : uZ (bR w l k).1 := Eh (m5 List.nodup_nil List.nodup_nil)
theorem A7 {w : Wd} {l : List Ac} (hl : l8 l) (k : Nat) : (bR w l k).2.length ≤ w.O.length + 30 := by
 have h := (wl (slot := uM w) (wh := il w) (bad := w.Bad) (al := ft w) (me := decide (il w ∈ w.Bad)) (k := (k : Int)) (l := eO w l) (s := (ft w, w.O)) fun a ha => hl.each a (List.mem_filter.1 ha).1).2.2;have h2 : (eO w l).length ≤ l.length := List.length_filter_le _ _;have h3 := hl.len;unfold bR;simp only at h;omega
theorem w0 {U : Vw} {w : Wd} {l : List Ac} (hw : AP U w) (hl : l8 l) (k : Nat) : ∀ o ∈ (bR w l k).2, FR o := Ei (fun a ha => hl.each a (List.mem_filter.1 ha).1) fun o ho => (hw.offs o ho).2
theorem wY {l : List Ac} {U : Vw} (hs : jd (gS l) U) (bad : List Int) : ∀ a ∈ l, (∀ b ∈ a.B, b.From ∈ bad → b ∈ U.B) ∧ ∀ v ∈ a.V, v.From ∈ bad → v ∈ U.V :=
 fun a ha => ⟨fun b hb _ => hs.1 b (List.mem_flatMap.2 ⟨a, ha, hb⟩), fun v hv _ => hs.2 v (List.mem_flatMap.2 ⟨a, ha, hv⟩)⟩
theorem Dq {U : Vw} {w : Wd} {l : List Ac} (hw : AP U w) (hU : EM U) (hl : l8 l) (hs : jd (gS l) U) {k : Nat} {n : Nd} (hk : w.N[k]? = some n) : k8 w.C n (bR w l k).1 (bR w l k).2 := by
 have hn := hw.nodes n (List.mem_of_getElem? hk);obtain ⟨u1, u2⟩ := hU;have hc := tC (fun n hn => (hw.nodes n hn).all) (fun o ho => (hw.offs o ho).1) (wY hs w.Bad) k;have hd := Di w l k;have hi := cZ hd.1 hc.1.1;have hi2 := cZ hd.2 hc.1.2;have hj : uZ (bx n.In (aY w.C (bR w l k).1)) := ka hn.nd;have hja : dW (· ∈ U.B) (· ∈ U.V) (bx n.In (aY w.C (bR w l k).1)) := cY hn.all.2.1 (qY hc.1);have h1 := hn.may.lenB;have h2 := hn.may.lenV;have h3 := cZ hn.nd.1 hn.all.2.1.1;have h4 := cZ hn.nd.2 hn.all.2.1.2;have h5 := cZ hj.1 hja.1;have h6 := cZ hj.2 hja.2;have h7 := A7 (w := w) hl k;have h8 := hw.told;have h9 := hn.few;refine ⟨by omega, by omega, by omega, by omega, by omega, fun y hy => ?_⟩
 have : FR y := by
  rcases List.mem_append.1 hy with hy | hy
  ·exact hn.sz y hy
  ·exact w0 hw hl k y hy
 exact ⟨by have := this.1; omega, by have := this.2; omega⟩
noncomputable def HL (w : Wd) (l : List Ac) : List Bk := w.N.zipIdx.map fun p => rv (cq w.C p.1 (bR w l p.2).1 (bR w l p.2).2) w.C (aI p.1)
noncomputable def HM (w : Wd) (l : List Ac) : List Vt := w.N.zipIdx.map fun p => Ej w.C p.1 (bR w l p.2).1 (bR w l p.2).2
noncomputable def li (U : Vw) (w : Wd) (l : List Ac) : Vw := ⟨U.B ++ HL w l, U.V ++ HM w l⟩
theorem fC (U : Vw) (w : Wd) (l : List Ac) : jd U (li U w l) := ⟨fun _ h => List.mem_append_left _ h, fun _ h => List.mem_append_left _ h⟩
theorem uw {U : Vw} {w : Wd} (hw : w.N.length ≤ 6) (l : List Ac) : (li U w l).B.length ≤ U.B.length + 6 ∧ (li U w l).V.length ≤ U.V.length + 6 := by
 unfold li HL HM;simp only [List.length_append, List.length_map, List.length_zipIdx];omega
theorem xA {w : Wd} {k : Nat} {n : Nd} (h : w.N[k]? = some n) : (n, k) ∈ w.N.zipIdx := by
 refine List.mem_of_getElem? (i := k) ?_;rw [List.getElem?_zipIdx, h];simp
theorem mc {w : Wd} {l : List Ac} (hi : nU w = false) {k : Nat} : ((hY w l).N[k]? = (w.N[k]?).map fun n => (cz w.C n (bR w l k).1 (bR w l k).2).1) := by
 unfold hY;rw [if_neg (by simp [hi])];simp only;rw [List.getElem?_map]
 cases h : w.N[k]? with
 | none =>
  have := List.getElem?_eq_none_iff.1 h;rw [List.getElem?_eq_none (by rw [f3]; exact this)];rfl
 | some n => rw [iX h]; rfl
theorem Dl {w : Wd} {l : List Ac} (hi : nU w = false) {o : Of} (ho : o ∈ (hY w l).O) : ∃ k n, w.N[k]? = some n ∧ o ∈ (cz w.C n (bR w l k).1 (bR w l k).2).2 := by
 unfold hY at ho;rw [if_neg (by simp [hi])] at ho;obtain ⟨p, hp, h⟩ := List.mem_flatMap.1 ho;obtain ⟨k, hk, e⟩ := List.getElem_of_mem hp;rw [f3] at hk;obtain ⟨n, hn⟩ : ∃ n, w.N[k]? = some n := ⟨_, List.getElem?_eq_getElem hk⟩;refine ⟨k, n, hn, ?_⟩;have h1 := iX (l := l) hn;rw [List.getElem?_eq_getElem (by rw [f3]; exact hk), e] at h1;rw [← Option.some.inj h1];exact h
theorem Fl (w : Wd) (l : List Ac) : (hY w l).N.length = w.N.length := by
 unfold hY;split
 ·rfl
 ·simp only [List.length_map, f3]
theorem A9 {U : Vw} {w : Wd} {l : List Ac} (hw : AP U w) (hU : EM U) (hl : l8 l) (hs : jd (gS l) U) : nL w l = some (hY w l) ∧ AP (li U w l) (hY w l) := by
 have hfit := oL hw hU;have hG : ∀ k n, w.N[k]? = some n → k8 w.C n (bR w l k).1 (bR w l k).2 := fun k n h => Dq hw hU hl hs h;have hsame := fun k n (h : w.N[k]? = some n) => rG (hG k n h) (hw.nodes n (List.mem_of_getElem? h)).may (hw.nodes n (List.mem_of_getElem? h)).nd (hw.nodes n (List.mem_of_getElem? h)).few;have hc := fun k => tC (fun n hn => (hw.nodes n hn).all) (fun o ho => (hw.offs o ho).1) (wY hs w.Bad) k;refine ⟨Ap hfit hl hG fun k n h => (hsame k n h).2.2.2.2.2.2.1, ?_⟩
 cases hi : nU w with
 | true => unfold hY; rw [if_pos hi]; exact Cg (fC U w l) hw
 | false =>
  have hall := fun k n (h : w.N[k]? = some n) => BX (P := (· ∈ (li U w l).B)) (Q := (· ∈ (li U w l).V)) (hG k n h)
   (qU (fC U w l).1 (fC U w l).2 (hw.nodes n (List.mem_of_getElem? h)).all)
   ⟨fun b hb => (fC U w l).1 b ((hc k).1.1 b hb), fun v hv => (fC U w l).2 v ((hc k).1.2 v hv)⟩
   (fun y hy => qW (fC U w l).1 (fC U w l).2 ((hc k).2 y hy))
   (fun _ _ _ => List.mem_append_right _ (List.mem_map.2 ⟨_, xA h, rfl⟩)) (fun _ _ _ => List.mem_append_right _ (List.mem_map.2 ⟨_, xA h, rfl⟩))
  have hC : (hY w l).C = w.C := by unfold hY; rw [if_neg (by simp [hi])]
  have hB : (hY w l).Bad = w.Bad := by unfold hY; rw [if_neg (by simp [hi])]
  have hO : (hY w l).O.length ≤ 6 := by
   have : ∀ k, k ≤ w.N.length → (((fJ w l).take k).flatMap (·.2)).length ≤ k := by
    intro k
    induction k with
    | zero => intro _; simp
    | succ k ih =>
     intro hk;obtain ⟨n, hn⟩ : ∃ n, w.N[k]? = some n := ⟨_, List.getElem?_eq_getElem (by omega)⟩;rw [List.take_add_one, iX hn, List.flatMap_append, List.length_append];have := ih (by omega);have := (hsame k n hn).2.2.2.2.2.2.1;simp only [Option.toList_some, List.flatMap_cons, List.flatMap_nil, List.append_nil];omega
   have h2 := this w.N.length (Nat.le_refl _);rw [List.take_of_length_le (by rw [f3]; omega)] at h2;have h3 := hw.len;unfold hY;rw [if_neg (by simp [hi])];simp only;omega
  refine ⟨by rw [Fl]; exact hw.len, by rw [hB]; exact hw.bad, fun x hx => ?_, hO, fun o ho => ?_⟩
  ·obtain ⟨k, hk, e⟩ := List.getElem_of_mem hx
   have h1 : (hY w l).N[k]? = some x := by rw [List.getElem?_eq_getElem hk, e]
   rw [mc hi] at h1
   cases hn : w.N[k]? with
   | none => rw [hn] at h1; cases h1
   | some n =>
    rw [hn] at h1;have e2 := Option.some.inj h1;subst e2;obtain ⟨s1, s2, s3, s4, s5, s6, s7, s8, s9⟩ := hsame k n hn;rw [hC];refine ⟨s3.1, s4, s5, (hall k n hn).1, fun o ho => ?_⟩;rcases List.mem_append.1 (s8 o ho) with h | h
    ·exact (hw.nodes n (List.mem_of_getElem? hn)).sz o h
    ·exact w0 hw hl k o h
  ·obtain ⟨k, n, hn, h⟩ := Dl hi ho;obtain ⟨s1, s2, s3, s4, s5, s6, s7, s8, s9⟩ := hsame k n hn;exact ⟨(hall k n hn).2 o h, (s9 o h).lenB, (s9 o h).lenV⟩
structure FS (w : Wd) : Prop where
 may : dB w.C
 lo : 3 ≤ w.Tick
 hi : w.Tick ≤ 100000
 at_ : ∀ n ∈ w.N, n.Tick = w.Tick
theorem qk {w : Wd} (h : FS w) : nU w = false := by
 refine decide_eq_false ?_;have h1 := h.lo;have h2 := h.hi;rintro (h3 | h3 | h3)
 ·exact h3 h.may
 ·omega
 ·omega
theorem uU {w : Wd} (h : FS w) {n : Nd} (hn : n ∈ w.N) : ea w.C n = false := by
 have h1 := h.lo;have h2 := h.hi;have h3 := h.at_ n hn;exact C7 h.may (by omega) (by omega)
theorem Dj {U : Vw} {w : Wd} {l : List Ac} (hw : AP U w) (hU : EM U) (hl : l8 l) (hs : jd (gS l) U) (ht : FS w) : (hY w l).C = w.C ∧ (hY w l).Bad = w.Bad ∧ (hY w l).Tick = w.Tick + 1 ∧ (∀ n ∈ (hY w l).N, n.Tick = w.Tick + 1) ∧ (hY w l).N.map Nd.No = w.N.map Nd.No := by
 have hi := qk ht;have h1 := ht.lo;have h2 := ht.hi;have hG : ∀ k n, w.N[k]? = some n → k8 w.C n (bR w l k).1 (bR w l k).2 := fun k n h => Dq hw hU hl hs h;have hsame := fun k n (h : w.N[k]? = some n) => rG (hG k n h) (hw.nodes n (List.mem_of_getElem? h)).may (hw.nodes n (List.mem_of_getElem? h)).nd (hw.nodes n (List.mem_of_getElem? h)).few;refine ⟨by unfold hY; rw [if_neg (by simp [hi])], by unfold hY; rw [if_neg (by simp [hi])], by unfold hY; rw [if_neg (by simp [hi])]; exact eI (by omega) (by omega), fun x hx => ?_, ?_⟩
 ·obtain ⟨k, hk, e⟩ := List.getElem_of_mem hx
  have h1 : (hY w l).N[k]? = some x := by rw [List.getElem?_eq_getElem hk, e]
  rw [mc hi] at h1
  cases hn : w.N[k]? with
  | none => rw [hn] at h1; cases h1
  | some n =>
   rw [hn] at h1;have e2 := Option.some.inj h1;subst e2;have hm := List.mem_of_getElem? hn;have := (hsame k n hn).2.1;rw [uU ht hm, if_neg (by simp), ht.at_ n hm, eI (by omega) (by omega)] at this;exact this
 ·apply List.ext_getElem?;intro k;rw [List.getElem?_map, List.getElem?_map, mc hi]
  cases hn : w.N[k]? with
  | none => rfl
  | some n =>
   simp only [Option.map_some];rw [(hsame k n hn).1]
noncomputable def ic (w : Wd) (l : List Ac) : Nat → Wd
 | 0 => w
 | n + 1 => hY (ic w l n) l
noncomputable def qH (U : Vw) (w : Wd) (l : List Ac) : Nat → Vw
 | 0 => U
 | n + 1 => li (qH U w l n) (ic w l n) l
structure Gc (U : Vw) (w : Wd) (l : List Ac) (k : Nat) : Prop where
 ok : AP (qH U w l k) (ic w l k)
 B : (qH U w l k).B.length ≤ U.B.length + 6 * k
 V : (qH U w l k).V.length ≤ U.V.length + 6 * k
 sub : jd U (qH U w l k)
 time : FS (ic w l k)
 tick : (ic w l k).Tick = w.Tick + k
 conf : (ic w l k).C = w.C
 bad : (ic w l k).Bad = w.Bad
 nos : (ic w l k).N.map Nd.No = w.N.map Nd.No
theorem BR {U : Vw} {w : Wd} {l : List Ac} (hw : AP U w) (hl : l8 l) (hs : jd (gS l) U) (ht : FS w) (hB : U.B.length ≤ 300) (hV : U.V.length ≤ 300) (hT : w.Tick ≤ 1000) : ∀ k, k ≤ 15 → Gc U w l k
 | 0, _ => ⟨hw, by simp [qH], by simp [qH], mL U, ht, by simp [ic], rfl, rfl, rfl⟩
 | k + 1, h => by
  obtain ⟨r1, r2, r3, r4, r5, r6, r7, r8, r9⟩ := BR hw hl hs ht hB hV hT k (by omega);have hU : EM (qH U w l k) := ⟨by omega, by omega⟩;have hs' := k5 hs r4;have hd := A9 r1 hU hl hs';obtain ⟨t1, t2, t3, t4, t5⟩ := Dj r1 hU hl hs' r5;have hn := uw (U := qH U w l k) r1.len l;have h1 := r5.lo;refine ⟨hd.2, ?_, ?_, k5 r4 (fC _ _ _), ⟨by show dB (hY _ _).C; rw [t1]; exact r5.may, by show 3 ≤ (hY _ _).Tick; omega, by show (hY _ _).Tick ≤ _; omega, fun n hn => by rw [t4 n hn]; exact t3.symm⟩, ?_, t1.trans r7, t2.trans r8, t5.trans r9⟩
  ·show (li _ _ _).B.length ≤ _; omega
  ·show (li _ _ _).V.length ≤ _; omega
  ·show (hY _ _).Tick = _; rw [t3, r6]; omega
theorem Fm {U : Vw} {w : Wd} {l : List Ac} (hl : l8 l) (hs : jd (gS l) U) (hB : U.B.length ≤ 300) (hV : U.V.length ≤ 300) {k : Nat} (hk : k ≤ 15) (h : Gc U w l k) : nL (ic w l k) l = some (ic w l (k + 1)) := by
 have h2 := h.B;have h3 := h.V;exact (A9 h.ok ⟨by omega, by omega⟩ hl (k5 hs h.sub)).1
theorem As {U : Vw} {w : Wd} {l : List Ac} (hl : l8 l) (hs : jd (gS l) U) (hB : U.B.length ≤ 300) (hV : U.V.length ≤ 300) {t : Int} (ht : t ≤ 15) (h : ∀ k : Nat, (k : Int) ≤ t ∨ k = 0 → Gc U w l k) : oU w l t = some (ic w l t.toNat) := by
 have h0 := h 0 (.inr rfl);have hU : EM U := ⟨by omega, by omega⟩
 have e := ay (step := iE l t) (n := t.toNat) (fun k => d6.mk (k : Int) (ic w l k)) (d6.mk (t.toNat : Int) (ic w l t.toNat)) (fun k hk => by
  unfold iE;simp only
  rw [if_neg (by omega), decide_eq_true (show (k : Int) < t by omega), ct, Fm hl hs hB hV (by omega) (h k (.inl (by omega))), ob, ak (n := k) (by omega)]) (by
  unfold iE;simp only
  rw [if_neg (by omega), decide_eq_false (show ¬ (t.toNat : Int) < t by omega), cf]) (by omega)
 have e' : iter (iE l t) bG (d6.mk 0 w) = _ := e;unfold oU;rw [s0 (oL (U := U) (w := w) h0.ok hU), ob, e', ob]
theorem Aq : sZ = some true := by kernel_rfl
theorem At (l : List Ac) {k : Int} (hk : k ≤ 100) : qS l k = some false ∨ (qS l k = some true ∧ (l.length : Int) ≤ k ∧ ∀ a ∈ l, a.B.length ≤ 8 ∧ a.V.length ≤ 8) := by
 unfold qS;by_cases h : (l.length : Int) > k
 ·rw [decide_eq_true h, ct]; exact .inl rfl
 ·rw [decide_eq_false h, cf]
  have e := yB (step := gc l) (n := l.length) (fun j => dJ.mk (j : Int)) false (fun j => ∀ a, l[j]? = some a → a.B.length ≤ 8 ∧ a.V.length ≤ 8) (fun j hj => by
   obtain ⟨y, hy, -⟩ := aA hj;unfold gc;simp only;rw [decide_eq_true (show (j : Int) < (l.length : Int) by omega), ct, aB hy, ob, ob];by_cases h1 : (y.B.length : Int) > 8
   ·rw [decide_eq_true h1, ct]; exact .inl rfl
   ·rw [decide_eq_false h1, cf];by_cases h2 : (y.V.length : Int) > 8
    ·rw [decide_eq_true h2, ct]; exact .inl rfl
    ·rw [decide_eq_false h2, cf, ak (n := j) (by omega)];refine .inr ⟨rfl, fun a ha => ?_⟩;rw [hy] at ha;obtain rfl := Option.some.inj ha
     omega) (by
   unfold gc;simp only
   rw [decide_eq_false (show ¬ (l.length : Int) < (l.length : Int) by omega), cf]) (by omega)
  have e2 : iter (gc l) bG (dJ.mk 0) = some (.inr false) ∨ (iter (gc l) bG (dJ.mk 0) = some (.inl (dJ.mk (l.length : Int))) ∧ _) := e;rcases e2 with e2 | ⟨e2, h3⟩
  ·rw [e2, ob]; exact .inl rfl
  ·rw [e2, ob];refine .inr ⟨rfl, by omega, fun a ha => ?_⟩;obtain ⟨j, hj⟩ := List.getElem?_of_mem ha;exact h3 j (List.getElem?_eq_some_iff.1 hj).1 a hj
structure DJ (c : Cf) (bad : List Int) (l : List Ac) : Prop where
 acts : l8 l
 len : l.length ≤ 25
 may : dB c
 w : c.W.length ≤ 6
 bad : bad.length ≤ 6
theorem Ar (c : Cf) (bad : List Int) (l : List Ac) : qR c bad l = some false ∨ (qR c bad l = some true ∧ DJ c bad l) := by
 unfold qR;rcases At l (k := 25) (by omega) with e | ⟨e, h1, h2⟩
 ·rw [e, ob, cf]; exact .inl rfl
 ·rw [e, ob, ct, ln, ob];by_cases hm : dB c
  ·rw [decide_eq_true hm, ct];by_cases hw : (c.W.length : Int) ≤ 6
   ·rw [decide_eq_true hw, ct];by_cases hb : (bad.length : Int) ≤ 6
    ·rw [decide_eq_true hb]; exact .inr ⟨rfl, ⟨by omega, h2⟩, by omega, hm, by omega, by omega⟩
    ·rw [decide_eq_false hb]; exact .inl rfl
   ·rw [decide_eq_false hw, cf]; exact .inl rfl
  ·rw [decide_eq_false hm, cf]; exact .inl rfl
def nT (bad : List Int) (n : Nat) : List Int := ((List.range n).map Int.ofNat).filter fun i => decide (i ∉ bad)
theorem vK (bad : List Int) (n : Nat) : nT bad (n + 1) = nT bad n ++ if (n : Int) ∈ bad then [] else [(n : Int)] := by
 unfold nT;rw [List.range_succ, List.map_append, List.filter_append];by_cases h : (n : Int) ∈ bad <;> simp [h]
theorem re (bad : List Int) (n : Nat) : (nT bad n).length ≤ n := Nat.le_trans (List.length_filter_le _ _) (by simp)
def BK (i : Int) : Nd := ⟨i, 3, ⟨[], []⟩, ⟨[], []⟩, [], ⟨(0, 0), 0, 0⟩, false⟩
def np (c : Cf) (bad : List Int) : Wd := ⟨c, bad, 3, (nT bad c.W.length).map BK, []⟩
theorem Ao {c : Cf} {bad : List Int} (hm : dB c) (hb : bad.length ≤ 100) : qQ c bad = some (np c bad) := by
 have hw := hm.2.1
 have e := ay (step := iC c bad) (n := c.W.length) (fun k => dI.mk (k : Int) ((nT bad k).map BK)) (dI.mk (c.W.length : Int) ((nT bad c.W.length).map BK)) (fun k hk => by
  have hg := re bad k;unfold iC;simp only;rw [decide_eq_true (show (k : Int) < (c.W.length : Int) by omega), ct, l5 (by omega), ob, vK, ak (n := k) (by omega)];by_cases h : (k : Int) ∈ bad
  ·rw [decide_eq_true h, Bool.not_true, cf, if_pos h, List.append_nil]
  ·rw [decide_eq_false h, Bool.not_false, ct, if_neg h];unfold wQ;rw [ob, aF (by rw [List.length_map]; simp only [List.length_singleton]; omega) (by omega), ct, List.map_append]
   rfl) (by
  unfold iC;simp only
  rw [decide_eq_false (show ¬ (c.W.length : Int) < (c.W.length : Int) by omega), cf]) (by omega)
 have e' : iter (iC c bad) bG (dI.mk 0 []) = _ := e;unfold qQ;rw [aF (by omega) (by omega), ct, ln, ob, decide_eq_true hm, Bool.not_true, cf, e', ob];rfl
theorem BA {c : Cf} (hm : dB c) : fd c ⟨[], []⟩ := ⟨hm, yM, by simp, by simp, fun b hb => (by cases hb), fun v hv => (by cases hv), List.nodup_nil, fun v hv => (by cases hv)⟩
theorem kR {l : List Ac} {k : Nat} (hk : l.length ≤ k) (h : ∀ a ∈ l, a.B.length ≤ 8 ∧ a.V.length ≤ 8) : (gS l).B.length ≤ 8 * k ∧ (gS l).V.length ≤ 8 * k := by
 have : ∀ m : List Ac, (∀ a ∈ m, a.B.length ≤ 8 ∧ a.V.length ≤ 8) → (m.flatMap Ac.B).length ≤ 8 * m.length ∧ (m.flatMap Ac.V).length ≤ 8 * m.length := by
  intro m
  induction m with
  | nil => intro _; simp
  | cons a r ih =>
   intro h;have h1 := ih fun b hb => h b (List.mem_cons_of_mem _ hb);have h2 := h a (List.mem_cons_self ..);rw [List.flatMap_cons, List.flatMap_cons, List.length_append, List.length_append, List.length_cons];omega
 have := this l h;unfold gS;simp only;omega
theorem Fz {c : Cf} {bad : List Int} (hm : dB c) (hw : c.W.length ≤ 6) (hb : bad.length ≤ 10) (U : Vw) : AP U (np c bad) ∧ FS (np c bad) := by
 have hg := re bad c.W.length
 have hN : ∀ n ∈ (np c bad).N, ∃ i, n = BK i := fun n hn => by
  obtain ⟨i, -, h⟩ := List.mem_map.1 hn;exact ⟨i, h.symm⟩
 refine ⟨⟨by show ((nT bad c.W.length).map BK).length ≤ 6; rw [List.length_map]; omega, hb, fun n hn => ?_, Nat.zero_le _, fun o ho => by cases ho⟩, ⟨hm, Int.le_refl _, by show (3 : Int) ≤ 100000; omega, fun n hn => ?_⟩⟩
 ·obtain ⟨i, rfl⟩ := hN n hn;exact ⟨BA hm, ⟨List.nodup_nil, List.nodup_nil⟩, Nat.zero_le _, ⟨jY, jY, fun o ho => (by cases ho)⟩, fun o ho => (by cases ho)⟩
 ·obtain ⟨i, rfl⟩ := hN n hn;rfl
theorem pn {c : Cf} {bad : List Int} {l : List Ac} (hm : dB c) (hw : c.W.length ≤ 6) (hb : bad.length ≤ 10) (hl : l8 l) : ∀ k, k ≤ 15 → Gc (gS l) (np c bad) l k := by
 have h := Fz hm hw hb (gS l);have h1 := kR hl.len hl.each;exact BR h.1 hl (mL _) h.2 (by omega) (by omega) (by show (3 : Int) ≤ 1000; omega)
theorem x5 {c : Cf} {bad : List Int} {l : List Ac} (hm : dB c) (hw : c.W.length ≤ 6) (hb : bad.length ≤ 10) (hl : l8 l) {t : Int} (ht : t ≤ 15) : oU (np c bad) l t = some (ic (np c bad) l t.toNat) := by
 have h1 := kR hl.len hl.each;exact As hl (mL _) (by omega) (by omega) ht fun k hk => pn hm hw hb hl k (by omega)
theorem Dz {U : Vw} {w : Wd} {l : List Ac} {k : Nat} (hB : U.B.length ≤ 300) (hV : U.V.length ≤ 300) (hk : k ≤ 15) (h : Gc U w l k) : tq (ic w l k) := oL h.ok ⟨by have := h.B; omega, by have := h.V; omega⟩
theorem yo {α : Type} {l : List α} (h : l.Nodup) {i j : Nat} {x : α} (hi : l[i]? = some x) (hj : l[j]? = some x) : i = j :=
 (List.getElem?_inj (List.getElem?_eq_some_iff.1 hi).1 h).1 (hi.trans hj.symm)
def jn (l : List Bk) : List (ID × Bool) := l.foldl (fun m b => aN m (nm b) true) (aN [] (0, 0) true)
theorem up (l : List Bk) (b : Bk) : jn (l ++ [b]) = aN (jn l) (nm b) true := by unfold jn; rw [List.foldl_append]; rfl
theorem uq : ∀ (l : List Bk) (m : List (ID × Bool)), (l.foldl (fun m b => aN m (nm b) true) m).length ≤ m.length + l.length ∧
  ((l.foldl (fun m b => aN m (nm b) true) m).length = m.length + l.length ↔ (l.map nm).Nodup ∧ ∀ x ∈ l.map nm, x ∉ m.map Prod.fst)
 | [], m => by simp
 | b :: r, m => by
  have ih := uq r (aN m (nm b) true);have hk := mp (nm b) true m;have hlen := congrArg List.length hk;rw [List.length_map] at hlen;simp only [List.foldl_cons, List.length_cons, List.map_cons, List.nodup_cons, List.mem_cons, forall_eq_or_imp];by_cases h : nm b ∈ m.map Prod.fst
  ·rw [if_pos h] at hlen hk;rw [List.length_map] at hlen;refine ⟨by omega, ⟨fun e => by omega, fun e => absurd h e.2.1⟩⟩
  ·rw [if_neg h] at hlen hk;rw [List.length_append, List.length_map, List.length_singleton] at hlen;refine ⟨by omega, ?_⟩;rw [show m.length + (r.length + 1) = (aN m (nm b) true).length + r.length by omega, ih.2, hk];constructor
   ·rintro ⟨h1, h2⟩;refine ⟨⟨fun h3 => ?_, h1⟩, h, fun x hx h3 => h2 x hx (List.mem_append_left _ h3)⟩;exact h2 _ h3<|List.mem_append_right _<|List.mem_singleton.2 Z
   ·rintro ⟨⟨h1, h2⟩, -, h4⟩;refine ⟨h2, fun x hx h5 => ?_⟩;rcases List.mem_append.1 h5 with h6 | h6
    ·exact h4 x hx h6
    ·rw [List.mem_singleton] at h6; subst h6; exact h1 hx
theorem yn (l : List Bk) : (jn l).length ≤ l.length + 1 ∧ ((jn l).length = l.length + 1 ↔ ((0, 0) :: l.map nm).Nodup) := by
 have h := uq l (aN [] (0, 0) true);have e : aN ([] : List (ID × Bool)) (0, 0) true = [((0, 0), true)] := rfl;rw [e] at h;simp only [List.length_singleton, List.map_cons, List.map_nil, List.mem_singleton] at h;have e2 : jn l = l.foldl (fun m b => aN m (nm b) true) [((0, 0), true)] := rfl;rw [e2];refine ⟨by omega, ?_⟩;rw [show l.length + 1 = 1 + l.length by omega, h.2, List.nodup_cons];exact ⟨fun ⟨h1, h2⟩ => ⟨fun h3 => h2 _ h3 rfl, h1⟩, fun ⟨h1, h2⟩ => ⟨h2, fun x hx e => h1 (e ▸ hx)⟩⟩
def rU (l : List Bk) : Bool := decide (¬ ((0, 0) :: l.map nm).Nodup)
theorem Aj {w : Vw} (hl : w.B.length ≤ 90000) : sU w = some (rU w.B) := by
 have e := ay (step := iy w) (n := w.B.length) (fun k => dZ.mk (k : Int) (jn (w.B.take k))) (dZ.mk (w.B.length : Int) (jn w.B)) (fun k hk => by
  obtain ⟨y, hy, -⟩ := aA hk
  have et : w.B.take (k + 1) = w.B.take k ++ [y] := by rw [List.take_add_one, hy]; rfl
  unfold iy;simp only
  rw [decide_eq_true (show (k : Int) < (w.B.length : Int) by omega), ct, aB hy, ob, et, up, ak (n := k) (by omega)]) (by
  unfold iy;simp only
  rw [decide_eq_false (show ¬ (w.B.length : Int) < (w.B.length : Int) by omega), cf, List.take_length]) (by omega)
 have e' : iter (iy w) bG (dZ.mk 0 (aN [] (0, 0) true)) = _ := e;have hn := yn w.B;unfold sU;rw [e', ob];simp only;rw [show pz (jn w.B) = true from decide_eq_true (by omega), ct, ak (n := w.B.length) (by omega)];congr 1;unfold rU;rw [Bool.eq_iff_iff, decide_eq_true_iff, ← hn.2, bne_iff_ne];omega
def IM (x : Nd) (b : Bk) : Prop := b ∈ x.V.B ∨ b ∈ x.In.B
def IN (x : Nd) (v : Vt) : Prop := v ∈ x.V.V ∨ v ∈ x.In.V
def wX (x : Nd) (b : Bk) : Prop := IM x b ∨ (∃ s, aP x.V.B b.Parent = some s ∧ s ≥ b.Slot) ∨ ∃ y ∈ x.V.B, nm y = nm b
def oy (x : Nd) (v : Vt) : Prop := IN x v ∨ ∃ s, aP x.V.B v.Head = some s ∧ s > v.Slot
abbrev nO (c : Cf) (w : Vw) : Prop := dW (fun b => mayB c b = true) (fun v => mayV c v = true) w
theorem lN {c : Cf} {w i : Vw} {s : Int} (hw : fd c w) : nO c (aE c w i s).2.1 := by
 have ht := wm hw i s;exact ⟨fun _ hb => (List.mem_filter.1 (ht.subB.subset hb)).2, fun _ hv => (List.mem_filter.1 (ht.subV.subset hv)).2⟩
theorem vS (c : Cf) (i : Vw) : nO c (aY c i) := ⟨fun _ hb => (List.mem_filter.1 hb).2, fun _ hv => (List.mem_filter.1 hv).2⟩
theorem pY (c : Cf) (s : Int) : ∀ (o : List Of) (x : Vw × Vw × Bool), fd c x.1 → nO c x.2.1 → nO c (o.foldl (eT c s) x).2.1
 | [], x, _, h => h
 | y :: r, x, hw, h => by
  rw [List.foldl_cons];exact pY c s r _ (dL hw _ _).1<|cY h<|lN hw
theorem uT (c : Cf) (s : Int) : ∀ (o : List Of) (x : Vw × Vw × Bool), jd x.2.1 (o.foldl (eT c s) x).2.1
 | [], x => mL _
 | y :: r, x => by
  rw [List.foldl_cons];have h : jd x.2.1 (eT c s x y).2.1 := ⟨fun b hb => fY.2 (.inl hb), fun v hv => kY.2 (.inl hv)⟩;exact k5 h<|uT c s r _
theorem wj {c : Cf} {n : Nd} {inp : Vw} {o : List Of} (hf : k8 c n inp o) (hm : fd c n.V) (hi : nO c n.In) : nO c (cz c n inp o).1.In := by
 have hin : nO c (j6 c n inp) := cY hi (vS c inp);rcases (kj hf).2 with ⟨-, e⟩ | ⟨-, -, e⟩ | ⟨-, -, e⟩ | ⟨-, -, cu, e⟩
 ·rw [e]; exact hi
 ·rw [e];unfold cD;split
  ·exact lN hm
  ·exact hin
 ·rw [e];have hfo := pY c (aI n) (fA c n o).1 (n.V, j6 c n inp, (fA c n o).2) hm hin;unfold dF;split
  ·rename_i h;refine cY hfo ⟨fun b hb => (by cases hb), fun v hv => ?_⟩;rw [List.mem_singleton.1 hv];exact decide_eq_true h
  ·exact hfo
 ·rw [e]; exact lN hm
theorem Fs {c : Cf} {B C : List Bk} {b : Bk} (h1 : bE B) (h2 : bE C) (hs : ∀ b ∈ B, b ∈ C) (hb : mayB c b = true) (hg : cp B b = true) : (∃ s, aP C b.Parent = some s ∧ s ≥ b.Slot) ∨ ∃ y ∈ C, nm y = nm b := by
 unfold cp at hg;rw [Bool.or_eq_true] at hg;rcases hg with hg | hg
 ·obtain ⟨s, e⟩ := Option.isSome_iff_exists.1 hg;rcases nE e with ⟨e0, -⟩ | ⟨-, y, hy, e1, -⟩
  ·exact absurd e0 (of_decide_eq_true hb).2.2
  ·exact .inr ⟨y, hs y hy, e1⟩
 ·cases hq : aP B b.Parent with
  | none => rw [hq] at hg; cases hg
  | some s => rw [hq] at hg; exact .inl ⟨s, rz h1 h2 hs hq, of_decide_eq_true hg⟩
theorem Ft {B C : List Bk} {V W : List Vt} {v : Vt} (h1 : bE B) (h2 : bE C) (hs : ∀ b ∈ B, b ∈ C) (hv : ∀ v ∈ V, v ∈ W) (hg : cB B V v = true) : v ∈ W ∨ ∃ s, aP C v.Head = some s ∧ s > v.Slot := by
 unfold cB at hg;rw [Bool.or_eq_true] at hg;rcases hg with hg | hg
 ·exact .inl<|hv v<|of_decide_eq_true hg
 ·cases hq : aP B v.Head with
  | none => rw [hq] at hg; cases hg
  | some s => rw [hq] at hg; exact .inr ⟨s, rz h1 h2 hs hq, of_decide_eq_true hg⟩
theorem yf {c : Cf} {v w : Vw} (h : jE c v w) : jd v w := by
 obtain ⟨-, h1, h2⟩ := h;exact ⟨fun b hb => List.mem_of_mem_take (by rw [h1]; exact hb), fun b hb => List.mem_of_mem_take (by rw [h2]; exact hb)⟩
theorem uR {c : Cf} {n : Nd} {inp : Vw} {o : List Of} (hf : k8 c n inp o) (hm : fd c n.V) (hid : ea c n = false) :
  (∀ b ∈ (j6 c n inp).B, mayB c b = true → wX (cz c n inp o).1 b) ∧ ∀ v ∈ (j6 c n inp).V, mayV c v = true → oy (cz c n inp o).1 v := by
 have ht := wm hm (j6 c n inp) (aI n)
 have key : ∀ (x : Nd), jE c (aE c n.V (j6 c n inp) (aI n)).1 x.V → x.In = (aE c n.V (j6 c n inp) (aI n)).2.1 →
   (∀ b ∈ (j6 c n inp).B, mayB c b = true → wX x b) ∧ ∀ v ∈ (j6 c n inp).V, mayV c v = true → oy x v := by
  intro x hk hin;have hs := yf hk;refine ⟨fun b hb hmb => ?_, fun v hv hmv => ?_⟩
  ·rcases ht.allB b (List.mem_filter.2 ⟨hb, hmb⟩) with h | h
   ·exact .inl<|.inr (by rw [hin]; exact h)
   ·exact .inr<|Fs ht.may.valid hk.1.valid hs.1 hmb h
  ·rcases ht.allV v (List.mem_filter.2 ⟨hv, hmv⟩) with h | h
   ·exact .inl<|.inr (by rw [hin]; exact h)
   ·rcases Ft ht.may.valid hk.1.valid hs.1 hs.2 h with h2 | h2
    ·exact .inl<|.inl h2
    ·exact .inr h2
 rcases (kj hf).2 with ⟨h, -⟩ | ⟨-, -, e⟩ | ⟨-, -, e⟩ | ⟨-, -, cu, e⟩
 ·rw [hid] at h; cases h
 ·rw [e];by_cases h : n.No = n7 c (aI n)
  ·refine key _ ?_ ?_
   ·unfold cD;rw [if_pos (show (cq c n inp o).No = n7 c (aI n) from h)];exact dL ht.may _ _
   ·unfold cD;rw [if_pos (show (cq c n inp o).No = n7 c (aI n) from h)];rfl
  ·unfold cD;rw [if_neg (show (cq c n inp o).No ≠ n7 c (aI n) from h)];exact ⟨fun b hb _ => .inl (.inr hb), fun v hv _ => .inl (.inr hv)⟩
 ·rw [e];have hs := uT c (aI n) (fA c n o).1 (n.V, j6 c n inp, (fA c n o).2);unfold dF;split
  ·exact ⟨fun b hb _ => .inl (.inr (fY.2 (.inl (hs.1 b hb)))), fun v hv _ => .inl (.inr (kY.2 (.inl (hs.2 v hv))))⟩
  ·exact ⟨fun b hb _ => .inl (.inr (hs.1 b hb)), fun v hv _ => .inl (.inr (hs.2 v hv))⟩
 ·rw [e];exact key _ (jj ht.may) Z
theorem rp {c : Cf} {bad : List Int} {l : List Ac} (hb : DJ c bad l) : ∀ k, k ≤ 15 → ∀ n ∈ (ic (np c bad) l k).N, nO c n.In
 | 0, _ => fun n hn => by
  obtain ⟨i, -, h⟩ := List.mem_map.1 hn;subst h;exact jY
 | k + 1, hk => by
  have ih := rp hb k (by omega);have hR := pn (bad := bad) hb.may hb.w (by have := hb.bad; omega) hb.acts k (by omega);have hal := kR hb.len hb.acts.each;have r1 := hR.B;have r2 := hR.V;have e1 : (ic (np c bad) l k).C = c := hR.conf;intro x hx;have hi := qk hR.time;obtain ⟨j, hj, e⟩ := List.getElem_of_mem hx;have h1 : (hY (ic (np c bad) l k) l).N[j]? = some x := List.getElem?_eq_some_iff.2 ⟨hj, e⟩;rw [mc hi] at h1
  cases hn : (ic (np c bad) l k).N[j]? with
  | none => rw [hn] at h1; cases h1
  | some n =>
   rw [hn] at h1;have e2 := Option.some.inj h1;subst e2;have hm := List.mem_of_getElem? hn;have hf := Dq hR.ok ⟨by omega, by omega⟩ hb.acts hR.sub hn;rw [e1] at hf ⊢;exact wj hf (by have := (hR.ok.nodes n hm).may; rw [e1] at this; exact this) (ih n hm)
theorem Dw {α β : Type} {f : α → β} {l : List α} (h : (l.map f).Nodup) {a b : α} (ha : a ∈ l) (hb : b ∈ l) (e : f a = f b) : a = b := by
 obtain ⟨i, hi⟩ := List.getElem?_of_mem ha;obtain ⟨j, hj⟩ := List.getElem?_of_mem hb
 have h1 : (l.map f)[i]? = some (f a) := by rw [List.getElem?_map, hi]; rfl
 have h2 : (l.map f)[j]? = some (f a) := by rw [List.getElem?_map, hj, e]; rfl
 have h3 := yo h h1 h2;subst h3;rw [hi] at hj;exact Option.some.inj hj
theorem oH {α : Type} [DecidableEq α] (l : List α) (x : α) : ((bA l [x]).length = l.length) ↔ x ∈ l := by
 unfold bA bA;by_cases h : x ∈ l <;> simp [h]
theorem qa {B : List Bk} (h : bE B) {id : ID} {s : Int} (hq : aP B id = some s) : eU B id = (s, true) := by
 unfold bE at h;obtain ⟨m, hm⟩ := Option.isSome_iff_exists.1 h;rw [rx hm, hq]
theorem BV {v : Vw} {w' : Wd} {n : Nd} {i : Nat} (hn : w'.N[i]? = some n) (hv : v.B.length ≤ 1000) (hk : jc 500 n) (hval : bE n.V.B) (h : ∀ b ∈ v.B, IM n b ∨ ∃ s, aP n.V.B b.Parent = some s ∧ s ≥ b.Slot) :
  iter (iA w' v (bF.mk (i : Int)) (aV n)) bG (dp.mk 0) = some (.inl (dp.mk (v.B.length : Int))) := by
 have hkl := kX hk
 have e := ay (step := iA w' v (bF.mk (i : Int)) (aV n)) (n := v.B.length) (fun k => dp.mk (k : Int)) (.inl (dp.mk (v.B.length : Int))) (fun k hk => by
  obtain ⟨y, hy, hm⟩ := aA hk;unfold iA;simp only;rw [decide_eq_true (show (k : Int) < (v.B.length : Int) by omega), ct, aB hy, ob, aB hn, ob, Aw, ob, rM (by simp only [List.length_singleton]; omega) (by simp only [List.length_nil]; omega), ob, ak (n := k) (by omega)];have hj : (bx (aV n) ⟨[y], []⟩).B = bA (aV n).B [y] := rfl;rw [hj];by_cases hin : y ∈ (aV n).B
  ·rw [(oH _ _).2 hin, beq_self_eq_true, Bool.not_true, cf]
  ·rw [show (((bA (aV n).B [y]).length : Int) == ((aV n).B.length : Int)) = false from beq_eq_false_iff_ne.2 fun e => hin ((oH _ _).1 (by omega)), Bool.not_false, ct];rcases h y hm with h1 | ⟨s, h1, h2⟩
   ·exact absurd (lO.2 h1) hin
   ·rw [qa hval h1];show (bif true then _ else _) = _
    rw [ct, decide_eq_true h2, Bool.not_true, cf]) (by
  unfold iA;simp only
  rw [decide_eq_false (show ¬ (v.B.length : Int) < (v.B.length : Int) by omega), cf]) (by omega)
 exact e
theorem BW {v : Vw} {w' : Wd} {n : Nd} {i : Nat} (hn : w'.N[i]? = some n) (hv : v.V.length ≤ 1000) (hk : jc 500 n) (hval : bE n.V.B) (h : ∀ b ∈ v.V, oy n b) :
  iter (iB w' v (bF.mk (i : Int)) (aV n)) bG (dq.mk 0) = some (.inl (dq.mk (v.V.length : Int))) := by
 have hkl := kX hk
 have e := ay (step := iB w' v (bF.mk (i : Int)) (aV n)) (n := v.V.length) (fun k => dq.mk (k : Int)) (.inl (dq.mk (v.V.length : Int))) (fun k hk => by
  obtain ⟨y, hy, hm⟩ := aA hk;unfold iB;simp only;rw [decide_eq_true (show (k : Int) < (v.V.length : Int) by omega), ct, aB hy, ob, aB hn, ob, Aw, ob, rM (by simp only [List.length_nil]; omega) (by simp only [List.length_singleton]; omega), ob, ak (n := k) (by omega)];have hj : (bx (aV n) ⟨[], [y]⟩).V = bA (aV n).V [y] := rfl;rw [hj];by_cases hin : y ∈ (aV n).V
  ·rw [(oH _ _).2 hin, beq_self_eq_true, Bool.not_true, cf]
  ·rw [show (((bA (aV n).V [y]).length : Int) == ((aV n).V.length : Int)) = false from beq_eq_false_iff_ne.2 fun e => hin ((oH _ _).1 (by omega)), Bool.not_false, ct];rcases h y hm with h1 | ⟨s, h1, h2⟩
   ·exact absurd (p0.2 h1) hin
   ·rw [qa hval h1];show (bif true then _ else _) = _
    rw [ct, decide_eq_true h2, Bool.not_true, cf]) (by
  unfold iB;simp only
  rw [decide_eq_false (show ¬ (v.V.length : Int) < (v.V.length : Int) by omega), cf]) (by omega)
 exact e
theorem uB (ha : sZ = some true) (c : Cf) (bad : List Int) (l : List Ac) (t : Int) : wS c bad l t = some true := by
 unfold wS;rw [ha, ob];rcases Ar c bad l with e | ⟨e, hb⟩
 ·rw [e, ob, Bool.not_true, cf, Bool.not_false, ct, ob, ct]
 rw [e, ob, Bool.not_true, cf, cf];by_cases h1 : t < 0
 ·rw [decide_eq_true h1, ct, ob, ct]
 rw [decide_eq_false h1, cf];by_cases h2 : t > 12
 ·rw [decide_eq_true h2, ob, ct]
 rw [decide_eq_false h2, ob, cf];have hbb := hb.bad;have hR := pn (bad := bad) hb.may hb.w (by omega) hb.acts t.toNat (by omega);have hal := kR hb.len hb.acts.each;have hfit := Dz (by omega) (by omega) (by omega) hR;have hMI := rp (bad := bad) hb t.toNat (by omega);have r1 := hR.B;have r2 := hR.V;have hok := hR.ok;have htm := hR.time;have hC := hR.conf;rw [Ao hb.may (by omega), ob, x5 hb.may hb.w (by omega) hb.acts (by omega), ob];generalize qH (gS l) (np c bad) l t.toNat = U at r1 r2 hok;generalize ic (np c bad) l t.toNat = w at hfit hMI hok htm hC ⊢;have hC' : w.C = c := hC;have hU : EM U := ⟨by omega, by omega⟩;have hl0 : l8 ([] : List Ac) := ⟨by simp, fun a ha => by cases ha⟩;have hs0 : jd (gS []) U := ⟨fun b hb => (by cases hb), fun v hv => (by cases hv)⟩;have hdo := A9 hok hU hl0 hs0;have hi := qk htm;rw [hdo.1, ob];have hN := hfit.n;have hn' := uw (U := U) hok.len ([] : List Ac);have hfit' : tq (hY w []) := oL hdo.2 ⟨by omega, by omega⟩;have hN' := hfit'.n;have ha1 := mV (l := w.N) (by omega) hfit.nodes;have ha2 := mV (l := (hY w []).N) (by omega) hfit'.nodes;have l1 := rT hfit;have l2 := rT hfit';unfold ft at l1 l2;have hallU : dW (· ∈ U.B) (· ∈ U.V) (dv w.N ⟨[], []⟩) := rS jY fun n hn => (hok.nodes n hn).all;have hnd := m5 (l := w.N) (w := ⟨[], []⟩) List.nodup_nil List.nodup_nil;have k1 := cZ hnd.1 hallU.1;have k2 := cZ hnd.2 hallU.2;rw [ha1, ob, Ai (by omega), ob]
 cases hfull : (hY w []).N.any Nd.Full with
 | true => rw [ct, ob, ct]
 | false =>
  have hjl := nh (dv w.N ⟨[], []⟩) (dv (hY w []).N ⟨[], []⟩);rw [cf, ha2, ob, rM (by omega) (by omega), ob, Aj (by omega), ob]
  cases hcl : rU (bx (dv w.N ⟨[], []⟩) (dv (hY w []).N ⟨[], []⟩)).B with
  | true => rw [ob, ct]
  | false =>
   rw [ob, cf]
   have hnames : ((0, 0) :: (bx (dv w.N ⟨[], []⟩) (dv (hY w []).N ⟨[], []⟩)).B.map nm).Nodup := by
    unfold rU at hcl;exact Decidable.not_not.1<|of_decide_eq_false hcl
   have hnames2 := (List.nodup_cons.1 hnames).2
   -- what is so of each node
   have main : ∀ (i : Nat) (n : Nd), (hY w []).N[i]? = some n → (∀ b ∈ (dv w.N ⟨[], []⟩).B, IM n b ∨ ∃ s, aP n.V.B b.Parent = some s ∧ s ≥ b.Slot) ∧ ∀ v ∈ (dv w.N ⟨[], []⟩).V, oy n v := by
    intro i n hn;have hn0 := hn;rw [mc hi] at hn
    cases hm : w.N[i]? with
    | none => rw [hm] at hn; cases hn
    | some m =>
     rw [hm] at hn;have e2 : (cz w.C m (bR w [] i).1 (bR w [] i).2).1 = n := Option.some.inj hn;have hmm := List.mem_of_getElem? hm;have hf := Dq hok hU hl0 hs0 hm;have hmay := (hok.nodes m hmm).may;have hsp := uR hf hmay (uU htm hmm);rw [e2] at hsp;have hcome : (bR w [] i).1 = dv w.N ⟨[], []⟩ := rfl
     have hmB : ∀ b ∈ (dv w.N ⟨[], []⟩).B, mayB w.C b = true := fun b hb => by
      rcases pZ.1 hb with h | ⟨q, hq, h⟩
      ·cases h
      ·rcases lO.1 h with h | h
       ·exact (hok.nodes q hq).may.mayB b h
       ·rw [hC']; exact (hMI q hq).1 b h
     have hmV : ∀ v ∈ (dv w.N ⟨[], []⟩).V, mayV w.C v = true := fun v hv => by
      rcases uo.1 hv with h | ⟨q, hq, h⟩
      ·cases h
      ·rcases p0.1 h with h | h
       ·exact (hok.nodes q hq).may.mayV v h
       ·rw [hC']; exact (hMI q hq).2 v h
     refine ⟨fun b hb => ?_, fun v hv => ?_⟩
     ·have hb2 : b ∈ (j6 w.C m (bR w [] i).1).B := fY.2 (.inr (List.mem_filter.2 ⟨by rw [hcome]; exact hb, hmB b hb⟩));rcases hsp.1 b hb2 (hmB b hb) with h | h | ⟨y, hy, e3⟩
      ·exact .inl h
      ·exact .inr h
      ·have hy2 : y ∈ (dv (hY w []).N ⟨[], []⟩).B := pZ.2 (.inr ⟨n, List.mem_of_getElem? hn0, lO.2 (.inl hy)⟩);have := Dw hnames2 (fY.2 (.inr hy2)) (fY.2 (.inl hb)) e3;subst this;exact .inl<|.inl hy
     ·have hv2 : v ∈ (j6 w.C m (bR w [] i).1).V := kY.2 (.inr (List.mem_filter.2 ⟨by rw [hcome]; exact hv, hmV v hv⟩));exact hsp.2 v hv2<|hmV v hv
   have hval : ∀ n ∈ (hY w []).N, bE n.V.B := fun n hn => (hdo.2.nodes n hn).may.valid;generalize (hY w []) = w' at hfit' hN' main hval ⊢;generalize dv w.N ⟨[], []⟩ = v at k1 k2 main ⊢
   have e := ay (step := iz w' v) (n := w'.N.length) (fun k => bF.mk (k : Int)) (.inl (bF.mk (w'.N.length : Int))) (fun k hk => by
    obtain ⟨y, hy, hm⟩ := aA hk;obtain ⟨m1, m2⟩ := main k y hy;unfold iz;simp only
    rw [decide_eq_true (show (k : Int) < (w'.N.length : Int) by omega), ct, aB hy, ob, sG (hfit'.nodes y hm) (by omega), ob, BV hy (by omega) (hfit'.nodes y hm) (hval y hm) m1, ob, sl, BW hy (by omega) (hfit'.nodes y hm) (hval y hm) m2, ob, sl, ak (n := k) (by omega)]) (by
    unfold iz;simp only
    rw [decide_eq_false (show ¬ (w'.N.length : Int) < (w'.N.length : Int) by omega), cf]) (by omega)
   have e' : iter (iz w' v) bG (bF.mk 0) = _ := e;rw [e', ob];rfl
def II (a : Ac) : Prop := aU .i64 a.Tick ∧ aU .i64 a.To ∧ (∀ b ∈ a.B, FV b) ∧ ∀ v ∈ a.V, Ge v
theorem HA {p : PV} (h : oz (.agg [.int .i64, .int .i64, .bool, .slice 5 (.agg [.int .i64, .int .i64, .int .u64, .int .u64, .int .u64]), .slice 4 (.agg [.int .i64, .int .i64, .int .u64, .int .u64])]) p) : ∃ a : Ac, p = nP a ∧ II a := by
 cases h with | agg h =>
 cases h with | cons a1 h => cases h with | cons a2 h => cases h with | cons a3 h => cases h with | cons a4 h => cases h with | cons a5 h =>
  cases h;obtain ⟨x, rfl, hx⟩ := mm (fun _ h => HB h) a4;obtain ⟨y, rfl, hy⟩ := mm (fun _ h => HE h) a5;cases a1; cases a2; cases a3;exact ⟨⟨_, _, _, x, y⟩, rfl, by assumption, by assumption, hx, hy⟩
end Go.Mg
namespace Go.Proofs.YtbjmcafamkdokaaGreat
def io : List Nat := [104, 97, 114, 110, 101, 115, 115, 32, 51, 101, 97, 51, 57, 55, 99, 53, 56, 97, 55, 50, 48, 55, 49, 52, 99, 98, 101, 48, 97, 97, 50, 55, 55, 53, 56, 98, 49, 49, 48, 102, 57, 99, 99, 98, 48, 49, 99, 51, 48, 97, 49, 50, 97, 99, 97, 54, 50, 53, 52, 56, 51, 100, 97, 54, 56, 97, 98, 97, 51, 98, 50, 52, 32, 99, 117, 116, 32, 97, 116, 32, 109, 97, 114, 105, 103, 111, 108, 100, 47, 109, 97, 114, 105, 103, 111, 108, 100, 116, 111, 112, 46, 84, 111, 112, 65, 103, 114, 101, 101, 32, 109, 97, 114, 105, 103, 111, 108, 100, 47, 109, 97, 114, 105, 103, 111, 108, 100, 116, 111, 112, 46, 84, 111, 112, 83, 117, 114, 101, 32, 109, 97, 114, 105, 103, 111, 108, 100, 47, 109, 97, 114, 105, 103, 111, 108, 100, 116, 111, 112, 46, 84, 111, 112, 78, 101, 118, 101, 114, 32, 109, 97, 114, 105, 103, 111, 108, 100, 47, 109, 97, 114, 105, 103, 111, 108, 100, 108, 97, 119, 50, 48, 46, 80, 108, 97, 121, 72, 111, 110, 101, 115, 116, 32, 109, 97, 114, 105, 103, 111, 108, 100, 47, 109, 97, 114, 105, 103, 111, 108, 100, 108, 97, 119, 50, 48, 46, 80, 108, 97, 121, 80, 97, 114, 116, 115, 32, 109, 97, 114, 105, 103, 111, 108, 100, 47, 109, 97, 114, 105, 103, 111, 108, 100, 108, 97, 119, 50, 48, 46, 80, 108, 97, 121, 81, 117, 105, 101, 116, 32, 109, 97, 114, 105, 103, 111, 108, 100, 47, 109, 97, 114, 105, 103, 111, 108, 100, 108, 97, 119, 50, 48, 46, 80, 108, 97, 121, 79, 116, 104, 101, 114, 32, 109, 97, 114, 105, 103, 111, 108, 100, 47, 109, 97, 114, 105, 103, 111, 108, 100, 108, 97, 119, 50, 48, 46, 80, 108, 97, 121, 78, 111, 100, 101, 115, 32, 109, 97, 114, 105, 103, 111, 108, 100, 47, 109, 97, 114, 105, 103, 111, 108, 100, 108, 97, 119, 50, 48, 46, 80, 108, 97, 121, 83, 112, 114, 101, 97, 100, 115, 32, 109, 97, 114, 105, 103, 111, 108, 100, 47, 109, 97, 114, 105, 103, 111, 108, 100, 108, 97, 119, 50, 49, 46, 65, 117, 100, 105, 116, 83, 101, 101, 110, 32, 109, 97, 114, 105, 103, 111, 108, 100, 47, 109, 97, 114, 105, 103, 111, 108, 100, 108, 97, 119, 50, 49, 46, 65, 117, 100, 105, 116, 72, 111, 108, 100, 115]
theorem Js : Tryz.prog.initOrder = String.ofList (io.map Char.ofNat) := by kernel_rfl
theorem Fu : Tryz.prog.initOrder.toList = io.map Char.ofNat := by rw [Js, String.toList_ofList]
def ws : List (List Nat) := [[99, 117, 116], [97, 116], [109, 97, 114, 105, 103, 111, 108, 100, 47, 109, 97, 114, 105, 103, 111, 108, 100, 116, 111, 112, 46, 84, 111, 112, 65, 103, 114, 101, 101], [109, 97, 114, 105, 103, 111, 108, 100, 47, 109, 97, 114, 105, 103, 111, 108, 100, 116, 111, 112, 46, 84, 111, 112, 83, 117, 114, 101], [109, 97, 114, 105, 103, 111, 108, 100, 47, 109, 97, 114, 105, 103, 111, 108, 100, 116, 111, 112, 46, 84, 111, 112, 78, 101, 118, 101, 114], [109, 97, 114, 105, 103, 111, 108, 100, 47, 109, 97, 114, 105, 103, 111, 108, 100, 108, 97, 119, 50, 48, 46, 80, 108, 97, 121, 72, 111, 110, 101, 115, 116], [109, 97, 114, 105, 103, 111, 108, 100, 47, 109, 97, 114, 105, 103, 111, 108, 100, 108, 97, 119, 50, 48, 46, 80, 108, 97, 121, 80, 97, 114, 116, 115], [109, 97, 114, 105, 103, 111, 108, 100, 47, 109, 97, 114, 105, 103, 111, 108, 100, 108, 97, 119, 50, 48, 46, 80, 108, 97, 121, 81, 117, 105, 101, 116], [109, 97, 114, 105, 103, 111, 108, 100, 47, 109, 97, 114, 105, 103, 111, 108, 100, 108, 97, 119, 50, 48, 46, 80, 108, 97, 121, 79, 116, 104, 101, 114], [109, 97, 114, 105, 103, 111, 108, 100, 47, 109, 97, 114, 105, 103, 111, 108, 100, 108, 97, 119, 50, 48, 46, 80, 108, 97, 121, 78, 111, 100, 101, 115], [109, 97, 114, 105, 103, 111, 108, 100, 47, 109, 97, 114, 105, 103, 111, 108, 100, 108, 97, 119, 50, 48, 46, 80, 108, 97, 121, 83, 112, 114, 101, 97, 100, 115], [109, 97, 114, 105, 103, 111, 108, 100, 47, 109, 97, 114, 105, 103, 111, 108, 100, 108, 97, 119, 50, 49, 46, 65, 117, 100, 105, 116, 83, 101, 101, 110], [109, 97, 114, 105, 103, 111, 108, 100, 47, 109, 97, 114, 105, 103, 111, 108, 100, 108, 97, 119, 50, 49, 46, 65, 117, 100, 105, 116, 72, 111, 108, 100, 115]]
theorem Ci : behindMainWord (wordsSigns Tryz.prog.initOrder.toList) = ws.map (List.map Char.ofNat) := by
 rw [Fu]
 kernel_rfl
theorem HU : stripLifts liftWords (ws.map (List.map Char.ofNat)) = ([], ws.map (List.map Char.ofNat)) := by kernel_rfl
theorem HR : Tryz.prog.doorRows = [] := by kernel_rfl
theorem Jt : Tryz.prog.laysLater = false := by kernel_rfl
theorem HP : Tryz.prog.bearsReflect = false := by kernel_rfl
theorem D6 : (ws.map (List.map Char.ofNat)).head? = some "cut".toList := by kernel_rfl
theorem Fn (P : Program) (W : List (List Char)) (hW : behindMainWord (wordsSigns P.initOrder.toList) = W) (hs : stripLifts liftWords W = ([], W)) (hh : W.head? = some "cut".toList) (hr : P.doorRows = []) (hl : P.laysLater = false) (hb : P.bearsReflect = false) : P.mayEnter = true := by
 unfold Program.mayEnter;rw [hW]
 cases W with
 | nil => cases hh
 | cons c r =>
  simp only [hs, hh, hl, hb, Program.doorFits, hr];simp
theorem mayEnter : Tryz.prog.mayEnter = true := Fn Tryz.prog _ Ci HU D6 HR Jt HP
theorem own : ownKnob Tryz.prog.godebug = none := by kernel_rfl
theorem xn : laidOutB Tryz.prog = true := by kernel_rfl
theorem HQ : mapsRowed Tryz.prog = true := by kernel_rfl
theorem Hx : Tryz.prog.stopsHeard = true := by kernel_rfl
theorem Dv (P : Program) (W : List (List Char)) (hW : behindMainWord (wordsSigns P.initOrder.toList) = W) (hh : W.head? = some "cut".toList) : P.make = some .cut := by
 unfold Program.make;rw [hW]
 cases W with
 | nil => cases hh
 | cons c r =>
  have e : c = "cut".toList := by simpa using hh
  subst e;show (if _ then _ else _) = _;rw [if_neg (by decide), if_pos (by simp)]
theorem HK : Tryz.prog.make = some .cut := Dv Tryz.prog _ Ci D6
theorem HI : Tryz.prog.liftsFinal = false := by
 unfold Program.liftsFinal Program.headLifts;rw [Ci]
 kernel_rfl
end Go.Proofs.YtbjmcafamkdokaaGreat
