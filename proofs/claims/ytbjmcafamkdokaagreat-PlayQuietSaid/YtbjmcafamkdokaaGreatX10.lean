/- The votes of a committee, and the head by them, plain. Products compared, plain. A node behind a tick, plain. A node behind a tick, plain: the phases. A node behind a tick, plain: the whole. NodeKnown, plain. NodeKeeps, plain. What a node is behind a tick: what it has, how much that is. A world behind a tick, plain. Worlds that go on, plain. Worlds that go on: what is so of them goes on. A world that begins; what is begun; worlds that are the same. PlayQuiet, plain. What arguments are: offers, nodes. What arguments are: acts. How the program's own line of words reads, letter by letter; facts of the whole program that each row asks for. Conditions: none. -/
import Derived.Test.YtbjmcafamkdokaaGreatX6
import Derived.Test.YtbjmcafamkdokaaGreatX9
import Derived.Test.YtbjmcafamkdokaaGreatX7
import Derived.Test.YtbjmcafamkdokaaGreatX8
import Derived.Test.YtbjmcafamkdokaaGreatRows
import Derived.ProofKit
import Derived.OpenShut
namespace Go.Mg
theorem yc {l : List Int} (hl : l.length ≤ 100000) (v : Int) : rX l v = some (decide (v ∈ l)) := by
 have e := dA (step := hZ l v) (n := l.length) (fun k => dN.mk (k : Int)) (eS l v) (fun j hj => by
  obtain ⟨y, hy, -⟩ := aA hj;unfold hZ eS;simp only;rw [decide_eq_true (show (j : Int) < (l.length : Int) by omega), ct, aC hy, ob, ak (n := j) (by omega), hy];by_cases h : v = y
  ·rw [beq_iff_eq.2 h, ct, if_pos (by rw [h])]
  ·rw [beq_eq_false_iff_ne.2 h, cf, if_neg (fun e => h (Option.some.inj e).symm)]) (by
  unfold hZ;simp only
  rw [decide_eq_false (show ¬ (l.length : Int) < (l.length : Int) by omega), cf]) (by omega)
 unfold rX vF;rw [← jR];have e' : iter (hZ l v) bE (dN.mk 0) = some (iH (dN.mk (l.length : Int)) (bO (eS l v) 0 l.length)) := e;rw [e', ob]
 cases h : bO (eS l v) 0 l.length with
 | none => rw [iH, sl, ob]; rfl
 | some r => rw [iH, sr, ob, decide_eq_true (pd h)]; rfl
def uk (cm : List Int) (v : Vt) : Bool := decide (v.From ∈ cm)
theorem rW {cm : List Int} (hl : cm.length ≤ 100000) (v : Vt) : p8 cm v = some (!uk cm v) := by
 unfold p8;rw [yc hl, ob];rfl
theorem yz {l : List Vt} {cm : List Int} (hc : cm.length ≤ 100000) (hl : l.length ≤ 100000) :
  ∃ i, sd l l.length cm = some i ∧ ((i = -1 ∧ l.filter (uk cm) = l) ∨ ∃ j : Nat, i = j ∧ j < l.length ∧ (l.take (j + 1)).filter (uk cm) = l.take j) := by
 unfold sd
 have key := df (step := ib l l.length cm) (fun x => ∃ j : Nat, j ≤ l.length ∧ x.t8 = j ∧ (l.take j).filter (uk cm) = l.take j) (fun x => l.length - x.t8.toNat)
  (fun b => (∃ x, b = .inl x ∧ l.filter (uk cm) = l) ∨ ∃ j : Nat, b = .inr (j : Int) ∧ j < l.length ∧ (l.take (j + 1)).filter (uk cm) = l.take j) (by
   rintro ⟨t⟩ ⟨j, hj, h1, h2⟩;simp only at h1 h2;subst h1;by_cases hlt : j < l.length
   ·obtain ⟨y, hy, -⟩ := aA hlt;have hsn := bI (p := uk cm) hy
    have hstep : ib l l.length cm ⟨(j : Int)⟩ = bif !uk cm y then some (.inr (.inr (j : Int))) else some (.inl ⟨((j + 1 : Nat) : Int)⟩) := by
     unfold ib;simp only;rw [decide_eq_true (show (j : Int) < (l.length : Int) by omega), ct, List.take_length, aC hy, ob, rW hc, ob, ak (n := j) (by omega)]
    rw [h2] at hsn
    cases hp : uk cm y with
    | true =>
     rw [hp, Bool.not_true, cf] at hstep;rw [hp, ct] at hsn;exact .inl ⟨_, hstep, ⟨j + 1, by omega, rfl, by rw [hsn, fy hy]⟩, by simp only; omega⟩
    | false =>
     rw [hp, Bool.not_false, ct] at hstep;rw [hp, cf, List.append_nil] at hsn;exact .inr ⟨_, hstep, .inr ⟨j, rfl, hlt, hsn⟩⟩
   ·right
    obtain rfl : j = l.length := by omega
    refine ⟨.inl ⟨(l.length : Int)⟩, ?_, .inl ⟨_, rfl, ?_⟩⟩
    ·unfold ib;simp only;rw [decide_eq_false (show ¬ (l.length : Int) < (l.length : Int) by omega), cf]
    ·rw [List.take_length] at h2; exact h2) (n := bE) (x := ⟨0⟩) ⟨0, by omega, rfl, by simp⟩ (ec (by simp only; omega))
 obtain ⟨b, e, ⟨x, rfl, h1⟩ | ⟨j, rfl, h0, h1⟩⟩ := key
 ·exact ⟨-1, by rw [e, ob, sl], .inl ⟨rfl, h1⟩⟩
 ·exact ⟨j, by rw [e, ob, sr], .inr ⟨j, rfl, h0, h1⟩⟩
theorem yr {l : List Vt} {cm : List Int} (hc : cm.length ≤ 100000) (hl : l.length ≤ 100000) : ∃ k' l', sa l l.length cm = some (k', l') ∧ pZ l' k' (l.filter (uk cm)) := by
 obtain ⟨i, e0, h0⟩ := yz hc hl;unfold sa;rw [e0, ob];rcases h0 with ⟨rfl, hp⟩ | ⟨j0, rfl, hj0, hp⟩
 ·rw [hp, show ((-1 : Int) == -1) = true from rfl, ct];exact ⟨_, _, rfl, List.take_length, Nat.le_refl _⟩
 ·rw [show ((j0 : Int) == -1) = false by rw [beq_eq_false_iff_ne]; omega, cf, ak (n := j0) (by omega)]
  have key := df (step := ia l.length cm) (fun x => ∃ (i j : Nat), x.i = i ∧ x.j = j ∧ Mv l x.o1 i j ((l.take j).filter (uk cm))) (fun x => l.length - x.j.toNat)
   (fun x => ∃ i : Nat, x.i = i ∧ i ≤ l.length ∧ x.o1.take i = l.filter (uk cm) ∧ l.length ≤ x.o1.length) (by
   rintro ⟨i', j', a⟩ ⟨i, j, h1, h2, h5⟩;simp only at h1 h2 h5;subst h1 h2;have hij := h5.ij;have hjl := h5.jl;have hal := h5.len;by_cases hlt : j < l.length
   ·left;obtain ⟨y, hy, -⟩ := aA hlt
    have hya : (a.take l.length)[j]? = some y := by rw [List.getElem?_take_of_lt hlt, h5.rest j (Nat.le_refl _) (by omega), hy]
    obtain ⟨z, hz, -⟩ := aA (l := a.take l.length) (n := i) (by rw [List.length_take]; omega);have hsn := bI (p := uk cm) hy
    have hstep : ia l.length cm ⟨(i : Int), (j : Int), a⟩ = bif uk cm y then some (.inl ⟨((i + 1 : Nat) : Int), ((j + 1 : Nat) : Int), a.set i y⟩) else some (.inl ⟨(i : Int), ((j + 1 : Nat) : Int), a⟩) := by
     unfold ia;simp only;rw [decide_eq_true (show (j : Int) < (l.length : Int) by omega), ct, aC hya, ob, rW hc, ob, aC hz, ob, ak (n := j) (by omega), ak (n := i) (by omega), Int.toNat_natCast, Bool.not_not]
    cases hp : uk cm y with
    | false =>
     rw [hp, cf] at hstep;rw [hp, cf, List.append_nil] at hsn;refine ⟨_, hstep, ⟨i, j + 1, rfl, rfl, ?_⟩, by simp only; omega⟩;rw [hsn];exact h5.next_gone (by omega)
    | true =>
     rw [hp, ct] at hstep;rw [hp, ct] at hsn;refine ⟨_, hstep, ⟨i + 1, j + 1, rfl, rfl, ?_⟩, by simp only; omega⟩;rw [hsn];exact h5.next_stay (by omega) hy
   ·right
    have hjk : j = l.length := by omega
    have htl : l.take j = l := List.take_of_length_le (by omega);rw [htl] at h5;refine ⟨⟨(i : Int), (j : Int), a⟩, ?_, i, rfl, by omega, h5.left, by show l.length ≤ a.length; omega⟩;unfold ia;simp only
    rw [decide_eq_false (show ¬ (j : Int) < (l.length : Int) by omega), cf]) (n := bE) (x := ⟨(j0 : Int), ((j0 + 1 : Nat) : Int), l⟩)
   ⟨j0, j0 + 1, rfl, rfl, by
    rw [hp]
    exact ⟨by omega, by omega, Nat.le_refl _, rfl, fun q h1 h2 => rfl⟩⟩ (ec (by simp only; omega))
  obtain ⟨x, ex, i, hi, hik, h2, h3⟩ := key;rw [ex, ob, hi, decide_eq_true (show 0 ≤ (i : Int) ∧ (i : Int) ≤ (l.length : Int) by omega), ct, Int.toNat_natCast, decide_eq_true (show i + (l.length - i) ≤ x.o1.length by omega), ct, ct];exact ⟨_, _, rfl, rg hik h3 h2⟩
def eN (c : Cf) (v : List Vt) (slot : Int) : List Vt := (EP v slot).filter (uk (oL c slot))
theorem A2 (v : List Vt) (slot : Int) : (EP v slot).length ≤ v.length := by
 unfold EP;rw [(bW _).length_eq];exact Nat.le_trans (List.length_filterMap_le _ _) (qt v).2
theorem tt (c : Cf) (v : List Vt) (slot : Int) : (eN c v slot).length ≤ v.length := Nat.le_trans (List.length_filter_le _ _) (A2 v slot)
theorem rV {v : List Vt} (hv : v.length ≤ 90000) (c : Cf) (slot : Int) : p7 c v slot = some (eN c v slot) := by
 have hl := A2 v slot;have hc := uK c slot;obtain ⟨k', l', e, hp⟩ := yr (l := EP v slot) (cm := oL c slot) (by omega) (by omega);unfold p7 Ce;rw [show Nat.ble v.length 90000 = true from Nat.ble_eq_true_of_le hv, ct, ob, uw, ob, List.length_map, e, ob];simp only;rw [show Nat.ble k' l'.length = true from Nat.ble_eq_true_of_le hp.le, ct, hp.take];rfl
theorem n7 {w : Vw} (h1 : w.B.length ≤ 1000) (h2 : w.V.length ≤ 1000) (c : Cf) (slot : Int) : jA c w slot = some (kM c w.B (eN c w.V slot)) := by
 have hg := tt c w.V slot;unfold jA;rw [rV (by omega), ob, DS h1 (by omega), ob]
theorem yb (n : Int) : rT n = some (decide (0 ≤ n ∧ n ≤ 4611686018427387904)) := by
 unfold rT;by_cases h : 0 ≤ n
 ·rw [decide_eq_true (show n ≥ 0 from h), ct]; congr 1; exact decide_eq_decide.2 ⟨fun h2 => ⟨h, h2⟩, fun h2 => h2.2⟩
 ·rw [decide_eq_false (show ¬ n ≥ 0 from h), cf, decide_eq_false fun h2 => h h2.1]
theorem Cc {l : List Int} (hl : l.length ≤ 1000) (h : ∀ x ∈ l, 0 ≤ x ∧ x ≤ 4611686018427387904) : rQ l = some true := by
 have e := az (step := kt l) (n := l.length) (fun k => fd.mk (k : Int)) (.inl (fd.mk (l.length : Int))) (fun k hk => by
  obtain ⟨y, hy, hm⟩ := aA hk;unfold kt vD;simp only
  rw [decide_eq_true (show (k : Int) < (l.length : Int) by omega), ct, aC hy, ob, yb, ob, ob, decide_eq_true (h y hm), Bool.not_true, cf, ak (n := k) (by omega)]) (by
  unfold kt;simp only
  rw [decide_eq_false (show ¬ (l.length : Int) < (l.length : Int) by omega), cf]) (by omega)
 have e' : iter (kt l) bE (fd.mk 0) = _ := e;unfold rQ HJ Cb;rw [e', ob, sl, ob, ob];rfl
theorem mA {x : Int} (h0 : 0 ≤ x) (h1 : x ≤ 18446744073709551615) : bits .and .u64 x 4294967295 = x % 4294967296 := by
 obtain ⟨n, rfl⟩ : ∃ n : Nat, x = n := ⟨x.toNat, by omega⟩;have e : bits .and .u64 (n : Int) 4294967295 = IntKind.u64.wrap ((BitVec.ofInt 64 (n : Int) &&& BitVec.ofInt 64 4294967295).toNat : Int) := rfl
 have e2 : (BitVec.ofInt 64 4294967295).toNat = 2 ^ 32 - 1 := by decide
 have e3 : (BitVec.ofInt 64 (n : Int)).toNat = n := by
  rw [BitVec.toNat_ofInt]; omega
 rw [e, BitVec.toNat_and, e2, e3, Nat.and_two_pow_sub_one_eq_mod, pS (by omega) (by omega)];omega
theorem ng {x y : Int} (hx : 0 ≤ x) (hx1 : x ≤ 26388279066624) (hy : 0 ≤ y) (hy1 : y ≤ 3000) : rU x y = some (0, x * y) := by
 have e : ∀ z, IntKind.u64.wrap z = z % 18446744073709551616 := fun z => rfl
 have hp : ((2 : Int) ^ (min (Int.toNat 32) IntKind.u64.bits)) = 4294967296 := by decide
 have hd : ∀ z : Int, z.fdiv 4294967296 = z / 4294967296 := fun z => Int.fdiv_eq_ediv_of_nonneg z (by omega)
 have h0 : y / 4294967296 = 0 := by omega
 have h1 : y % 4294967296 = y := by omega
 unfold rU;rw [hp, hd, hd, hd, hd, hd, mA (x := y) hy (by omega), mA (x := x) hx (by omega), h0, h1];have a1 : 0 ≤ x / 4294967296 * y := Int.mul_nonneg (by omega) hy;have a2 : x / 4294967296 * y ≤ 6144 * 3000 := Int.mul_le_mul (by omega) hy1 hy (by omega);have a3 : 0 ≤ x % 4294967296 * y := Int.mul_nonneg (by omega) hy;have a4 : x % 4294967296 * y ≤ 4294967295 * 3000 := Int.mul_le_mul (by omega) hy1 hy (by omega);have a5 : 0 ≤ x * y := Int.mul_nonneg hx hy;have a6 : x * y ≤ 26388279066624 * 3000 := Int.mul_le_mul hx1 hy1 hy (by omega);rw [Int.mul_zero, Int.mul_zero];generalize x / 4294967296 * y = q at a1 a2 ⊢;generalize x % 4294967296 * y = p at a3 a4 ⊢;generalize x * y = r at a5 a6 ⊢
 have ht : IntKind.u64.wrap (IntKind.u64.wrap q + IntKind.u64.wrap p / 4294967296) = q + p / 4294967296 := by simp only [e]; omega
 rw [ht, mA (by omega) (by omega)];refine congrArg some<|Prod.ext ?_ ?_
 ·simp only [e]; omega
 ·simp only [e]; omega
theorem x9 {a b c d : Int} (ha : 0 ≤ a ∧ a ≤ 26388279066624) (hb : 0 ≤ b ∧ b ≤ 3000) (hc : 0 ≤ c ∧ c ≤ 26388279066624) (hd : 0 ≤ d ∧ d ≤ 3000) : rO a b c d = some (decide (a * b > c * d)) := by
 unfold rO;rw [Cc (by simp) (by simp; omega), ob, Bool.not_true, cf];unfold rR;rw [pS ha.1 (by omega), pS hb.1 (by omega), pS hc.1 (by omega), pS hd.1 (by omega), ng ha.1 ha.2 hb.1 hb.2, ob, ob, ng hc.1 hc.2 hd.1 hd.2, ob, ob];simp only;rw [sc, ob];generalize a * b = x;generalize c * d = y;unfold iY;by_cases h : x = y
 ·subst h; simp
 ·have hb : (x == y) = false := beq_eq_false_iff_ne.2 h;by_cases h2 : x > y
  ·simp [hb, h2, show ¬ x < y by omega]
  ·simp [hb, h2, show x < y by omega]
def IL : Of := Of.mk 0 0 (Bk.mk 0 0 (0, 0) 0) (Vw.mk [] [])
theorem zE {n : Nat} (hn : n ≤ 1000) : sB (n : Int) = some (List.replicate n IL) := by
 have e : IntKind.i64.wrap ((n : Int) - (IntKind.i64.wrap (0 - 0))) = n := by
  rw [show IntKind.i64.wrap (0 - 0) = 0 from by decide, eA (by omega) (by omega)]; omega
 unfold sB;rw [decide_eq_false (show ¬ (n : Int) < 0 by omega), cf, e];by_cases h0 : (n : Int) > 0
 ·rw [decide_eq_true h0, ct, show xA (n : Int) 104 = true from decide_eq_true (by omega), ct];simp [IL]
 ·rw [decide_eq_false h0, cf]
  obtain rfl : n = 0 := by omega
  rfl
theorem yI {a b : List Of} (h : a.length + b.length ≤ 1000) : sh [a, b] = some (a ++ b) := by
 have e1 := az (step := fX [a, b]) (n := 2) (fun k => match k with | 0 => cZ.mk 0 0 | 1 => cZ.mk (a.length : Int) 1 | _ => cZ.mk ((a.length + b.length : Nat) : Int) 2) (cZ.mk ((a.length + b.length : Nat) : Int) 2) (fun k hk => by
  match k, hk with
  | 0, _ =>
   unfold fX;simp only;rw [decide_eq_true (show (0 : Int) < (([a, b] : List (List Of)).length : Int) by simp), ct, show ix [a, b] 0 = some a from rfl, ob, eA (by omega) (by omega), decide_eq_false (show ¬ (0 : Int) + (a.length : Int) < 0 by omega), cf, Int.zero_add];rfl
  | 1, _ =>
   unfold fX;simp only;rw [decide_eq_true (show (1 : Int) < (([a, b] : List (List Of)).length : Int) by simp), ct, show ix [a, b] 1 = some b from rfl, ob, eA (by omega) (by omega), decide_eq_false (show ¬ (a.length : Int) + (b.length : Int) < 0 by omega), cf, Int.natCast_add]
   rfl) (by
  unfold fX;simp only
  rw [decide_eq_false (show ¬ (2 : Int) < (([a, b] : List (List Of)).length : Int) by simp), cf]) (by omega)
 have e1' : iter (fX [a, b]) bE (cZ.mk 0 0) = _ := e1;obtain ⟨r, hr⟩ : ∃ r, r = List.replicate (a.length + b.length) IL := ⟨_, rfl⟩
 have hrl : r.length = a.length + b.length := by rw [hr]; simp
 have p1 : eQ r 0 a = a ++ r.drop a.length := by unfold eQ; simp
 have p1l : (eQ r 0 a).length = a.length + b.length := by rw [p1]; simp; omega
 have p2 : (eQ (eQ r 0 a) a.length b).take (a.length + b.length) = a ++ b := by
  have e : (eQ r 0 a).take a.length = a := by rw [p1, List.take_left']; rfl
  unfold eQ at e ⊢;rw [e, List.take_left'];simp
 have p2l : (eQ (eQ r 0 a) a.length b).length = a.length + b.length := by rw [tT (by rw [p1l]; omega), p1l]
 have e2 := az (step := fY [a, b]) (n := 2) (fun k => match k with | 0 => c8.mk 0 0 r | 1 => c8.mk a.length 1 (eQ r 0 a) | _ => c8.mk (a.length + b.length) 2 (eQ (eQ r 0 a) a.length b)) (c8.mk (a.length + b.length) 2 (eQ (eQ r 0 a) a.length b)) (fun k hk => by
  match k, hk with
  | 0, _ =>
   unfold fY;simp only;rw [decide_eq_true (show (0 : Int) < (([a, b] : List (List Of)).length : Int) by simp), ct, show ix [a, b] 0 = some a from rfl, ob, decide_eq_true (show 0 + a.length ≤ r.length by omega), ct, Nat.zero_add];rfl
  | 1, _ =>
   unfold fY;simp only;rw [decide_eq_true (show (1 : Int) < (([a, b] : List (List Of)).length : Int) by simp), ct, show ix [a, b] 1 = some b from rfl, ob, decide_eq_true (show a.length + b.length ≤ (eQ r 0 a).length by omega), ct]
   rfl) (by
  unfold fY;simp only
  rw [decide_eq_false (show ¬ (2 : Int) < (([a, b] : List (List Of)).length : Int) by simp), cf]) (by omega)
 have e2' : iter (fY [a, b]) bE (c8.mk 0 0 r) = _ := e2;unfold sh;rw [e1', ob];simp only;rw [zE h, ob, ← hr, e2', ob];simp only;rw [show Nat.ble (a.length + b.length) (eQ (eQ r 0 a) a.length b).length = true from Nat.ble_eq_true_of_le (by omega), ct, p2]
def kZ (o : Of) : Prop := o.V.B.length ≤ 1000 ∧ o.V.V.length ≤ 1000
theorem oa {v : Vw} (h1 : v.B.length ≤ 1000) (h2 : v.V.length ≤ 1000) : n9 v = some v := by
 unfold n9;rw [aK (by omega) (by omega), ct, aK (by omega) (by omega), ct]
theorem od {o : Of} (h : kZ o) : oc o = some o := by
 unfold oc;rw [oa h.1 h.2];rfl
def ER (t : Int) (c : Cf) (slot : Int) (o : Of) : Bool := decide (¬ t.tmod 3 = 2 ∧ o.Slot = slot ∧ o.From = pW c slot)
def j4 (t : Int) (c : Cf) (slot : Int) (s : List Of × Bool) (o : Of) : List Of × Bool := if ER t c slot o = true then (if s.1.length = 8 then (s.1, true) else (s.1 ++ [o], s.2)) else s
def iC (t : Int) (c : Cf) (slot : Int) (full : Bool) (l : List Of) : List Of × Bool := l.foldl (j4 t c slot) ([], full)
theorem xp (t : Int) (c : Cf) (slot : Int) (full : Bool) (l : List Of) (o : Of) : iC t c slot full (l ++ [o]) = j4 t c slot (iC t c slot full l) o := by unfold iC; rw [List.foldl_append]; rfl
theorem wx {t : Int} {c : Cf} {slot : Int} : ∀ (l : List Of) (s : List Of × Bool), s.1.length ≤ 8 → (l.foldl (j4 t c slot) s).1.length ≤ 8 ∧ (∀ o ∈ (l.foldl (j4 t c slot) s).1, o ∈ s.1 ∨ (o ∈ l ∧ ER t c slot o = true)) ∧ (s.2 = true → (l.foldl (j4 t c slot) s).2 = true)
 | [], s, h => ⟨h, fun o ho => .inl ho, id⟩
 | x :: r, s, h => by
  rw [List.foldl_cons]
  have hs : (j4 t c slot s x).1.length ≤ 8 ∧ (∀ o ∈ (j4 t c slot s x).1, o ∈ s.1 ∨ (o = x ∧ ER t c slot o = true)) ∧ (s.2 = true → (j4 t c slot s x).2 = true) := by
   unfold j4;split
   ·rename_i hk;split
    ·exact ⟨h, fun o ho => .inl ho, fun _ => rfl⟩
    ·refine ⟨by simp only [List.length_append, List.length_singleton]; omega, fun o ho => ?_, id⟩;rcases List.mem_append.1 ho with ho | ho
     ·exact .inl ho
     ·rw [List.mem_singleton] at ho; subst ho; exact .inr ⟨rfl, hk⟩
   ·exact ⟨h, fun o ho => .inl ho, id⟩
  obtain ⟨h1, h2, h3⟩ := wx r (j4 t c slot s x) hs.1;refine ⟨h1, fun o ho => ?_, fun e => h3 (hs.2.2 e)⟩;rcases h2 o ho with h4 | ⟨h4, h5⟩
  ·rcases hs.2.1 o h4 with h5 | ⟨rfl, h5⟩
   ·exact .inl h5
   ·exact .inr ⟨.head _, h5⟩
  ·exact .inr ⟨.tail _ h4, h5⟩
theorem gn (t : Int) (c : Cf) (slot : Int) (full : Bool) (l : List Of) : (iC t c slot full l).1.length ≤ 8 ∧ (∀ o ∈ (iC t c slot full l).1, o ∈ l ∧ ER t c slot o = true) ∧ (full = true → (iC t c slot full l).2 = true) := by
 obtain ⟨h1, h2, h3⟩ := wx (t := t) (c := c) (slot := slot) l ([], full) (by simp);refine ⟨h1, fun o ho => ?_, h3⟩;rcases h2 o ho with h4 | h4
 ·simp at h4
 ·exact h4
theorem zF {l : List Of} {x : Nd} {c : Cf} {slot : Int} (hl : x.O.length + l.length ≤ 1000) (hs : ∀ o ∈ x.O ++ l, kZ o) : sC l x c slot = some (iC x.Tick c slot x.Full (x.O ++ l)) := by
 unfold sC;rw [yI hl, ob];generalize hL : x.O ++ l = L at hs
 have hLl : L.length ≤ 1000 := by rw [← hL, List.length_append]; omega
 have e := az (step := iw x c slot L) (n := L.length) (fun k => da.mk (k : Int) (iC x.Tick c slot x.Full (L.take k)).2 (iC x.Tick c slot x.Full (L.take k)).1) (da.mk (L.length : Int) (iC x.Tick c slot x.Full L).2 (iC x.Tick c slot x.Full L).1) (fun k hk => by
  obtain ⟨y, hy, hm⟩ := aA hk
  have et : L.take (k + 1) = L.take k ++ [y] := by rw [List.take_add_one, hy]; rfl
  have hf := gn x.Tick c slot x.Full (L.take k);unfold iw;simp only;rw [decide_eq_true (show (k : Int) < (L.length : Int) by omega), ct, aC hy, ob, et, xp, ak (n := k) (by omega)];generalize iC x.Tick c slot x.Full (L.take k) = s at hf ⊢
  have hgate : (bif (x.Tick.tmod 3) == 2 then some ((x.Tick.tmod 3) == 2) else bif y.Slot != slot then some (y.Slot != slot) else (B9 c slot).bind fun v4 => some (y.From != v4)) = some (!ER x.Tick c slot y) := by
   rw [q6, ob];unfold ER;by_cases h1 : x.Tick.tmod 3 = 2
   ·rw [beq_iff_eq.2 h1, ct, decide_eq_false fun h => h.1 h1]; rfl
   ·rw [beq_eq_false_iff_ne.2 h1, cf];by_cases h2 : y.Slot = slot
    ·rw [show (y.Slot != slot) = false by simp [h2], cf];by_cases h3 : y.From = pW c slot
     ·rw [show (y.From != pW c slot) = false by simp [h3], decide_eq_true ⟨h1, h2, h3⟩]; rfl
     ·rw [show (y.From != pW c slot) = true by simp [h3], decide_eq_false fun h => h3 h.2.2]; rfl
    ·rw [show (y.Slot != slot) = true by simp [h2], ct, decide_eq_false fun h => h2 h.2.1]; rfl
  rw [hgate, ob];unfold j4
  cases hk2 : ER x.Tick c slot y with
  | false => rw [Bool.not_false, ct]; rfl
  | true =>
   rw [Bool.not_true, cf, if_pos rfl];by_cases h8 : s.1.length = 8
   ·rw [show ((s.1.length : Int) == 8) = true by simp [h8], ct, if_pos h8]
   ·rw [show ((s.1.length : Int) == 8) = false by rw [beq_eq_false_iff_ne]; omega, cf, od (hs y hm), ob, aK (by simp only [List.length_singleton]; omega) (by omega), ct, if_neg h8]) (by
  unfold iw;simp only
  rw [decide_eq_false (show ¬ (L.length : Int) < (L.length : Int) by omega), cf, List.take_length]) (by omega)
 have e' : iter (iw x c slot L) bE (da.mk 0 x.Full []) = _ := e;rw [e', ob]
theorem qY (c : Cf) (w i : Vw) (s : Int) : w.B.length ≤ (aE c w i s).1.B.length ∧ (aE c w i s).1.B.length ≤ w.B.length + 60 ∧ w.V.length ≤ (aE c w i s).1.V.length ∧ (aE c w i s).1.V.length ≤ w.V.length + 240 ∧ (aE c w i s).2.1.B.length ≤ i.B.length ∧ (aE c w i s).2.1.V.length ≤ i.V.length := by
 by_cases h : gb c w
 ·have ht := Bj h i s;have hl := Bl ht;have h1 := ht.may.lenB;have h2 := ht.may.lenV;omega
 ·have e : aE c w i s = (w, i, false) := by unfold aE; rw [if_neg h]
  rw [e];simp only;omega
theorem ks {inp : Vw} {c : Cf} {slot : Int} {v : Vw} {full : Bool} (h1 : v.B.length ≤ 1000) (h2 : v.V.length ≤ 1000) (h3 : inp.B.length ≤ 800) (h4 : inp.V.length ≤ 600) :
  jF inp c slot v full = some ((aE c v inp slot).2.1, (aE c v inp slot).1, full || (aE c v inp slot).2.2) := by
 unfold jF;rw [DX h1 h2 h3 h4, ob];cases full <;> rfl
theorem pI (c : Cf) (w i : Vw) (s : Int) : (aE c w i s).1.B.length ≤ max w.B.length 60 ∧ (aE c w i s).1.V.length ≤ max w.V.length 240 := by
 by_cases h : gb c w
 ·have ht := Bj h i s;have h1 := ht.may.lenB;have h2 := ht.may.lenV;omega
 ·have e : aE c w i s = (w, i, false) := by unfold aE; rw [if_neg h]
  rw [e];simp only;omega
theorem Vw.eta (w : Vw) : Vw.mk w.B w.V = w := rfl
noncomputable def qO (x : Nd) (c : Cf) (slot : Int) : Bk := ⟨slot, x.No, kM c (aE c x.V x.In slot).1.B (eN c (aE c x.V x.In slot).1.V (IntKind.i64.wrap (slot - 1))), 0⟩
noncomputable def dm (x : Nd) (c : Cf) (slot : Int) : Vw × Vw × Bool × List Of :=
 if x.No = pW c slot then
  ((aE c (aE c x.V x.In slot).1 ⟨[qO x c slot], []⟩ slot).1, (aE c x.V x.In slot).2.1, (x.Full || (aE c x.V x.In slot).2.2) || (aE c (aE c x.V x.In slot).1 ⟨[qO x c slot], []⟩ slot).2.2, [⟨slot, x.No, qO x c slot, (aE c x.V x.In slot).1⟩])
 else (x.V, x.In, x.Full, [])
theorem w0 {x : Nd} {c : Cf} {slot : Int} (h1 : x.V.B.length ≤ 500) (h2 : x.V.V.length ≤ 500) (h3 : x.In.B.length ≤ 500) (h4 : x.In.V.length ≤ 500) : mu x c slot [] = some (dm x c slot) := by
 have hm := pI c x.V x.In slot;unfold mu dm;rw [q6, ob];by_cases h : x.No = pW c slot
 ·rw [show (x.No != pW c slot) = false by simp [h], cf, if_pos h, ks (by omega) (by omega) (by omega) (by omega), ob];simp only;rw [n7 (by omega) (by omega), ob];have hs : kZ (Of.mk slot x.No (Bk.mk slot x.No (kM c (aE c x.V x.In slot).1.B (eN c (aE c x.V x.In slot).1.V (IntKind.i64.wrap (slot - 1)))) 0) (aE c x.V x.In slot).1) := ⟨by show (aE c x.V x.In slot).1.B.length ≤ 1000; omega, by show (aE c x.V x.In slot).1.V.length ≤ 1000; omega⟩;rw [od hs, ob];unfold qa;rw [ob, ks (by omega) (by omega) (by simp) (by simp), ob];rfl
 ·rw [show (x.No != pW c slot) = true by simp [h], ct, if_neg h]
noncomputable def gQ (c : Cf) (slot : Int) (s : Vw × Vw × Bool) (o : Of) : Vw × Vw × Bool :=
 ((aE c s.1 (bG o.V ⟨[o.B], []⟩) slot).1, bG s.2.1 (aE c s.1 (bG o.V ⟨[o.B], []⟩) slot).2.1, s.2.2 || (aE c s.1 (bG o.V ⟨[o.B], []⟩) slot).2.2)
noncomputable def ba (x : Nd) (o : List Of) (c : Cf) (slot : Int) : Vw × Vw × Bool := o.foldl (gQ c slot) (x.V, x.In, x.Full)
noncomputable def eb (x : Nd) (o : List Of) (c : Cf) (slot : Int) : Vw × Vw × Bool :=
 if x.No ∈ oL c slot then
  ((ba x o c slot).1, bG (ba x o c slot).2.1 ⟨[], [⟨x.No, slot, kM c (ba x o c slot).1.B (eN c (ba x o c slot).1.V (IntKind.i64.wrap (slot - 1)))⟩]⟩, (ba x o c slot).2.2)
 else ba x o c slot
theorem t7 (x : Nd) (o : List Of) (c : Cf) (slot : Int) (y : Of) : ba x (o ++ [y]) c slot = gQ c slot (ba x o c slot) y := by unfold ba; rw [List.foldl_append]; rfl
theorem tF (o : Of) : (bG o.V ⟨[o.B], []⟩).B.length ≤ o.V.B.length + 1 ∧ (bG o.V ⟨[o.B], []⟩).V.length ≤ o.V.V.length := by
 have h1 := cQ [o.B] o.V.B;have h2 := cQ ([] : List Vt) o.V.V;exact ⟨h1, h2⟩
theorem qI (a b : Vw) : (bG a b).B.length ≤ a.B.length + b.B.length ∧ (bG a b).V.length ≤ a.V.length + b.V.length := ⟨cQ _ _, cQ _ _⟩
theorem tZ {x : Nd} {c : Cf} {slot : Int} (h1 : x.V.B.length ≤ 500) (h2 : x.V.V.length ≤ 500) (h3 : x.In.B.length ≤ 500) (h4 : x.In.V.length ≤ 500) : ∀ (k : Nat) (o : List Of), o.length ≤ k → (∀ y ∈ o, y.V.B.length ≤ 500 ∧ y.V.V.length ≤ 500) →
  (ba x o c slot).1.B.length ≤ 500 ∧ (ba x o c slot).1.V.length ≤ 500 ∧ (ba x o c slot).2.1.B.length ≤ 500 + 501 * k ∧ (ba x o c slot).2.1.V.length ≤ 500 + 501 * k := by
 intro k
 induction k with
 | zero =>
  intro o ho _;obtain rfl : o = [] := List.length_eq_zero_iff.1 (by omega);exact ⟨h1, h2, Nat.le_trans h3 (by omega), Nat.le_trans h4 (by omega)⟩
 | succ k ih =>
  intro o ho hs;rcases List.eq_nil_or_concat o with rfl | ⟨r, y, rfl⟩
  ·exact ⟨h1, h2, Nat.le_trans h3 (by omega), Nat.le_trans h4 (by omega)⟩
  ·rw [List.concat_eq_append] at ho hs ⊢;rw [List.length_append, List.length_singleton] at ho;obtain ⟨a1, a2, a3, a4⟩ := ih r (by omega) fun z hz => hs z (List.mem_append_left _ hz);have hy := hs y (List.mem_append_right _ (List.mem_singleton.2 rfl));have hl := tF y;rw [t7];unfold gQ;generalize ba x r c slot = s at a1 a2 a3 a4 ⊢;have hm := pI c s.1 (bG y.V ⟨[y.B], []⟩) slot;have hz := qY c s.1 (bG y.V ⟨[y.B], []⟩) slot;have hj := qI s.2.1 (aE c s.1 (bG y.V ⟨[y.B], []⟩) slot).2.1;simp only;omega
theorem uz {x : Nd} {o : List Of} {c : Cf} {slot : Int} (h1 : x.V.B.length ≤ 500) (h2 : x.V.V.length ≤ 500) (h3 : x.In.B.length ≤ 500) (h4 : x.In.V.length ≤ 500) (ho : o.length ≤ 8) (hs : ∀ y ∈ o, y.V.B.length ≤ 500 ∧ y.V.V.length ≤ 500) :
  ku x o c slot = some (eb x o c slot) := by
 have e := az (step := eW o c slot) (n := o.length) (fun k => cC.mk (k : Int) (ba x (o.take k) c slot).1.B (ba x (o.take k) c slot).1.V (ba x (o.take k) c slot).2.1.B (ba x (o.take k) c slot).2.1.V (ba x (o.take k) c slot).2.2)
  (cC.mk (o.length : Int) (ba x o c slot).1.B (ba x o c slot).1.V (ba x o c slot).2.1.B (ba x o c slot).2.1.V (ba x o c slot).2.2) (fun k hk => by
  obtain ⟨y, hy, hm⟩ := aA hk
  have et : o.take (k + 1) = o.take k ++ [y] := by rw [List.take_add_one, hy]; rfl
  have hsz := tZ (c := c) (slot := slot) h1 h2 h3 h4 8 (o.take k) (by rw [List.length_take]; omega) fun z hz => hs z (List.mem_of_mem_take hz);have hy2 := hs y hm;have hl := tF y;unfold eW;simp only;rw [decide_eq_true (show (k : Int) < (o.length : Int) by omega), ct, aC hy, ob, et, t7, ak (n := k) (by omega)];generalize ba x (o.take k) c slot = s at hsz ⊢;have hz := qY c s.1 (bG y.V ⟨[y.B], []⟩) slot;unfold qa;rw [ob, kX (by simp only [List.length_singleton]; omega) (by simp only [List.length_nil]; omega), ob, Vw.eta, Vw.eta, ks (by omega) (by omega) (by omega) (by omega), ob];simp only;rw [kX (by omega) (by omega), ob]
  rfl) (by
  unfold eW;simp only
  rw [decide_eq_false (show ¬ (o.length : Int) < (o.length : Int) by omega), cf, List.take_length]) (by omega)
 have e' : iter (eW o c slot) bE (cC.mk 0 x.V.B x.V.V x.In.B x.In.V x.Full) = _ := e;have hsz := tZ (c := c) (slot := slot) h1 h2 h3 h4 8 o ho hs;unfold ku eb;rw [e', ob, yY, ob];simp only [Vw.eta];generalize ba x o c slot = s at hsz ⊢;by_cases h : x.No ∈ oL c slot
 ·rw [decide_eq_true h, ct, if_pos h, n7 (by omega) (by omega), ob, kX (by simp only [List.length_nil]; omega) (by simp only [List.length_singleton]; omega), ob]
 ·rw [decide_eq_false h, cf, if_neg h]
def z6 (c : Cf) (w : Vw) (slot : Int) (id : ID) : Prop := vz c (oL c slot) * (c.Den + 2 * c.Num) < 2 * wD c w.B (eN c w.V slot) id * c.Den
theorem wX {c : Cf} {w : Vw} {slot : Int} {head : ID} (hm : dj c) (h1 : w.B.length ≤ 1000) (h2 : w.V.length ≤ 1000) : ∃ r, qb c w slot head = some r ∧ (r.2 = true → z6 c w slot r.1) := by
 have hg := tt c w.V slot;have hc := uK c slot;unfold qb zV;rw [rV (by omega), ob, uw, ob, yX (by omega), ob, ob, show few w.B = true from decide_eq_true h1, ct];have hwt := DD c (oL c slot)
 obtain ⟨b, hb, hs⟩ := df (step := iW c w) (fun x => x.v = eN c w.V slot ∧ x.al = vz c (oL c slot)) (fun x => x.l.length) (fun r => r.2 = true → z6 c w slot r.1) (by
  rintro ⟨l, v, al⟩ ⟨e1, e2⟩;simp only at e1 e2;subst e1 e2;by_cases hl : (l.length : Int) < 2
  ·right;refine ⟨((0, 0), false), ?_, fun h => by cases h⟩;unfold iW;simp only;rw [decide_eq_true hl, ct]
  ·obtain ⟨y, hy, -⟩ := aA (l := l) (n := 0) (by omega);have hy' : ix l 0 = some y := aC hy;obtain ⟨-, -, -, -, -, m1, m2, m3, m4⟩ := hm;have hon : 0 ≤ wD c w.B (eN c w.V slot) y ∧ wD c w.B (eN c w.V slot) y ≤ 13194139533312 := DD _ _
   have hstep : iW c w ⟨l, eN c w.V slot, vz c (oL c slot)⟩ = bif decide (2 * wD c w.B (eN c w.V slot) y * c.Den > vz c (oL c slot) * (c.Den + 2 * c.Num)) then some (.inr (y, true)) else some (.inl ⟨l.drop 1, eN c w.V slot, vz c (oL c slot)⟩) := by
    unfold iW Cg q7;simp only
    rw [decide_eq_false hl, cf, hy', ob, vH h1 (by omega), ob, ob, eA (by omega) (by omega), eA (n := 2 * c.Num) (by omega) (by omega), eA (by omega) (by omega), x9 ⟨by omega, by omega⟩ ⟨by omega, by omega⟩ ⟨by omega, by omega⟩ ⟨by omega, by omega⟩, ob, ob, ob,
     show E8 l 1 l.length = true from decide_eq_true (by omega), ct]
    rfl
   cases hd : decide (2 * wD c w.B (eN c w.V slot) y * c.Den > vz c (oL c slot) * (c.Den + 2 * c.Num)) with
   | true => rw [hd, ct] at hstep; exact .inr ⟨_, hstep, fun _ => show vz c (oL c slot) * (c.Den + 2 * c.Num) < _ from of_decide_eq_true hd⟩
   | false =>
    rw [hd, cf] at hstep;refine .inl ⟨_, hstep, ⟨rfl, rfl⟩, ?_⟩;simp only [List.length_drop]
    omega) (n := bE) (x := kw.mk (aZ w.B head) (eN c w.V slot) (vz c (oL c slot))) ⟨rfl, rfl⟩ (ec (by have : (aZ w.B head).length ≤ w.B.length + 1 := xh head; simp only; omega))
 exact ⟨b, hb, hs⟩
theorem uA {x : Nd} {c : Cf} {slot : Int} (hm : dj c) (h1 : x.V.B.length ≤ 500) (h2 : x.V.V.length ≤ 500) (h3 : x.In.B.length ≤ 500) (h4 : x.In.V.length ≤ 500) :
  ∃ r, qb c (aE c x.V x.In slot).1 slot (kM c (aE c x.V x.In slot).1.B (eN c (aE c x.V x.In slot).1.V slot)) = some r ∧ (r.2 = true → z6 c (aE c x.V x.In slot).1 slot r.1) ∧ kY x c slot = some ((aE c x.V x.In slot).1, (aE c x.V x.In slot).2.1, eg x.C (aE c x.V x.In slot).1.B (kM c (aE c x.V x.In slot).1.B (eN c (aE c x.V x.In slot).1.V slot)) r.1 r.2 slot, x.Full || (aE c x.V x.In slot).2.2) := by
 have hx := pI c x.V x.In slot;obtain ⟨r, hr, hs⟩ := wX (slot := slot) (head := kM c (aE c x.V x.In slot).1.B (eN c (aE c x.V x.In slot).1.V slot)) hm (w := (aE c x.V x.In slot).1) (by omega) (by omega);refine ⟨r, hr, hs, ?_⟩;unfold kY;rw [ks (by omega) (by omega) (by omega) (by omega), ob];simp only;rw [n7 (by omega) (by omega), ob, hr, ob, show few (aE c x.V x.In slot).1.B = true from decide_eq_true (by omega), ct]
theorem w7 {x : Nd} {c : Cf} {slot : Int} (hm : dj c) (h1 : x.V.B.length ≤ 500) (h2 : x.V.V.length ≤ 500) (h3 : x.In.B.length ≤ 500) (h4 : x.In.V.length ≤ 500) :
  ∃ cu, kY x c slot = some ((aE c x.V x.In slot).1, (aE c x.V x.In slot).2.1, cu, x.Full || (aE c x.V x.In slot).2.2) :=
 have ⟨_, _, _, e⟩ := uA hm h1 h2 h3 h4
 ⟨_, e⟩
structure I0 (c : Cf) (n : Nd) (inp : Vw) (o : List Of) : Prop where
 n : jH 30 n
 inp : k5 30 inp
 len : o.length ≤ 10
 o : ∀ y ∈ o, k5 30 y.V
theorem mj {k : Int} (hk : k ≤ 1000) {l : List Of} (h : ∀ y ∈ l, k5 k y.V) : ∀ y ∈ l, kZ y := fun y hy => by
 obtain ⟨a, b⟩ := h y hy;exact ⟨by omega, by omega⟩
structure lJ (c : Cf) (n : Nd) (inp : Vw) (o : List Of) : Prop where
 vw : n.V.B.length ≤ 500 ∧ n.V.V.length ≤ 500
 inw : n.In.B.length ≤ 1000 ∧ n.In.V.length ≤ 1000
 came : inp.B.length ≤ 2000 ∧ inp.V.length ≤ 2000
 ins : (bG n.In (aT c inp)).B.length ≤ 500 ∧ (bG n.In (aT c inp)).V.length ≤ 500
 len : n.O.length + o.length ≤ 1000
 offs : ∀ y ∈ n.O ++ o, y.V.B.length ≤ 500 ∧ y.V.V.length ≤ 500
theorem xi {n : Nd} (hl : n.O.length ≤ 1000) (hs : ∀ y ∈ n.O, kZ y) : iter (ii n) bE (dt.mk 0 []) = some (dt.mk (n.O.length : Int) n.O) := by
 have e := az (step := ii n) (n := n.O.length) (fun k => dt.mk (k : Int) (n.O.take k)) (dt.mk (n.O.length : Int) n.O) (fun k hk => by
  obtain ⟨y, hy, hm⟩ := aA hk
  have et : n.O.take (k + 1) = n.O.take k ++ [y] := by rw [List.take_add_one, hy]; rfl
  unfold ii;simp only
  rw [decide_eq_true (show (k : Int) < (n.O.length : Int) by omega), ct, aC hy, ob, od (hs y hm), ob, aK (by rw [List.length_take]; simp only [List.length_singleton]; omega) (by omega), ct, et, ak (n := k) (by omega)]) (by
  unfold ii;simp only
  rw [decide_eq_false (show ¬ (n.O.length : Int) < (n.O.length : Int) by omega), cf, List.take_length]) (by omega)
 exact e
def ew (c : Cf) (n : Nd) : Bool := decide (¬ dj c ∨ n.Tick < 3 ∨ IntKind.i64.wrap (n.Tick.tdiv 3) > 1048576)
theorem qE (c : Cf) (n : Nd) : ((wY c).bind fun v2 => bif !v2 then some true else bif decide (n.Tick < 3) then some true else some (decide ((IntKind.i64.wrap (n.Tick.tdiv 3)) > 1048576))) = some (ew c n) := by
 rw [kS, ob];unfold ew;by_cases h1 : dj c
 ·rw [decide_eq_true h1, Bool.not_true, cf];by_cases h2 : n.Tick < 3
  ·rw [decide_eq_true h2, ct, decide_eq_true (.inr (.inl h2))]
  ·rw [decide_eq_false h2, cf];by_cases h3 : IntKind.i64.wrap (n.Tick.tdiv 3) > 1048576
   ·rw [decide_eq_true h3, decide_eq_true (.inr (.inr h3))]
   ·rw [decide_eq_false h3, decide_eq_false];rintro (h | h | h)
    ·exact h h1
    ·exact h2 h
    ·exact h3 h
 ·rw [decide_eq_false h1, Bool.not_false, ct, decide_eq_true (.inl h1)]
theorem se {c : Cf} {n : Nd} {inp : Vw} {o : List Of} (hf : lJ c n inp o) (h : ew c n = true) : ig c n inp o = some (n, []) := by
 obtain ⟨⟨a1, a2⟩, ⟨b1, b2⟩, -, -, c1, c2⟩ := hf;unfold ig;rw [qE, ob, h, ct, oa (by omega) (by omega), ob, oa (by omega) (by omega), ob, xi (by omega) (fun y hy => by have := c2 y (List.mem_append_left _ hy); exact ⟨by omega, by omega⟩), ob]
def ph (c : Cf) (n : Nd) (inp : Vw) : Vw := bG n.In (aT c inp)
def aO (n : Nd) : Int := IntKind.i64.wrap (n.Tick.tdiv 3)
def gE (c : Cf) (n : Nd) (o : List Of) : List Of × Bool := iC n.Tick c (aO n) n.Full (n.O ++ o)
def cz (c : Cf) (n : Nd) (inp : Vw) (o : List Of) : Nd := ⟨n.No, n.Tick, n.V, ph c n inp, [], n.C, (gE c n o).2⟩
theorem n8 {c : Cf} {n : Nd} {inp : Vw} {o : List Of} (hf : lJ c n inp o) (h : ew c n = false) : ig c n inp o =
  bif (n.Tick.tmod 3) == 0 then
   (mu (cz c n inp o) c (aO n) []).bind fun v10 => some (Nd.mk n.No (IntKind.i64.wrap (n.Tick + 1)) v10.1 v10.2.1 (gE c n o).1 n.C v10.2.2.1, v10.2.2.2)
  else bif (n.Tick.tmod 3) == 1 then
   (ku (cz c n inp o) (gE c n o).1 c (aO n)).bind fun v11 => some (Nd.mk n.No (IntKind.i64.wrap (n.Tick + 1)) v11.1 v11.2.1 [] n.C v11.2.2, [])
  else bif (n.Tick.tmod 3) == 2 then
   (kY (cz c n inp o) c (aO n)).bind fun v12 => some (Nd.mk n.No (IntKind.i64.wrap (n.Tick + 1)) v12.1 v12.2.1 [] v12.2.2.1 v12.2.2.2, [])
  else none := by
 obtain ⟨⟨a1, a2⟩, ⟨b1, b2⟩, ⟨e1, e2⟩, -, g1, g2⟩ := hf;have h2 := A4 c inp;unfold ig;rw [qE, ob, h, cf, y9 (by omega) (by omega), ob, kX (by omega) (by omega), ob];rw [zF (by show n.O.length + o.length ≤ 1000; omega) (fun y hy => by have := g2 y hy; exact ⟨by omega, by omega⟩), ob];rfl
theorem uW {c : Cf} {n : Nd} {inp : Vw} {o : List Of} (hf : lJ c n inp o) : (gE c n o).1.length ≤ 8 ∧ ∀ y ∈ (gE c n o).1, y.V.B.length ≤ 500 ∧ y.V.V.length ≤ 500 := by
 obtain ⟨h1, h2, -⟩ := gn n.Tick c (aO n) n.Full (n.O ++ o);exact ⟨h1, fun y hy => hf.offs y (h2 y hy).1⟩
theorem yC {c : Cf} {n : Nd} {inp : Vw} {o : List Of} (hf : lJ c n inp o) (h : ew c n = false) (h0 : n.Tick.tmod 3 = 0) :
  ig c n inp o = some (Nd.mk n.No (IntKind.i64.wrap (n.Tick + 1)) (dm (cz c n inp o) c (aO n)).1 (dm (cz c n inp o) c (aO n)).2.1 (gE c n o).1 n.C (dm (cz c n inp o) c (aO n)).2.2.1, (dm (cz c n inp o) c (aO n)).2.2.2) := by
 have hi : (ph c n inp).B.length ≤ 500 ∧ (ph c n inp).V.length ≤ 500 := hf.ins;rw [n8 hf h];obtain ⟨⟨a1, a2⟩, -⟩ := hf;rw [beq_iff_eq.2 h0, ct, w0 (by show n.V.B.length ≤ 500; omega) (by show n.V.V.length ≤ 500; omega) (by show (ph c n inp).B.length ≤ 500; omega) (by show (ph c n inp).V.length ≤ 500; omega), ob]
theorem yD {c : Cf} {n : Nd} {inp : Vw} {o : List Of} (hf : lJ c n inp o) (h : ew c n = false) (h1 : n.Tick.tmod 3 = 1) :
  ig c n inp o = some (Nd.mk n.No (IntKind.i64.wrap (n.Tick + 1)) (eb (cz c n inp o) (gE c n o).1 c (aO n)).1 (eb (cz c n inp o) (gE c n o).1 c (aO n)).2.1 [] n.C (eb (cz c n inp o) (gE c n o).1 c (aO n)).2.2, []) := by
 have hi : (ph c n inp).B.length ≤ 500 ∧ (ph c n inp).V.length ≤ 500 := hf.ins;obtain ⟨hr1, hr2⟩ := uW hf;rw [n8 hf h];obtain ⟨⟨a1, a2⟩, -⟩ := hf;rw [show ((n.Tick.tmod 3) == 0) = false by rw [h1]; rfl, cf, beq_iff_eq.2 h1, ct, uz (by show n.V.B.length ≤ 500; omega) (by show n.V.V.length ≤ 500; omega) (by show (ph c n inp).B.length ≤ 500; omega) (by show (ph c n inp).V.length ≤ 500; omega) hr1 hr2, ob]
theorem yG {c : Cf} {n : Nd} {inp : Vw} {o : List Of} (hf : lJ c n inp o) (h : ew c n = false) (h2 : n.Tick.tmod 3 = 2) :
  ∃ cu, ig c n inp o = some (Nd.mk n.No (IntKind.i64.wrap (n.Tick + 1)) (aE c n.V (ph c n inp) (aO n)).1 (aE c n.V (ph c n inp) (aO n)).2.1 [] cu ((gE c n o).2 || (aE c n.V (ph c n inp) (aO n)).2.2), []) := by
 have hi : (ph c n inp).B.length ≤ 500 ∧ (ph c n inp).V.length ≤ 500 := hf.ins
 have hm : dj c := by
  have := of_decide_eq_false h;exact Decidable.not_not.1 fun h => this<|.inl h
 rw [n8 hf h];obtain ⟨⟨a1, a2⟩, -⟩ := hf;obtain ⟨cu, e⟩ := w7 (x := cz c n inp o) (slot := aO n) hm (by show n.V.B.length ≤ 500; omega) (by show n.V.V.length ≤ 500; omega) (by show (ph c n inp).B.length ≤ 500; omega) (by show (ph c n inp).V.length ≤ 500; omega);rw [show ((n.Tick.tmod 3) == 0) = false by rw [h2]; rfl, cf, show ((n.Tick.tmod 3) == 1) = false by rw [h2]; rfl, cf, beq_iff_eq.2 h2, ct, e, ob];exact ⟨cu, rfl⟩
theorem Bg {n : Nd} {c : Cf} (h : ew c n = false) : n.Tick.tmod 3 = 0 ∨ n.Tick.tmod 3 = 1 ∨ n.Tick.tmod 3 = 2 := by
 have h3 : ¬ n.Tick < 3 := fun h2 => (of_decide_eq_false h) (.inr (.inl h2));rw [Int.tmod_eq_emod_of_nonneg (by omega)];omega
theorem xy {b : Bk} {x y : Vw} : b ∈ (bG x y).B ↔ b ∈ x.B ∨ b ∈ y.B := m9 b _ _
theorem xz {v : Vt} {x y : Vw} : v ∈ (bG x y).V ↔ v ∈ x.V ∨ v ∈ y.V := m9 v _ _
theorem A8 {n : Nd} (h1 : 3 ≤ n.Tick) (h2 : n.Tick ≤ 1000000) : aO n = n.Tick / 3 ∧ 1 ≤ aO n ∧ aO n ≤ 333333 := by
 unfold aO;rw [Int.tdiv_eq_ediv_of_nonneg (by omega), eA (by omega) (by omega)];omega
theorem Cn {c : Cf} {n : Nd} (hm : dj c) (h1 : 3 ≤ n.Tick) (h2 : n.Tick ≤ 1000000) : ew c n = false := by
 have := A8 h1 h2;unfold aO at this;refine decide_eq_false ?_;rintro (h | h | h)
 ·exact h hm
 ·omega
 ·omega
def kH (c : Cf) (v w : Vw) : Prop := gb c w ∧ w.B.take v.B.length = v.B ∧ w.V.take v.V.length = v.V
theorem ll {c : Cf} {v : Vw} (h : gb c v) : kH c v v := ⟨h, List.take_length, List.take_length⟩
theorem uf {α : Type} {a b d : List α} (h1 : b.take a.length = a) (h2 : d.take b.length = b) : d.take a.length = a := by
 have hl := congrArg List.length h1;rw [List.length_take] at hl
 have e : d.take a.length = (d.take b.length).take a.length := by
  rw [List.take_take];congr 1;omega
 rw [e, h2, h1]
theorem nx {c : Cf} {u v w : Vw} (h1 : kH c u v) (h2 : kH c v w) : kH c u w := ⟨h2.1, uf h1.2.1 h2.2.1, uf h1.2.2 h2.2.2⟩
theorem eY {c : Cf} {v : Vw} (h : gb c v) (i : Vw) (s : Int) : kH c v (aE c v i s).1 := by
 have ht := Bj h i s;obtain ⟨h1, h2⟩ := xT ht;exact ⟨ht.may, h1, h2⟩
theorem tB {x : Nd} {c : Cf} {slot : Int} (h : gb c x.V) : kH c x.V (dm x c slot).1 := by
 unfold dm;split
 ·exact nx (eY h _ _)<|eY (eY h _ _).1 _ _
 ·exact ll h
theorem lk {c : Cf} {slot : Int} : ∀ (o : List Of) (s : Vw × Vw × Bool), gb c s.1 → kH c s.1 (o.foldl (gQ c slot) s).1
 | [], s, h => ll h
 | y :: r, s, h => by
  rw [List.foldl_cons];have h1 : kH c s.1 (gQ c slot s y).1 := eY h _ _;exact nx h1<|lk r _ h1.1
theorem rr {x : Nd} {o : List Of} {c : Cf} {slot : Int} (h : gb c x.V) : kH c x.V (eb x o c slot).1 := by
 unfold eb;split
 ·exact lk o _ h
 ·exact lk o _ h
noncomputable def cO (c : Cf) (n : Nd) (inp : Vw) (o : List Of) : Nd × List Of := (ig c n inp o).getD (n, [])
theorem qU {c : Cf} {n : Nd} {inp : Vw} {o : List Of} (hf : lJ c n inp o) (h : ew c n = true) : ig c n inp o = some (cO c n inp o) ∧ cO c n inp o = (n, []) := by
 have e := se hf h;unfold cO;rw [e];exact ⟨rfl, rfl⟩
theorem pD {c : Cf} {n : Nd} {inp : Vw} {o : List Of} (hf : lJ c n inp o) : ig c n inp o = some (cO c n inp o) ∧
    ((ew c n = true ∧ cO c n inp o = (n, [])) ∨
     (ew c n = false ∧ n.Tick.tmod 3 = 0 ∧ cO c n inp o = (Nd.mk n.No (IntKind.i64.wrap (n.Tick + 1)) (dm (cz c n inp o) c (aO n)).1 (dm (cz c n inp o) c (aO n)).2.1 (gE c n o).1 n.C (dm (cz c n inp o) c (aO n)).2.2.1, (dm (cz c n inp o) c (aO n)).2.2.2)) ∨
     (ew c n = false ∧ n.Tick.tmod 3 = 1 ∧ cO c n inp o = (Nd.mk n.No (IntKind.i64.wrap (n.Tick + 1)) (eb (cz c n inp o) (gE c n o).1 c (aO n)).1 (eb (cz c n inp o) (gE c n o).1 c (aO n)).2.1 [] n.C (eb (cz c n inp o) (gE c n o).1 c (aO n)).2.2, [])) ∨
     (ew c n = false ∧ n.Tick.tmod 3 = 2 ∧ ∃ cu, cO c n inp o = (Nd.mk n.No (IntKind.i64.wrap (n.Tick + 1)) (aE c n.V (ph c n inp) (aO n)).1 (aE c n.V (ph c n inp) (aO n)).2.1 [] cu ((gE c n o).2 || (aE c n.V (ph c n inp) (aO n)).2.2), []))) := by
  cases hid : ew c n with
  | true => exact ⟨(qU hf hid).1, .inl ⟨rfl, (qU hf hid).2⟩⟩
  | false =>
    rcases Bg hid with h | h | h
    · have e := yC hf hid h;unfold cO;rw [e];exact ⟨rfl, .inr (.inl ⟨rfl, h, rfl⟩)⟩
    · have e := yD hf hid h;unfold cO;rw [e];exact ⟨rfl, .inr (.inr (.inl ⟨rfl, h, rfl⟩))⟩
    · obtain ⟨cu, e⟩ := yG hf hid h;unfold cO;rw [e];exact ⟨rfl, .inr (.inr (.inr ⟨rfl, h, cu, rfl⟩))⟩
def eB (P : Bk → Prop) (Q : Vt → Prop) (v : Vw) : Prop := (∀ b ∈ v.B, P b) ∧ ∀ x ∈ v.V, Q x
def mp (P : Bk → Prop) (Q : Vt → Prop) (o : Of) : Prop := P o.B ∧ eB P Q o.V
def un (P : Bk → Prop) (Q : Vt → Prop) (n : Nd) : Prop := eB P Q n.V ∧ eB P Q n.In ∧ ∀ o ∈ n.O, mp P Q o
section
variable {P : Bk → Prop} {Q : Vt → Prop}
theorem oB : eB P Q ⟨[], []⟩ := ⟨fun b hb => (by cases hb), fun x hx => (by cases hx)⟩
theorem en {a b : Vw} (h1 : eB P Q a) (h2 : eB P Q b) : eB P Q (bG a b) := ⟨fun x hx => (xy.1 hx).elim (h1.1 x) (h2.1 x), fun x hx => (xz.1 hx).elim (h1.2 x) (h2.2 x)⟩
theorem qk {c : Cf} {a : Vw} (h : eB P Q a) : eB P Q (aT c a) := ⟨fun x hx => h.1 x (List.mem_filter.1 hx).1, fun x hx => h.2 x (List.mem_filter.1 hx).1⟩
theorem ky (c : Cf) {w i : Vw} (s : Int) (h1 : eB P Q w) (h2 : eB P Q i) : eB P Q (aE c w i s).1 ∧ eB P Q (aE c w i s).2.1 := by
 by_cases h : gb c w
 ·have ht := Bj h i s;obtain ⟨t, e, h3⟩ := ht.preB;obtain ⟨u, e2, h4⟩ := ht.preV;refine ⟨⟨fun b hb => ?_, fun v hv => ?_⟩, fun b hb => h2.1 b (List.mem_filter.1 (ht.subB.subset hb)).1, fun v hv => h2.2 v (List.mem_filter.1 (ht.subV.subset hv)).1⟩
  ·rw [e] at hb;rcases List.mem_append.1 hb with hb | hb
   ·exact h1.1 b hb
   ·exact h2.1 b (List.mem_filter.1 (h3 b hb).1).1
  ·rw [e2] at hv;rcases List.mem_append.1 hv with hv | hv
   ·exact h1.2 v hv
   ·exact h2.2 v (List.mem_filter.1 (h4 v hv).1).1
 ·have e : aE c w i s = (w, i, false) := by unfold aE; rw [if_neg h]
  rw [e];exact ⟨h1, h2⟩
theorem qj (c : Cf) (s : Int) : ∀ (o : List Of) (x : Vw × Vw × Bool), (∀ y ∈ o, mp P Q y) → eB P Q x.1 → eB P Q x.2.1 → eB P Q (o.foldl (gQ c s) x).1 ∧ eB P Q (o.foldl (gQ c s) x).2.1
 | [], x, _, h1, h2 => ⟨h1, h2⟩
 | y :: r, x, h, h1, h2 => by
  rw [List.foldl_cons];have hy := h y (List.mem_cons_self ..);obtain ⟨a1, a2⟩ := ky c (i := bG y.V ⟨[y.B], []⟩) s h1 (en hy.2 ⟨fun b hb => by rw [List.mem_singleton.1 hb]; exact hy.1, fun x hx => (by cases hx)⟩);exact qj c s r _ (fun z hz => h z (List.mem_cons_of_mem _ hz)) a1<|en h2 a2
noncomputable def DC (c : Cf) (n : Nd) (inp : Vw) (o : List Of) : Vt := ⟨n.No, aO n, kM c (ba (cz c n inp o) (gE c n o).1 c (aO n)).1.B (eN c (ba (cz c n inp o) (gE c n o).1 c (aO n)).1.V (IntKind.i64.wrap (aO n - 1)))⟩
theorem Bc {c : Cf} {n : Nd} {inp : Vw} {o : List Of} (hf : lJ c n inp o) (hn : un P Q n) (hi : eB P Q inp) (ho : ∀ y ∈ o, mp P Q y)
  (hp : ew c n = false → n.Tick.tmod 3 = 0 → n.No = pW c (aO n) → P (qO (cz c n inp o) c (aO n)))
  (hv : ew c n = false → n.Tick.tmod 3 = 1 → n.No ∈ oL c (aO n) → Q (DC c n inp o)) : un P Q (cO c n inp o).1 ∧ ∀ y ∈ (cO c n inp o).2, mp P Q y := by
 obtain ⟨n1, n2, n3⟩ := id hn;have hin : eB P Q (ph c n inp) := en n2 (qk hi)
 have hh : ∀ y ∈ (gE c n o).1, mp P Q y := fun y hy => by
  rcases List.mem_append.1 ((gn n.Tick c (aO n) n.Full (n.O ++ o)).2.1 y hy).1 with h | h
  ·exact n3 y h
  ·exact ho y h
 rcases (pD hf).2 with ⟨-, e⟩ | ⟨hid, ht, e⟩ | ⟨hid, ht, e⟩ | ⟨hid, ht, cu, e⟩
 ·rw [e];exact ⟨hn, fun y hy => by cases hy⟩
 ·rw [e];by_cases h : n.No = pW c (aO n)
  ·have hb := hp hid ht h;unfold dm;rw [if_pos (show (cz c n inp o).No = pW c (aO n) from h)];obtain ⟨a1, a2⟩ := ky c (aO n) n1 hin;have a3 := (ky c (i := ⟨[qO (cz c n inp o) c (aO n)], []⟩) (aO n) a1 ⟨fun b hb' => by rw [List.mem_singleton.1 hb']; exact hb, fun x hx => (by cases hx)⟩).1;refine ⟨⟨a3, a2, hh⟩, fun y hy => ?_⟩;rw [List.mem_singleton.1 hy];exact ⟨hb, a1⟩
  ·unfold dm;rw [if_neg (show (cz c n inp o).No ≠ pW c (aO n) from h)];exact ⟨⟨n1, hin, hh⟩, fun y hy => by cases hy⟩
 ·rw [e];obtain ⟨a1, a2⟩ := qj c (aO n) (gE c n o).1 (n.V, ph c n inp, (gE c n o).2) hh n1 hin;refine ⟨?_, fun y hy => by cases hy⟩;unfold eb;by_cases h : n.No ∈ oL c (aO n)
  ·rw [if_pos (show (cz c n inp o).No ∈ oL c (aO n) from h)];refine ⟨a1, en a2 ⟨fun b hb => (by cases hb), fun x hx => ?_⟩, fun y hy => by cases hy⟩;rw [List.mem_singleton.1 hx];exact hv hid ht h
  ·rw [if_neg (show (cz c n inp o).No ∉ oL c (aO n) from h)];exact ⟨a1, a2, fun y hy => by cases hy⟩
 ·rw [e];obtain ⟨a1, a2⟩ := ky c (aO n) n1 hin;exact ⟨⟨a1, a2, fun y hy => by cases hy⟩, fun y hy => by cases hy⟩
end
def uj (v : Vw) : Prop := v.B.Nodup ∧ v.V.Nodup
theorem jW {a b : Vw} (h : uj a) : uj (bG a b) := ⟨fA h.1, fA h.2⟩
theorem tM {c : Cf} {a : Vw} (h : uj a) : uj (aT c a) := ⟨h.1.sublist List.filter_sublist, h.2.sublist List.filter_sublist⟩
theorem tL {c : Cf} {w i : Vw} {s : Int} (hw : gb c w) (h : uj i) : uj (aE c w i s).2.1 := by
 have ht := Bj hw i s;exact ⟨(tM h).1.sublist ht.subB, (tM h).2.sublist ht.subV⟩
theorem tK (c : Cf) (s : Int) : ∀ (o : List Of) (x : Vw × Vw × Bool), uj x.2.1 → uj (o.foldl (gQ c s) x).2.1
 | [], x, h => h
 | y :: r, x, h => by
  rw [List.foldl_cons];exact tK c s r _<|jW h
theorem qW {c : Cf} {n : Nd} {inp : Vw} {o : List Of} (hf : lJ c n inp o) (hm : gb c n.V) (hd : uj n.In) (h8 : n.O.length ≤ 8) :
  (cO c n inp o).1.No = n.No ∧ ((cO c n inp o).1.Tick = if ew c n = true then n.Tick else IntKind.i64.wrap (n.Tick + 1)) ∧ kH c n.V (cO c n inp o).1.V ∧ uj (cO c n inp o).1.In ∧ (cO c n inp o).1.O.length ≤ 8 ∧
   ((cO c n inp o).2 ≠ [] → ew c n = false ∧ n.Tick.tmod 3 = 0 ∧ n.No = pW c (aO n)) ∧ (cO c n inp o).2.length ≤ 1 ∧ (∀ y ∈ (cO c n inp o).1.O, y ∈ n.O ++ o) ∧ ∀ y ∈ (cO c n inp o).2, gb c y.V := by
 have hdi : uj (ph c n inp) := jW hd;have hh := (gn n.Tick c (aO n) n.Full (n.O ++ o)).1;have ho := fun y hy => ((gn n.Tick c (aO n) n.Full (n.O ++ o)).2.1 y hy).1;rcases (pD hf).2 with ⟨hid, e⟩ | ⟨hid, ht, e⟩ | ⟨hid, ht, e⟩ | ⟨hid, ht, cu, e⟩
 ·rw [e, hid];exact ⟨rfl, rfl, ll hm, hd, h8, fun h => absurd Z h, by simp, fun y hy => List.mem_append_left _ hy, fun y hy => by cases hy⟩
 ·rw [e, hid];refine ⟨rfl, rfl, tB (x := cz c n inp o) hm, ?_, hh, ?_, ?_, ho, ?_⟩
  ·unfold dm;split
   ·exact tL hm hdi
   ·exact hdi
  ·unfold dm;split
   ·rename_i h;exact fun _ => ⟨rfl, ht, h⟩
   ·exact fun h => absurd Z h
  ·unfold dm;split <;> simp
  ·unfold dm;split
   ·intro y hy;rw [List.mem_singleton.1 hy];exact (eY hm _ _).1
   ·exact fun y hy => by cases hy
 ·rw [e, hid];refine ⟨rfl, rfl, rr (x := cz c n inp o) hm, ?_, by simp, fun h => absurd Z h, by simp, fun y hy => (by cases hy), fun y hy => (by cases hy)⟩;have := tK c (aO n) (gE c n o).1 (n.V, ph c n inp, (gE c n o).2) hdi;unfold eb;split
  ·exact jW this
  ·exact this
 ·rw [e, hid];exact ⟨rfl, rfl, eY hm _ _, tL hm hdi, by simp, fun h => absurd Z h, by simp, fun y hy => (by cases hy), fun y hy => (by cases hy)⟩
def EQ (to at_ : Int) : Bool := (bits .and .i64 (to.fdiv (2 ^ (min (Int.toNat at_) IntKind.i64.bits))) 1) == 0
def jL (bad : List Int) (al : Vw) (a : Ac) : Vw := ⟨a.B.filter fun b => decide (b.From ∈ bad ∨ b ∈ al.B), a.V.filter fun v => decide (v.From ∈ bad ∨ v ∈ al.V)⟩
def cg (slot wh : Int) (bad : List Int) (al : Vw) (me : Bool) (at_ : Int) (s : Vw × List Of) (a : Ac) : Vw × List Of :=
 if EQ a.To at_ = true then s
 else if a.Offer = false then (bG s.1 (jL bad al a), s.2)
 else if me = true then
  match (jL bad al a).B with
  | [] => s
  | b :: r => (s.1, s.2 ++ [⟨slot, wh, b, ⟨r, (jL bad al a).V⟩⟩])
 else s
def py (w : Wd) : Int := IntKind.i64.wrap (w.Tick.tdiv 3)
def eG (w : Wd) (l : List Ac) : List Ac := l.filter fun a => decide (a.Tick = w.Tick ∧ a.To ≥ 0)
def dV (w : Wd) : Vw := kE w.N ⟨[], []⟩
def fH (w : Wd) : Int := pW w.C (py w)
def b6 (w : Wd) (l : List Ac) (k : Nat) : Vw × List Of := (eG w l).foldl (cg (py w) (fH w) w.Bad (dV w) (decide (fH w ∈ w.Bad)) (k : Int)) (dV w, w.O)
noncomputable def ej (w : Wd) (l : List Ac) : List (Nd × List Of) := w.N.zipIdx.map fun p => cO w.C p.1 (b6 w l p.2).1 (b6 w l p.2).2
def ns (w : Wd) : Bool := decide (¬ dj w.C ∨ w.Tick < 3 ∨ w.Tick ≥ 3145728)
noncomputable def iZ (w : Wd) (l : List Ac) : Wd := if ns w = true then w else ⟨w.C, w.Bad, IntKind.i64.wrap (w.Tick + 1), (ej w l).map (·.1), (ej w l).flatMap (·.2)⟩
structure sH (w : Wd) : Prop where
 n : w.N.length ≤ 10
 nodes : ∀ n ∈ w.N, jH 500 n
 o : w.O.length ≤ 20
 offs : ∀ o ∈ w.O, k5 500 o.V
 bad : w.Bad.length ≤ 100
structure my (l : List Ac) : Prop where
 len : l.length ≤ 30
 each : ∀ a ∈ l, a.B.length ≤ 8 ∧ a.V.length ≤ 8
theorem ol {v : Vw} (h1 : v.B.length ≤ 1000) (h2 : v.V.length ≤ 1000) : lI v = some v := by
 unfold lI;rw [aK (by omega) (by omega), ct, aK (by omega) (by omega), ct]
theorem su {l : List Of} (hl : l.length ≤ 1000) (hs : ∀ o ∈ l, kZ o) : nj l = some l := by
 have e := az (step := iu l) (n := l.length) (fun k => dU.mk (k : Int)) (dU.mk (l.length : Int)) (fun k hk => by
  obtain ⟨y, hy, hm⟩ := aA hk;have := hs y hm;unfold iu;simp only
  rw [decide_eq_true (show (k : Int) < (l.length : Int) by omega), ct, aC hy, ob, ol this.1 this.2, ob, ob, ak (n := k) (by omega)]) (by
  unfold iu;simp only
  rw [decide_eq_false (show ¬ (l.length : Int) < (l.length : Int) by omega), cf]) (by omega)
 have e' : iter (iu l) bE (dU.mk 0) = _ := e;unfold nj;rw [aK (by omega) (by omega), ct, e', ob]
theorem sq {w : Wd} (h : sH w) : ni w = some w := by
 have hN : w.N.length ≤ 10 := h.n
 have e := az (step := ir w) (n := w.N.length) (fun k => dT.mk (k : Int)) (dT.mk (w.N.length : Int)) (fun k hk => by
  obtain ⟨y, hy, hm⟩ := aA hk;obtain ⟨⟨a1, a2⟩, ⟨b1, b2⟩, c1, c2⟩ := h.nodes y hm;unfold ir;simp only
  rw [decide_eq_true (show (k : Int) < (w.N.length : Int) by omega), ct, aC hy, ob, ol (by omega) (by omega), ob, ol (by omega) (by omega), ob, su (by omega) (mj (by omega) c2), ob, ak (n := k) (by omega)]) (by
  unfold ir;simp only
  rw [decide_eq_false (show ¬ (w.N.length : Int) < (w.N.length : Int) by omega), cf]) (by omega)
 have e' : iter (ir w) bE (dT.mk 0) = _ := e;unfold ni;have := h.bad;have := h.o;rw [aK (by omega) (by omega), ct, aK (by omega) (by omega), ct, su (by omega) (mj (by omega) h.offs), ob, e', ob]
theorem zS {w : Wd} {al : Vw} (x : Bk) (hb : w.Bad.length ≤ 100) (hl : al.B.length ≤ 100000) : sE x w al = some (decide (x.From ∈ w.Bad ∨ x ∈ al.B)) := by
 unfold sE w2;rw [lG (by omega), ob, ob];by_cases h : x.From ∈ w.Bad
 ·rw [decide_eq_true h, ct, decide_eq_true (.inl h)]
 ·rw [decide_eq_false h, cf, vP hl, ob];by_cases h2 : x ∈ al.B
  ·rw [decide_eq_true h2, decide_eq_true (.inr h2)]
  ·rw [decide_eq_false h2, decide_eq_false fun h3 => h3.elim h h2]
theorem zU {w : Wd} {al : Vw} (x : Vt) (hb : w.Bad.length ≤ 100) (hl : al.V.length ≤ 100000) : sF x w al = some (decide (x.From ∈ w.Bad ∨ x ∈ al.V)) := by
 unfold sF w2;rw [lG (by omega), ob, ob];by_cases h : x.From ∈ w.Bad
 ·rw [decide_eq_true h, ct, decide_eq_true (.inl h)]
 ·rw [decide_eq_false h, cf, vQ hl, ob];by_cases h2 : x ∈ al.V
  ·rw [decide_eq_true h2, decide_eq_true (.inr h2)]
  ·rw [decide_eq_false h2, decide_eq_false fun h3 => h3.elim h h2]
theorem w5 {l : List Bk} {w : Wd} {al : Vw} (hl : l.length ≤ 100000) (hb : w.Bad.length ≤ 100) (ha : al.B.length ≤ 100000) : ow l w al = some (l.filter fun x => decide (x.From ∈ w.Bad ∨ x ∈ al.B)) := by
 have e := az (step := fR l w al) (n := l.length) (fun k => cJ.mk (k : Int) ((l.take k).filter fun x => decide (x.From ∈ w.Bad ∨ x ∈ al.B))) (cJ.mk (l.length : Int) (l.filter fun x => decide (x.From ∈ w.Bad ∨ x ∈ al.B))) (fun k hk => by
  obtain ⟨y, hy, -⟩ := aA hk;have hlen := dc (p := fun x : Bk => decide (x.From ∈ w.Bad ∨ x ∈ al.B)) (l := l) k;unfold fR;simp only;rw [decide_eq_true (show (k : Int) < (l.length : Int) by omega), ct, aC hy, ob, zS y hb ha, ob, bI hy, ak (n := k) (by omega)]
  cases decide (y.From ∈ w.Bad ∨ y ∈ al.B) with
  | true => rw [ct, aK (by simp only [List.length_singleton]; omega) (by omega), ct, ct]
  | false => rw [cf, cf, List.append_nil]) (by
  unfold fR;simp only
  rw [decide_eq_false (show ¬ (l.length : Int) < (l.length : Int) by omega), cf, List.take_length]) (by omega)
 have e' : iter (fR l w al) bE (cJ.mk 0 []) = _ := e;unfold ow;rw [e', ob]
theorem w6 {l : List Vt} {w : Wd} {al : Vw} (hl : l.length ≤ 100000) (hb : w.Bad.length ≤ 100) (ha : al.V.length ≤ 100000) : ox l w al = some (l.filter fun x => decide (x.From ∈ w.Bad ∨ x ∈ al.V)) := by
 have e := az (step := fS l w al) (n := l.length) (fun k => cK.mk (k : Int) ((l.take k).filter fun x => decide (x.From ∈ w.Bad ∨ x ∈ al.V))) (cK.mk (l.length : Int) (l.filter fun x => decide (x.From ∈ w.Bad ∨ x ∈ al.V))) (fun k hk => by
  obtain ⟨y, hy, -⟩ := aA hk;have hlen := dc (p := fun x : Vt => decide (x.From ∈ w.Bad ∨ x ∈ al.V)) (l := l) k;unfold fS;simp only;rw [decide_eq_true (show (k : Int) < (l.length : Int) by omega), ct, aC hy, ob, zU y hb ha, ob, bI hy, ak (n := k) (by omega)]
  cases decide (y.From ∈ w.Bad ∨ y ∈ al.V) with
  | true => rw [ct, aK (by simp only [List.length_singleton]; omega) (by omega), ct, ct]
  | false => rw [cf, cf, List.append_nil]) (by
  unfold fS;simp only
  rw [decide_eq_false (show ¬ (l.length : Int) < (l.length : Int) by omega), cf, List.take_length]) (by omega)
 have e' : iter (fS l w al) bE (cK.mk 0 []) = _ := e;unfold ox;rw [e', ob]
theorem zw {a : Ac} {w : Wd} {al : Vw} (h1 : a.B.length ≤ 1000) (h2 : a.V.length ≤ 1000) (hb : w.Bad.length ≤ 100) (h3 : al.B.length ≤ 100000) (h4 : al.V.length ≤ 100000) : sA a w al = some (jL w.Bad al a) := by
 unfold sA;rw [w5 (by omega) hb h3, ob, w6 (by omega) hb h4, ob];rfl
theorem w4 {l : List Ac} {w : Wd} (hl : l.length ≤ 100000) : ov l w = some (eG w l) := by
 have e := az (step := fQ l w) (n := l.length) (fun k => cI.mk (k : Int) (eG w (l.take k))) (cI.mk (l.length : Int) (eG w l)) (fun k hk => by
  obtain ⟨y, hy, -⟩ := aA hk;have hlen := dc (p := fun a : Ac => decide (a.Tick = w.Tick ∧ a.To ≥ 0)) (l := l) k;unfold eG at hlen ⊢;unfold fQ Cd;simp only;rw [decide_eq_true (show (k : Int) < (l.length : Int) by omega), ct, aC hy, ob, bI hy, ak (n := k) (by omega)];by_cases h1 : y.Tick = w.Tick
  ·rw [beq_iff_eq.2 h1, ct, ob];by_cases h2 : y.To ≥ 0
   ·rw [decide_eq_true h2, ct, decide_eq_true ⟨h1, h2⟩, ct, aK (by simp only [List.length_singleton]; omega) (by omega), ct]
   ·rw [decide_eq_false h2, cf, decide_eq_false fun h => h2 h.2, cf, List.append_nil]
  ·rw [show (y.Tick == w.Tick) = false by simp [h1], cf, ob, cf, decide_eq_false fun h => h1 h.1, cf, List.append_nil]) (by
  unfold fQ;simp only
  rw [decide_eq_false (show ¬ (l.length : Int) < (l.length : Int) by omega), cf, List.take_length]) (by omega)
 have e' : iter (fQ l w) bE (cI.mk 0 []) = _ := e;unfold ov;rw [e', ob]
theorem Cm {w : Wd} (h : sH w) : (dV w).B.length ≤ 10000 ∧ (dV w).V.length ≤ 10000 := by
 have h1 := oA (l := w.N) (w := ⟨[], []⟩) (k := 500) h.nodes;have h2 := h.n;unfold dV;simp only [List.length_nil] at h1;omega
theorem zP {w : Wd} {l : List Ac} (h : sH w) (hl : l.length ≤ 100000) : sD w l = some (dV w, fH w, decide (fH w ∈ w.Bad), eG w l) := by
 unfold sD;rw [wL (by have := h.n; omega) h.nodes, ob, q6, ob, lG (by have := h.bad; omega), ob, w4 hl, ob];rfl
theorem oS (bad : List Int) (al : Vw) (a : Ac) : (jL bad al a).B.length ≤ a.B.length ∧ (jL bad al a).V.length ≤ a.V.length := ⟨List.length_filter_le _ _, List.length_filter_le _ _⟩
theorem vp {slot wh : Int} {bad : List Int} {al : Vw} {me : Bool} {k : Int} : ∀ {l : List Ac} {s : Vw × List Of}, (∀ a ∈ l, a.B.length ≤ 8 ∧ a.V.length ≤ 8) → (l.foldl (cg slot wh bad al me k) s).1.B.length ≤ s.1.B.length + 8 * l.length ∧ (l.foldl (cg slot wh bad al me k) s).1.V.length ≤ s.1.V.length + 8 * l.length ∧ (l.foldl (cg slot wh bad al me k) s).2.length ≤ s.2.length + l.length
 | [], s, _ => by simp
 | a :: r, s, h => by
  rw [List.foldl_cons, List.length_cons];obtain ⟨h1, h2⟩ := h a (List.mem_cons_self ..);have ih := vp (slot := slot) (wh := wh) (bad := bad) (al := al) (me := me) (k := k) (l := r) (s := cg slot wh bad al me k s a) fun b hb => h b (List.mem_cons_of_mem _ hb);have hf := oS bad al a;have hj := qI s.1 (jL bad al a)
  have : (cg slot wh bad al me k s a).1.B.length ≤ s.1.B.length + 8 ∧ (cg slot wh bad al me k s a).1.V.length ≤ s.1.V.length + 8 ∧ (cg slot wh bad al me k s a).2.length ≤ s.2.length + 1 := by
   unfold cg;split
   ·omega
   ·split
    ·simp only; omega
    ·split
     ·split
      ·omega
      ·simp only [List.length_append, List.length_singleton]; omega
     ·omega
  omega
theorem D1 {w : Wd} {l : List Ac} (h : sH w) (hl : my l) (k : Nat) : Fm w (dV w) (fH w) (decide (fH w ∈ w.Bad)) (eG w l) (k : Int) = some (b6 w l k) := by
 have hal := Cm h;have hcl : (eG w l).length ≤ 30 := Nat.le_trans (List.length_filter_le _ _) hl.len;have hce : ∀ a ∈ eG w l, a.B.length ≤ 8 ∧ a.V.length ≤ 8 := fun a ha => hl.each a (List.mem_filter.1 ha).1;unfold b6;generalize eG w l = cl at hcl hce;generalize hst : cg (py w) (fH w) w.Bad (dV w) (decide (fH w ∈ w.Bad)) (k : Int) = st;have ho := h.o;have hb := h.bad
 have e := az (step := mw w (dV w) (fH w) (decide (fH w ∈ w.Bad)) cl (k : Int)) (n := cl.length) (fun j => eX.mk (j : Int) ((cl.take j).foldl st (dV w, w.O)).1 ((cl.take j).foldl st (dV w, w.O)).2) (eX.mk (cl.length : Int) (cl.foldl st (dV w, w.O)).1 (cl.foldl st (dV w, w.O)).2) (fun j hj => by
  obtain ⟨y, hy, hm⟩ := aA hj
  have et : cl.take (j + 1) = cl.take j ++ [y] := by rw [List.take_add_one, hy]; rfl
  have hlen := vp (slot := py w) (wh := fH w) (bad := w.Bad) (al := dV w) (me := decide (fH w ∈ w.Bad)) (k := (k : Int)) (l := cl.take j) (s := (dV w, w.O)) fun a ha => hce a (List.mem_of_mem_take ha);rw [hst, List.length_take] at hlen;obtain ⟨y1, y2⟩ := hce y hm;have hf := oS w.Bad (dV w) y;unfold mw;simp only;rw [et, List.foldl_append, List.foldl_cons, List.foldl_nil];generalize (cl.take j).foldl st (dV w, w.O) = s at hlen ⊢;simp only at hlen;rw [decide_eq_true (show (j : Int) < (cl.length : Int) by omega), ct, aC hy, ob, decide_eq_true (show (0 : Int) ≤ (k : Int) by omega), ct, ak (n := j) (by omega), ← hst];show (bif EQ y.To (k : Int) then _ else _) = _;unfold cg
  cases hof : EQ y.To (k : Int) with
  | true => rw [ct, if_pos rfl]
  | false =>
   rw [cf, if_neg (by simp), zw (by omega) (by omega) hb (by omega) (by omega), ob]
   cases hoff : y.Offer with
   | false => rw [Bool.not_false, ct, if_pos rfl, kX (by omega) (by omega), ob]
   | true =>
    rw [Bool.not_true, cf, if_neg (by simp)]
    cases hme : decide (fH w ∈ w.Bad) with
    | false => rw [cf, ob, cf, if_neg (by simp)]
    | true =>
     rw [ct, ob, if_pos rfl]
     cases hB : (jL w.Bad (dV w) y).B with
     | nil => rfl
     | cons b r =>
      rw [decide_eq_true (by simp), ct];show (bif E8 (b :: r) 1 (b :: r).length then _ else none) = _;rw [show E8 (b :: r) 1 ((b :: r).length : Int) = true from decide_eq_true (by simp only [List.length_cons]; omega), ct, aK (by simp only [List.length_singleton]; omega) (by omega), ct]
      rfl) (by
  unfold mw;simp only
  rw [decide_eq_false (show ¬ (cl.length : Int) < (cl.length : Int) by omega), cf, List.take_length]) (by omega)
 have e' : iter (mw w (dV w) (fH w) (decide (fH w ∈ w.Bad)) cl (k : Int)) bE (eX.mk 0 (dV w) w.O) = _ := e;unfold Fm;rw [aK (by omega) (by omega), ct, e', ob]
theorem iL {w : Wd} {l : List Ac} {k : Nat} {n : Nd} (h : w.N[k]? = some n) : (ej w l)[k]? = some (cO w.C n (b6 w l k).1 (b6 w l k).2) := by
 unfold ej;rw [List.getElem?_map, List.getElem?_zipIdx, h];simp
theorem fV (w : Wd) (l : List Ac) : (ej w l).length = w.N.length := by
 unfold ej;rw [List.length_map, List.length_zipIdx]
theorem uX (w : Wd) : ((wY w.C).bind fun v2 => bif !v2 then some true else bif decide (w.Tick < 3) then some true else some (decide (w.Tick ≥ 3145728))) = some (ns w) := by
 rw [kS, ob];unfold ns;by_cases h1 : dj w.C
 ·rw [decide_eq_true h1, Bool.not_true, cf];by_cases h2 : w.Tick < 3
  ·rw [decide_eq_true h2, ct, decide_eq_true (.inr (.inl h2))]
  ·rw [decide_eq_false h2, cf];by_cases h3 : w.Tick ≥ 3145728
   ·rw [decide_eq_true h3, decide_eq_true (.inr (.inr h3))]
   ·rw [decide_eq_false h3, decide_eq_false];rintro (h | h | h)
    ·exact h h1
    ·exact h2 h
    ·exact h3 h
 ·rw [decide_eq_false h1, Bool.not_false, ct, decide_eq_true (.inl h1)]
theorem yM {w : Wd} {l : List Ac} (h : sH w) (hl : my l) (hG : ∀ k n, w.N[k]? = some n → lJ w.C n (b6 w l k).1 (b6 w l k).2) (hT : ∀ k n, w.N[k]? = some n → (cO w.C n (b6 w l k).1 (b6 w l k).2).2.length ≤ 1) : oh w l = some (iZ w l) := by
 have hN := h.n;unfold oh iZ;rw [uX, ob]
 cases hi : ns w with
 | true => rw [ct, sq h, ob, if_pos rfl]
 | false =>
  have hsl := fV w l
  have hfl : ∀ k, k ≤ w.N.length → (((ej w l).take k).flatMap (·.2)).length ≤ k := by
   intro k
   induction k with
   | zero => intro _; simp
   | succ k ih =>
    intro hk;obtain ⟨n, hn⟩ : ∃ n, w.N[k]? = some n := ⟨_, List.getElem?_eq_getElem (by omega)⟩;rw [List.take_add_one, iL hn, List.flatMap_append, List.length_append];have := ih (by omega);have := hT k n hn;simp only [Option.toList_some, List.flatMap_cons, List.flatMap_nil, List.append_nil];omega
  have e := az (step := im w (dV w, fH w, decide (fH w ∈ w.Bad), eG w l)) (n := w.N.length) (fun k => dQ.mk (k : Int) (((ej w l).take k).map (·.1)) (((ej w l).take k).flatMap (·.2))) (dQ.mk (w.N.length : Int) ((ej w l).map (·.1)) ((ej w l).flatMap (·.2))) (fun k hk => by
   obtain ⟨y, hy, hm⟩ := aA hk;have hk2 := hfl k (by omega);have hT1 := hT k y hy;have hw := (pD (hG k y hy)).1;unfold im;simp only;rw [decide_eq_true (show (k : Int) < (w.N.length : Int) by omega), ct, D1 h hl k, ob, aC hy, ob, hw, ob, aK (by rw [List.length_map, List.length_take]; simp only [List.length_singleton]; omega) (by omega), ct, aK (by omega) (by omega), ct, ak (n := k) (by omega)];rw [List.take_add_one, iL hy, List.map_append, List.flatMap_append]
   simp) (by
   unfold im;simp only
   rw [decide_eq_false (show ¬ (w.N.length : Int) < (w.N.length : Int) by omega), cf, List.take_of_length_le (by omega)]) (by omega)
  have e' : iter (im w (dV w, fH w, decide (fH w ∈ w.Bad), eG w l)) bE (dQ.mk 0 [] []) = _ := e;have := h.bad;rw [cf, zP h (by have := hl.len; omega), ob, aK (by omega) (by omega), ct, e', ob, if_neg (by simp)]
def E4 (o : Of) : Prop := o.V.B.length ≤ 60 ∧ o.V.V.length ≤ 240
structure HU (c : Cf) (U : Vw) (n : Nd) : Prop where
 may : gb c n.V
 nd : uj n.In
 few : n.O.length ≤ 8
 all : un (· ∈ U.B) (· ∈ U.V) n
 sz : ∀ o ∈ n.O, E4 o
structure z7 (U : Vw) (w : Wd) : Prop where
 len : w.N.length ≤ 6
 bad : w.Bad.length ≤ 10
 nodes : ∀ n ∈ w.N, HU w.C U n
 told : w.O.length ≤ 6
 offs : ∀ o ∈ w.O, mp (· ∈ U.B) (· ∈ U.V) o ∧ E4 o
def jq (l : List Ac) : Vw := ⟨l.flatMap Ac.B, l.flatMap Ac.V⟩
def k6 (a b : Vw) : Prop := (∀ x ∈ a.B, x ∈ b.B) ∧ ∀ x ∈ a.V, x ∈ b.V
theorem pG (a : Vw) : k6 a a := ⟨fun _ h => h, fun _ h => h⟩
theorem m6 {a b d : Vw} (h1 : k6 a b) (h2 : k6 b d) : k6 a d := ⟨fun x h => h2.1 x (h1.1 x h), fun x h => h2.2 x (h1.2 x h)⟩
theorem qh {P P' : Bk → Prop} {Q Q' : Vt → Prop} (hP : ∀ b, P b → P' b) (hQ : ∀ v, Q v → Q' v) {n : Nd} (h : un P Q n) : un P' Q' n :=
 ⟨⟨fun b hb => hP b (h.1.1 b hb), fun v hv => hQ v (h.1.2 v hv)⟩, ⟨fun b hb => hP b (h.2.1.1 b hb), fun v hv => hQ v (h.2.1.2 v hv)⟩, fun o ho => ⟨hP _ (h.2.2 o ho).1, fun b hb => hP b ((h.2.2 o ho).2.1 b hb), fun v hv => hQ v ((h.2.2 o ho).2.2 v hv)⟩⟩
theorem qi {P P' : Bk → Prop} {Q Q' : Vt → Prop} (hP : ∀ b, P b → P' b) (hQ : ∀ v, Q v → Q' v) {o : Of} (h : mp P Q o) : mp P' Q' o :=
 ⟨hP _ h.1, fun b hb => hP b (h.2.1 b hb), fun v hv => hQ v (h.2.2 v hv)⟩
theorem AY {c : Cf} {U U' : Vw} (h : k6 U U') {n : Nd} (hn : HU c U n) : HU c U' n := ⟨hn.may, hn.nd, hn.few, qh h.1 h.2 hn.all, hn.sz⟩
theorem Bw {U U' : Vw} (h : k6 U U') {w : Wd} (hw : z7 U w) : z7 U' w := ⟨hw.len, hw.bad, fun n hn => AY h (hw.nodes n hn), hw.told, fun o ho => ⟨qi h.1 h.2 (hw.offs o ho).1, (hw.offs o ho).2⟩⟩
section
variable {P : Bk → Prop} {Q : Vt → Prop}
theorem wa : ∀ {l : List Nd} {w : Vw}, eB P Q w → (∀ n ∈ l, un P Q n) → eB P Q (kE l w)
 | [], w, h, _ => h
 | n :: r, w, h, hs => by
  have hn := hs n (List.mem_cons_self ..);exact wa (l := r) (w := bG w (dK n)) (en h (en hn.1 hn.2.1)) fun m hm => hs m<|List.mem_cons_of_mem _ hm
theorem xd {bad : List Int} {al : Vw} {a : Ac} (hal : eB P Q al) (hB : ∀ b ∈ a.B, b.From ∈ bad → P b) (hV : ∀ v ∈ a.V, v.From ∈ bad → Q v) : eB P Q (jL bad al a) := by
 refine ⟨fun b hb => ?_, fun v hv => ?_⟩
 ·obtain ⟨h1, h2⟩ := List.mem_filter.1 hb;rcases of_decide_eq_true h2 with h | h
  ·exact hB b h1 h
  ·exact hal.1 b h
 ·obtain ⟨h1, h2⟩ := List.mem_filter.1 hv;rcases of_decide_eq_true h2 with h | h
  ·exact hV v h1 h
  ·exact hal.2 v h
theorem Bi {slot wh : Int} {bad : List Int} {al : Vw} {me : Bool} {k : Int} (hal : eB P Q al) : ∀ {l : List Ac} {s : Vw × List Of}, (∀ a ∈ l, (∀ b ∈ a.B, b.From ∈ bad → P b) ∧ ∀ v ∈ a.V, v.From ∈ bad → Q v) → eB P Q s.1 → (∀ o ∈ s.2, mp P Q o) → eB P Q (l.foldl (cg slot wh bad al me k) s).1 ∧ ∀ o ∈ (l.foldl (cg slot wh bad al me k) s).2, mp P Q o
 | [], s, _, h1, h2 => ⟨h1, h2⟩
 | a :: r, s, h, h1, h2 => by
  rw [List.foldl_cons];have hf := xd hal (h a (List.mem_cons_self ..)).1 (h a (List.mem_cons_self ..)).2
  have : eB P Q (cg slot wh bad al me k s a).1 ∧ ∀ o ∈ (cg slot wh bad al me k s a).2, mp P Q o := by
   unfold cg;split
   ·exact ⟨h1, h2⟩
   ·split
    ·exact ⟨en h1 hf, h2⟩
    ·split
     ·split
      ·exact ⟨h1, h2⟩
      ·rename_i b q hB;refine ⟨h1, fun o ho => ?_⟩;rcases List.mem_append.1 ho with ho | ho
       ·exact h2 o ho
       ·rw [List.mem_singleton.1 ho];exact ⟨hf.1 b (by rw [hB]; exact List.mem_cons_self ..), fun x hx => hf.1 x (by rw [hB]; exact List.mem_cons_of_mem _ hx), hf.2⟩
     ·exact ⟨h1, h2⟩
  exact Bi hal (fun b hb => h b (List.mem_cons_of_mem _ hb)) this.1 this.2
theorem DA {slot wh : Int} {bad : List Int} {al : Vw} {me : Bool} {k : Int} : ∀ {l : List Ac} {s : Vw × List Of}, uj s.1 → uj (l.foldl (cg slot wh bad al me k) s).1
 | [], s, h => h
 | a :: r, s, h => by
  rw [List.foldl_cons];refine DA ?_;unfold cg;split
  ·exact h
  ·split
   ·exact jW h
   ·split
    ·split <;> exact h
    ·exact h
theorem DB {slot wh : Int} {bad : List Int} {al : Vw} {me : Bool} {k : Int} : ∀ {l : List Ac} {s : Vw × List Of}, (∀ a ∈ l, a.B.length ≤ 8 ∧ a.V.length ≤ 8) → (∀ o ∈ s.2, E4 o) → ∀ o ∈ (l.foldl (cg slot wh bad al me k) s).2, E4 o
 | [], s, _, h => h
 | a :: r, s, hl, h => by
  rw [List.foldl_cons];refine DB (fun b hb => hl b (List.mem_cons_of_mem _ hb)) ?_;have hf := oS bad al a;have ha := hl a (List.mem_cons_self ..);unfold cg;split
  ·exact h
  ·split
   ·exact h
   ·split
    ·split
     ·exact h
     ·rename_i b q hB;intro o ho;rcases List.mem_append.1 ho with ho | ho
      ·exact h o ho
      ·rw [List.mem_singleton.1 ho];have := congrArg List.length hB;rw [List.length_cons] at this;exact ⟨show q.length ≤ 60 by omega, show (jL bad al a).V.length ≤ 240 by omega⟩
    ·exact h
end
def E5 (U : Vw) : Prop := U.B.length ≤ 400 ∧ U.V.length ≤ 400
theorem rJ {U : Vw} {w : Wd} (hw : z7 U w) (hU : E5 U) : sH w := by
 refine ⟨by have := hw.len; omega, fun n hn => ?_, by have := hw.told; omega, fun o ho => ?_, by have := hw.bad; omega⟩
 ·have h := hw.nodes n hn;have h1 := h.may.lenB;have h2 := h.may.lenV;have h3 := dG h.nd.1 h.all.2.1.1;have h4 := dG h.nd.2 h.all.2.1.2;have h5 := h.few;obtain ⟨u1, u2⟩ := hU;exact ⟨⟨by omega, by omega⟩, ⟨by omega, by omega⟩, by omega, fun o ho => by have := h.sz o ho; exact ⟨by have := this.1; omega, by have := this.2; omega⟩⟩
 ·have := (hw.offs o ho).2;exact ⟨by have := this.1; omega, by have := this.2; omega⟩
theorem sS {P : Bk → Prop} {Q : Vt → Prop} {w : Wd} {l : List Ac} (hn : ∀ n ∈ w.N, un P Q n) (ho : ∀ o ∈ w.O, mp P Q o) (ha : ∀ a ∈ l, (∀ b ∈ a.B, b.From ∈ w.Bad → P b) ∧ ∀ v ∈ a.V, v.From ∈ w.Bad → Q v) (k : Nat) :
  eB P Q (b6 w l k).1 ∧ ∀ o ∈ (b6 w l k).2, mp P Q o := by
 have hal : eB P Q (dV w) := wa oB hn;exact Bi hal (fun a h => ha a (List.mem_filter.1 h).1) hal ho
theorem CA (w : Wd) (l : List Ac) (k : Nat) : uj (b6 w l k).1 := DA (qm List.nodup_nil List.nodup_nil)
theorem Ar {w : Wd} {l : List Ac} (hl : my l) (k : Nat) : (b6 w l k).2.length ≤ w.O.length + 30 := by
 have h := (vp (slot := py w) (wh := fH w) (bad := w.Bad) (al := dV w) (me := decide (fH w ∈ w.Bad)) (k := (k : Int)) (l := eG w l) (s := (dV w, w.O)) fun a ha => hl.each a (List.mem_filter.1 ha).1).2.2;have h2 : (eG w l).length ≤ l.length := List.length_filter_le _ _;have h3 := hl.len;unfold b6;simp only at h;omega
theorem wc {U : Vw} {w : Wd} {l : List Ac} (hw : z7 U w) (hl : my l) (k : Nat) : ∀ o ∈ (b6 w l k).2, E4 o := DB (fun a ha => hl.each a (List.mem_filter.1 ha).1) fun o ho => (hw.offs o ho).2
theorem vZ {l : List Ac} {U : Vw} (hs : k6 (jq l) U) (bad : List Int) : ∀ a ∈ l, (∀ b ∈ a.B, b.From ∈ bad → b ∈ U.B) ∧ ∀ v ∈ a.V, v.From ∈ bad → v ∈ U.V :=
 fun a ha => ⟨fun b hb _ => hs.1 b (List.mem_flatMap.2 ⟨a, ha, hb⟩), fun v hv _ => hs.2 v (List.mem_flatMap.2 ⟨a, ha, hv⟩)⟩
theorem GC {U : Vw} {w : Wd} {l : List Ac} (hw : z7 U w) (hU : E5 U) (hl : my l) (hs : k6 (jq l) U) {k : Nat} {n : Nd} (hk : w.N[k]? = some n) : lJ w.C n (b6 w l k).1 (b6 w l k).2 := by
 have hn := hw.nodes n (List.mem_of_getElem? hk);obtain ⟨u1, u2⟩ := hU;have hc := sS (fun n hn => (hw.nodes n hn).all) (fun o ho => (hw.offs o ho).1) (vZ hs w.Bad) k;have hd := CA w l k;have hi := dG hd.1 hc.1.1;have hi2 := dG hd.2 hc.1.2;have hj : uj (bG n.In (aT w.C (b6 w l k).1)) := jW hn.nd;have hja : eB (· ∈ U.B) (· ∈ U.V) (bG n.In (aT w.C (b6 w l k).1)) := en hn.all.2.1 (qk hc.1);have h1 := hn.may.lenB;have h2 := hn.may.lenV;have h3 := dG hn.nd.1 hn.all.2.1.1;have h4 := dG hn.nd.2 hn.all.2.1.2;have h5 := dG hj.1 hja.1;have h6 := dG hj.2 hja.2;have h7 := Ar (w := w) hl k;have h8 := hw.told;have h9 := hn.few;refine ⟨by omega, by omega, by omega, by omega, by omega, fun y hy => ?_⟩
 have : E4 y := by
  rcases List.mem_append.1 hy with hy | hy
  ·exact hn.sz y hy
  ·exact wc hw hl k y hy
 exact ⟨by have := this.1; omega, by have := this.2; omega⟩
noncomputable def GR (w : Wd) (l : List Ac) : List Bk := w.N.zipIdx.map fun p => qO (cz w.C p.1 (b6 w l p.2).1 (b6 w l p.2).2) w.C (aO p.1)
noncomputable def GS (w : Wd) (l : List Ac) : List Vt := w.N.zipIdx.map fun p => DC w.C p.1 (b6 w l p.2).1 (b6 w l p.2).2
noncomputable def kN (U : Vw) (w : Wd) (l : List Ac) : Vw := ⟨U.B ++ GR w l, U.V ++ GS w l⟩
theorem fw (U : Vw) (w : Wd) (l : List Ac) : k6 U (kN U w l) := ⟨fun _ h => List.mem_append_left _ h, fun _ h => List.mem_append_left _ h⟩
theorem A0 {U : Vw} {w : Wd} (hw : w.N.length ≤ 6) (l : List Ac) : (kN U w l).B.length ≤ U.B.length + 6 ∧ (kN U w l).V.length ≤ U.V.length + 6 := by
 unfold kN GR GS;simp only [List.length_append, List.length_map, List.length_zipIdx];omega
theorem wK {w : Wd} {k : Nat} {n : Nd} (h : w.N[k]? = some n) : (n, k) ∈ w.N.zipIdx := by
 refine List.mem_of_getElem? (i := k) ?_;rw [List.getElem?_zipIdx, h];simp
theorem rh {w : Wd} {l : List Ac} (hi : ns w = false) {k : Nat} : ((iZ w l).N[k]? = (w.N[k]?).map fun n => (cO w.C n (b6 w l k).1 (b6 w l k).2).1) := by
 unfold iZ;rw [if_neg (by simp [hi])];simp only;rw [List.getElem?_map]
 cases h : w.N[k]? with
 | none =>
  have := List.getElem?_eq_none_iff.1 h;rw [List.getElem?_eq_none (by rw [fV]; exact this)];rfl
 | some n => rw [iL h]; rfl
theorem CE {w : Wd} {l : List Ac} (hi : ns w = false) {o : Of} (ho : o ∈ (iZ w l).O) : ∃ k n, w.N[k]? = some n ∧ o ∈ (cO w.C n (b6 w l k).1 (b6 w l k).2).2 := by
 unfold iZ at ho;rw [if_neg (by simp [hi])] at ho;obtain ⟨p, hp, h⟩ := List.mem_flatMap.1 ho;obtain ⟨k, hk, e⟩ := List.getElem_of_mem hp;rw [fV] at hk;obtain ⟨n, hn⟩ : ∃ n, w.N[k]? = some n := ⟨_, List.getElem?_eq_getElem hk⟩;refine ⟨k, n, hn, ?_⟩;have h1 := iL (l := l) hn;rw [List.getElem?_eq_getElem (by rw [fV]; exact hk), e] at h1;rw [← Option.some.inj h1];exact h
theorem EA (w : Wd) (l : List Ac) : (iZ w l).N.length = w.N.length := by
 unfold iZ;split
 ·rfl
 ·simp only [List.length_map, fV]
theorem Dl {U : Vw} {w : Wd} {l : List Ac} (hw : z7 U w) (hU : E5 U) (hl : my l) (hs : k6 (jq l) U) : oh w l = some (iZ w l) ∧ z7 (kN U w l) (iZ w l) := by
 have hfit := rJ hw hU;have hG : ∀ k n, w.N[k]? = some n → lJ w.C n (b6 w l k).1 (b6 w l k).2 := fun k n h => GC hw hU hl hs h;have hsame := fun k n (h : w.N[k]? = some n) => qW (hG k n h) (hw.nodes n (List.mem_of_getElem? h)).may (hw.nodes n (List.mem_of_getElem? h)).nd (hw.nodes n (List.mem_of_getElem? h)).few;have hc := fun k => sS (fun n hn => (hw.nodes n hn).all) (fun o ho => (hw.offs o ho).1) (vZ hs w.Bad) k;refine ⟨yM hfit hl hG fun k n h => (hsame k n h).2.2.2.2.2.2.1, ?_⟩
 cases hi : ns w with
 | true => unfold iZ; rw [if_pos hi]; exact Bw (fw U w l) hw
 | false =>
  have hall := fun k n (h : w.N[k]? = some n) => Bc (P := (· ∈ (kN U w l).B)) (Q := (· ∈ (kN U w l).V)) (hG k n h)
   (qh (fw U w l).1 (fw U w l).2 (hw.nodes n (List.mem_of_getElem? h)).all)
   ⟨fun b hb => (fw U w l).1 b ((hc k).1.1 b hb), fun v hv => (fw U w l).2 v ((hc k).1.2 v hv)⟩
   (fun y hy => qi (fw U w l).1 (fw U w l).2 ((hc k).2 y hy))
   (fun _ _ _ => List.mem_append_right _ (List.mem_map.2 ⟨_, wK h, rfl⟩)) (fun _ _ _ => List.mem_append_right _ (List.mem_map.2 ⟨_, wK h, rfl⟩))
  have hC : (iZ w l).C = w.C := by unfold iZ; rw [if_neg (by simp [hi])]
  have hB : (iZ w l).Bad = w.Bad := by unfold iZ; rw [if_neg (by simp [hi])]
  have hO : (iZ w l).O.length ≤ 6 := by
   have : ∀ k, k ≤ w.N.length → (((ej w l).take k).flatMap (·.2)).length ≤ k := by
    intro k
    induction k with
    | zero => intro _; simp
    | succ k ih =>
     intro hk;obtain ⟨n, hn⟩ : ∃ n, w.N[k]? = some n := ⟨_, List.getElem?_eq_getElem (by omega)⟩;rw [List.take_add_one, iL hn, List.flatMap_append, List.length_append];have := ih (by omega);have := (hsame k n hn).2.2.2.2.2.2.1;simp only [Option.toList_some, List.flatMap_cons, List.flatMap_nil, List.append_nil];omega
   have h2 := this w.N.length (Nat.le_refl _);rw [List.take_of_length_le (by rw [fV]; omega)] at h2;have h3 := hw.len;unfold iZ;rw [if_neg (by simp [hi])];simp only;omega
  refine ⟨by rw [EA]; exact hw.len, by rw [hB]; exact hw.bad, fun x hx => ?_, hO, fun o ho => ?_⟩
  ·obtain ⟨k, hk, e⟩ := List.getElem_of_mem hx
   have h1 : (iZ w l).N[k]? = some x := by rw [List.getElem?_eq_getElem hk, e]
   rw [rh hi] at h1
   cases hn : w.N[k]? with
   | none => rw [hn] at h1; cases h1
   | some n =>
    rw [hn] at h1;have e2 := Option.some.inj h1;subst e2;obtain ⟨s1, s2, s3, s4, s5, s6, s7, s8, s9⟩ := hsame k n hn;rw [hC];refine ⟨s3.1, s4, s5, (hall k n hn).1, fun o ho => ?_⟩;rcases List.mem_append.1 (s8 o ho) with h | h
    ·exact (hw.nodes n (List.mem_of_getElem? hn)).sz o h
    ·exact wc hw hl k o h
  ·obtain ⟨k, n, hn, h⟩ := CE hi ho;obtain ⟨s1, s2, s3, s4, s5, s6, s7, s8, s9⟩ := hsame k n hn;exact ⟨(hall k n hn).2 o h, (s9 o h).lenB, (s9 o h).lenV⟩
structure E6 (w : Wd) : Prop where
 may : dj w.C
 lo : 3 ≤ w.Tick
 hi : w.Tick ≤ 100000
 at_ : ∀ n ∈ w.N, n.Tick = w.Tick
theorem Bd {w : Wd} (h : E6 w) : ns w = false := by
 refine decide_eq_false ?_;have h1 := h.lo;have h2 := h.hi;rintro (h3 | h3 | h3)
 ·exact h3 h.may
 ·omega
 ·omega
theorem Be {w : Wd} (h : E6 w) {n : Nd} (hn : n ∈ w.N) : ew w.C n = false := by
 have h1 := h.lo;have h2 := h.hi;have h3 := h.at_ n hn;exact Cn h.may (by omega) (by omega)
theorem CD {U : Vw} {w : Wd} {l : List Ac} (hw : z7 U w) (hU : E5 U) (hl : my l) (hs : k6 (jq l) U) (ht : E6 w) : (iZ w l).C = w.C ∧ (iZ w l).Bad = w.Bad ∧ (iZ w l).Tick = w.Tick + 1 ∧ (∀ n ∈ (iZ w l).N, n.Tick = w.Tick + 1) ∧ (iZ w l).N.map Nd.No = w.N.map Nd.No := by
 have hi := Bd ht;have h1 := ht.lo;have h2 := ht.hi;have hG : ∀ k n, w.N[k]? = some n → lJ w.C n (b6 w l k).1 (b6 w l k).2 := fun k n h => GC hw hU hl hs h;have hsame := fun k n (h : w.N[k]? = some n) => qW (hG k n h) (hw.nodes n (List.mem_of_getElem? h)).may (hw.nodes n (List.mem_of_getElem? h)).nd (hw.nodes n (List.mem_of_getElem? h)).few;refine ⟨by unfold iZ; rw [if_neg (by simp [hi])], by unfold iZ; rw [if_neg (by simp [hi])], by unfold iZ; rw [if_neg (by simp [hi])]; exact eA (by omega) (by omega), fun x hx => ?_, ?_⟩
 ·obtain ⟨k, hk, e⟩ := List.getElem_of_mem hx
  have h1 : (iZ w l).N[k]? = some x := by rw [List.getElem?_eq_getElem hk, e]
  rw [rh hi] at h1
  cases hn : w.N[k]? with
  | none => rw [hn] at h1; cases h1
  | some n =>
   rw [hn] at h1;have e2 := Option.some.inj h1;subst e2;have hm := List.mem_of_getElem? hn;have := (hsame k n hn).2.1;rw [Be ht hm, if_neg (by simp), ht.at_ n hm, eA (by omega) (by omega)] at this;exact this
 ·apply List.ext_getElem?;intro k;rw [List.getElem?_map, List.getElem?_map, rh hi]
  cases hn : w.N[k]? with
  | none => rfl
  | some n =>
   simp only [Option.map_some];rw [(hsame k n hn).1]
noncomputable def gY (w : Wd) (l : List Ac) : Nat → Wd
 | 0 => w
 | n + 1 => iZ (gY w l n) l
noncomputable def rC (U : Vw) (w : Wd) (l : List Ac) : Nat → Vw
 | 0 => U
 | n + 1 => kN (rC U w l n) (gY w l n) l
structure Fn (U : Vw) (w : Wd) (l : List Ac) (k : Nat) : Prop where
 ok : z7 (rC U w l k) (gY w l k)
 B : (rC U w l k).B.length ≤ U.B.length + 6 * k
 V : (rC U w l k).V.length ≤ U.V.length + 6 * k
 sub : k6 U (rC U w l k)
 time : E6 (gY w l k)
 tick : (gY w l k).Tick = w.Tick + k
 conf : (gY w l k).C = w.C
 bad : (gY w l k).Bad = w.Bad
 nos : (gY w l k).N.map Nd.No = w.N.map Nd.No
theorem A7 {U : Vw} {w : Wd} {l : List Ac} (hw : z7 U w) (hl : my l) (hs : k6 (jq l) U) (ht : E6 w) (hB : U.B.length ≤ 300) (hV : U.V.length ≤ 300) (hT : w.Tick ≤ 1000) : ∀ k, k ≤ 15 → Fn U w l k
 | 0, _ => ⟨hw, by simp [rC], by simp [rC], pG U, ht, by simp [gY], rfl, rfl, rfl⟩
 | k + 1, h => by
  obtain ⟨r1, r2, r3, r4, r5, r6, r7, r8, r9⟩ := A7 hw hl hs ht hB hV hT k (by omega);have hU : E5 (rC U w l k) := ⟨by omega, by omega⟩;have hs' := m6 hs r4;have hd := Dl r1 hU hl hs';obtain ⟨t1, t2, t3, t4, t5⟩ := CD r1 hU hl hs' r5;have hn := A0 (U := rC U w l k) r1.len l;have h1 := r5.lo;refine ⟨hd.2, ?_, ?_, m6 r4 (fw _ _ _), ⟨by show dj (iZ _ _).C; rw [t1]; exact r5.may, by show 3 ≤ (iZ _ _).Tick; omega, by show (iZ _ _).Tick ≤ _; omega, fun n hn => by rw [t4 n hn]; exact t3.symm⟩, ?_, t1.trans r7, t2.trans r8, t5.trans r9⟩
  ·show (kN _ _ _).B.length ≤ _; omega
  ·show (kN _ _ _).V.length ≤ _; omega
  ·show (iZ _ _).Tick = _; rw [t3, r6]; omega
theorem EB {U : Vw} {w : Wd} {l : List Ac} (hl : my l) (hs : k6 (jq l) U) (hB : U.B.length ≤ 300) (hV : U.V.length ≤ 300) {k : Nat} (hk : k ≤ 15) (h : Fn U w l k) : oh (gY w l k) l = some (gY w l (k + 1)) := by
 have h2 := h.B;have h3 := h.V;exact (Dl h.ok ⟨by omega, by omega⟩ hl (m6 hs h.sub)).1
theorem yP {U : Vw} {w : Wd} {l : List Ac} (hl : my l) (hs : k6 (jq l) U) (hB : U.B.length ≤ 300) (hV : U.V.length ≤ 300) {t : Int} (ht : t ≤ 15) (h : ∀ k : Nat, (k : Int) ≤ t ∨ k = 0 → Fn U w l k) : nh w l t = some (gY w l t.toNat) := by
 have h0 := h 0 (.inr rfl);have hU : E5 U := ⟨by omega, by omega⟩
 have e := az (step := ip l t) (n := t.toNat) (fun k => dR.mk (k : Int) (gY w l k)) (dR.mk (t.toNat : Int) (gY w l t.toNat)) (fun k hk => by
  unfold ip;simp only
  rw [if_neg (by omega), decide_eq_true (show (k : Int) < t by omega), ct, EB hl hs hB hV (by omega) (h k (.inl (by omega))), ob, ak (n := k) (by omega)]) (by
  unfold ip;simp only
  rw [if_neg (by omega), decide_eq_false (show ¬ (t.toNat : Int) < t by omega), cf]) (by omega)
 have e' : iter (ip l t) bE (dR.mk 0 w) = _ := e;unfold nh;rw [sq (rJ (U := U) (w := w) h0.ok hU), ob, e', ob]
theorem yN : sn = some true := by kernel_rfl
theorem yQ (l : List Ac) {k : Int} (hk : k ≤ 100) : qe l k = some false ∨ (qe l k = some true ∧ (l.length : Int) ≤ k ∧ ∀ a ∈ l, a.B.length ≤ 8 ∧ a.V.length ≤ 8) := by
 unfold qe;by_cases h : (l.length : Int) > k
 ·rw [decide_eq_true h, ct]; exact .inl rfl
 ·rw [decide_eq_false h, cf]
  have e := xN (step := f9 l) (n := l.length) (fun j => dw.mk (j : Int)) false (fun j => ∀ a, l[j]? = some a → a.B.length ≤ 8 ∧ a.V.length ≤ 8) (fun j hj => by
   obtain ⟨y, hy, -⟩ := aA hj;unfold f9;simp only;rw [decide_eq_true (show (j : Int) < (l.length : Int) by omega), ct, aC hy, ob, ob];by_cases h1 : (y.B.length : Int) > 8
   ·rw [decide_eq_true h1, ct]; exact .inl rfl
   ·rw [decide_eq_false h1, cf];by_cases h2 : (y.V.length : Int) > 8
    ·rw [decide_eq_true h2, ct]; exact .inl rfl
    ·rw [decide_eq_false h2, cf, ak (n := j) (by omega)];refine .inr ⟨rfl, fun a ha => ?_⟩;rw [hy] at ha;obtain rfl := Option.some.inj ha
     omega) (by
   unfold f9;simp only
   rw [decide_eq_false (show ¬ (l.length : Int) < (l.length : Int) by omega), cf]) (by omega)
  have e2 : iter (f9 l) bE (dw.mk 0) = some (.inr false) ∨ (iter (f9 l) bE (dw.mk 0) = some (.inl (dw.mk (l.length : Int))) ∧ _) := e;rcases e2 with e2 | ⟨e2, h3⟩
  ·rw [e2, ob]; exact .inl rfl
  ·rw [e2, ob];refine .inr ⟨rfl, by omega, fun a ha => ?_⟩;obtain ⟨j, hj⟩ := List.getElem?_of_mem ha;exact h3 j (List.getElem?_eq_some_iff.1 hj).1 a hj
structure Fa (c : Cf) (bad : List Int) (l : List Ac) : Prop where
 acts : my l
 len : l.length ≤ 25
 may : dj c
 w : c.W.length ≤ 6
 bad : bad.length ≤ 6
theorem yO (c : Cf) (bad : List Int) (l : List Ac) : qd c bad l = some false ∨ (qd c bad l = some true ∧ Fa c bad l) := by
 unfold qd;rcases yQ l (k := 25) (by omega) with e | ⟨e, h1, h2⟩
 ·rw [e, ob, cf]; exact .inl rfl
 ·rw [e, ob, ct, kS, ob];by_cases hm : dj c
  ·rw [decide_eq_true hm, ct];by_cases hw : (c.W.length : Int) ≤ 6
   ·rw [decide_eq_true hw, ct];by_cases hb : (bad.length : Int) ≤ 6
    ·rw [decide_eq_true hb]; exact .inr ⟨rfl, ⟨by omega, h2⟩, by omega, hm, by omega, by omega⟩
    ·rw [decide_eq_false hb]; exact .inl rfl
   ·rw [decide_eq_false hw, cf]; exact .inl rfl
  ·rw [decide_eq_false hm, cf]; exact .inl rfl
def nr (bad : List Int) (n : Nat) : List Int := ((List.range n).map Int.ofNat).filter fun i => decide (i ∉ bad)
theorem uV (bad : List Int) (n : Nat) : nr bad (n + 1) = nr bad n ++ if (n : Int) ∈ bad then [] else [(n : Int)] := by
 unfold nr;rw [List.range_succ, List.map_append, List.filter_append];by_cases h : (n : Int) ∈ bad <;> simp [h]
theorem qz (bad : List Int) (n : Nat) : (nr bad n).length ≤ n := Nat.le_trans (List.length_filter_le _ _) (by simp)
def AZ (i : Int) : Nd := ⟨i, 3, ⟨[], []⟩, ⟨[], []⟩, [], ⟨(0, 0), 0, 0⟩, false⟩
def tN (c : Cf) (bad : List Int) : Wd := ⟨c, bad, 3, (nr bad c.W.length).map AZ, []⟩
theorem yL {c : Cf} {bad : List Int} (hm : dj c) (hb : bad.length ≤ 100) : qc c bad = some (tN c bad) := by
 have hw := hm.2.1
 have e := az (step := il c bad) (n := c.W.length) (fun k => du.mk (k : Int) ((nr bad k).map AZ)) (du.mk (c.W.length : Int) ((nr bad c.W.length).map AZ)) (fun k hk => by
  have hg := qz bad k;unfold il;simp only;rw [decide_eq_true (show (k : Int) < (c.W.length : Int) by omega), ct, lG (by omega), ob, uV, ak (n := k) (by omega)];by_cases h : (k : Int) ∈ bad
  ·rw [decide_eq_true h, Bool.not_true, cf, if_pos h, List.append_nil]
  ·rw [decide_eq_false h, Bool.not_false, ct, if_neg h];unfold vU;rw [ob, aK (by rw [List.length_map]; simp only [List.length_singleton]; omega) (by omega), ct, List.map_append]
   rfl) (by
  unfold il;simp only
  rw [decide_eq_false (show ¬ (c.W.length : Int) < (c.W.length : Int) by omega), cf]) (by omega)
 have e' : iter (il c bad) bE (du.mk 0 []) = _ := e;unfold qc;rw [aK (by omega) (by omega), ct, kS, ob, decide_eq_true hm, Bool.not_true, cf, e', ob];rfl
theorem AQ {c : Cf} (hm : dj c) : gb c ⟨[], []⟩ := ⟨hm, xX, by simp, by simp, fun b hb => (by cases hb), fun v hv => (by cases hv), List.nodup_nil, fun v hv => (by cases hv)⟩
theorem mz {l : List Ac} {k : Nat} (hk : l.length ≤ k) (h : ∀ a ∈ l, a.B.length ≤ 8 ∧ a.V.length ≤ 8) : (jq l).B.length ≤ 8 * k ∧ (jq l).V.length ≤ 8 * k := by
 have : ∀ m : List Ac, (∀ a ∈ m, a.B.length ≤ 8 ∧ a.V.length ≤ 8) → (m.flatMap Ac.B).length ≤ 8 * m.length ∧ (m.flatMap Ac.V).length ≤ 8 * m.length := by
  intro m
  induction m with
  | nil => intro _; simp
  | cons a r ih =>
   intro h;have h1 := ih fun b hb => h b (List.mem_cons_of_mem _ hb);have h2 := h a (List.mem_cons_self ..);rw [List.flatMap_cons, List.flatMap_cons, List.length_append, List.length_append, List.length_cons];omega
 have := this l h;unfold jq;simp only;omega
theorem EO {c : Cf} {bad : List Int} (hm : dj c) (hw : c.W.length ≤ 6) (hb : bad.length ≤ 10) (U : Vw) : z7 U (tN c bad) ∧ E6 (tN c bad) := by
 have hg := qz bad c.W.length
 have hN : ∀ n ∈ (tN c bad).N, ∃ i, n = AZ i := fun n hn => by
  obtain ⟨i, -, h⟩ := List.mem_map.1 hn;exact ⟨i, h.symm⟩
 refine ⟨⟨by show ((nr bad c.W.length).map AZ).length ≤ 6; rw [List.length_map]; omega, hb, fun n hn => ?_, Nat.zero_le _, fun o ho => by cases ho⟩, ⟨hm, Int.le_refl _, by show (3 : Int) ≤ 100000; omega, fun n hn => ?_⟩⟩
 ·obtain ⟨i, rfl⟩ := hN n hn;exact ⟨AQ hm, ⟨List.nodup_nil, List.nodup_nil⟩, Nat.zero_le _, ⟨oB, oB, fun o ho => (by cases ho)⟩, fun o ho => (by cases ho)⟩
 ·obtain ⟨i, rfl⟩ := hN n hn;rfl
theorem sL {c : Cf} {bad : List Int} {l : List Ac} (hm : dj c) (hw : c.W.length ≤ 6) (hb : bad.length ≤ 10) (hl : my l) : ∀ k, k ≤ 15 → Fn (jq l) (tN c bad) l k := by
 have h := EO hm hw hb (jq l);have h1 := mz hl.len hl.each;exact A7 h.1 hl (pG _) h.2 (by omega) (by omega) (by show (3 : Int) ≤ 1000; omega)
theorem qr {c : Cf} {bad : List Int} {l : List Ac} (hm : dj c) (hw : c.W.length ≤ 6) (hb : bad.length ≤ 10) (hl : my l) {t : Int} (ht : t ≤ 15) : nh (tN c bad) l t = some (gY (tN c bad) l t.toNat) := by
 have h1 := mz hl.len hl.each;exact yP hl (pG _) (by omega) (by omega) ht fun k hk => sL hm hw hb hl k (by omega)
theorem og {l : List Of} (hl : l.length ≤ 100000) (hs : ∀ o ∈ l, kZ o) : p9 l l = some true := by
 have e := az (step := ik l l) (n := l.length) (fun k => dP.mk (k : Int)) (.inl (dP.mk (l.length : Int))) (fun k hk => by
  obtain ⟨y, hy, hm⟩ := aA hk;have := hs y hm;unfold ik;simp only;rw [decide_eq_true (show (k : Int) < (l.length : Int) by omega), ct, aC hy];simp only [Option.bind_some];rw [ux (by have := this.1; omega) (by have := this.2; omega), ob, decide_eq_true ⟨rfl, rfl⟩, Bool.not_true, cf];simp only [bne_self_eq_false, cond_false]
  rw [ED, decide_eq_true rfl, Bool.not_true, cf, ak (n := k) (by omega)]) (by
  unfold ik;simp only
  rw [decide_eq_false (show ¬ (l.length : Int) < (l.length : Int) by omega), cf]) (by omega)
 have e' : iter (ik l l) bE (dP.mk 0) = _ := e;unfold p9;rw [show ((l.length : Int) != (l.length : Int)) = false by simp, cf, e', ob];rfl
theorem uu {n : Nd} (h : jH 500 n) : sf n n = some true := by
 obtain ⟨⟨a1, a2⟩, ⟨b1, b2⟩, c1, c2⟩ := h;unfold sf;rw [ux (by omega) (by omega), ob, ux (by omega) (by omega), ob, og (by omega) (mj (by omega) c2), ob, decide_eq_true ⟨rfl, rfl⟩, ct, decide_eq_true ⟨rfl, rfl⟩, ct, ct];simp
theorem uv {w : Wd} (h : sH w) : so w w = some true := by
 have hN := h.n;have hb := h.bad;have ho := h.o
 have e := az (step := iq w w) (n := w.Bad.length) (fun k => dS.mk (k : Int)) (.inl (dS.mk (w.Bad.length : Int))) (fun k hk => by
  obtain ⟨y, hy, hm⟩ := aA hk;unfold iq;simp only
  rw [decide_eq_true (show (k : Int) < (w.Bad.length : Int) by omega), ct, aC hy, ob, ob, show (y != y) = false by simp, cf, ak (n := k) (by omega)]) (by
  unfold iq;simp only
  rw [decide_eq_false (show ¬ (w.Bad.length : Int) < (w.Bad.length : Int) by omega), cf]) (by omega)
 have e' : iter (iq w w) bE (dS.mk 0) = _ := e
 have f := az (step := f4 w w) (n := w.N.length) (fun k => dv.mk (k : Int)) (.inl (dv.mk (w.N.length : Int))) (fun k hk => by
  obtain ⟨y, hy, hm⟩ := aA hk;unfold f4;simp only
  rw [decide_eq_true (show (k : Int) < (w.N.length : Int) by omega), ct, aC hy, ob, ob, uu (h.nodes y hm), ob, Bool.not_true, cf, ak (n := k) (by omega)]) (by
  unfold f4;simp only
  rw [decide_eq_false (show ¬ (w.N.length : Int) < (w.N.length : Int) by omega), cf]) (by omega)
 have f' : iter (f4 w w) bE (dv.mk 0) = _ := f;unfold so vT;rw [og (by omega) (mj (by omega) h.offs), ob, ob, Bool.not_true, cf];simp only [bne_self_eq_false, cond_false];rw [ob, cf, e', ob];show ((iter (f4 w w) bE (dv.mk 0)).bind _) = _;rw [f', ob];rfl
theorem CP {U : Vw} {w : Wd} {l : List Ac} {k : Nat} (hB : U.B.length ≤ 300) (hV : U.V.length ≤ 300) (hk : k ≤ 15) (h : Fn U w l k) : sH (gY w l k) := rJ h.ok ⟨by have := h.B; omega, by have := h.V; omega⟩
theorem xl {al s : Vw} (h1 : ∀ b ∈ al.B, b ∈ s.B) (h2 : ∀ v ∈ al.V, v ∈ s.V) (a : Ac) : bG s (jL [] al a) = s :=
 AL (fun b hb => h1 b (by
  have := of_decide_eq_true (List.mem_filter.1 hb).2
  exact this.elim (fun h => by cases h) id)) fun v hv => h2 v (by
  have := of_decide_eq_true (List.mem_filter.1 hv).2
  exact this.elim (fun h => by cases h) id)
theorem qu {w : Wd} (h : w.Bad = []) (l : List Ac) (k : Nat) : b6 w l k = (dV w, w.O) := by
 have key : ∀ m : List Ac, m.foldl (cg (py w) (fH w) w.Bad (dV w) (decide (fH w ∈ w.Bad)) (k : Int)) (dV w, w.O) = (dV w, w.O) := by
  intro m
  induction m with
  | nil => rfl
  | cons a r ih =>
   rw [List.foldl_cons]
   have : cg (py w) (fH w) w.Bad (dV w) (decide (fH w ∈ w.Bad)) (k : Int) (dV w, w.O) a = (dV w, w.O) := by
    unfold cg;split
    ·rfl
    ·split
     ·simp only;rw [h, xl (fun _ h => h) (fun _ h => h)]
     ·rw [if_neg (by rw [h]; simp)]
   rw [this, ih]
 exact key _
theorem CC {w : Wd} (h : w.Bad = []) (l m : List Ac) : iZ w l = iZ w m := by
 have e : ej w l = ej w m := by
  unfold ej;congr 1;funext p;rw [qu h, qu h]
 unfold iZ;rw [e]
theorem Ez (w : Wd) (l : List Ac) : (iZ w l).Bad = w.Bad := by
 unfold iZ;split <;> rfl
theorem tY {w : Wd} (h : w.Bad = []) (l m : List Ac) : ∀ k, gY w l k = gY w m k ∧ (gY w l k).Bad = []
 | 0 => ⟨rfl, h⟩
 | k + 1 => by
  obtain ⟨h1, h2⟩ := tY h l m k;refine ⟨?_, (Ez _ _).trans h2⟩;show iZ (gY w l k) l = iZ (gY w m k) m;rw [← h1];exact CC h2 l m
theorem xI (ha : sn = some true) (c : Cf) (l : List Ac) (t : Int) : vV c l t = some true := by
 unfold vV;rw [ha, ob];rcases yO c [] l with e | ⟨e, hb⟩
 ·rw [e, ob, Bool.not_true, cf, Bool.not_false, ct, ob, ct]
 rw [e, ob, Bool.not_true, cf, cf];by_cases h1 : t > 10
 ·rw [decide_eq_true h1, ob, ct]
 rw [decide_eq_false h1, ob, cf];have hR := sL (bad := []) hb.may hb.w (by simp) hb.acts;have hal := mz hb.len hb.acts.each;rw [yL hb.may (by simp), ob, qr hb.may hb.w (by simp) hb.acts (by omega), ob];rw [qr (l := []) hb.may hb.w (by simp) ⟨by simp, fun a ha => by cases ha⟩ (by omega), ob];rw [← (tY (w := tN c []) rfl l [] t.toNat).1, uv (CP (by omega) (by omega) (by omega) (hR t.toNat (by omega))), ob]
def HQ (a : Ac) : Prop := aP .i64 a.Tick ∧ aP .i64 a.To ∧ (∀ b ∈ a.B, Fb b) ∧ ∀ v ∈ a.V, Fp v
theorem GH {p : PV} (h : nO (.agg [.int .i64, .int .i64, .bool, .slice 5 (.agg [.int .i64, .int .i64, .int .u64, .int .u64, .int .u64]), .slice 4 (.agg [.int .i64, .int .i64, .int .u64, .int .u64])]) p) : ∃ a : Ac, p = nk a ∧ HQ a := by
 cases h with | agg h =>
 cases h with | cons a1 h => cases h with | cons a2 h => cases h with | cons a3 h => cases h with | cons a4 h => cases h with | cons a5 h =>
  cases h;obtain ⟨x, rfl, hx⟩ := lT (fun _ h => GI h) a4;obtain ⟨y, rfl, hy⟩ := lT (fun _ h => GL h) a5;cases a1; cases a2; cases a3;exact ⟨⟨_, _, _, x, y⟩, rfl, by assumption, by assumption, hx, hy⟩
end Go.Mg
namespace Go.Proofs.YtbjmcafamkdokaaGreat
def io : List Nat := [104, 97, 114, 110, 101, 115, 115, 32, 51, 101, 97, 51, 57, 55, 99, 53, 56, 97, 55, 50, 48, 55, 49, 52, 99, 98, 101, 48, 97, 97, 50, 55, 55, 53, 56, 98, 49, 49, 48, 102, 57, 99, 99, 98, 48, 49, 99, 51, 48, 97, 49, 50, 97, 99, 97, 54, 50, 53, 52, 56, 51, 100, 97, 54, 56, 97, 98, 97, 51, 98, 50, 52, 32, 99, 117, 116, 32, 97, 116, 32, 109, 97, 114, 105, 103, 111, 108, 100, 47, 109, 97, 114, 105, 103, 111, 108, 100, 116, 111, 112, 46, 84, 111, 112, 65, 103, 114, 101, 101, 32, 109, 97, 114, 105, 103, 111, 108, 100, 47, 109, 97, 114, 105, 103, 111, 108, 100, 116, 111, 112, 46, 84, 111, 112, 83, 117, 114, 101, 32, 109, 97, 114, 105, 103, 111, 108, 100, 47, 109, 97, 114, 105, 103, 111, 108, 100, 116, 111, 112, 46, 84, 111, 112, 78, 101, 118, 101, 114, 32, 109, 97, 114, 105, 103, 111, 108, 100, 47, 109, 97, 114, 105, 103, 111, 108, 100, 108, 97, 119, 50, 48, 46, 80, 108, 97, 121, 72, 111, 110, 101, 115, 116, 32, 109, 97, 114, 105, 103, 111, 108, 100, 47, 109, 97, 114, 105, 103, 111, 108, 100, 108, 97, 119, 50, 48, 46, 80, 108, 97, 121, 80, 97, 114, 116, 115, 32, 109, 97, 114, 105, 103, 111, 108, 100, 47, 109, 97, 114, 105, 103, 111, 108, 100, 108, 97, 119, 50, 48, 46, 80, 108, 97, 121, 81, 117, 105, 101, 116, 32, 109, 97, 114, 105, 103, 111, 108, 100, 47, 109, 97, 114, 105, 103, 111, 108, 100, 108, 97, 119, 50, 48, 46, 80, 108, 97, 121, 79, 116, 104, 101, 114, 32, 109, 97, 114, 105, 103, 111, 108, 100, 47, 109, 97, 114, 105, 103, 111, 108, 100, 108, 97, 119, 50, 48, 46, 80, 108, 97, 121, 78, 111, 100, 101, 115, 32, 109, 97, 114, 105, 103, 111, 108, 100, 47, 109, 97, 114, 105, 103, 111, 108, 100, 108, 97, 119, 50, 48, 46, 80, 108, 97, 121, 83, 112, 114, 101, 97, 100, 115, 32, 109, 97, 114, 105, 103, 111, 108, 100, 47, 109, 97, 114, 105, 103, 111, 108, 100, 108, 97, 119, 50, 49, 46, 65, 117, 100, 105, 116, 83, 101, 101, 110, 32, 109, 97, 114, 105, 103, 111, 108, 100, 47, 109, 97, 114, 105, 103, 111, 108, 100, 108, 97, 119, 50, 49, 46, 65, 117, 100, 105, 116, 72, 111, 108, 100, 115]
theorem IF : Tryz.prog.initOrder = String.ofList (io.map Char.ofNat) := by kernel_rfl
theorem EI : Tryz.prog.initOrder.toList = io.map Char.ofNat := by rw [IF, String.toList_ofList]
def ws : List (List Nat) := [[99, 117, 116], [97, 116], [109, 97, 114, 105, 103, 111, 108, 100, 47, 109, 97, 114, 105, 103, 111, 108, 100, 116, 111, 112, 46, 84, 111, 112, 65, 103, 114, 101, 101], [109, 97, 114, 105, 103, 111, 108, 100, 47, 109, 97, 114, 105, 103, 111, 108, 100, 116, 111, 112, 46, 84, 111, 112, 83, 117, 114, 101], [109, 97, 114, 105, 103, 111, 108, 100, 47, 109, 97, 114, 105, 103, 111, 108, 100, 116, 111, 112, 46, 84, 111, 112, 78, 101, 118, 101, 114], [109, 97, 114, 105, 103, 111, 108, 100, 47, 109, 97, 114, 105, 103, 111, 108, 100, 108, 97, 119, 50, 48, 46, 80, 108, 97, 121, 72, 111, 110, 101, 115, 116], [109, 97, 114, 105, 103, 111, 108, 100, 47, 109, 97, 114, 105, 103, 111, 108, 100, 108, 97, 119, 50, 48, 46, 80, 108, 97, 121, 80, 97, 114, 116, 115], [109, 97, 114, 105, 103, 111, 108, 100, 47, 109, 97, 114, 105, 103, 111, 108, 100, 108, 97, 119, 50, 48, 46, 80, 108, 97, 121, 81, 117, 105, 101, 116], [109, 97, 114, 105, 103, 111, 108, 100, 47, 109, 97, 114, 105, 103, 111, 108, 100, 108, 97, 119, 50, 48, 46, 80, 108, 97, 121, 79, 116, 104, 101, 114], [109, 97, 114, 105, 103, 111, 108, 100, 47, 109, 97, 114, 105, 103, 111, 108, 100, 108, 97, 119, 50, 48, 46, 80, 108, 97, 121, 78, 111, 100, 101, 115], [109, 97, 114, 105, 103, 111, 108, 100, 47, 109, 97, 114, 105, 103, 111, 108, 100, 108, 97, 119, 50, 48, 46, 80, 108, 97, 121, 83, 112, 114, 101, 97, 100, 115], [109, 97, 114, 105, 103, 111, 108, 100, 47, 109, 97, 114, 105, 103, 111, 108, 100, 108, 97, 119, 50, 49, 46, 65, 117, 100, 105, 116, 83, 101, 101, 110], [109, 97, 114, 105, 103, 111, 108, 100, 47, 109, 97, 114, 105, 103, 111, 108, 100, 108, 97, 119, 50, 49, 46, 65, 117, 100, 105, 116, 72, 111, 108, 100, 115]]
theorem By : behindMainWord (wordsSigns Tryz.prog.initOrder.toList) = ws.map (List.map Char.ofNat) := by
 rw [EI]
 kernel_rfl
theorem G2 : stripLifts liftWords (ws.map (List.map Char.ofNat)) = ([], ws.map (List.map Char.ofNat)) := by kernel_rfl
theorem GX : Tryz.prog.doorRows = [] := by kernel_rfl
theorem IG : Tryz.prog.laysLater = false := by kernel_rfl
theorem GV : Tryz.prog.bearsReflect = false := by kernel_rfl
theorem Dn : (ws.map (List.map Char.ofNat)).head? = some "cut".toList := by kernel_rfl
theorem EC (P : Program) (W : List (List Char)) (hW : behindMainWord (wordsSigns P.initOrder.toList) = W) (hs : stripLifts liftWords W = ([], W)) (hh : W.head? = some "cut".toList) (hr : P.doorRows = []) (hl : P.laysLater = false) (hb : P.bearsReflect = false) : P.mayEnter = true := by
 unfold Program.mayEnter;rw [hW]
 cases W with
 | nil => cases hh
 | cons c r =>
  simp only [hs, hh, hl, hb, Program.doorFits, hr];simp
theorem mayEnter : Tryz.prog.mayEnter = true := EC Tryz.prog _ By G2 Dn GX IG GV
theorem own : ownKnob Tryz.prog.godebug = none := by kernel_rfl
theorem wC : laidOutB Tryz.prog = true := by kernel_rfl
theorem GW : mapsRowed Tryz.prog = true := by kernel_rfl
theorem GE : Tryz.prog.stopsHeard = true := by kernel_rfl
theorem CM (P : Program) (W : List (List Char)) (hW : behindMainWord (wordsSigns P.initOrder.toList) = W) (hh : W.head? = some "cut".toList) : P.make = some .cut := by
 unfold Program.make;rw [hW]
 cases W with
 | nil => cases hh
 | cons c r =>
  have e : c = "cut".toList := by simpa using hh
  subst e;show (if _ then _ else _) = _;rw [if_neg (by decide), if_pos (by simp)]
theorem GQ : Tryz.prog.make = some .cut := CM Tryz.prog _ By Dn
theorem GO : Tryz.prog.liftsFinal = false := by
 unfold Program.liftsFinal Program.headLifts;rw [By]
 kernel_rfl
end Go.Proofs.YtbjmcafamkdokaaGreat
