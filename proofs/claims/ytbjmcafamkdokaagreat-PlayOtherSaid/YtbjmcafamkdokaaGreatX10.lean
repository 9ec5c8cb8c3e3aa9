/- Plain laws of views: order, and all. Nets, plain: how much nodes have; what they have together. Laws of nets, plain: what all have together, in whatever order. The votes of a committee, and the head by them, plain. Products compared, plain. A node behind a tick, plain. A node behind a tick, plain: the phases. A node behind a tick, plain: the whole. NodeKnown, plain. NodeKeeps, plain. What a node is behind a tick: what it has, how much that is. A world behind a tick, plain. Worlds that go on, plain. Worlds that go on: what is so of them goes on. A world that begins; what is begun; worlds that are the same. PlayOther, plain. What arguments are: offers, nodes. What arguments are: acts. How the program's own line of words reads, letter by letter; facts of the whole program that each row asks for. Conditions: none. -/
import Derived.Test.YtbjmcafamkdokaaGreatX9
import Derived.Test.YtbjmcafamkdokaaGreatX8
import Derived.Test.YtbjmcafamkdokaaGreatX6
import Derived.Test.YtbjmcafamkdokaaGreatX7
import Derived.Test.YtbjmcafamkdokaaGreatRows
import Derived.ProofKit
import Derived.OpenShut
namespace Go.Mg
open Classical in
theorem xS {S R : Type} {step : S → Option (S ⊕ (S ⊕ R))} {n : Nat} (mk : Nat → S) (r0 : R) (P : Nat → Prop) (hs : ∀ j, j < n → step (mk j) = some (.inr (.inr r0)) ∨ (step (mk j) = some (.inl (mk (j + 1))) ∧ P j))
  (he : step (mk n) = some (.inr (.inl (mk n)))) (hn : n < 4000000000000000000) : iter step bH (mk 0) = some (.inr r0) ∨ (iter step bH (mk 0) = some (.inl (mk n)) ∧ ∀ j, j < n → P j) := by
 have e := dC mk (fun j => if step (mk j) = some (.inl (mk (j + 1))) ∧ P j then none else some r0) (fun j hj => by
  by_cases h : step (mk j) = some (.inl (mk (j + 1))) ∧ P j
  ·simp only [if_pos h]; exact h.1
  ·simp only [if_neg h]; exact (hs j hj).resolve_right h) he hn
 rw [e]
 cases h : bP (fun j => if step (mk j) = some (.inl (mk (j + 1))) ∧ P j then none else some r0) 0 n with
 | none =>
  right;refine ⟨rfl, fun j hj => ?_⟩;have := ft.1 h j (Nat.zero_le _) (by omega);split at this
  ·rename_i h2; exact h2.2
  ·cases this
 | some r =>
  left;obtain ⟨j, -, -, h2, -⟩ := eB h;split at h2
  ·cases h2
  ·cases h2; rfl
def lg (k : Int) (w : Vw) : Prop := (w.B.length : Int) ≤ k ∧ (w.V.length : Int) ≤ k
def jP (k : Int) (n : Nd) : Prop := lg k n.V ∧ lg k n.In ∧ n.O.length ≤ 10 ∧ ∀ o ∈ n.O, lg k o.V
def dM (n : Nd) : Vw := bS n.V n.In
theorem qP {n : Nd} {k : Int} (h : jP k n) : ((dM n).B.length : Int) ≤ 2 * k ∧ ((dM n).V.length : Int) ≤ 2 * k := by
 obtain ⟨⟨a1, a2⟩, ⟨b1, b2⟩, -⟩ := h;have h1 := cS n.In.B n.V.B;have h2 := cS n.In.V n.V.V;unfold dM bS;simp only;omega
theorem yf {n : Nd} {k : Int} (h : jP k n) (hk : k ≤ 1000) : rY n = some (dM n) := by
 obtain ⟨⟨a1, a2⟩, ⟨b1, b2⟩, -⟩ := h;unfold rY;rw [lc (by omega) (by omega)]; rfl
def kL (l : List Nd) (w : Vw) : Vw := l.foldl (fun w n => bS w (dM n)) w
theorem xh (l : List Nd) (n : Nd) (w : Vw) : kL (l ++ [n]) w = bS (kL l w) (dM n) := by unfold kL; rw [List.foldl_append]; rfl
theorem oI {k : Int} : ∀ {l : List Nd} {w : Vw}, (∀ n ∈ l, jP k n) → ((kL l w).B.length : Int) ≤ w.B.length + l.length * (2 * k) ∧ ((kL l w).V.length : Int) ≤ w.V.length + l.length * (2 * k)
 | [], w, _ => by simp [kL]
 | n :: r, w, h => by
  have h1 := qP (h n (.head _));have h2 := oI (l := r) (w := bS w (dM n)) fun m hm => h m (.tail _ hm);have h3 := cS (dM n).B w.B;have h4 := cS (dM n).V w.V;have e : kL (n :: r) w = kL r (bS w (dM n)) := rfl;have e1 : (bS w (dM n)).B = cR w.B (dM n).B := rfl;have e2 : (bS w (dM n)).V = cR w.V (dM n).V := rfl;rw [e, List.length_cons, Int.natCast_add, Int.add_mul];rw [e1, e2] at h2;omega
theorem qv : ∀ {l : List Nd} {w : Vw}, w.B.Nodup → w.V.Nodup → (kL l w).B.Nodup ∧ (kL l w).V.Nodup
 | [], w, h1, h2 => ⟨h1, h2⟩
 | n :: r, w, h1, h2 => qv (l := r) (w := bS w (dM n)) (fD h1) (fD h2)
theorem uE {k0 : Int} {l : List Nd} {w : Vw} (h0 : 0 ≤ k0) (hk0 : k0 ≤ 1000) (hl : (l.length : Int) * (2 * k0) ≤ 40000) (hl2 : l.length ≤ 100000) (hs : ∀ n ∈ l, jP k0 n) (h1 : w.B.length ≤ 1000) (h2 : w.V.length ≤ 1000) : oC l w = some (kL l w) := by
 have e := az (step := fQ l) (n := l.length) (fun k => dj.mk (k : Int) (kL (l.take k) w)) (dj.mk (l.length : Int) (kL l w)) (fun k hk => by
  obtain ⟨y, hy, hm⟩ := aA hk
  have et : l.take (k + 1) = l.take k ++ [y] := by rw [List.take_add_one, hy]; rfl
  have hsy := hs y hm;have hlen := oI (l := l.take k) (w := w) fun m hm => hs m (List.mem_of_mem_take hm);rw [List.length_take] at hlen;have hkn := qP hsy;have hmul : ((Min.min k l.length : Nat) : Int) * (2 * k0) ≤ l.length * (2 * k0) := Int.mul_le_mul_of_nonneg_right (by omega) (by omega);unfold fQ;simp only;rw [decide_eq_true (show (k : Int) < (l.length : Int) by omega), ct, aC hy, ob, et, xh, ak (n := k) (by omega)];unfold wb;rw [yf hsy (by omega), ob, lc (by omega) (by omega), ob]
  rfl) (by
  unfold fQ;simp only
  rw [decide_eq_false (show ¬ (l.length : Int) < (l.length : Int) by omega), cf, List.take_length]) (by omega)
 have e' : iter (fQ l) bH (dj.mk 0 w) = _ := e;unfold oC;rw [e', ob]
theorem wQ {l : List Nd} (hl : l.length ≤ 40) (hs : ∀ n ∈ l, jP 500 n) : rV l = some (kL l ⟨[], []⟩) := by
 unfold rV;rw [uE (k0 := 500) (by omega) (by omega) (by omega) (by omega) hs (Nat.zero_le _) (Nat.zero_le _)]; rfl
theorem yh {l : List Int} (hl : l.length ≤ 100000) (v : Int) : sd l v = some (decide (v ∈ l)) := by
 have e := dC (step := ic l v) (n := l.length) (fun k => dQ.mk (k : Int)) (eV l v) (fun j hj => by
  obtain ⟨y, hy, -⟩ := aA hj;unfold ic eV;simp only;rw [decide_eq_true (show (j : Int) < (l.length : Int) by omega), ct, aC hy, ob, ak (n := j) (by omega), hy];by_cases h : v = y
  ·rw [beq_iff_eq.2 h, ct, if_pos (by rw [h])]
  ·rw [beq_eq_false_iff_ne.2 h, cf, if_neg (fun e => h (Option.some.inj e).symm)]) (by
  unfold ic;simp only
  rw [decide_eq_false (show ¬ (l.length : Int) < (l.length : Int) by omega), cf]) (by omega)
 unfold sd vK;rw [← jX];have e' : iter (ic l v) bH (dQ.mk 0) = some (iK (dQ.mk (l.length : Int)) (bP (eV l v) 0 l.length)) := e;rw [e', ob]
 cases h : bP (eV l v) 0 l.length with
 | none => rw [iK, sl, ob]; rfl
 | some r => rw [iK, sr, ob, decide_eq_true (pq h)]; rfl
def up (cm : List Int) (v : Vt) : Bool := decide (v.From ∈ cm)
theorem sc {cm : List Int} (hl : cm.length ≤ 100000) (v : Vt) : qh cm v = some (!up cm v) := by
 unfold qh;rw [yh hl, ob];rfl
theorem yG {l : List Vt} {cm : List Int} (hc : cm.length ≤ 100000) (hl : l.length ≤ 100000) :
  ∃ i, sj l l.length cm = some i ∧ ((i = -1 ∧ l.filter (up cm) = l) ∨ ∃ j : Nat, i = j ∧ j < l.length ∧ (l.take (j + 1)).filter (up cm) = l.take j) := by
 unfold sj
 have key := dg (step := ii l l.length cm) (fun x => ∃ j : Nat, j ≤ l.length ∧ x.t8 = j ∧ (l.take j).filter (up cm) = l.take j) (fun x => l.length - x.t8.toNat)
  (fun b => (∃ x, b = .inl x ∧ l.filter (up cm) = l) ∨ ∃ j : Nat, b = .inr (j : Int) ∧ j < l.length ∧ (l.take (j + 1)).filter (up cm) = l.take j) (by
   rintro ⟨t⟩ ⟨j, hj, h1, h2⟩;simp only at h1 h2;subst h1;by_cases hlt : j < l.length
   ·obtain ⟨y, hy, -⟩ := aA hlt;have hsn := bK (p := up cm) hy
    have hstep : ii l l.length cm ⟨(j : Int)⟩ = bif !up cm y then some (.inr (.inr (j : Int))) else some (.inl ⟨((j + 1 : Nat) : Int)⟩) := by
     unfold ii;simp only;rw [decide_eq_true (show (j : Int) < (l.length : Int) by omega), ct, List.take_length, aC hy, ob, sc hc, ob, ak (n := j) (by omega)]
    rw [h2] at hsn
    cases hp : up cm y with
    | true =>
     rw [hp, Bool.not_true, cf] at hstep;rw [hp, ct] at hsn;exact .inl ⟨_, hstep, ⟨j + 1, by omega, rfl, by rw [hsn, fB hy]⟩, by simp only; omega⟩
    | false =>
     rw [hp, Bool.not_false, ct] at hstep;rw [hp, cf, List.append_nil] at hsn;exact .inr ⟨_, hstep, .inr ⟨j, rfl, hlt, hsn⟩⟩
   ·right
    obtain rfl : j = l.length := by omega
    refine ⟨.inl ⟨(l.length : Int)⟩, ?_, .inl ⟨_, rfl, ?_⟩⟩
    ·unfold ii;simp only;rw [decide_eq_false (show ¬ (l.length : Int) < (l.length : Int) by omega), cf]
    ·rw [List.take_length] at h2; exact h2) (n := bH) (x := ⟨0⟩) ⟨0, by omega, rfl, by simp⟩ (ei (by simp only; omega))
 obtain ⟨b, e, ⟨x, rfl, h1⟩ | ⟨j, rfl, h0, h1⟩⟩ := key
 ·exact ⟨-1, by rw [e, ob, sl], .inl ⟨rfl, h1⟩⟩
 ·exact ⟨j, by rw [e, ob, sr], .inr ⟨j, rfl, h0, h1⟩⟩
theorem yx {l : List Vt} {cm : List Int} (hc : cm.length ≤ 100000) (hl : l.length ≤ 100000) : ∃ k' l', sg l l.length cm = some (k', l') ∧ p9 l' k' (l.filter (up cm)) := by
 obtain ⟨i, e0, h0⟩ := yG hc hl;unfold sg;rw [e0, ob];rcases h0 with ⟨rfl, hp⟩ | ⟨j0, rfl, hj0, hp⟩
 ·rw [hp, show ((-1 : Int) == -1) = true from rfl, ct];exact ⟨_, _, rfl, List.take_length, Nat.le_refl _⟩
 ·rw [show ((j0 : Int) == -1) = false by rw [beq_eq_false_iff_ne]; omega, cf, ak (n := j0) (by omega)]
  have key := dg (step := ig l.length cm) (fun x => ∃ (i j : Nat), x.i = i ∧ x.j = j ∧ Mv l x.o1 i j ((l.take j).filter (up cm))) (fun x => l.length - x.j.toNat)
   (fun x => ∃ i : Nat, x.i = i ∧ i ≤ l.length ∧ x.o1.take i = l.filter (up cm) ∧ l.length ≤ x.o1.length) (by
   rintro ⟨i', j', a⟩ ⟨i, j, h1, h2, h5⟩;simp only at h1 h2 h5;subst h1 h2;have hij := h5.ij;have hjl := h5.jl;have hal := h5.len;by_cases hlt : j < l.length
   ·left;obtain ⟨y, hy, -⟩ := aA hlt
    have hya : (a.take l.length)[j]? = some y := by rw [List.getElem?_take_of_lt hlt, h5.rest j (Nat.le_refl _) (by omega), hy]
    obtain ⟨z, hz, -⟩ := aA (l := a.take l.length) (n := i) (by rw [List.length_take]; omega);have hsn := bK (p := up cm) hy
    have hstep : ig l.length cm ⟨(i : Int), (j : Int), a⟩ = bif up cm y then some (.inl ⟨((i + 1 : Nat) : Int), ((j + 1 : Nat) : Int), a.set i y⟩) else some (.inl ⟨(i : Int), ((j + 1 : Nat) : Int), a⟩) := by
     unfold ig;simp only;rw [decide_eq_true (show (j : Int) < (l.length : Int) by omega), ct, aC hya, ob, sc hc, ob, aC hz, ob, ak (n := j) (by omega), ak (n := i) (by omega), Int.toNat_natCast, Bool.not_not]
    cases hp : up cm y with
    | false =>
     rw [hp, cf] at hstep;rw [hp, cf, List.append_nil] at hsn;refine ⟨_, hstep, ⟨i, j + 1, rfl, rfl, ?_⟩, by simp only; omega⟩;rw [hsn];exact h5.next_gone (by omega)
    | true =>
     rw [hp, ct] at hstep;rw [hp, ct] at hsn;refine ⟨_, hstep, ⟨i + 1, j + 1, rfl, rfl, ?_⟩, by simp only; omega⟩;rw [hsn];exact h5.next_stay (by omega) hy
   ·right
    have hjk : j = l.length := by omega
    have htl : l.take j = l := List.take_of_length_le (by omega);rw [htl] at h5;refine ⟨⟨(i : Int), (j : Int), a⟩, ?_, i, rfl, by omega, h5.left, by show l.length ≤ a.length; omega⟩;unfold ig;simp only
    rw [decide_eq_false (show ¬ (j : Int) < (l.length : Int) by omega), cf]) (n := bH) (x := ⟨(j0 : Int), ((j0 + 1 : Nat) : Int), l⟩)
   ⟨j0, j0 + 1, rfl, rfl, by
    rw [hp]
    exact ⟨by omega, by omega, Nat.le_refl _, rfl, fun q h1 h2 => rfl⟩⟩ (ei (by simp only; omega))
  obtain ⟨x, ex, i, hi, hik, h2, h3⟩ := key;rw [ex, ob, hi, decide_eq_true (show 0 ≤ (i : Int) ∧ (i : Int) ≤ (l.length : Int) by omega), ct, Int.toNat_natCast, decide_eq_true (show i + (l.length - i) ≤ x.o1.length by omega), ct, ct];exact ⟨_, _, rfl, rm hik h3 h2⟩
def eP (c : Cf) (v : List Vt) (slot : Int) : List Vt := (EV v slot).filter (up (oT c slot))
theorem A6 (v : List Vt) (slot : Int) : (EV v slot).length ≤ v.length := by
 unfold EV;rw [(bY _).length_eq];exact Nat.le_trans (List.length_filterMap_le _ _) (qA v).2
theorem tx (c : Cf) (v : List Vt) (slot : Int) : (eP c v slot).length ≤ v.length := Nat.le_trans (List.length_filter_le _ _) (A6 v slot)
theorem sb {v : List Vt} (hv : v.length ≤ 90000) (c : Cf) (slot : Int) : qg c v slot = some (eP c v slot) := by
 have hl := A6 v slot;have hc := uR c slot;obtain ⟨k', l', e, hp⟩ := yx (l := EV v slot) (cm := oT c slot) (by omega) (by omega);unfold qg Cl;rw [show Nat.ble v.length 90000 = true from Nat.ble_eq_true_of_le hv, ct, ob, uC, ob, List.length_map, e, ob];simp only;rw [show Nat.ble k' l'.length = true from Nat.ble_eq_true_of_le hp.le, ct, hp.take];rfl
theorem od {w : Vw} (h1 : w.B.length ≤ 1000) (h2 : w.V.length ≤ 1000) (c : Cf) (slot : Int) : jH c w slot = some (kW c w.B (eP c w.V slot)) := by
 have hg := tx c w.V slot;unfold jH;rw [sb (by omega), ob, D0 h1 (by omega), ob]
theorem yg (n : Int) : rZ n = some (decide (0 ≤ n ∧ n ≤ 4611686018427387904)) := by
 unfold rZ;by_cases h : 0 ≤ n
 ·rw [decide_eq_true (show n ≥ 0 from h), ct]; congr 1; exact decide_eq_decide.2 ⟨fun h2 => ⟨h, h2⟩, fun h2 => h2.2⟩
 ·rw [decide_eq_false (show ¬ n ≥ 0 from h), cf, decide_eq_false fun h2 => h h2.1]
theorem Cj {l : List Int} (hl : l.length ≤ 1000) (h : ∀ x ∈ l, 0 ≤ x ∧ x ≤ 4611686018427387904) : rW l = some true := by
 have e := az (step := kA l) (n := l.length) (fun k => fg.mk (k : Int)) (.inl (fg.mk (l.length : Int))) (fun k hk => by
  obtain ⟨y, hy, hm⟩ := aA hk;unfold kA vI;simp only
  rw [decide_eq_true (show (k : Int) < (l.length : Int) by omega), ct, aC hy, ob, yg, ob, ob, decide_eq_true (h y hm), Bool.not_true, cf, ak (n := k) (by omega)]) (by
  unfold kA;simp only
  rw [decide_eq_false (show ¬ (l.length : Int) < (l.length : Int) by omega), cf]) (by omega)
 have e' : iter (kA l) bH (fg.mk 0) = _ := e;unfold rW HM Ci;rw [e', ob, sl, ob, ob];rfl
theorem mK {x : Int} (h0 : 0 ≤ x) (h1 : x ≤ 18446744073709551615) : bits .and .u64 x 4294967295 = x % 4294967296 := by
 obtain ⟨n, rfl⟩ : ∃ n : Nat, x = n := ⟨x.toNat, by omega⟩;have e : bits .and .u64 (n : Int) 4294967295 = IntKind.u64.wrap ((BitVec.ofInt 64 (n : Int) &&& BitVec.ofInt 64 4294967295).toNat : Int) := rfl
 have e2 : (BitVec.ofInt 64 4294967295).toNat = 2 ^ 32 - 1 := by decide
 have e3 : (BitVec.ofInt 64 (n : Int)).toNat = n := by
  rw [BitVec.toNat_ofInt]; omega
 rw [e, BitVec.toNat_and, e2, e3, Nat.and_two_pow_sub_one_eq_mod, p3 (by omega) (by omega)];omega
theorem nq {x y : Int} (hx : 0 ≤ x) (hx1 : x ≤ 26388279066624) (hy : 0 ≤ y) (hy1 : y ≤ 3000) : sa x y = some (0, x * y) := by
 have e : ∀ z, IntKind.u64.wrap z = z % 18446744073709551616 := fun z => rfl
 have hp : ((2 : Int) ^ (min (Int.toNat 32) IntKind.u64.bits)) = 4294967296 := by decide
 have hd : ∀ z : Int, z.fdiv 4294967296 = z / 4294967296 := fun z => Int.fdiv_eq_ediv_of_nonneg z (by omega)
 have h0 : y / 4294967296 = 0 := by omega
 have h1 : y % 4294967296 = y := by omega
 unfold sa;rw [hp, hd, hd, hd, hd, hd, mK (x := y) hy (by omega), mK (x := x) hx (by omega), h0, h1];have a1 : 0 ≤ x / 4294967296 * y := Int.mul_nonneg (by omega) hy;have a2 : x / 4294967296 * y ≤ 6144 * 3000 := Int.mul_le_mul (by omega) hy1 hy (by omega);have a3 : 0 ≤ x % 4294967296 * y := Int.mul_nonneg (by omega) hy;have a4 : x % 4294967296 * y ≤ 4294967295 * 3000 := Int.mul_le_mul (by omega) hy1 hy (by omega);have a5 : 0 ≤ x * y := Int.mul_nonneg hx hy;have a6 : x * y ≤ 26388279066624 * 3000 := Int.mul_le_mul hx1 hy1 hy (by omega);rw [Int.mul_zero, Int.mul_zero];generalize x / 4294967296 * y = q at a1 a2 ⊢;generalize x % 4294967296 * y = p at a3 a4 ⊢;generalize x * y = r at a5 a6 ⊢
 have ht : IntKind.u64.wrap (IntKind.u64.wrap q + IntKind.u64.wrap p / 4294967296) = q + p / 4294967296 := by simp only [e]; omega
 rw [ht, mK (by omega) (by omega)];refine congrArg some<|Prod.ext ?_ ?_
 ·simp only [e]; omega
 ·simp only [e]; omega
theorem ye {a b c d : Int} (ha : 0 ≤ a ∧ a ≤ 26388279066624) (hb : 0 ≤ b ∧ b ≤ 3000) (hc : 0 ≤ c ∧ c ≤ 26388279066624) (hd : 0 ≤ d ∧ d ≤ 3000) : rU a b c d = some (decide (a * b > c * d)) := by
 unfold rU;rw [Cj (by simp) (by simp; omega), ob, Bool.not_true, cf];unfold rX;rw [p3 ha.1 (by omega), p3 hb.1 (by omega), p3 hc.1 (by omega), p3 hd.1 (by omega), nq ha.1 ha.2 hb.1 hb.2, ob, ob, nq hc.1 hc.2 hd.1 hd.2, ob, ob];simp only;rw [si, ob];generalize a * b = x;generalize c * d = y;unfold i6;by_cases h : x = y
 ·subst h; simp
 ·have hb : (x == y) = false := beq_eq_false_iff_ne.2 h;by_cases h2 : x > y
  ·simp [hb, h2, show ¬ x < y by omega]
  ·simp [hb, h2, show x < y by omega]
def Zz : Of := Of.mk 0 0 (Bk.mk 0 0 (0, 0) 0) (Vw.mk [] [])
theorem zU {n : Nat} (hn : n ≤ 1000) : sG (n : Int) = some (List.replicate n Zz) := by
 have e : IntKind.i64.wrap ((n : Int) - (IntKind.i64.wrap (0 - 0))) = n := by
  rw [show IntKind.i64.wrap (0 - 0) = 0 from by decide, d8 (by omega) (by omega)]; omega
 unfold sG;rw [decide_eq_false (show ¬ (n : Int) < 0 by omega), cf, e];by_cases h0 : (n : Int) > 0
 ·rw [decide_eq_true h0, ct, show xF (n : Int) 104 = true from decide_eq_true (by omega), ct];simp [Zz]
 ·rw [decide_eq_false h0, cf]
  obtain rfl : n = 0 := by omega
  rfl
theorem yN {a b : List Of} (h : a.length + b.length ≤ 1000) : ss [a, b] = some (a ++ b) := by
 have e1 := az (step := fZ [a, b]) (n := 2) (fun k => match k with | 0 => c9.mk 0 0 | 1 => c9.mk (a.length : Int) 1 | _ => c9.mk ((a.length + b.length : Nat) : Int) 2) (c9.mk ((a.length + b.length : Nat) : Int) 2) (fun k hk => by
  match k, hk with
  | 0, _ =>
   unfold fZ;simp only;rw [decide_eq_true (show (0 : Int) < (([a, b] : List (List Of)).length : Int) by simp), ct, show ix [a, b] 0 = some a from rfl, ob, d8 (by omega) (by omega), decide_eq_false (show ¬ (0 : Int) + (a.length : Int) < 0 by omega), cf, Int.zero_add];rfl
  | 1, _ =>
   unfold fZ;simp only;rw [decide_eq_true (show (1 : Int) < (([a, b] : List (List Of)).length : Int) by simp), ct, show ix [a, b] 1 = some b from rfl, ob, d8 (by omega) (by omega), decide_eq_false (show ¬ (a.length : Int) + (b.length : Int) < 0 by omega), cf, Int.natCast_add]
   rfl) (by
  unfold fZ;simp only
  rw [decide_eq_false (show ¬ (2 : Int) < (([a, b] : List (List Of)).length : Int) by simp), cf]) (by omega)
 have e1' : iter (fZ [a, b]) bH (c9.mk 0 0) = _ := e1;obtain ⟨r, hr⟩ : ∃ r, r = List.replicate (a.length + b.length) Zz := ⟨_, rfl⟩
 have hrl : r.length = a.length + b.length := by rw [hr]; simp
 have p1 : eT r 0 a = a ++ r.drop a.length := by unfold eT; simp
 have p1l : (eT r 0 a).length = a.length + b.length := by rw [p1]; simp; omega
 have p2 : (eT (eT r 0 a) a.length b).take (a.length + b.length) = a ++ b := by
  have e : (eT r 0 a).take a.length = a := by rw [p1, List.take_left']; rfl
  unfold eT at e ⊢;rw [e, List.take_left'];simp
 have p2l : (eT (eT r 0 a) a.length b).length = a.length + b.length := by rw [tX (by rw [p1l]; omega), p1l]
 have e2 := az (step := f3 [a, b]) (n := 2) (fun k => match k with | 0 => da.mk 0 0 r | 1 => da.mk a.length 1 (eT r 0 a) | _ => da.mk (a.length + b.length) 2 (eT (eT r 0 a) a.length b)) (da.mk (a.length + b.length) 2 (eT (eT r 0 a) a.length b)) (fun k hk => by
  match k, hk with
  | 0, _ =>
   unfold f3;simp only;rw [decide_eq_true (show (0 : Int) < (([a, b] : List (List Of)).length : Int) by simp), ct, show ix [a, b] 0 = some a from rfl, ob, decide_eq_true (show 0 + a.length ≤ r.length by omega), ct, Nat.zero_add];rfl
  | 1, _ =>
   unfold f3;simp only;rw [decide_eq_true (show (1 : Int) < (([a, b] : List (List Of)).length : Int) by simp), ct, show ix [a, b] 1 = some b from rfl, ob, decide_eq_true (show a.length + b.length ≤ (eT r 0 a).length by omega), ct]
   rfl) (by
  unfold f3;simp only
  rw [decide_eq_false (show ¬ (2 : Int) < (([a, b] : List (List Of)).length : Int) by simp), cf]) (by omega)
 have e2' : iter (f3 [a, b]) bH (da.mk 0 0 r) = _ := e2;unfold ss;rw [e1', ob];simp only;rw [zU h, ob, ← hr, e2', ob];simp only;rw [show Nat.ble (a.length + b.length) (eT (eT r 0 a) a.length b).length = true from Nat.ble_eq_true_of_le (by omega), ct, p2]
def lf (o : Of) : Prop := o.V.B.length ≤ 1000 ∧ o.V.V.length ≤ 1000
theorem ol {v : Vw} (h1 : v.B.length ≤ 1000) (h2 : v.V.length ≤ 1000) : oh v = some v := by
 unfold oh;rw [aI (by omega) (by omega), ct, aI (by omega) (by omega), ct]
theorem oq {o : Of} (h : lf o) : oo o = some o := by
 unfold oo;rw [ol h.1 h.2];rfl
def EW (t : Int) (c : Cf) (slot : Int) (o : Of) : Bool := decide (¬ t.tmod 3 = 2 ∧ o.Slot = slot ∧ o.From = p6 c slot)
def j9 (t : Int) (c : Cf) (slot : Int) (s : List Of × Bool) (o : Of) : List Of × Bool := if EW t c slot o = true then (if s.1.length = 8 then (s.1, true) else (s.1 ++ [o], s.2)) else s
def iF (t : Int) (c : Cf) (slot : Int) (full : Bool) (l : List Of) : List Of × Bool := l.foldl (j9 t c slot) ([], full)
theorem xw (t : Int) (c : Cf) (slot : Int) (full : Bool) (l : List Of) (o : Of) : iF t c slot full (l ++ [o]) = j9 t c slot (iF t c slot full l) o := by unfold iF; rw [List.foldl_append]; rfl
theorem wD {t : Int} {c : Cf} {slot : Int} : ∀ (l : List Of) (s : List Of × Bool), s.1.length ≤ 8 → (l.foldl (j9 t c slot) s).1.length ≤ 8 ∧ (∀ o ∈ (l.foldl (j9 t c slot) s).1, o ∈ s.1 ∨ (o ∈ l ∧ EW t c slot o = true)) ∧ (s.2 = true → (l.foldl (j9 t c slot) s).2 = true)
 | [], s, h => ⟨h, fun o ho => .inl ho, id⟩
 | x :: r, s, h => by
  rw [List.foldl_cons]
  have hs : (j9 t c slot s x).1.length ≤ 8 ∧ (∀ o ∈ (j9 t c slot s x).1, o ∈ s.1 ∨ (o = x ∧ EW t c slot o = true)) ∧ (s.2 = true → (j9 t c slot s x).2 = true) := by
   unfold j9;split
   ·rename_i hk;split
    ·exact ⟨h, fun o ho => .inl ho, fun _ => rfl⟩
    ·refine ⟨by simp only [List.length_append, List.length_singleton]; omega, fun o ho => ?_, id⟩;rcases List.mem_append.1 ho with ho | ho
     ·exact .inl ho
     ·rw [List.mem_singleton] at ho; subst ho; exact .inr ⟨rfl, hk⟩
   ·exact ⟨h, fun o ho => .inl ho, id⟩
  obtain ⟨h1, h2, h3⟩ := wD r (j9 t c slot s x) hs.1;refine ⟨h1, fun o ho => ?_, fun e => h3 (hs.2.2 e)⟩;rcases h2 o ho with h4 | ⟨h4, h5⟩
  ·rcases hs.2.1 o h4 with h5 | ⟨rfl, h5⟩
   ·exact .inl h5
   ·exact .inr ⟨.head _, h5⟩
  ·exact .inr ⟨.tail _ h4, h5⟩
theorem gq (t : Int) (c : Cf) (slot : Int) (full : Bool) (l : List Of) : (iF t c slot full l).1.length ≤ 8 ∧ (∀ o ∈ (iF t c slot full l).1, o ∈ l ∧ EW t c slot o = true) ∧ (full = true → (iF t c slot full l).2 = true) := by
 obtain ⟨h1, h2, h3⟩ := wD (t := t) (c := c) (slot := slot) l ([], full) (by simp);refine ⟨h1, fun o ho => ?_, h3⟩;rcases h2 o ho with h4 | h4
 ·simp at h4
 ·exact h4
theorem zV {l : List Of} {x : Nd} {c : Cf} {slot : Int} (hl : x.O.length + l.length ≤ 1000) (hs : ∀ o ∈ x.O ++ l, lf o) : sH l x c slot = some (iF x.Tick c slot x.Full (x.O ++ l)) := by
 unfold sH;rw [yN hl, ob];generalize hL : x.O ++ l = L at hs
 have hLl : L.length ≤ 1000 := by rw [← hL, List.length_append]; omega
 have e := az (step := iA x c slot L) (n := L.length) (fun k => dc.mk (k : Int) (iF x.Tick c slot x.Full (L.take k)).2 (iF x.Tick c slot x.Full (L.take k)).1) (dc.mk (L.length : Int) (iF x.Tick c slot x.Full L).2 (iF x.Tick c slot x.Full L).1) (fun k hk => by
  obtain ⟨y, hy, hm⟩ := aA hk
  have et : L.take (k + 1) = L.take k ++ [y] := by rw [List.take_add_one, hy]; rfl
  have hf := gq x.Tick c slot x.Full (L.take k);unfold iA;simp only;rw [decide_eq_true (show (k : Int) < (L.length : Int) by omega), ct, aC hy, ob, et, xw, ak (n := k) (by omega)];generalize iF x.Tick c slot x.Full (L.take k) = s at hf ⊢
  have hgate : (bif (x.Tick.tmod 3) == 2 then some ((x.Tick.tmod 3) == 2) else bif y.Slot != slot then some (y.Slot != slot) else (Cg c slot).bind fun v4 => some (y.From != v4)) = some (!EW x.Tick c slot y) := by
   rw [rf, ob];unfold EW;by_cases h1 : x.Tick.tmod 3 = 2
   ·rw [beq_iff_eq.2 h1, ct, decide_eq_false fun h => h.1 h1]; rfl
   ·rw [beq_eq_false_iff_ne.2 h1, cf];by_cases h2 : y.Slot = slot
    ·rw [show (y.Slot != slot) = false by simp [h2], cf];by_cases h3 : y.From = p6 c slot
     ·rw [show (y.From != p6 c slot) = false by simp [h3], decide_eq_true ⟨h1, h2, h3⟩]; rfl
     ·rw [show (y.From != p6 c slot) = true by simp [h3], decide_eq_false fun h => h3 h.2.2]; rfl
    ·rw [show (y.Slot != slot) = true by simp [h2], ct, decide_eq_false fun h => h2 h.2.1]; rfl
  rw [hgate, ob];unfold j9
  cases hk2 : EW x.Tick c slot y with
  | false => rw [Bool.not_false, ct]; rfl
  | true =>
   rw [Bool.not_true, cf, if_pos rfl];by_cases h8 : s.1.length = 8
   ·rw [show ((s.1.length : Int) == 8) = true by simp [h8], ct, if_pos h8]
   ·rw [show ((s.1.length : Int) == 8) = false by rw [beq_eq_false_iff_ne]; omega, cf, oq (hs y hm), ob, aI (by simp only [List.length_singleton]; omega) (by omega), ct, if_neg h8]) (by
  unfold iA;simp only
  rw [decide_eq_false (show ¬ (L.length : Int) < (L.length : Int) by omega), cf, List.take_length]) (by omega)
 have e' : iter (iA x c slot L) bH (dc.mk 0 x.Full []) = _ := e;rw [e', ob]
theorem q8 (c : Cf) (w i : Vw) (s : Int) : w.B.length ≤ (aE c w i s).1.B.length ∧ (aE c w i s).1.B.length ≤ w.B.length + 60 ∧ w.V.length ≤ (aE c w i s).1.V.length ∧ (aE c w i s).1.V.length ≤ w.V.length + 240 ∧ (aE c w i s).2.1.B.length ≤ i.B.length ∧ (aE c w i s).2.1.V.length ≤ i.V.length := by
 by_cases h : ge c w
 ·have ht := Br h i s;have hl := Bs ht;have h1 := ht.may.lenB;have h2 := ht.may.lenV;omega
 ·have e : aE c w i s = (w, i, false) := by unfold aE; rw [if_neg h]
  rw [e];simp only;omega
theorem kz {inp : Vw} {c : Cf} {slot : Int} {v : Vw} {full : Bool} (h1 : v.B.length ≤ 1000) (h2 : v.V.length ≤ 1000) (h3 : inp.B.length ≤ 800) (h4 : inp.V.length ≤ 600) :
  jM inp c slot v full = some ((aE c v inp slot).2.1, (aE c v inp slot).1, full || (aE c v inp slot).2.2) := by
 unfold jM;rw [D5 h1 h2 h3 h4, ob];cases full <;> rfl
theorem pR (c : Cf) (w i : Vw) (s : Int) : (aE c w i s).1.B.length ≤ max w.B.length 60 ∧ (aE c w i s).1.V.length ≤ max w.V.length 240 := by
 by_cases h : ge c w
 ·have ht := Br h i s;have h1 := ht.may.lenB;have h2 := ht.may.lenV;omega
 ·have e : aE c w i s = (w, i, false) := by unfold aE; rw [if_neg h]
  rw [e];simp only;omega
theorem Vw.eta (w : Vw) : Vw.mk w.B w.V = w := rfl
noncomputable def qU (x : Nd) (c : Cf) (slot : Int) : Bk := ⟨slot, x.No, kW c (aE c x.V x.In slot).1.B (eP c (aE c x.V x.In slot).1.V (IntKind.i64.wrap (slot - 1))), 0⟩
noncomputable def dp (x : Nd) (c : Cf) (slot : Int) : Vw × Vw × Bool × List Of :=
 if x.No = p6 c slot then
  ((aE c (aE c x.V x.In slot).1 ⟨[qU x c slot], []⟩ slot).1, (aE c x.V x.In slot).2.1, (x.Full || (aE c x.V x.In slot).2.2) || (aE c (aE c x.V x.In slot).1 ⟨[qU x c slot], []⟩ slot).2.2, [⟨slot, x.No, qU x c slot, (aE c x.V x.In slot).1⟩])
 else (x.V, x.In, x.Full, [])
theorem w7 {x : Nd} {c : Cf} {slot : Int} (h1 : x.V.B.length ≤ 500) (h2 : x.V.V.length ≤ 500) (h3 : x.In.B.length ≤ 500) (h4 : x.In.V.length ≤ 500) : mH x c slot [] = some (dp x c slot) := by
 have hm := pR c x.V x.In slot;unfold mH dp;rw [rf, ob];by_cases h : x.No = p6 c slot
 ·rw [show (x.No != p6 c slot) = false by simp [h], cf, if_pos h, kz (by omega) (by omega) (by omega) (by omega), ob];simp only;rw [od (by omega) (by omega), ob];have hs : lf (Of.mk slot x.No (Bk.mk slot x.No (kW c (aE c x.V x.In slot).1.B (eP c (aE c x.V x.In slot).1.V (IntKind.i64.wrap (slot - 1)))) 0) (aE c x.V x.In slot).1) := ⟨by show (aE c x.V x.In slot).1.B.length ≤ 1000; omega, by show (aE c x.V x.In slot).1.V.length ≤ 1000; omega⟩;rw [oq hs, ob];unfold qj;rw [ob, kz (by omega) (by omega) (by simp) (by simp), ob];rfl
 ·rw [show (x.No != p6 c slot) = true by simp [h], ct, if_neg h]
noncomputable def gR (c : Cf) (slot : Int) (s : Vw × Vw × Bool) (o : Of) : Vw × Vw × Bool :=
 ((aE c s.1 (bS o.V ⟨[o.B], []⟩) slot).1, bS s.2.1 (aE c s.1 (bS o.V ⟨[o.B], []⟩) slot).2.1, s.2.2 || (aE c s.1 (bS o.V ⟨[o.B], []⟩) slot).2.2)
noncomputable def bc (x : Nd) (o : List Of) (c : Cf) (slot : Int) : Vw × Vw × Bool := o.foldl (gR c slot) (x.V, x.In, x.Full)
noncomputable def eh (x : Nd) (o : List Of) (c : Cf) (slot : Int) : Vw × Vw × Bool :=
 if x.No ∈ oT c slot then
  ((bc x o c slot).1, bS (bc x o c slot).2.1 ⟨[], [⟨x.No, slot, kW c (bc x o c slot).1.B (eP c (bc x o c slot).1.V (IntKind.i64.wrap (slot - 1)))⟩]⟩, (bc x o c slot).2.2)
 else bc x o c slot
theorem ud (x : Nd) (o : List Of) (c : Cf) (slot : Int) (y : Of) : bc x (o ++ [y]) c slot = gR c slot (bc x o c slot) y := by unfold bc; rw [List.foldl_append]; rfl
theorem tJ (o : Of) : (bS o.V ⟨[o.B], []⟩).B.length ≤ o.V.B.length + 1 ∧ (bS o.V ⟨[o.B], []⟩).V.length ≤ o.V.V.length := by
 have h1 := cS [o.B] o.V.B;have h2 := cS ([] : List Vt) o.V.V;exact ⟨h1, h2⟩
theorem qO (a b : Vw) : (bS a b).B.length ≤ a.B.length + b.B.length ∧ (bS a b).V.length ≤ a.V.length + b.V.length := ⟨cS _ _, cS _ _⟩
theorem uc {x : Nd} {c : Cf} {slot : Int} (h1 : x.V.B.length ≤ 500) (h2 : x.V.V.length ≤ 500) (h3 : x.In.B.length ≤ 500) (h4 : x.In.V.length ≤ 500) : ∀ (k : Nat) (o : List Of), o.length ≤ k → (∀ y ∈ o, y.V.B.length ≤ 500 ∧ y.V.V.length ≤ 500) →
  (bc x o c slot).1.B.length ≤ 500 ∧ (bc x o c slot).1.V.length ≤ 500 ∧ (bc x o c slot).2.1.B.length ≤ 500 + 501 * k ∧ (bc x o c slot).2.1.V.length ≤ 500 + 501 * k := by
 intro k
 induction k with
 | zero =>
  intro o ho _;obtain rfl : o = [] := List.length_eq_zero_iff.1 (by omega);exact ⟨h1, h2, Nat.le_trans h3 (by omega), Nat.le_trans h4 (by omega)⟩
 | succ k ih =>
  intro o ho hs;rcases List.eq_nil_or_concat o with rfl | ⟨r, y, rfl⟩
  ·exact ⟨h1, h2, Nat.le_trans h3 (by omega), Nat.le_trans h4 (by omega)⟩
  ·rw [List.concat_eq_append] at ho hs ⊢;rw [List.length_append, List.length_singleton] at ho;obtain ⟨a1, a2, a3, a4⟩ := ih r (by omega) fun z hz => hs z (List.mem_append_left _ hz);have hy := hs y (List.mem_append_right _ (List.mem_singleton.2 rfl));have hl := tJ y;rw [ud];unfold gR;generalize bc x r c slot = s at a1 a2 a3 a4 ⊢;have hm := pR c s.1 (bS y.V ⟨[y.B], []⟩) slot;have hz := q8 c s.1 (bS y.V ⟨[y.B], []⟩) slot;have hj := qO s.2.1 (aE c s.1 (bS y.V ⟨[y.B], []⟩) slot).2.1;simp only;omega
theorem uF {x : Nd} {o : List Of} {c : Cf} {slot : Int} (h1 : x.V.B.length ≤ 500) (h2 : x.V.V.length ≤ 500) (h3 : x.In.B.length ≤ 500) (h4 : x.In.V.length ≤ 500) (ho : o.length ≤ 8) (hs : ∀ y ∈ o, y.V.B.length ≤ 500 ∧ y.V.V.length ≤ 500) :
  kC x o c slot = some (eh x o c slot) := by
 have e := az (step := eZ o c slot) (n := o.length) (fun k => cD.mk (k : Int) (bc x (o.take k) c slot).1.B (bc x (o.take k) c slot).1.V (bc x (o.take k) c slot).2.1.B (bc x (o.take k) c slot).2.1.V (bc x (o.take k) c slot).2.2)
  (cD.mk (o.length : Int) (bc x o c slot).1.B (bc x o c slot).1.V (bc x o c slot).2.1.B (bc x o c slot).2.1.V (bc x o c slot).2.2) (fun k hk => by
  obtain ⟨y, hy, hm⟩ := aA hk
  have et : o.take (k + 1) = o.take k ++ [y] := by rw [List.take_add_one, hy]; rfl
  have hsz := uc (c := c) (slot := slot) h1 h2 h3 h4 8 (o.take k) (by rw [List.length_take]; omega) fun z hz => hs z (List.mem_of_mem_take hz);have hy2 := hs y hm;have hl := tJ y;unfold eZ;simp only;rw [decide_eq_true (show (k : Int) < (o.length : Int) by omega), ct, aC hy, ob, et, ud, ak (n := k) (by omega)];generalize bc x (o.take k) c slot = s at hsz ⊢;have hz := q8 c s.1 (bS y.V ⟨[y.B], []⟩) slot;unfold qj;rw [ob, lc (by simp only [List.length_singleton]; omega) (by simp only [List.length_nil]; omega), ob, Vw.eta, Vw.eta, kz (by omega) (by omega) (by omega) (by omega), ob];simp only;rw [lc (by omega) (by omega), ob]
  rfl) (by
  unfold eZ;simp only
  rw [decide_eq_false (show ¬ (o.length : Int) < (o.length : Int) by omega), cf, List.take_length]) (by omega)
 have e' : iter (eZ o c slot) bH (cD.mk 0 x.V.B x.V.V x.In.B x.In.V x.Full) = _ := e;have hsz := uc (c := c) (slot := slot) h1 h2 h3 h4 8 o ho hs;unfold kC eh;rw [e', ob, zj, ob];simp only [Vw.eta];generalize bc x o c slot = s at hsz ⊢;by_cases h : x.No ∈ oT c slot
 ·rw [decide_eq_true h, ct, if_pos h, od (by omega) (by omega), ob, lc (by simp only [List.length_nil]; omega) (by simp only [List.length_singleton]; omega), ob]
 ·rw [decide_eq_false h, cf, if_neg h]
def Ad (c : Cf) (w : Vw) (slot : Int) (id : ID) : Prop := vE c (oT c slot) * (c.Den + 2 * c.Num) < 2 * wI c w.B (eP c w.V slot) id * c.Den
theorem w4 {c : Cf} {w : Vw} {slot : Int} {head : ID} (hm : dk c) (h1 : w.B.length ≤ 1000) (h2 : w.V.length ≤ 1000) : ∃ r, qk c w slot head = some r ∧ (r.2 = true → Ad c w slot r.1) := by
 have hg := tx c w.V slot;have hc := uR c slot;unfold qk z8;rw [sb (by omega), ob, uC, ob, y9 (by omega), ob, ob, show few w.B = true from decide_eq_true h1, ct];have hwt := DL c (oT c slot)
 obtain ⟨b, hb, hs⟩ := dg (step := iZ c w) (fun x => x.v = eP c w.V slot ∧ x.al = vE c (oT c slot)) (fun x => x.l.length) (fun r => r.2 = true → Ad c w slot r.1) (by
  rintro ⟨l, v, al⟩ ⟨e1, e2⟩;simp only at e1 e2;subst e1 e2;by_cases hl : (l.length : Int) < 2
  ·right;refine ⟨((0, 0), false), ?_, fun h => by cases h⟩;unfold iZ;simp only;rw [decide_eq_true hl, ct]
  ·obtain ⟨y, hy, -⟩ := aA (l := l) (n := 0) (by omega);have hy' : ix l 0 = some y := aC hy;obtain ⟨-, -, -, -, -, m1, m2, m3, m4⟩ := hm;have hon : 0 ≤ wI c w.B (eP c w.V slot) y ∧ wI c w.B (eP c w.V slot) y ≤ 13194139533312 := DL _ _
   have hstep : iZ c w ⟨l, eP c w.V slot, vE c (oT c slot)⟩ = bif decide (2 * wI c w.B (eP c w.V slot) y * c.Den > vE c (oT c slot) * (c.Den + 2 * c.Num)) then some (.inr (y, true)) else some (.inl ⟨l.drop 1, eP c w.V slot, vE c (oT c slot)⟩) := by
    unfold iZ Cm rg;simp only
    rw [decide_eq_false hl, cf, hy', ob, vM h1 (by omega), ob, ob, d8 (by omega) (by omega), d8 (n := 2 * c.Num) (by omega) (by omega), d8 (by omega) (by omega), ye ⟨by omega, by omega⟩ ⟨by omega, by omega⟩ ⟨by omega, by omega⟩ ⟨by omega, by omega⟩, ob, ob, ob,
     show Fd l 1 l.length = true from decide_eq_true (by omega), ct]
    rfl
   cases hd : decide (2 * wI c w.B (eP c w.V slot) y * c.Den > vE c (oT c slot) * (c.Den + 2 * c.Num)) with
   | true => rw [hd, ct] at hstep; exact .inr ⟨_, hstep, fun _ => show vE c (oT c slot) * (c.Den + 2 * c.Num) < _ from of_decide_eq_true hd⟩
   | false =>
    rw [hd, cf] at hstep;refine .inl ⟨_, hstep, ⟨rfl, rfl⟩, ?_⟩;simp only [List.length_drop]
    omega) (n := bH) (x := kD.mk (a7 w.B head) (eP c w.V slot) (vE c (oT c slot))) ⟨rfl, rfl⟩ (ei (by have : (a7 w.B head).length ≤ w.B.length + 1 := xm head; simp only; omega))
 exact ⟨b, hb, hs⟩
theorem uG {x : Nd} {c : Cf} {slot : Int} (hm : dk c) (h1 : x.V.B.length ≤ 500) (h2 : x.V.V.length ≤ 500) (h3 : x.In.B.length ≤ 500) (h4 : x.In.V.length ≤ 500) :
  ∃ r, qk c (aE c x.V x.In slot).1 slot (kW c (aE c x.V x.In slot).1.B (eP c (aE c x.V x.In slot).1.V slot)) = some r ∧ (r.2 = true → Ad c (aE c x.V x.In slot).1 slot r.1) ∧ ld x c slot = some ((aE c x.V x.In slot).1, (aE c x.V x.In slot).2.1, eo x.C (aE c x.V x.In slot).1.B (kW c (aE c x.V x.In slot).1.B (eP c (aE c x.V x.In slot).1.V slot)) r.1 r.2 slot, x.Full || (aE c x.V x.In slot).2.2) := by
 have hx := pR c x.V x.In slot;obtain ⟨r, hr, hs⟩ := w4 (slot := slot) (head := kW c (aE c x.V x.In slot).1.B (eP c (aE c x.V x.In slot).1.V slot)) hm (w := (aE c x.V x.In slot).1) (by omega) (by omega);refine ⟨r, hr, hs, ?_⟩;unfold ld;rw [kz (by omega) (by omega) (by omega) (by omega), ob];simp only;rw [od (by omega) (by omega), ob, hr, ob, show few (aE c x.V x.In slot).1.B = true from decide_eq_true (by omega), ct]
theorem xc {x : Nd} {c : Cf} {slot : Int} (hm : dk c) (h1 : x.V.B.length ≤ 500) (h2 : x.V.V.length ≤ 500) (h3 : x.In.B.length ≤ 500) (h4 : x.In.V.length ≤ 500) :
  ∃ cu, ld x c slot = some ((aE c x.V x.In slot).1, (aE c x.V x.In slot).2.1, cu, x.Full || (aE c x.V x.In slot).2.2) :=
 have ⟨_, _, _, e⟩ := uG hm h1 h2 h3 h4
 ⟨_, e⟩
structure I6 (c : Cf) (n : Nd) (inp : Vw) (o : List Of) : Prop where
 n : jP 30 n
 inp : lg 30 inp
 len : o.length ≤ 10
 o : ∀ y ∈ o, lg 30 y.V
theorem mw {k : Int} (hk : k ≤ 1000) {l : List Of} (h : ∀ y ∈ l, lg k y.V) : ∀ y ∈ l, lf y := fun y hy => by
 obtain ⟨a, b⟩ := h y hy;exact ⟨by omega, by omega⟩
structure lS (c : Cf) (n : Nd) (inp : Vw) (o : List Of) : Prop where
 vw : n.V.B.length ≤ 500 ∧ n.V.V.length ≤ 500
 inw : n.In.B.length ≤ 1000 ∧ n.In.V.length ≤ 1000
 came : inp.B.length ≤ 2000 ∧ inp.V.length ≤ 2000
 ins : (bS n.In (aU c inp)).B.length ≤ 500 ∧ (bS n.In (aU c inp)).V.length ≤ 500
 len : n.O.length + o.length ≤ 1000
 offs : ∀ y ∈ n.O ++ o, y.V.B.length ≤ 500 ∧ y.V.V.length ≤ 500
theorem xp {n : Nd} (hl : n.O.length ≤ 1000) (hs : ∀ y ∈ n.O, lf y) : iter (im n) bH (dv.mk 0 []) = some (dv.mk (n.O.length : Int) n.O) := by
 have e := az (step := im n) (n := n.O.length) (fun k => dv.mk (k : Int) (n.O.take k)) (dv.mk (n.O.length : Int) n.O) (fun k hk => by
  obtain ⟨y, hy, hm⟩ := aA hk
  have et : n.O.take (k + 1) = n.O.take k ++ [y] := by rw [List.take_add_one, hy]; rfl
  unfold im;simp only
  rw [decide_eq_true (show (k : Int) < (n.O.length : Int) by omega), ct, aC hy, ob, oq (hs y hm), ob, aI (by rw [List.length_take]; simp only [List.length_singleton]; omega) (by omega), ct, et, ak (n := k) (by omega)]) (by
  unfold im;simp only
  rw [decide_eq_false (show ¬ (n.O.length : Int) < (n.O.length : Int) by omega), cf, List.take_length]) (by omega)
 exact e
def eC (c : Cf) (n : Nd) : Bool := decide (¬ dk c ∨ n.Tick < 3 ∨ IntKind.i64.wrap (n.Tick.tdiv 3) > 1048576)
theorem qK (c : Cf) (n : Nd) : ((w5 c).bind fun v2 => bif !v2 then some true else bif decide (n.Tick < 3) then some true else some (decide ((IntKind.i64.wrap (n.Tick.tdiv 3)) > 1048576))) = some (eC c n) := by
 rw [k8, ob];unfold eC;by_cases h1 : dk c
 ·rw [decide_eq_true h1, Bool.not_true, cf];by_cases h2 : n.Tick < 3
  ·rw [decide_eq_true h2, ct, decide_eq_true (.inr (.inl h2))]
  ·rw [decide_eq_false h2, cf];by_cases h3 : IntKind.i64.wrap (n.Tick.tdiv 3) > 1048576
   ·rw [decide_eq_true h3, decide_eq_true (.inr (.inr h3))]
   ·rw [decide_eq_false h3, decide_eq_false];rintro (h | h | h)
    ·exact h h1
    ·exact h2 h
    ·exact h3 h
 ·rw [decide_eq_false h1, Bool.not_false, ct, decide_eq_true (.inl h1)]
theorem sn {c : Cf} {n : Nd} {inp : Vw} {o : List Of} (hf : lS c n inp o) (h : eC c n = true) : il c n inp o = some (n, []) := by
 obtain ⟨⟨a1, a2⟩, ⟨b1, b2⟩, -, -, c1, c2⟩ := hf;unfold il;rw [qK, ob, h, ct, ol (by omega) (by omega), ob, ol (by omega) (by omega), ob, xp (by omega) (fun y hy => by have := c2 y (List.mem_append_left _ hy); exact ⟨by omega, by omega⟩), ob]
def pt (c : Cf) (n : Nd) (inp : Vw) : Vw := bS n.In (aU c inp)
def aP (n : Nd) : Int := IntKind.i64.wrap (n.Tick.tdiv 3)
def gF (c : Cf) (n : Nd) (o : List Of) : List Of × Bool := iF n.Tick c (aP n) n.Full (n.O ++ o)
def cB (c : Cf) (n : Nd) (inp : Vw) (o : List Of) : Nd := ⟨n.No, n.Tick, n.V, pt c n inp, [], n.C, (gF c n o).2⟩
theorem og {c : Cf} {n : Nd} {inp : Vw} {o : List Of} (hf : lS c n inp o) (h : eC c n = false) : il c n inp o =
  bif (n.Tick.tmod 3) == 0 then
   (mH (cB c n inp o) c (aP n) []).bind fun v10 => some (Nd.mk n.No (IntKind.i64.wrap (n.Tick + 1)) v10.1 v10.2.1 (gF c n o).1 n.C v10.2.2.1, v10.2.2.2)
  else bif (n.Tick.tmod 3) == 1 then
   (kC (cB c n inp o) (gF c n o).1 c (aP n)).bind fun v11 => some (Nd.mk n.No (IntKind.i64.wrap (n.Tick + 1)) v11.1 v11.2.1 [] n.C v11.2.2, [])
  else bif (n.Tick.tmod 3) == 2 then
   (ld (cB c n inp o) c (aP n)).bind fun v12 => some (Nd.mk n.No (IntKind.i64.wrap (n.Tick + 1)) v12.1 v12.2.1 [] v12.2.2.1 v12.2.2.2, [])
  else none := by
 obtain ⟨⟨a1, a2⟩, ⟨b1, b2⟩, ⟨e1, e2⟩, -, g1, g2⟩ := hf;have h2 := Ba c inp;unfold il;rw [qK, ob, h, cf, zE (by omega) (by omega), ob, lc (by omega) (by omega), ob];rw [zV (by show n.O.length + o.length ≤ 1000; omega) (fun y hy => by have := g2 y hy; exact ⟨by omega, by omega⟩), ob];rfl
theorem u6 {c : Cf} {n : Nd} {inp : Vw} {o : List Of} (hf : lS c n inp o) : (gF c n o).1.length ≤ 8 ∧ ∀ y ∈ (gF c n o).1, y.V.B.length ≤ 500 ∧ y.V.V.length ≤ 500 := by
 obtain ⟨h1, h2, -⟩ := gq n.Tick c (aP n) n.Full (n.O ++ o);exact ⟨h1, fun y hy => hf.offs y (h2 y hy).1⟩
theorem yJ {c : Cf} {n : Nd} {inp : Vw} {o : List Of} (hf : lS c n inp o) (h : eC c n = false) (h0 : n.Tick.tmod 3 = 0) :
  il c n inp o = some (Nd.mk n.No (IntKind.i64.wrap (n.Tick + 1)) (dp (cB c n inp o) c (aP n)).1 (dp (cB c n inp o) c (aP n)).2.1 (gF c n o).1 n.C (dp (cB c n inp o) c (aP n)).2.2.1, (dp (cB c n inp o) c (aP n)).2.2.2) := by
 have hi : (pt c n inp).B.length ≤ 500 ∧ (pt c n inp).V.length ≤ 500 := hf.ins;rw [og hf h];obtain ⟨⟨a1, a2⟩, -⟩ := hf;rw [beq_iff_eq.2 h0, ct, w7 (by show n.V.B.length ≤ 500; omega) (by show n.V.V.length ≤ 500; omega) (by show (pt c n inp).B.length ≤ 500; omega) (by show (pt c n inp).V.length ≤ 500; omega), ob]
theorem yK {c : Cf} {n : Nd} {inp : Vw} {o : List Of} (hf : lS c n inp o) (h : eC c n = false) (h1 : n.Tick.tmod 3 = 1) :
  il c n inp o = some (Nd.mk n.No (IntKind.i64.wrap (n.Tick + 1)) (eh (cB c n inp o) (gF c n o).1 c (aP n)).1 (eh (cB c n inp o) (gF c n o).1 c (aP n)).2.1 [] n.C (eh (cB c n inp o) (gF c n o).1 c (aP n)).2.2, []) := by
 have hi : (pt c n inp).B.length ≤ 500 ∧ (pt c n inp).V.length ≤ 500 := hf.ins;obtain ⟨hr1, hr2⟩ := u6 hf;rw [og hf h];obtain ⟨⟨a1, a2⟩, -⟩ := hf;rw [show ((n.Tick.tmod 3) == 0) = false by rw [h1]; rfl, cf, beq_iff_eq.2 h1, ct, uF (by show n.V.B.length ≤ 500; omega) (by show n.V.V.length ≤ 500; omega) (by show (pt c n inp).B.length ≤ 500; omega) (by show (pt c n inp).V.length ≤ 500; omega) hr1 hr2, ob]
theorem yL {c : Cf} {n : Nd} {inp : Vw} {o : List Of} (hf : lS c n inp o) (h : eC c n = false) (h2 : n.Tick.tmod 3 = 2) :
  ∃ cu, il c n inp o = some (Nd.mk n.No (IntKind.i64.wrap (n.Tick + 1)) (aE c n.V (pt c n inp) (aP n)).1 (aE c n.V (pt c n inp) (aP n)).2.1 [] cu ((gF c n o).2 || (aE c n.V (pt c n inp) (aP n)).2.2), []) := by
 have hi : (pt c n inp).B.length ≤ 500 ∧ (pt c n inp).V.length ≤ 500 := hf.ins
 have hm : dk c := by
  have := of_decide_eq_false h;exact Decidable.not_not.1 fun h => this<|.inl h
 rw [og hf h];obtain ⟨⟨a1, a2⟩, -⟩ := hf;obtain ⟨cu, e⟩ := xc (x := cB c n inp o) (slot := aP n) hm (by show n.V.B.length ≤ 500; omega) (by show n.V.V.length ≤ 500; omega) (by show (pt c n inp).B.length ≤ 500; omega) (by show (pt c n inp).V.length ≤ 500; omega);rw [show ((n.Tick.tmod 3) == 0) = false by rw [h2]; rfl, cf, show ((n.Tick.tmod 3) == 1) = false by rw [h2]; rfl, cf, beq_iff_eq.2 h2, ct, e, ob];exact ⟨cu, rfl⟩
theorem Bo {n : Nd} {c : Cf} (h : eC c n = false) : n.Tick.tmod 3 = 0 ∨ n.Tick.tmod 3 = 1 ∨ n.Tick.tmod 3 = 2 := by
 have h3 : ¬ n.Tick < 3 := fun h2 => (of_decide_eq_false h) (.inr (.inl h2));rw [Int.tmod_eq_emod_of_nonneg (by omega)];omega
theorem xD {b : Bk} {x y : Vw} : b ∈ (bS x y).B ↔ b ∈ x.B ∨ b ∈ y.B := nk b _ _
theorem xE {v : Vt} {x y : Vw} : v ∈ (bS x y).V ↔ v ∈ x.V ∨ v ∈ y.V := nk v _ _
theorem Bf {n : Nd} (h1 : 3 ≤ n.Tick) (h2 : n.Tick ≤ 1000000) : aP n = n.Tick / 3 ∧ 1 ≤ aP n ∧ aP n ≤ 333333 := by
 unfold aP;rw [Int.tdiv_eq_ediv_of_nonneg (by omega), d8 (by omega) (by omega)];omega
theorem Cv {c : Cf} {n : Nd} (hm : dk c) (h1 : 3 ≤ n.Tick) (h2 : n.Tick ≤ 1000000) : eC c n = false := by
 have := Bf h1 h2;unfold aP at this;refine decide_eq_false ?_;rintro (h | h | h)
 ·exact h hm
 ·omega
 ·omega
def kQ (c : Cf) (v w : Vw) : Prop := ge c w ∧ w.B.take v.B.length = v.B ∧ w.V.take v.V.length = v.V
theorem lz {c : Cf} {v : Vw} (h : ge c v) : kQ c v v := ⟨h, List.take_length, List.take_length⟩
theorem uk {α : Type} {a b d : List α} (h1 : b.take a.length = a) (h2 : d.take b.length = b) : d.take a.length = a := by
 have hl := congrArg List.length h1;rw [List.length_take] at hl
 have e : d.take a.length = (d.take b.length).take a.length := by
  rw [List.take_take];congr 1;omega
 rw [e, h2, h1]
theorem nC {c : Cf} {u v w : Vw} (h1 : kQ c u v) (h2 : kQ c v w) : kQ c u w := ⟨h2.1, uk h1.2.1 h2.2.1, uk h1.2.2 h2.2.2⟩
theorem fa {c : Cf} {v : Vw} (h : ge c v) (i : Vw) (s : Int) : kQ c v (aE c v i s).1 := by
 have ht := Br h i s;obtain ⟨h1, h2⟩ := xY ht;exact ⟨ht.may, h1, h2⟩
theorem tF {x : Nd} {c : Cf} {slot : Int} (h : ge c x.V) : kQ c x.V (dp x c slot).1 := by
 unfold dp;split
 ·exact nC (fa h _ _)<|fa (fa h _ _).1 _ _
 ·exact lz h
theorem ly {c : Cf} {slot : Int} : ∀ (o : List Of) (s : Vw × Vw × Bool), ge c s.1 → kQ c s.1 (o.foldl (gR c slot) s).1
 | [], s, h => lz h
 | y :: r, s, h => by
  rw [List.foldl_cons];have h1 : kQ c s.1 (gR c slot s y).1 := fa h _ _;exact nC h1<|ly r _ h1.1
theorem rA {x : Nd} {o : List Of} {c : Cf} {slot : Int} (h : ge c x.V) : kQ c x.V (eh x o c slot).1 := by
 unfold eh;split
 ·exact ly o _ h
 ·exact ly o _ h
noncomputable def cP (c : Cf) (n : Nd) (inp : Vw) (o : List Of) : Nd × List Of := (il c n inp o).getD (n, [])
theorem q5 {c : Cf} {n : Nd} {inp : Vw} {o : List Of} (hf : lS c n inp o) (h : eC c n = true) : il c n inp o = some (cP c n inp o) ∧ cP c n inp o = (n, []) := by
 have e := sn hf h;unfold cP;rw [e];exact ⟨rfl, rfl⟩
theorem pM {c : Cf} {n : Nd} {inp : Vw} {o : List Of} (hf : lS c n inp o) : il c n inp o = some (cP c n inp o) ∧
    ((eC c n = true ∧ cP c n inp o = (n, [])) ∨
     (eC c n = false ∧ n.Tick.tmod 3 = 0 ∧ cP c n inp o = (Nd.mk n.No (IntKind.i64.wrap (n.Tick + 1)) (dp (cB c n inp o) c (aP n)).1 (dp (cB c n inp o) c (aP n)).2.1 (gF c n o).1 n.C (dp (cB c n inp o) c (aP n)).2.2.1, (dp (cB c n inp o) c (aP n)).2.2.2)) ∨
     (eC c n = false ∧ n.Tick.tmod 3 = 1 ∧ cP c n inp o = (Nd.mk n.No (IntKind.i64.wrap (n.Tick + 1)) (eh (cB c n inp o) (gF c n o).1 c (aP n)).1 (eh (cB c n inp o) (gF c n o).1 c (aP n)).2.1 [] n.C (eh (cB c n inp o) (gF c n o).1 c (aP n)).2.2, [])) ∨
     (eC c n = false ∧ n.Tick.tmod 3 = 2 ∧ ∃ cu, cP c n inp o = (Nd.mk n.No (IntKind.i64.wrap (n.Tick + 1)) (aE c n.V (pt c n inp) (aP n)).1 (aE c n.V (pt c n inp) (aP n)).2.1 [] cu ((gF c n o).2 || (aE c n.V (pt c n inp) (aP n)).2.2), []))) := by
  cases hid : eC c n with
  | true => exact ⟨(q5 hf hid).1, .inl ⟨rfl, (q5 hf hid).2⟩⟩
  | false =>
    rcases Bo hid with h | h | h
    · have e := yJ hf hid h;unfold cP;rw [e];exact ⟨rfl, .inr (.inl ⟨rfl, h, rfl⟩)⟩
    · have e := yK hf hid h;unfold cP;rw [e];exact ⟨rfl, .inr (.inr (.inl ⟨rfl, h, rfl⟩))⟩
    · obtain ⟨cu, e⟩ := yL hf hid h;unfold cP;rw [e];exact ⟨rfl, .inr (.inr (.inr ⟨rfl, h, cu, rfl⟩))⟩
def eE (P : Bk → Prop) (Q : Vt → Prop) (v : Vw) : Prop := (∀ b ∈ v.B, P b) ∧ ∀ x ∈ v.V, Q x
def mD (P : Bk → Prop) (Q : Vt → Prop) (o : Of) : Prop := P o.B ∧ eE P Q o.V
def uu (P : Bk → Prop) (Q : Vt → Prop) (n : Nd) : Prop := eE P Q n.V ∧ eE P Q n.In ∧ ∀ o ∈ n.O, mD P Q o
section
variable {P : Bk → Prop} {Q : Vt → Prop}
theorem oJ : eE P Q ⟨[], []⟩ := ⟨fun b hb => (by cases hb), fun x hx => (by cases hx)⟩
theorem ew {a b : Vw} (h1 : eE P Q a) (h2 : eE P Q b) : eE P Q (bS a b) := ⟨fun x hx => (xD.1 hx).elim (h1.1 x) (h2.1 x), fun x hx => (xE.1 hx).elim (h1.2 x) (h2.2 x)⟩
theorem qu {c : Cf} {a : Vw} (h : eE P Q a) : eE P Q (aU c a) := ⟨fun x hx => h.1 x (List.mem_filter.1 hx).1, fun x hx => h.2 x (List.mem_filter.1 hx).1⟩
theorem kF (c : Cf) {w i : Vw} (s : Int) (h1 : eE P Q w) (h2 : eE P Q i) : eE P Q (aE c w i s).1 ∧ eE P Q (aE c w i s).2.1 := by
 by_cases h : ge c w
 ·have ht := Br h i s;obtain ⟨t, e, h3⟩ := ht.preB;obtain ⟨u, e2, h4⟩ := ht.preV;refine ⟨⟨fun b hb => ?_, fun v hv => ?_⟩, fun b hb => h2.1 b (List.mem_filter.1 (ht.subB.subset hb)).1, fun v hv => h2.2 v (List.mem_filter.1 (ht.subV.subset hv)).1⟩
  ·rw [e] at hb;rcases List.mem_append.1 hb with hb | hb
   ·exact h1.1 b hb
   ·exact h2.1 b (List.mem_filter.1 (h3 b hb).1).1
  ·rw [e2] at hv;rcases List.mem_append.1 hv with hv | hv
   ·exact h1.2 v hv
   ·exact h2.2 v (List.mem_filter.1 (h4 v hv).1).1
 ·have e : aE c w i s = (w, i, false) := by unfold aE; rw [if_neg h]
  rw [e];exact ⟨h1, h2⟩
theorem qt (c : Cf) (s : Int) : ∀ (o : List Of) (x : Vw × Vw × Bool), (∀ y ∈ o, mD P Q y) → eE P Q x.1 → eE P Q x.2.1 → eE P Q (o.foldl (gR c s) x).1 ∧ eE P Q (o.foldl (gR c s) x).2.1
 | [], x, _, h1, h2 => ⟨h1, h2⟩
 | y :: r, x, h, h1, h2 => by
  rw [List.foldl_cons];have hy := h y (List.mem_cons_self ..);obtain ⟨a1, a2⟩ := kF c (i := bS y.V ⟨[y.B], []⟩) s h1 (ew hy.2 ⟨fun b hb => by rw [List.mem_singleton.1 hb]; exact hy.1, fun x hx => (by cases hx)⟩);exact qt c s r _ (fun z hz => h z (List.mem_cons_of_mem _ hz)) a1<|ew h2 a2
noncomputable def DK (c : Cf) (n : Nd) (inp : Vw) (o : List Of) : Vt := ⟨n.No, aP n, kW c (bc (cB c n inp o) (gF c n o).1 c (aP n)).1.B (eP c (bc (cB c n inp o) (gF c n o).1 c (aP n)).1.V (IntKind.i64.wrap (aP n - 1)))⟩
theorem Bi {c : Cf} {n : Nd} {inp : Vw} {o : List Of} (hf : lS c n inp o) (hn : uu P Q n) (hi : eE P Q inp) (ho : ∀ y ∈ o, mD P Q y)
  (hp : eC c n = false → n.Tick.tmod 3 = 0 → n.No = p6 c (aP n) → P (qU (cB c n inp o) c (aP n)))
  (hv : eC c n = false → n.Tick.tmod 3 = 1 → n.No ∈ oT c (aP n) → Q (DK c n inp o)) : uu P Q (cP c n inp o).1 ∧ ∀ y ∈ (cP c n inp o).2, mD P Q y := by
 obtain ⟨n1, n2, n3⟩ := id hn;have hin : eE P Q (pt c n inp) := ew n2 (qu hi)
 have hh : ∀ y ∈ (gF c n o).1, mD P Q y := fun y hy => by
  rcases List.mem_append.1 ((gq n.Tick c (aP n) n.Full (n.O ++ o)).2.1 y hy).1 with h | h
  ·exact n3 y h
  ·exact ho y h
 rcases (pM hf).2 with ⟨-, e⟩ | ⟨hid, ht, e⟩ | ⟨hid, ht, e⟩ | ⟨hid, ht, cu, e⟩
 ·rw [e];exact ⟨hn, fun y hy => by cases hy⟩
 ·rw [e];by_cases h : n.No = p6 c (aP n)
  ·have hb := hp hid ht h;unfold dp;rw [if_pos (show (cB c n inp o).No = p6 c (aP n) from h)];obtain ⟨a1, a2⟩ := kF c (aP n) n1 hin;have a3 := (kF c (i := ⟨[qU (cB c n inp o) c (aP n)], []⟩) (aP n) a1 ⟨fun b hb' => by rw [List.mem_singleton.1 hb']; exact hb, fun x hx => (by cases hx)⟩).1;refine ⟨⟨a3, a2, hh⟩, fun y hy => ?_⟩;rw [List.mem_singleton.1 hy];exact ⟨hb, a1⟩
  ·unfold dp;rw [if_neg (show (cB c n inp o).No ≠ p6 c (aP n) from h)];exact ⟨⟨n1, hin, hh⟩, fun y hy => by cases hy⟩
 ·rw [e];obtain ⟨a1, a2⟩ := qt c (aP n) (gF c n o).1 (n.V, pt c n inp, (gF c n o).2) hh n1 hin;refine ⟨?_, fun y hy => by cases hy⟩;unfold eh;by_cases h : n.No ∈ oT c (aP n)
  ·rw [if_pos (show (cB c n inp o).No ∈ oT c (aP n) from h)];refine ⟨a1, ew a2 ⟨fun b hb => (by cases hb), fun x hx => ?_⟩, fun y hy => by cases hy⟩;rw [List.mem_singleton.1 hx];exact hv hid ht h
  ·rw [if_neg (show (cB c n inp o).No ∉ oT c (aP n) from h)];exact ⟨a1, a2, fun y hy => by cases hy⟩
 ·rw [e];obtain ⟨a1, a2⟩ := kF c (aP n) n1 hin;exact ⟨⟨a1, a2, fun y hy => by cases hy⟩, fun y hy => by cases hy⟩
end
def uo (v : Vw) : Prop := v.B.Nodup ∧ v.V.Nodup
theorem j2 {a b : Vw} (h : uo a) : uo (bS a b) := ⟨fD h.1, fD h.2⟩
theorem tQ {c : Cf} {a : Vw} (h : uo a) : uo (aU c a) := ⟨h.1.sublist List.filter_sublist, h.2.sublist List.filter_sublist⟩
theorem tP {c : Cf} {w i : Vw} {s : Int} (hw : ge c w) (h : uo i) : uo (aE c w i s).2.1 := by
 have ht := Br hw i s;exact ⟨(tQ h).1.sublist ht.subB, (tQ h).2.sublist ht.subV⟩
theorem tO (c : Cf) (s : Int) : ∀ (o : List Of) (x : Vw × Vw × Bool), uo x.2.1 → uo (o.foldl (gR c s) x).2.1
 | [], x, h => h
 | y :: r, x, h => by
  rw [List.foldl_cons];exact tO c s r _<|j2 h
theorem q6 {c : Cf} {n : Nd} {inp : Vw} {o : List Of} (hf : lS c n inp o) (hm : ge c n.V) (hd : uo n.In) (h8 : n.O.length ≤ 8) :
  (cP c n inp o).1.No = n.No ∧ ((cP c n inp o).1.Tick = if eC c n = true then n.Tick else IntKind.i64.wrap (n.Tick + 1)) ∧ kQ c n.V (cP c n inp o).1.V ∧ uo (cP c n inp o).1.In ∧ (cP c n inp o).1.O.length ≤ 8 ∧
   ((cP c n inp o).2 ≠ [] → eC c n = false ∧ n.Tick.tmod 3 = 0 ∧ n.No = p6 c (aP n)) ∧ (cP c n inp o).2.length ≤ 1 ∧ (∀ y ∈ (cP c n inp o).1.O, y ∈ n.O ++ o) ∧ ∀ y ∈ (cP c n inp o).2, ge c y.V := by
 have hdi : uo (pt c n inp) := j2 hd;have hh := (gq n.Tick c (aP n) n.Full (n.O ++ o)).1;have ho := fun y hy => ((gq n.Tick c (aP n) n.Full (n.O ++ o)).2.1 y hy).1;rcases (pM hf).2 with ⟨hid, e⟩ | ⟨hid, ht, e⟩ | ⟨hid, ht, e⟩ | ⟨hid, ht, cu, e⟩
 ·rw [e, hid];exact ⟨rfl, rfl, lz hm, hd, h8, fun h => absurd Z h, by simp, fun y hy => List.mem_append_left _ hy, fun y hy => by cases hy⟩
 ·rw [e, hid];refine ⟨rfl, rfl, tF (x := cB c n inp o) hm, ?_, hh, ?_, ?_, ho, ?_⟩
  ·unfold dp;split
   ·exact tP hm hdi
   ·exact hdi
  ·unfold dp;split
   ·rename_i h;exact fun _ => ⟨rfl, ht, h⟩
   ·exact fun h => absurd Z h
  ·unfold dp;split <;> simp
  ·unfold dp;split
   ·intro y hy;rw [List.mem_singleton.1 hy];exact (fa hm _ _).1
   ·exact fun y hy => by cases hy
 ·rw [e, hid];refine ⟨rfl, rfl, rA (x := cB c n inp o) hm, ?_, by simp, fun h => absurd Z h, by simp, fun y hy => (by cases hy), fun y hy => (by cases hy)⟩;have := tO c (aP n) (gF c n o).1 (n.V, pt c n inp, (gF c n o).2) hdi;unfold eh;split
  ·exact j2 this
  ·exact this
 ·rw [e, hid];exact ⟨rfl, rfl, fa hm _ _, tP hm hdi, by simp, fun h => absurd Z h, by simp, fun y hy => (by cases hy), fun y hy => (by cases hy)⟩
def A7 (to at_ : Int) : Bool := (bits .and .i64 (to.fdiv (2 ^ (min (Int.toNat at_) IntKind.i64.bits))) 1) == 0
def kU (bad : List Int) (al : Vw) (a : Ac) : Vw := ⟨a.B.filter fun b => decide (b.From ∈ bad ∨ b ∈ al.B), a.V.filter fun v => decide (v.From ∈ bad ∨ v ∈ al.V)⟩
def cF (slot wh : Int) (bad : List Int) (al : Vw) (me : Bool) (at_ : Int) (s : Vw × List Of) (a : Ac) : Vw × List Of :=
 if A7 a.To at_ = true then s
 else if a.Offer = false then (bS s.1 (kU bad al a), s.2)
 else if me = true then
  match (kU bad al a).B with
  | [] => s
  | b :: r => (s.1, s.2 ++ [⟨slot, wh, b, ⟨r, (kU bad al a).V⟩⟩])
 else s
def uf (w : Wd) : Int := IntKind.i64.wrap (w.Tick.tdiv 3)
def ej (w : Wd) (l : List Ac) : List Ac := l.filter fun a => decide (a.Tick = w.Tick ∧ a.To ≥ 0)
def fG (w : Wd) : Vw := kL w.N ⟨[], []⟩
def ia (w : Wd) : Int := p6 w.C (uf w)
def bO (w : Wd) (l : List Ac) (k : Nat) : Vw × List Of := (ej w l).foldl (cF (uf w) (ia w) w.Bad (fG w) (decide (ia w ∈ w.Bad)) (k : Int)) (fG w, w.O)
noncomputable def eu (w : Wd) (l : List Ac) : List (Nd × List Of) := w.N.zipIdx.map fun p => cP w.C p.1 (bO w l p.2).1 (bO w l p.2).2
def ny (w : Wd) : Bool := decide (¬ dk w.C ∨ w.Tick < 3 ∨ w.Tick ≥ 3145728)
noncomputable def jD (w : Wd) (l : List Ac) : Wd := if ny w = true then w else ⟨w.C, w.Bad, IntKind.i64.wrap (w.Tick + 1), (eu w l).map (·.1), (eu w l).flatMap (·.2)⟩
structure sM (w : Wd) : Prop where
 n : w.N.length ≤ 10
 nodes : ∀ n ∈ w.N, jP 500 n
 o : w.O.length ≤ 20
 offs : ∀ o ∈ w.O, lg 500 o.V
 bad : w.Bad.length ≤ 100
structure lT (l : List Ac) : Prop where
 len : l.length ≤ 30
 each : ∀ a ∈ l, a.B.length ≤ 8 ∧ a.V.length ≤ 8
theorem oy {v : Vw} (h1 : v.B.length ≤ 1000) (h2 : v.V.length ≤ 1000) : lR v = some v := by
 unfold lR;rw [aI (by omega) (by omega), ct, aI (by omega) (by omega), ct]
theorem sA {l : List Of} (hl : l.length ≤ 1000) (hs : ∀ o ∈ l, lf o) : ns l = some l := by
 have e := az (step := iy l) (n := l.length) (fun k => dX.mk (k : Int)) (dX.mk (l.length : Int)) (fun k hk => by
  obtain ⟨y, hy, hm⟩ := aA hk;have := hs y hm;unfold iy;simp only
  rw [decide_eq_true (show (k : Int) < (l.length : Int) by omega), ct, aC hy, ob, oy this.1 this.2, ob, ob, ak (n := k) (by omega)]) (by
  unfold iy;simp only
  rw [decide_eq_false (show ¬ (l.length : Int) < (l.length : Int) by omega), cf]) (by omega)
 have e' : iter (iy l) bH (dX.mk 0) = _ := e;unfold ns;rw [aI (by omega) (by omega), ct, e', ob]
theorem sx {w : Wd} (h : sM w) : nr w = some w := by
 have hN : w.N.length ≤ 10 := h.n
 have e := az (step := iw w) (n := w.N.length) (fun k => dW.mk (k : Int)) (dW.mk (w.N.length : Int)) (fun k hk => by
  obtain ⟨y, hy, hm⟩ := aA hk;obtain ⟨⟨a1, a2⟩, ⟨b1, b2⟩, c1, c2⟩ := h.nodes y hm;unfold iw;simp only
  rw [decide_eq_true (show (k : Int) < (w.N.length : Int) by omega), ct, aC hy, ob, oy (by omega) (by omega), ob, oy (by omega) (by omega), ob, sA (by omega) (mw (by omega) c2), ob, ak (n := k) (by omega)]) (by
  unfold iw;simp only
  rw [decide_eq_false (show ¬ (w.N.length : Int) < (w.N.length : Int) by omega), cf]) (by omega)
 have e' : iter (iw w) bH (dW.mk 0) = _ := e;unfold nr;have := h.bad;have := h.o;rw [aI (by omega) (by omega), ct, aI (by omega) (by omega), ct, sA (by omega) (mw (by omega) h.offs), ob, e', ob]
theorem z6 {w : Wd} {al : Vw} (x : Bk) (hb : w.Bad.length ≤ 100) (hl : al.B.length ≤ 100000) : sJ x w al = some (decide (x.From ∈ w.Bad ∨ x ∈ al.B)) := by
 unfold sJ w8;rw [lP (by omega), ob, ob];by_cases h : x.From ∈ w.Bad
 ·rw [decide_eq_true h, ct, decide_eq_true (.inl h)]
 ·rw [decide_eq_false h, cf, vU hl, ob];by_cases h2 : x ∈ al.B
  ·rw [decide_eq_true h2, decide_eq_true (.inr h2)]
  ·rw [decide_eq_false h2, decide_eq_false fun h3 => h3.elim h h2]
theorem z7 {w : Wd} {al : Vw} (x : Vt) (hb : w.Bad.length ≤ 100) (hl : al.V.length ≤ 100000) : sK x w al = some (decide (x.From ∈ w.Bad ∨ x ∈ al.V)) := by
 unfold sK w8;rw [lP (by omega), ob, ob];by_cases h : x.From ∈ w.Bad
 ·rw [decide_eq_true h, ct, decide_eq_true (.inl h)]
 ·rw [decide_eq_false h, cf, vV hl, ob];by_cases h2 : x ∈ al.V
  ·rw [decide_eq_true h2, decide_eq_true (.inr h2)]
  ·rw [decide_eq_false h2, decide_eq_false fun h3 => h3.elim h h2]
theorem xa {l : List Bk} {w : Wd} {al : Vw} (hl : l.length ≤ 100000) (hb : w.Bad.length ≤ 100) (ha : al.B.length ≤ 100000) : oE l w al = some (l.filter fun x => decide (x.From ∈ w.Bad ∨ x ∈ al.B)) := by
 have e := az (step := fS l w al) (n := l.length) (fun k => cK.mk (k : Int) ((l.take k).filter fun x => decide (x.From ∈ w.Bad ∨ x ∈ al.B))) (cK.mk (l.length : Int) (l.filter fun x => decide (x.From ∈ w.Bad ∨ x ∈ al.B))) (fun k hk => by
  obtain ⟨y, hy, -⟩ := aA hk;have hlen := de (p := fun x : Bk => decide (x.From ∈ w.Bad ∨ x ∈ al.B)) (l := l) k;unfold fS;simp only;rw [decide_eq_true (show (k : Int) < (l.length : Int) by omega), ct, aC hy, ob, z6 y hb ha, ob, bK hy, ak (n := k) (by omega)]
  cases decide (y.From ∈ w.Bad ∨ y ∈ al.B) with
  | true => rw [ct, aI (by simp only [List.length_singleton]; omega) (by omega), ct, ct]
  | false => rw [cf, cf, List.append_nil]) (by
  unfold fS;simp only
  rw [decide_eq_false (show ¬ (l.length : Int) < (l.length : Int) by omega), cf, List.take_length]) (by omega)
 have e' : iter (fS l w al) bH (cK.mk 0 []) = _ := e;unfold oE;rw [e', ob]
theorem xb {l : List Vt} {w : Wd} {al : Vw} (hl : l.length ≤ 100000) (hb : w.Bad.length ≤ 100) (ha : al.V.length ≤ 100000) : oF l w al = some (l.filter fun x => decide (x.From ∈ w.Bad ∨ x ∈ al.V)) := by
 have e := az (step := fT l w al) (n := l.length) (fun k => cL.mk (k : Int) ((l.take k).filter fun x => decide (x.From ∈ w.Bad ∨ x ∈ al.V))) (cL.mk (l.length : Int) (l.filter fun x => decide (x.From ∈ w.Bad ∨ x ∈ al.V))) (fun k hk => by
  obtain ⟨y, hy, -⟩ := aA hk;have hlen := de (p := fun x : Vt => decide (x.From ∈ w.Bad ∨ x ∈ al.V)) (l := l) k;unfold fT;simp only;rw [decide_eq_true (show (k : Int) < (l.length : Int) by omega), ct, aC hy, ob, z7 y hb ha, ob, bK hy, ak (n := k) (by omega)]
  cases decide (y.From ∈ w.Bad ∨ y ∈ al.V) with
  | true => rw [ct, aI (by simp only [List.length_singleton]; omega) (by omega), ct, ct]
  | false => rw [cf, cf, List.append_nil]) (by
  unfold fT;simp only
  rw [decide_eq_false (show ¬ (l.length : Int) < (l.length : Int) by omega), cf, List.take_length]) (by omega)
 have e' : iter (fT l w al) bH (cL.mk 0 []) = _ := e;unfold oF;rw [e', ob]
theorem zS {a : Ac} {w : Wd} {al : Vw} (h1 : a.B.length ≤ 1000) (h2 : a.V.length ≤ 1000) (hb : w.Bad.length ≤ 100) (h3 : al.B.length ≤ 100000) (h4 : al.V.length ≤ 100000) : sF a w al = some (kU w.Bad al a) := by
 unfold sF;rw [xa (by omega) hb h3, ob, xb (by omega) hb h4, ob];rfl
theorem w9 {l : List Ac} {w : Wd} (hl : l.length ≤ 100000) : oD l w = some (ej w l) := by
 have e := az (step := fR l w) (n := l.length) (fun k => cJ.mk (k : Int) (ej w (l.take k))) (cJ.mk (l.length : Int) (ej w l)) (fun k hk => by
  obtain ⟨y, hy, -⟩ := aA hk;have hlen := de (p := fun a : Ac => decide (a.Tick = w.Tick ∧ a.To ≥ 0)) (l := l) k;unfold ej at hlen ⊢;unfold fR Ck;simp only;rw [decide_eq_true (show (k : Int) < (l.length : Int) by omega), ct, aC hy, ob, bK hy, ak (n := k) (by omega)];by_cases h1 : y.Tick = w.Tick
  ·rw [beq_iff_eq.2 h1, ct, ob];by_cases h2 : y.To ≥ 0
   ·rw [decide_eq_true h2, ct, decide_eq_true ⟨h1, h2⟩, ct, aI (by simp only [List.length_singleton]; omega) (by omega), ct]
   ·rw [decide_eq_false h2, cf, decide_eq_false fun h => h2 h.2, cf, List.append_nil]
  ·rw [show (y.Tick == w.Tick) = false by simp [h1], cf, ob, cf, decide_eq_false fun h => h1 h.1, cf, List.append_nil]) (by
  unfold fR;simp only
  rw [decide_eq_false (show ¬ (l.length : Int) < (l.length : Int) by omega), cf, List.take_length]) (by omega)
 have e' : iter (fR l w) bH (cJ.mk 0 []) = _ := e;unfold oD;rw [e', ob]
theorem Ct {w : Wd} (h : sM w) : (fG w).B.length ≤ 10000 ∧ (fG w).V.length ≤ 10000 := by
 have h1 := oI (l := w.N) (w := ⟨[], []⟩) (k := 500) h.nodes;have h2 := h.n;unfold fG;simp only [List.length_nil] at h1;omega
theorem zZ {w : Wd} {l : List Ac} (h : sM w) (hl : l.length ≤ 100000) : sI w l = some (fG w, ia w, decide (ia w ∈ w.Bad), ej w l) := by
 unfold sI;rw [wQ (by have := h.n; omega) h.nodes, ob, rf, ob, lP (by have := h.bad; omega), ob, w9 hl, ob];rfl
theorem pb (bad : List Int) (al : Vw) (a : Ac) : (kU bad al a).B.length ≤ a.B.length ∧ (kU bad al a).V.length ≤ a.V.length := ⟨List.length_filter_le _ _, List.length_filter_le _ _⟩
theorem vv {slot wh : Int} {bad : List Int} {al : Vw} {me : Bool} {k : Int} : ∀ {l : List Ac} {s : Vw × List Of}, (∀ a ∈ l, a.B.length ≤ 8 ∧ a.V.length ≤ 8) → (l.foldl (cF slot wh bad al me k) s).1.B.length ≤ s.1.B.length + 8 * l.length ∧ (l.foldl (cF slot wh bad al me k) s).1.V.length ≤ s.1.V.length + 8 * l.length ∧ (l.foldl (cF slot wh bad al me k) s).2.length ≤ s.2.length + l.length
 | [], s, _ => by simp
 | a :: r, s, h => by
  rw [List.foldl_cons, List.length_cons];obtain ⟨h1, h2⟩ := h a (List.mem_cons_self ..);have ih := vv (slot := slot) (wh := wh) (bad := bad) (al := al) (me := me) (k := k) (l := r) (s := cF slot wh bad al me k s a) fun b hb => h b (List.mem_cons_of_mem _ hb);have hf := pb bad al a;have hj := qO s.1 (kU bad al a)
  have : (cF slot wh bad al me k s a).1.B.length ≤ s.1.B.length + 8 ∧ (cF slot wh bad al me k s a).1.V.length ≤ s.1.V.length + 8 ∧ (cF slot wh bad al me k s a).2.length ≤ s.2.length + 1 := by
   unfold cF;split
   ·omega
   ·split
    ·simp only; omega
    ·split
     ·split
      ·omega
      ·simp only [List.length_append, List.length_singleton]; omega
     ·omega
  omega
theorem D9 {w : Wd} {l : List Ac} (h : sM w) (hl : lT l) (k : Nat) : Fr w (fG w) (ia w) (decide (ia w ∈ w.Bad)) (ej w l) (k : Int) = some (bO w l k) := by
 have hal := Ct h;have hcl : (ej w l).length ≤ 30 := Nat.le_trans (List.length_filter_le _ _) hl.len;have hce : ∀ a ∈ ej w l, a.B.length ≤ 8 ∧ a.V.length ≤ 8 := fun a ha => hl.each a (List.mem_filter.1 ha).1;unfold bO;generalize ej w l = cl at hcl hce;generalize hst : cF (uf w) (ia w) w.Bad (fG w) (decide (ia w ∈ w.Bad)) (k : Int) = st;have ho := h.o;have hb := h.bad
 have e := az (step := mI w (fG w) (ia w) (decide (ia w ∈ w.Bad)) cl (k : Int)) (n := cl.length) (fun j => e8.mk (j : Int) ((cl.take j).foldl st (fG w, w.O)).1 ((cl.take j).foldl st (fG w, w.O)).2) (e8.mk (cl.length : Int) (cl.foldl st (fG w, w.O)).1 (cl.foldl st (fG w, w.O)).2) (fun j hj => by
  obtain ⟨y, hy, hm⟩ := aA hj
  have et : cl.take (j + 1) = cl.take j ++ [y] := by rw [List.take_add_one, hy]; rfl
  have hlen := vv (slot := uf w) (wh := ia w) (bad := w.Bad) (al := fG w) (me := decide (ia w ∈ w.Bad)) (k := (k : Int)) (l := cl.take j) (s := (fG w, w.O)) fun a ha => hce a (List.mem_of_mem_take ha);rw [hst, List.length_take] at hlen;obtain ⟨y1, y2⟩ := hce y hm;have hf := pb w.Bad (fG w) y;unfold mI;simp only;rw [et, List.foldl_append, List.foldl_cons, List.foldl_nil];generalize (cl.take j).foldl st (fG w, w.O) = s at hlen ⊢;simp only at hlen;rw [decide_eq_true (show (j : Int) < (cl.length : Int) by omega), ct, aC hy, ob, decide_eq_true (show (0 : Int) ≤ (k : Int) by omega), ct, ak (n := j) (by omega), ← hst];show (bif A7 y.To (k : Int) then _ else _) = _;unfold cF
  cases hof : A7 y.To (k : Int) with
  | true => rw [ct, if_pos rfl]
  | false =>
   rw [cf, if_neg (by simp), zS (by omega) (by omega) hb (by omega) (by omega), ob]
   cases hoff : y.Offer with
   | false => rw [Bool.not_false, ct, if_pos rfl, lc (by omega) (by omega), ob]
   | true =>
    rw [Bool.not_true, cf, if_neg (by simp)]
    cases hme : decide (ia w ∈ w.Bad) with
    | false => rw [cf, ob, cf, if_neg (by simp)]
    | true =>
     rw [ct, ob, if_pos rfl]
     cases hB : (kU w.Bad (fG w) y).B with
     | nil => rfl
     | cons b r =>
      rw [decide_eq_true (by simp), ct];show (bif Fd (b :: r) 1 (b :: r).length then _ else none) = _;rw [show Fd (b :: r) 1 ((b :: r).length : Int) = true from decide_eq_true (by simp only [List.length_cons]; omega), ct, aI (by simp only [List.length_singleton]; omega) (by omega), ct]
      rfl) (by
  unfold mI;simp only
  rw [decide_eq_false (show ¬ (cl.length : Int) < (cl.length : Int) by omega), cf, List.take_length]) (by omega)
 have e' : iter (mI w (fG w) (ia w) (decide (ia w ∈ w.Bad)) cl (k : Int)) bH (e8.mk 0 (fG w) w.O) = _ := e;unfold Fr;rw [aI (by omega) (by omega), ct, e', ob]
theorem iO {w : Wd} {l : List Ac} {k : Nat} {n : Nd} (h : w.N[k]? = some n) : (eu w l)[k]? = some (cP w.C n (bO w l k).1 (bO w l k).2) := by
 unfold eu;rw [List.getElem?_map, List.getElem?_zipIdx, h];simp
theorem fW (w : Wd) (l : List Ac) : (eu w l).length = w.N.length := by
 unfold eu;rw [List.length_map, List.length_zipIdx]
theorem u7 (w : Wd) : ((w5 w.C).bind fun v2 => bif !v2 then some true else bif decide (w.Tick < 3) then some true else some (decide (w.Tick ≥ 3145728))) = some (ny w) := by
 rw [k8, ob];unfold ny;by_cases h1 : dk w.C
 ·rw [decide_eq_true h1, Bool.not_true, cf];by_cases h2 : w.Tick < 3
  ·rw [decide_eq_true h2, ct, decide_eq_true (.inr (.inl h2))]
  ·rw [decide_eq_false h2, cf];by_cases h3 : w.Tick ≥ 3145728
   ·rw [decide_eq_true h3, decide_eq_true (.inr (.inr h3))]
   ·rw [decide_eq_false h3, decide_eq_false];rintro (h | h | h)
    ·exact h h1
    ·exact h2 h
    ·exact h3 h
 ·rw [decide_eq_false h1, Bool.not_false, ct, decide_eq_true (.inl h1)]
theorem yR {w : Wd} {l : List Ac} (h : sM w) (hl : lT l) (hG : ∀ k n, w.N[k]? = some n → lS w.C n (bO w l k).1 (bO w l k).2) (hT : ∀ k n, w.N[k]? = some n → (cP w.C n (bO w l k).1 (bO w l k).2).2.length ≤ 1) : ov w l = some (jD w l) := by
 have hN := h.n;unfold ov jD;rw [u7, ob]
 cases hi : ny w with
 | true => rw [ct, sx h, ob, if_pos rfl]
 | false =>
  have hsl := fW w l
  have hfl : ∀ k, k ≤ w.N.length → (((eu w l).take k).flatMap (·.2)).length ≤ k := by
   intro k
   induction k with
   | zero => intro _; simp
   | succ k ih =>
    intro hk;obtain ⟨n, hn⟩ : ∃ n, w.N[k]? = some n := ⟨_, List.getElem?_eq_getElem (by omega)⟩;rw [List.take_add_one, iO hn, List.flatMap_append, List.length_append];have := ih (by omega);have := hT k n hn;simp only [Option.toList_some, List.flatMap_cons, List.flatMap_nil, List.append_nil];omega
  have e := az (step := ir w (fG w, ia w, decide (ia w ∈ w.Bad), ej w l)) (n := w.N.length) (fun k => dT.mk (k : Int) (((eu w l).take k).map (·.1)) (((eu w l).take k).flatMap (·.2))) (dT.mk (w.N.length : Int) ((eu w l).map (·.1)) ((eu w l).flatMap (·.2))) (fun k hk => by
   obtain ⟨y, hy, hm⟩ := aA hk;have hk2 := hfl k (by omega);have hT1 := hT k y hy;have hw := (pM (hG k y hy)).1;unfold ir;simp only;rw [decide_eq_true (show (k : Int) < (w.N.length : Int) by omega), ct, D9 h hl k, ob, aC hy, ob, hw, ob, aI (by rw [List.length_map, List.length_take]; simp only [List.length_singleton]; omega) (by omega), ct, aI (by omega) (by omega), ct, ak (n := k) (by omega)];rw [List.take_add_one, iO hy, List.map_append, List.flatMap_append]
   simp) (by
   unfold ir;simp only
   rw [decide_eq_false (show ¬ (w.N.length : Int) < (w.N.length : Int) by omega), cf, List.take_of_length_le (by omega)]) (by omega)
  have e' : iter (ir w (fG w, ia w, decide (ia w ∈ w.Bad), ej w l)) bH (dT.mk 0 [] []) = _ := e;have := h.bad;rw [cf, zZ h (by have := hl.len; omega), ob, aI (by omega) (by omega), ct, e', ob, if_neg (by simp)]
def E9 (o : Of) : Prop := o.V.B.length ≤ 60 ∧ o.V.V.length ≤ 240
structure HX (c : Cf) (U : Vw) (n : Nd) : Prop where
 may : ge c n.V
 nd : uo n.In
 few : n.O.length ≤ 8
 all : uu (· ∈ U.B) (· ∈ U.V) n
 sz : ∀ o ∈ n.O, E9 o
structure Ae (U : Vw) (w : Wd) : Prop where
 len : w.N.length ≤ 6
 bad : w.Bad.length ≤ 10
 nodes : ∀ n ∈ w.N, HX w.C U n
 told : w.O.length ≤ 6
 offs : ∀ o ∈ w.O, mD (· ∈ U.B) (· ∈ U.V) o ∧ E9 o
def jv (l : List Ac) : Vw := ⟨l.flatMap Ac.B, l.flatMap Ac.V⟩
def lh (a b : Vw) : Prop := (∀ x ∈ a.B, x ∈ b.B) ∧ ∀ x ∈ a.V, x ∈ b.V
theorem pP (a : Vw) : lh a a := ⟨fun _ h => h, fun _ h => h⟩
theorem nh {a b d : Vw} (h1 : lh a b) (h2 : lh b d) : lh a d := ⟨fun x h => h2.1 x (h1.1 x h), fun x h => h2.2 x (h1.2 x h)⟩
theorem qq {P P' : Bk → Prop} {Q Q' : Vt → Prop} (hP : ∀ b, P b → P' b) (hQ : ∀ v, Q v → Q' v) {n : Nd} (h : uu P Q n) : uu P' Q' n :=
 ⟨⟨fun b hb => hP b (h.1.1 b hb), fun v hv => hQ v (h.1.2 v hv)⟩, ⟨fun b hb => hP b (h.2.1.1 b hb), fun v hv => hQ v (h.2.1.2 v hv)⟩, fun o ho => ⟨hP _ (h.2.2 o ho).1, fun b hb => hP b ((h.2.2 o ho).2.1 b hb), fun v hv => hQ v ((h.2.2 o ho).2.2 v hv)⟩⟩
theorem qr {P P' : Bk → Prop} {Q Q' : Vt → Prop} (hP : ∀ b, P b → P' b) (hQ : ∀ v, Q v → Q' v) {o : Of} (h : mD P Q o) : mD P' Q' o :=
 ⟨hP _ h.1, fun b hb => hP b (h.2.1 b hb), fun v hv => hQ v (h.2.2 v hv)⟩
theorem A2 {c : Cf} {U U' : Vw} (h : lh U U') {n : Nd} (hn : HX c U n) : HX c U' n := ⟨hn.may, hn.nd, hn.few, qq h.1 h.2 hn.all, hn.sz⟩
theorem BD {U U' : Vw} (h : lh U U') {w : Wd} (hw : Ae U w) : Ae U' w := ⟨hw.len, hw.bad, fun n hn => A2 h (hw.nodes n hn), hw.told, fun o ho => ⟨qr h.1 h.2 (hw.offs o ho).1, (hw.offs o ho).2⟩⟩
section
variable {P : Bk → Prop} {Q : Vt → Prop}
theorem wg : ∀ {l : List Nd} {w : Vw}, eE P Q w → (∀ n ∈ l, uu P Q n) → eE P Q (kL l w)
 | [], w, h, _ => h
 | n :: r, w, h, hs => by
  have hn := hs n (List.mem_cons_self ..);exact wg (l := r) (w := bS w (dM n)) (ew h (ew hn.1 hn.2.1)) fun m hm => hs m<|List.mem_cons_of_mem _ hm
theorem xi {bad : List Int} {al : Vw} {a : Ac} (hal : eE P Q al) (hB : ∀ b ∈ a.B, b.From ∈ bad → P b) (hV : ∀ v ∈ a.V, v.From ∈ bad → Q v) : eE P Q (kU bad al a) := by
 refine ⟨fun b hb => ?_, fun v hv => ?_⟩
 ·obtain ⟨h1, h2⟩ := List.mem_filter.1 hb;rcases of_decide_eq_true h2 with h | h
  ·exact hB b h1 h
  ·exact hal.1 b h
 ·obtain ⟨h1, h2⟩ := List.mem_filter.1 hv;rcases of_decide_eq_true h2 with h | h
  ·exact hV v h1 h
  ·exact hal.2 v h
theorem Bq {slot wh : Int} {bad : List Int} {al : Vw} {me : Bool} {k : Int} (hal : eE P Q al) : ∀ {l : List Ac} {s : Vw × List Of}, (∀ a ∈ l, (∀ b ∈ a.B, b.From ∈ bad → P b) ∧ ∀ v ∈ a.V, v.From ∈ bad → Q v) → eE P Q s.1 → (∀ o ∈ s.2, mD P Q o) → eE P Q (l.foldl (cF slot wh bad al me k) s).1 ∧ ∀ o ∈ (l.foldl (cF slot wh bad al me k) s).2, mD P Q o
 | [], s, _, h1, h2 => ⟨h1, h2⟩
 | a :: r, s, h, h1, h2 => by
  rw [List.foldl_cons];have hf := xi hal (h a (List.mem_cons_self ..)).1 (h a (List.mem_cons_self ..)).2
  have : eE P Q (cF slot wh bad al me k s a).1 ∧ ∀ o ∈ (cF slot wh bad al me k s a).2, mD P Q o := by
   unfold cF;split
   ·exact ⟨h1, h2⟩
   ·split
    ·exact ⟨ew h1 hf, h2⟩
    ·split
     ·split
      ·exact ⟨h1, h2⟩
      ·rename_i b q hB;refine ⟨h1, fun o ho => ?_⟩;rcases List.mem_append.1 ho with ho | ho
       ·exact h2 o ho
       ·rw [List.mem_singleton.1 ho];exact ⟨hf.1 b (by rw [hB]; exact List.mem_cons_self ..), fun x hx => hf.1 x (by rw [hB]; exact List.mem_cons_of_mem _ hx), hf.2⟩
     ·exact ⟨h1, h2⟩
  exact Bq hal (fun b hb => h b (List.mem_cons_of_mem _ hb)) this.1 this.2
theorem DI {slot wh : Int} {bad : List Int} {al : Vw} {me : Bool} {k : Int} : ∀ {l : List Ac} {s : Vw × List Of}, uo s.1 → uo (l.foldl (cF slot wh bad al me k) s).1
 | [], s, h => h
 | a :: r, s, h => by
  rw [List.foldl_cons];refine DI ?_;unfold cF;split
  ·exact h
  ·split
   ·exact j2 h
   ·split
    ·split <;> exact h
    ·exact h
theorem DJ {slot wh : Int} {bad : List Int} {al : Vw} {me : Bool} {k : Int} : ∀ {l : List Ac} {s : Vw × List Of}, (∀ a ∈ l, a.B.length ≤ 8 ∧ a.V.length ≤ 8) → (∀ o ∈ s.2, E9 o) → ∀ o ∈ (l.foldl (cF slot wh bad al me k) s).2, E9 o
 | [], s, _, h => h
 | a :: r, s, hl, h => by
  rw [List.foldl_cons];refine DJ (fun b hb => hl b (List.mem_cons_of_mem _ hb)) ?_;have hf := pb bad al a;have ha := hl a (List.mem_cons_self ..);unfold cF;split
  ·exact h
  ·split
   ·exact h
   ·split
    ·split
     ·exact h
     ·rename_i b q hB;intro o ho;rcases List.mem_append.1 ho with ho | ho
      ·exact h o ho
      ·rw [List.mem_singleton.1 ho];have := congrArg List.length hB;rw [List.length_cons] at this;exact ⟨show q.length ≤ 60 by omega, show (kU bad al a).V.length ≤ 240 by omega⟩
    ·exact h
end
def Fa (U : Vw) : Prop := U.B.length ≤ 400 ∧ U.V.length ≤ 400
theorem rP {U : Vw} {w : Wd} (hw : Ae U w) (hU : Fa U) : sM w := by
 refine ⟨by have := hw.len; omega, fun n hn => ?_, by have := hw.told; omega, fun o ho => ?_, by have := hw.bad; omega⟩
 ·have h := hw.nodes n hn;have h1 := h.may.lenB;have h2 := h.may.lenV;have h3 := dH h.nd.1 h.all.2.1.1;have h4 := dH h.nd.2 h.all.2.1.2;have h5 := h.few;obtain ⟨u1, u2⟩ := hU;exact ⟨⟨by omega, by omega⟩, ⟨by omega, by omega⟩, by omega, fun o ho => by have := h.sz o ho; exact ⟨by have := this.1; omega, by have := this.2; omega⟩⟩
 ·have := (hw.offs o ho).2;exact ⟨by have := this.1; omega, by have := this.2; omega⟩
theorem sX {P : Bk → Prop} {Q : Vt → Prop} {w : Wd} {l : List Ac} (hn : ∀ n ∈ w.N, uu P Q n) (ho : ∀ o ∈ w.O, mD P Q o) (ha : ∀ a ∈ l, (∀ b ∈ a.B, b.From ∈ w.Bad → P b) ∧ ∀ v ∈ a.V, v.From ∈ w.Bad → Q v) (k : Nat) :
  eE P Q (bO w l k).1 ∧ ∀ o ∈ (bO w l k).2, mD P Q o := by
 have hal : eE P Q (fG w) := wg oJ hn;exact Bq hal (fun a h => ha a (List.mem_filter.1 h).1) hal ho
theorem CH (w : Wd) (l : List Ac) (k : Nat) : uo (bO w l k).1 := DI (qv List.nodup_nil List.nodup_nil)
theorem Aw {w : Wd} {l : List Ac} (hl : lT l) (k : Nat) : (bO w l k).2.length ≤ w.O.length + 30 := by
 have h := (vv (slot := uf w) (wh := ia w) (bad := w.Bad) (al := fG w) (me := decide (ia w ∈ w.Bad)) (k := (k : Int)) (l := ej w l) (s := (fG w, w.O)) fun a ha => hl.each a (List.mem_filter.1 ha).1).2.2;have h2 : (ej w l).length ≤ l.length := List.length_filter_le _ _;have h3 := hl.len;unfold bO;simp only at h;omega
theorem wj {U : Vw} {w : Wd} {l : List Ac} (hw : Ae U w) (hl : lT l) (k : Nat) : ∀ o ∈ (bO w l k).2, E9 o := DJ (fun a ha => hl.each a (List.mem_filter.1 ha).1) fun o ho => (hw.offs o ho).2
theorem we {l : List Ac} {U : Vw} (hs : lh (jv l) U) (bad : List Int) : ∀ a ∈ l, (∀ b ∈ a.B, b.From ∈ bad → b ∈ U.B) ∧ ∀ v ∈ a.V, v.From ∈ bad → v ∈ U.V :=
 fun a ha => ⟨fun b hb _ => hs.1 b (List.mem_flatMap.2 ⟨a, ha, hb⟩), fun v hv _ => hs.2 v (List.mem_flatMap.2 ⟨a, ha, hv⟩)⟩
theorem GG {U : Vw} {w : Wd} {l : List Ac} (hw : Ae U w) (hU : Fa U) (hl : lT l) (hs : lh (jv l) U) {k : Nat} {n : Nd} (hk : w.N[k]? = some n) : lS w.C n (bO w l k).1 (bO w l k).2 := by
 have hn := hw.nodes n (List.mem_of_getElem? hk);obtain ⟨u1, u2⟩ := hU;have hc := sX (fun n hn => (hw.nodes n hn).all) (fun o ho => (hw.offs o ho).1) (we hs w.Bad) k;have hd := CH w l k;have hi := dH hd.1 hc.1.1;have hi2 := dH hd.2 hc.1.2;have hj : uo (bS n.In (aU w.C (bO w l k).1)) := j2 hn.nd;have hja : eE (· ∈ U.B) (· ∈ U.V) (bS n.In (aU w.C (bO w l k).1)) := ew hn.all.2.1 (qu hc.1);have h1 := hn.may.lenB;have h2 := hn.may.lenV;have h3 := dH hn.nd.1 hn.all.2.1.1;have h4 := dH hn.nd.2 hn.all.2.1.2;have h5 := dH hj.1 hja.1;have h6 := dH hj.2 hja.2;have h7 := Aw (w := w) hl k;have h8 := hw.told;have h9 := hn.few;refine ⟨by omega, by omega, by omega, by omega, by omega, fun y hy => ?_⟩
 have : E9 y := by
  rcases List.mem_append.1 hy with hy | hy
  ·exact hn.sz y hy
  ·exact wj hw hl k y hy
 exact ⟨by have := this.1; omega, by have := this.2; omega⟩
noncomputable def GU (w : Wd) (l : List Ac) : List Bk := w.N.zipIdx.map fun p => qU (cB w.C p.1 (bO w l p.2).1 (bO w l p.2).2) w.C (aP p.1)
noncomputable def GV (w : Wd) (l : List Ac) : List Vt := w.N.zipIdx.map fun p => DK w.C p.1 (bO w l p.2).1 (bO w l p.2).2
noncomputable def kX (U : Vw) (w : Wd) (l : List Ac) : Vw := ⟨U.B ++ GU w l, U.V ++ GV w l⟩
theorem fz (U : Vw) (w : Wd) (l : List Ac) : lh U (kX U w l) := ⟨fun _ h => List.mem_append_left _ h, fun _ h => List.mem_append_left _ h⟩
theorem A4 {U : Vw} {w : Wd} (hw : w.N.length ≤ 6) (l : List Ac) : (kX U w l).B.length ≤ U.B.length + 6 ∧ (kX U w l).V.length ≤ U.V.length + 6 := by
 unfold kX GU GV;simp only [List.length_append, List.length_map, List.length_zipIdx];omega
theorem wP {w : Wd} {k : Nat} {n : Nd} (h : w.N[k]? = some n) : (n, k) ∈ w.N.zipIdx := by
 refine List.mem_of_getElem? (i := k) ?_;rw [List.getElem?_zipIdx, h];simp
theorem rn {w : Wd} {l : List Ac} (hi : ny w = false) {k : Nat} : ((jD w l).N[k]? = (w.N[k]?).map fun n => (cP w.C n (bO w l k).1 (bO w l k).2).1) := by
 unfold jD;rw [if_neg (by simp [hi])];simp only;rw [List.getElem?_map]
 cases h : w.N[k]? with
 | none =>
  have := List.getElem?_eq_none_iff.1 h;rw [List.getElem?_eq_none (by rw [fW]; exact this)];rfl
 | some n => rw [iO h]; rfl
theorem CK {w : Wd} {l : List Ac} (hi : ny w = false) {o : Of} (ho : o ∈ (jD w l).O) : ∃ k n, w.N[k]? = some n ∧ o ∈ (cP w.C n (bO w l k).1 (bO w l k).2).2 := by
 unfold jD at ho;rw [if_neg (by simp [hi])] at ho;obtain ⟨p, hp, h⟩ := List.mem_flatMap.1 ho;obtain ⟨k, hk, e⟩ := List.getElem_of_mem hp;rw [fW] at hk;obtain ⟨n, hn⟩ : ∃ n, w.N[k]? = some n := ⟨_, List.getElem?_eq_getElem hk⟩;refine ⟨k, n, hn, ?_⟩;have h1 := iO (l := l) hn;rw [List.getElem?_eq_getElem (by rw [fW]; exact hk), e] at h1;rw [← Option.some.inj h1];exact h
theorem EH (w : Wd) (l : List Ac) : (jD w l).N.length = w.N.length := by
 unfold jD;split
 ·rfl
 ·simp only [List.length_map, fW]
theorem Ds {U : Vw} {w : Wd} {l : List Ac} (hw : Ae U w) (hU : Fa U) (hl : lT l) (hs : lh (jv l) U) : ov w l = some (jD w l) ∧ Ae (kX U w l) (jD w l) := by
 have hfit := rP hw hU;have hG : ∀ k n, w.N[k]? = some n → lS w.C n (bO w l k).1 (bO w l k).2 := fun k n h => GG hw hU hl hs h;have hsame := fun k n (h : w.N[k]? = some n) => q6 (hG k n h) (hw.nodes n (List.mem_of_getElem? h)).may (hw.nodes n (List.mem_of_getElem? h)).nd (hw.nodes n (List.mem_of_getElem? h)).few;have hc := fun k => sX (fun n hn => (hw.nodes n hn).all) (fun o ho => (hw.offs o ho).1) (we hs w.Bad) k;refine ⟨yR hfit hl hG fun k n h => (hsame k n h).2.2.2.2.2.2.1, ?_⟩
 cases hi : ny w with
 | true => unfold jD; rw [if_pos hi]; exact BD (fz U w l) hw
 | false =>
  have hall := fun k n (h : w.N[k]? = some n) => Bi (P := (· ∈ (kX U w l).B)) (Q := (· ∈ (kX U w l).V)) (hG k n h)
   (qq (fz U w l).1 (fz U w l).2 (hw.nodes n (List.mem_of_getElem? h)).all)
   ⟨fun b hb => (fz U w l).1 b ((hc k).1.1 b hb), fun v hv => (fz U w l).2 v ((hc k).1.2 v hv)⟩
   (fun y hy => qr (fz U w l).1 (fz U w l).2 ((hc k).2 y hy))
   (fun _ _ _ => List.mem_append_right _ (List.mem_map.2 ⟨_, wP h, rfl⟩)) (fun _ _ _ => List.mem_append_right _ (List.mem_map.2 ⟨_, wP h, rfl⟩))
  have hC : (jD w l).C = w.C := by unfold jD; rw [if_neg (by simp [hi])]
  have hB : (jD w l).Bad = w.Bad := by unfold jD; rw [if_neg (by simp [hi])]
  have hO : (jD w l).O.length ≤ 6 := by
   have : ∀ k, k ≤ w.N.length → (((eu w l).take k).flatMap (·.2)).length ≤ k := by
    intro k
    induction k with
    | zero => intro _; simp
    | succ k ih =>
     intro hk;obtain ⟨n, hn⟩ : ∃ n, w.N[k]? = some n := ⟨_, List.getElem?_eq_getElem (by omega)⟩;rw [List.take_add_one, iO hn, List.flatMap_append, List.length_append];have := ih (by omega);have := (hsame k n hn).2.2.2.2.2.2.1;simp only [Option.toList_some, List.flatMap_cons, List.flatMap_nil, List.append_nil];omega
   have h2 := this w.N.length (Nat.le_refl _);rw [List.take_of_length_le (by rw [fW]; omega)] at h2;have h3 := hw.len;unfold jD;rw [if_neg (by simp [hi])];simp only;omega
  refine ⟨by rw [EH]; exact hw.len, by rw [hB]; exact hw.bad, fun x hx => ?_, hO, fun o ho => ?_⟩
  ·obtain ⟨k, hk, e⟩ := List.getElem_of_mem hx
   have h1 : (jD w l).N[k]? = some x := by rw [List.getElem?_eq_getElem hk, e]
   rw [rn hi] at h1
   cases hn : w.N[k]? with
   | none => rw [hn] at h1; cases h1
   | some n =>
    rw [hn] at h1;have e2 := Option.some.inj h1;subst e2;obtain ⟨s1, s2, s3, s4, s5, s6, s7, s8, s9⟩ := hsame k n hn;rw [hC];refine ⟨s3.1, s4, s5, (hall k n hn).1, fun o ho => ?_⟩;rcases List.mem_append.1 (s8 o ho) with h | h
    ·exact (hw.nodes n (List.mem_of_getElem? hn)).sz o h
    ·exact wj hw hl k o h
  ·obtain ⟨k, n, hn, h⟩ := CK hi ho;obtain ⟨s1, s2, s3, s4, s5, s6, s7, s8, s9⟩ := hsame k n hn;exact ⟨(hall k n hn).2 o h, (s9 o h).lenB, (s9 o h).lenV⟩
structure Fb (w : Wd) : Prop where
 may : dk w.C
 lo : 3 ≤ w.Tick
 hi : w.Tick ≤ 100000
 at_ : ∀ n ∈ w.N, n.Tick = w.Tick
theorem Bj {w : Wd} (h : Fb w) : ny w = false := by
 refine decide_eq_false ?_;have h1 := h.lo;have h2 := h.hi;rintro (h3 | h3 | h3)
 ·exact h3 h.may
 ·omega
 ·omega
theorem Bl {w : Wd} (h : Fb w) {n : Nd} (hn : n ∈ w.N) : eC w.C n = false := by
 have h1 := h.lo;have h2 := h.hi;have h3 := h.at_ n hn;exact Cv h.may (by omega) (by omega)
theorem CJ {U : Vw} {w : Wd} {l : List Ac} (hw : Ae U w) (hU : Fa U) (hl : lT l) (hs : lh (jv l) U) (ht : Fb w) : (jD w l).C = w.C ∧ (jD w l).Bad = w.Bad ∧ (jD w l).Tick = w.Tick + 1 ∧ (∀ n ∈ (jD w l).N, n.Tick = w.Tick + 1) ∧ (jD w l).N.map Nd.No = w.N.map Nd.No := by
 have hi := Bj ht;have h1 := ht.lo;have h2 := ht.hi;have hG : ∀ k n, w.N[k]? = some n → lS w.C n (bO w l k).1 (bO w l k).2 := fun k n h => GG hw hU hl hs h;have hsame := fun k n (h : w.N[k]? = some n) => q6 (hG k n h) (hw.nodes n (List.mem_of_getElem? h)).may (hw.nodes n (List.mem_of_getElem? h)).nd (hw.nodes n (List.mem_of_getElem? h)).few;refine ⟨by unfold jD; rw [if_neg (by simp [hi])], by unfold jD; rw [if_neg (by simp [hi])], by unfold jD; rw [if_neg (by simp [hi])]; exact d8 (by omega) (by omega), fun x hx => ?_, ?_⟩
 ·obtain ⟨k, hk, e⟩ := List.getElem_of_mem hx
  have h1 : (jD w l).N[k]? = some x := by rw [List.getElem?_eq_getElem hk, e]
  rw [rn hi] at h1
  cases hn : w.N[k]? with
  | none => rw [hn] at h1; cases h1
  | some n =>
   rw [hn] at h1;have e2 := Option.some.inj h1;subst e2;have hm := List.mem_of_getElem? hn;have := (hsame k n hn).2.1;rw [Bl ht hm, if_neg (by simp), ht.at_ n hm, d8 (by omega) (by omega)] at this;exact this
 ·apply List.ext_getElem?;intro k;rw [List.getElem?_map, List.getElem?_map, rn hi]
  cases hn : w.N[k]? with
  | none => rfl
  | some n =>
   simp only [Option.map_some];rw [(hsame k n hn).1]
noncomputable def gZ (w : Wd) (l : List Ac) : Nat → Wd
 | 0 => w
 | n + 1 => jD (gZ w l n) l
noncomputable def rI (U : Vw) (w : Wd) (l : List Ac) : Nat → Vw
 | 0 => U
 | n + 1 => kX (rI U w l n) (gZ w l n) l
structure Fs (U : Vw) (w : Wd) (l : List Ac) (k : Nat) : Prop where
 ok : Ae (rI U w l k) (gZ w l k)
 B : (rI U w l k).B.length ≤ U.B.length + 6 * k
 V : (rI U w l k).V.length ≤ U.V.length + 6 * k
 sub : lh U (rI U w l k)
 time : Fb (gZ w l k)
 tick : (gZ w l k).Tick = w.Tick + k
 conf : (gZ w l k).C = w.C
 bad : (gZ w l k).Bad = w.Bad
 nos : (gZ w l k).N.map Nd.No = w.N.map Nd.No
theorem Be {U : Vw} {w : Wd} {l : List Ac} (hw : Ae U w) (hl : lT l) (hs : lh (jv l) U) (ht : Fb w) (hB : U.B.length ≤ 300) (hV : U.V.length ≤ 300) (hT : w.Tick ≤ 1000) : ∀ k, k ≤ 15 → Fs U w l k
 | 0, _ => ⟨hw, by simp [rI], by simp [rI], pP U, ht, by simp [gZ], rfl, rfl, rfl⟩
 | k + 1, h => by
  obtain ⟨r1, r2, r3, r4, r5, r6, r7, r8, r9⟩ := Be hw hl hs ht hB hV hT k (by omega);have hU : Fa (rI U w l k) := ⟨by omega, by omega⟩;have hs' := nh hs r4;have hd := Ds r1 hU hl hs';obtain ⟨t1, t2, t3, t4, t5⟩ := CJ r1 hU hl hs' r5;have hn := A4 (U := rI U w l k) r1.len l;have h1 := r5.lo;refine ⟨hd.2, ?_, ?_, nh r4 (fz _ _ _), ⟨by show dk (jD _ _).C; rw [t1]; exact r5.may, by show 3 ≤ (jD _ _).Tick; omega, by show (jD _ _).Tick ≤ _; omega, fun n hn => by rw [t4 n hn]; exact t3.symm⟩, ?_, t1.trans r7, t2.trans r8, t5.trans r9⟩
  ·show (kX _ _ _).B.length ≤ _; omega
  ·show (kX _ _ _).V.length ≤ _; omega
  ·show (jD _ _).Tick = _; rw [t3, r6]; omega
theorem EI {U : Vw} {w : Wd} {l : List Ac} (hl : lT l) (hs : lh (jv l) U) (hB : U.B.length ≤ 300) (hV : U.V.length ≤ 300) {k : Nat} (hk : k ≤ 15) (h : Fs U w l k) : ov (gZ w l k) l = some (gZ w l (k + 1)) := by
 have h2 := h.B;have h3 := h.V;exact (Ds h.ok ⟨by omega, by omega⟩ hl (nh hs h.sub)).1
theorem yX {U : Vw} {w : Wd} {l : List Ac} (hl : lT l) (hs : lh (jv l) U) (hB : U.B.length ≤ 300) (hV : U.V.length ≤ 300) {t : Int} (ht : t ≤ 15) (h : ∀ k : Nat, (k : Int) ≤ t ∨ k = 0 → Fs U w l k) : kP w l t = some (gZ w l t.toNat) := by
 have h0 := h 0 (.inr rfl);have hU : Fa U := ⟨by omega, by omega⟩
 have e := az (step := iu l t) (n := t.toNat) (fun k => dU.mk (k : Int) (gZ w l k)) (dU.mk (t.toNat : Int) (gZ w l t.toNat)) (fun k hk => by
  unfold iu;simp only
  rw [if_neg (by omega), decide_eq_true (show (k : Int) < t by omega), ct, EI hl hs hB hV (by omega) (h k (.inl (by omega))), ob, ak (n := k) (by omega)]) (by
  unfold iu;simp only
  rw [if_neg (by omega), decide_eq_false (show ¬ (t.toNat : Int) < t by omega), cf]) (by omega)
 have e' : iter (iu l t) bH (dU.mk 0 w) = _ := e;unfold kP;rw [sx (rP (U := U) (w := w) h0.ok hU), ob, e', ob]
theorem yT : sw = some true := by kernel_rfl
theorem ox (l : List Ac) {k : Int} (hk : k ≤ 100) : ow l k = some false ∨ (ow l k = some true ∧ (l.length : Int) ≤ k ∧ ∀ a ∈ l, a.B.length ≤ 8 ∧ a.V.length ≤ 8) := by
 unfold ow;by_cases h : (l.length : Int) > k
 ·rw [decide_eq_true h, ct]; exact .inl rfl
 ·rw [decide_eq_false h, cf]
  have e := xS (step := gb l) (n := l.length) (fun j => dy.mk (j : Int)) false (fun j => ∀ a, l[j]? = some a → a.B.length ≤ 8 ∧ a.V.length ≤ 8) (fun j hj => by
   obtain ⟨y, hy, -⟩ := aA hj;unfold gb;simp only;rw [decide_eq_true (show (j : Int) < (l.length : Int) by omega), ct, aC hy, ob, ob];by_cases h1 : (y.B.length : Int) > 8
   ·rw [decide_eq_true h1, ct]; exact .inl rfl
   ·rw [decide_eq_false h1, cf];by_cases h2 : (y.V.length : Int) > 8
    ·rw [decide_eq_true h2, ct]; exact .inl rfl
    ·rw [decide_eq_false h2, cf, ak (n := j) (by omega)];refine .inr ⟨rfl, fun a ha => ?_⟩;rw [hy] at ha;obtain rfl := Option.some.inj ha
     omega) (by
   unfold gb;simp only
   rw [decide_eq_false (show ¬ (l.length : Int) < (l.length : Int) by omega), cf]) (by omega)
  have e2 : iter (gb l) bH (dy.mk 0) = some (.inr false) ∨ (iter (gb l) bH (dy.mk 0) = some (.inl (dy.mk (l.length : Int))) ∧ _) := e;rcases e2 with e2 | ⟨e2, h3⟩
  ·rw [e2, ob]; exact .inl rfl
  ·rw [e2, ob];refine .inr ⟨rfl, by omega, fun a ha => ?_⟩;obtain ⟨j, hj⟩ := List.getElem?_of_mem ha;exact h3 j (List.getElem?_eq_some_iff.1 hj).1 a hj
structure Ff (c : Cf) (bad : List Int) (l : List Ac) : Prop where
 acts : lT l
 len : l.length ≤ 25
 may : dk c
 w : c.W.length ≤ 6
 bad : bad.length ≤ 6
theorem yW (c : Cf) (bad : List Int) (l : List Ac) : qm c bad l = some false ∨ (qm c bad l = some true ∧ Ff c bad l) := by
 unfold qm;rcases ox l (k := 25) (by omega) with e | ⟨e, h1, h2⟩
 ·rw [e, ob, cf]; exact .inl rfl
 ·rw [e, ob, ct, k8, ob];by_cases hm : dk c
  ·rw [decide_eq_true hm, ct];by_cases hw : (c.W.length : Int) ≤ 6
   ·rw [decide_eq_true hw, ct];by_cases hb : (bad.length : Int) ≤ 6
    ·rw [decide_eq_true hb]; exact .inr ⟨rfl, ⟨by omega, h2⟩, by omega, hm, by omega, by omega⟩
    ·rw [decide_eq_false hb]; exact .inl rfl
   ·rw [decide_eq_false hw, cf]; exact .inl rfl
  ·rw [decide_eq_false hm, cf]; exact .inl rfl
def nx (bad : List Int) (n : Nat) : List Int := ((List.range n).map Int.ofNat).filter fun i => decide (i ∉ bad)
theorem u5 (bad : List Int) (n : Nat) : nx bad (n + 1) = nx bad n ++ if (n : Int) ∈ bad then [] else [(n : Int)] := by
 unfold nx;rw [List.range_succ, List.map_append, List.filter_append];by_cases h : (n : Int) ∈ bad <;> simp [h]
theorem qF (bad : List Int) (n : Nat) : (nx bad n).length ≤ n := Nat.le_trans (List.length_filter_le _ _) (by simp)
def A3 (i : Int) : Nd := ⟨i, 3, ⟨[], []⟩, ⟨[], []⟩, [], ⟨(0, 0), 0, 0⟩, false⟩
def tR (c : Cf) (bad : List Int) : Wd := ⟨c, bad, 3, (nx bad c.W.length).map A3, []⟩
theorem yQ {c : Cf} {bad : List Int} (hm : dk c) (hb : bad.length ≤ 100) : ou c bad = some (tR c bad) := by
 have hw := hm.2.1
 have e := az (step := iq c bad) (n := c.W.length) (fun k => dw.mk (k : Int) ((nx bad k).map A3)) (dw.mk (c.W.length : Int) ((nx bad c.W.length).map A3)) (fun k hk => by
  have hg := qF bad k;unfold iq;simp only;rw [decide_eq_true (show (k : Int) < (c.W.length : Int) by omega), ct, lP (by omega), ob, u5, ak (n := k) (by omega)];by_cases h : (k : Int) ∈ bad
  ·rw [decide_eq_true h, Bool.not_true, cf, if_pos h, List.append_nil]
  ·rw [decide_eq_false h, Bool.not_false, ct, if_neg h];unfold vZ;rw [ob, aI (by rw [List.length_map]; simp only [List.length_singleton]; omega) (by omega), ct, List.map_append]
   rfl) (by
  unfold iq;simp only
  rw [decide_eq_false (show ¬ (c.W.length : Int) < (c.W.length : Int) by omega), cf]) (by omega)
 have e' : iter (iq c bad) bH (dw.mk 0 []) = _ := e;unfold ou;rw [aI (by omega) (by omega), ct, k8, ob, decide_eq_true hm, Bool.not_true, cf, e', ob];rfl
theorem AU {c : Cf} (hm : dk c) : ge c ⟨[], []⟩ := ⟨hm, x5, by simp, by simp, fun b hb => (by cases hb), fun v hv => (by cases hv), List.nodup_nil, fun v hv => (by cases hv)⟩
theorem mJ {l : List Ac} {k : Nat} (hk : l.length ≤ k) (h : ∀ a ∈ l, a.B.length ≤ 8 ∧ a.V.length ≤ 8) : (jv l).B.length ≤ 8 * k ∧ (jv l).V.length ≤ 8 * k := by
 have : ∀ m : List Ac, (∀ a ∈ m, a.B.length ≤ 8 ∧ a.V.length ≤ 8) → (m.flatMap Ac.B).length ≤ 8 * m.length ∧ (m.flatMap Ac.V).length ≤ 8 * m.length := by
  intro m
  induction m with
  | nil => intro _; simp
  | cons a r ih =>
   intro h;have h1 := ih fun b hb => h b (List.mem_cons_of_mem _ hb);have h2 := h a (List.mem_cons_self ..);rw [List.flatMap_cons, List.flatMap_cons, List.length_append, List.length_append, List.length_cons];omega
 have := this l h;unfold jv;simp only;omega
theorem EU {c : Cf} {bad : List Int} (hm : dk c) (hw : c.W.length ≤ 6) (hb : bad.length ≤ 10) (U : Vw) : Ae U (tR c bad) ∧ Fb (tR c bad) := by
 have hg := qF bad c.W.length
 have hN : ∀ n ∈ (tR c bad).N, ∃ i, n = A3 i := fun n hn => by
  obtain ⟨i, -, h⟩ := List.mem_map.1 hn;exact ⟨i, h.symm⟩
 refine ⟨⟨by show ((nx bad c.W.length).map A3).length ≤ 6; rw [List.length_map]; omega, hb, fun n hn => ?_, Nat.zero_le _, fun o ho => by cases ho⟩, ⟨hm, Int.le_refl _, by show (3 : Int) ≤ 100000; omega, fun n hn => ?_⟩⟩
 ·obtain ⟨i, rfl⟩ := hN n hn;exact ⟨AU hm, ⟨List.nodup_nil, List.nodup_nil⟩, Nat.zero_le _, ⟨oJ, oJ, fun o ho => (by cases ho)⟩, fun o ho => (by cases ho)⟩
 ·obtain ⟨i, rfl⟩ := hN n hn;rfl
theorem sQ {c : Cf} {bad : List Int} {l : List Ac} (hm : dk c) (hw : c.W.length ≤ 6) (hb : bad.length ≤ 10) (hl : lT l) : ∀ k, k ≤ 15 → Fs (jv l) (tR c bad) l k := by
 have h := EU hm hw hb (jv l);have h1 := mJ hl.len hl.each;exact Be h.1 hl (pP _) h.2 (by omega) (by omega) (by show (3 : Int) ≤ 1000; omega)
theorem qz {c : Cf} {bad : List Int} {l : List Ac} (hm : dk c) (hw : c.W.length ≤ 6) (hb : bad.length ≤ 10) (hl : lT l) {t : Int} (ht : t ≤ 15) : kP (tR c bad) l t = some (gZ (tR c bad) l t.toNat) := by
 have h1 := mJ hl.len hl.each;exact yX hl (pP _) (by omega) (by omega) ht fun k hk => sQ hm hw hb hl k (by omega)
theorem ot {l : List Of} (hl : l.length ≤ 100000) (hs : ∀ o ∈ l, lf o) : qi l l = some true := by
 have e := az (step := ip l l) (n := l.length) (fun k => dS.mk (k : Int)) (.inl (dS.mk (l.length : Int))) (fun k hk => by
  obtain ⟨y, hy, hm⟩ := aA hk;have := hs y hm;unfold ip;simp only;rw [decide_eq_true (show (k : Int) < (l.length : Int) by omega), ct, aC hy];simp only [Option.bind_some];rw [uD (by have := this.1; omega) (by have := this.2; omega), ob, decide_eq_true ⟨rfl, rfl⟩, Bool.not_true, cf];simp only [bne_self_eq_false, cond_false]
  rw [EK, decide_eq_true rfl, Bool.not_true, cf, ak (n := k) (by omega)]) (by
  unfold ip;simp only
  rw [decide_eq_false (show ¬ (l.length : Int) < (l.length : Int) by omega), cf]) (by omega)
 have e' : iter (ip l l) bH (dS.mk 0) = _ := e;unfold qi;rw [show ((l.length : Int) != (l.length : Int)) = false by simp, cf, e', ob];rfl
theorem uA {n : Nd} (h : jP 500 n) : so n n = some true := by
 obtain ⟨⟨a1, a2⟩, ⟨b1, b2⟩, c1, c2⟩ := h;unfold so;rw [uD (by omega) (by omega), ob, uD (by omega) (by omega), ob, ot (by omega) (mw (by omega) c2), ob, decide_eq_true ⟨rfl, rfl⟩, ct, decide_eq_true ⟨rfl, rfl⟩, ct, ct];simp
theorem uB {w : Wd} (h : sM w) : qo w w = some true := by
 have hN := h.n;have hb := h.bad;have ho := h.o
 have e := az (step := iv w w) (n := w.Bad.length) (fun k => dV.mk (k : Int)) (.inl (dV.mk (w.Bad.length : Int))) (fun k hk => by
  obtain ⟨y, hy, hm⟩ := aA hk;unfold iv;simp only
  rw [decide_eq_true (show (k : Int) < (w.Bad.length : Int) by omega), ct, aC hy, ob, ob, show (y != y) = false by simp, cf, ak (n := k) (by omega)]) (by
  unfold iv;simp only
  rw [decide_eq_false (show ¬ (w.Bad.length : Int) < (w.Bad.length : Int) by omega), cf]) (by omega)
 have e' : iter (iv w w) bH (dV.mk 0) = _ := e
 have f := az (step := ga w w) (n := w.N.length) (fun k => dx.mk (k : Int)) (.inl (dx.mk (w.N.length : Int))) (fun k hk => by
  obtain ⟨y, hy, hm⟩ := aA hk;unfold ga;simp only
  rw [decide_eq_true (show (k : Int) < (w.N.length : Int) by omega), ct, aC hy, ob, ob, uA (h.nodes y hm), ob, Bool.not_true, cf, ak (n := k) (by omega)]) (by
  unfold ga;simp only
  rw [decide_eq_false (show ¬ (w.N.length : Int) < (w.N.length : Int) by omega), cf]) (by omega)
 have f' : iter (ga w w) bH (dx.mk 0) = _ := f;unfold qo vY;rw [ot (by omega) (mw (by omega) h.offs), ob, ob, Bool.not_true, cf];simp only [bne_self_eq_false, cond_false];rw [ob, cf, e', ob];show ((iter (ga w w) bH (dx.mk 0)).bind _) = _;rw [f', ob];rfl
theorem CV {U : Vw} {w : Wd} {l : List Ac} {k : Nat} (hB : U.B.length ≤ 300) (hV : U.V.length ≤ 300) (hk : k ≤ 15) (h : Fs U w l k) : sM (gZ w l k) := rP h.ok ⟨by have := h.B; omega, by have := h.V; omega⟩
theorem A8 (k : Nat) : A7 0 (k : Int) = true := by
 unfold A7;rw [Int.zero_fdiv];rfl
theorem xn {w : Wd} {a : Ac} (h : a.Tick ≠ w.Tick ∨ a.To ≤ 0) (l : List Ac) (k : Nat) : bO w (l ++ [a]) k = bO w l k := by
 unfold bO ej;rw [List.filter_append, List.foldl_append];by_cases h1 : a.Tick = w.Tick ∧ a.To ≥ 0
 ·have h0 : a.To = 0 := by
   rcases h with h | h
   ·exact absurd h1.1 h
   ·omega
  rw [List.filter_cons, if_pos (by simpa using h1), List.filter_nil, List.foldl_cons, List.foldl_nil];unfold cF;rw [if_pos (by rw [h0]; exact A8 k)]
 ·rw [List.filter_cons, if_neg (by simpa using h1), List.filter_nil, List.foldl_nil]
theorem CI {w : Wd} {a : Ac} (h : a.Tick ≠ w.Tick ∨ a.To ≤ 0) (l : List Ac) : jD w (l ++ [a]) = jD w l := by
 have e : eu w (l ++ [a]) = eu w l := by
  unfold eu;congr 1;funext p;rw [xn h]
 unfold jD;rw [e]
theorem ub {w : Wd} {a : Ac} {l : List Ac} {n : Nat} (h : ∀ k, k < n → a.Tick ≠ (gZ w l k).Tick ∨ a.To ≤ 0) : ∀ k, k ≤ n → gZ w (l ++ [a]) k = gZ w l k
 | 0, _ => rfl
 | k + 1, hk => by
  show jD (gZ w (l ++ [a]) k) (l ++ [a]) = jD (gZ w l k) l;rw [ub h k (by omega)];exact CI (h k (by omega)) l
theorem xN (ha : sw = some true) (c : Cf) (bad : List Int) (l : List Ac) (a : Ac) (t : Int) (ht : -9223372036854775808 ≤ t) : wa c bad l a t = some true := by
 unfold wa;rw [ha, ob];rcases yW c bad l with e | ⟨e, hb⟩
 ·rcases ox [a] (k := 1) (by omega) with e2 | ⟨e2, -⟩ <;> rw [e, ob, e2, ob, Bool.not_true, cf, Bool.not_false, ct, ob] <;> rfl
 rw [e, ob];rcases ox [a] (k := 1) (by omega) with e2 | ⟨e2, -, h0⟩
 ·rw [e2, ob, Bool.not_true, cf, cf, Bool.not_false, ct, ob]; rfl
 rw [e2, ob, Bool.not_true, cf, cf, cf];by_cases h1 : t > 10
 ·rw [decide_eq_true h1, ct, ob]; rfl
 rw [decide_eq_false h1, cf];have hbb := hb.bad;have hlen := hb.len;have ha0 := h0 a (List.mem_singleton.2 rfl);have hR := sQ (bad := bad) hb.may hb.w (by omega) hb.acts;have hal := mJ hb.len hb.acts.each
 have hla : lT (l ++ [a]) := ⟨by rw [List.length_append, List.length_singleton]; omega, fun x hx => by
  rcases List.mem_append.1 hx with hx | hx
  ·exact hb.acts.each x hx
  ·rw [List.mem_singleton.1 hx]; exact ha0⟩
 have main : (a.To > 0 ∧ a.Tick ≥ 3 ∧ a.Tick < 3 + t → False) → ((ou c bad).bind fun v5 =>
  bif b9 0 l.length 72 then
   bif b9 l.length [a].length 72 then
    (kP v5 l t).bind fun v6 =>
    (kP v5 (l ++ [a]) t).bind fun v7 =>
    (qo v6 v7).bind fun v8 =>
    some v8
   else none
  else none) = some true := by
  intro hno;have hT' : (tR c bad).Tick = 3 := rfl;rw [yQ hb.may (by omega), ob, aI (by omega) (by omega), ct, aI (by simp only [List.length_singleton]; omega) (by omega), ct, qz hb.may hb.w (by omega) hb.acts (by omega), ob, qz hb.may hb.w (by omega) hla (by omega), ob];rw [ub (n := t.toNat) (fun k hk => ?_) t.toNat (Nat.le_refl _), uB (CV (by omega) (by omega) (by omega) (hR t.toNat (by omega))), ob];have hk2 := (hR k (by omega)).tick;by_cases h2 : a.To > 0
  ·left;intro h3;exact hno ⟨h2, by omega, by omega⟩
  ·exact .inr (by omega)
 rw [d8 (n := 3 + t) (by omega) (by omega)];by_cases h2 : a.To > 0
 ·rw [decide_eq_true h2, ct];by_cases h3 : a.Tick ≥ 3
  ·rw [decide_eq_true h3, ct];by_cases h4 : a.Tick < 3 + t
   ·rw [decide_eq_true h4, ct, ob]; rfl
   ·rw [decide_eq_false h4, cf, ob];exact main fun h => h4 h.2.2
  ·rw [decide_eq_false h3, cf, ob];exact main fun h => h3 h.2.1
 ·rw [decide_eq_false h2, cf, ob];exact main fun h => h2 h.1
def HT (a : Ac) : Prop := aQ .i64 a.Tick ∧ aQ .i64 a.To ∧ (∀ b ∈ a.B, Fg b) ∧ ∀ v ∈ a.V, Fu v
theorem Dx {p : PV} (h : nT (.agg [.int .i64, .int .i64, .bool, .slice 5 (.agg [.int .i64, .int .i64, .int .u64, .int .u64, .int .u64]), .slice 4 (.agg [.int .i64, .int .i64, .int .u64, .int .u64])]) p) : ∃ a : Ac, p = lL a ∧ HT a := by
 cases h with | agg h =>
 cases h with | cons a1 h => cases h with | cons a2 h => cases h with | cons a3 h => cases h with | cons a4 h => cases h with | cons a5 h =>
  cases h;obtain ⟨x, rfl, hx⟩ := l7 (fun _ h => GL h) a4;obtain ⟨y, rfl, hy⟩ := l7 (fun _ h => GO h) a5;cases a1; cases a2; cases a3;exact ⟨⟨_, _, _, x, y⟩, rfl, by assumption, by assumption, hx, hy⟩
end Go.Mg
namespace Go.Proofs.YtbjmcafamkdokaaGreat
def io : List Nat := [104, 97, 114, 110, 101, 115, 115, 32, 51, 101, 97, 51, 57, 55, 99, 53, 56, 97, 55, 50, 48, 55, 49, 52, 99, 98, 101, 48, 97, 97, 50, 55, 55, 53, 56, 98, 49, 49, 48, 102, 57, 99, 99, 98, 48, 49, 99, 51, 48, 97, 49, 50, 97, 99, 97, 54, 50, 53, 52, 56, 51, 100, 97, 54, 56, 97, 98, 97, 51, 98, 50, 52, 32, 99, 117, 116, 32, 97, 116, 32, 109, 97, 114, 105, 103, 111, 108, 100, 47, 109, 97, 114, 105, 103, 111, 108, 100, 116, 111, 112, 46, 84, 111, 112, 65, 103, 114, 101, 101, 32, 109, 97, 114, 105, 103, 111, 108, 100, 47, 109, 97, 114, 105, 103, 111, 108, 100, 116, 111, 112, 46, 84, 111, 112, 83, 117, 114, 101, 32, 109, 97, 114, 105, 103, 111, 108, 100, 47, 109, 97, 114, 105, 103, 111, 108, 100, 116, 111, 112, 46, 84, 111, 112, 78, 101, 118, 101, 114, 32, 109, 97, 114, 105, 103, 111, 108, 100, 47, 109, 97, 114, 105, 103, 111, 108, 100, 108, 97, 119, 50, 48, 46, 80, 108, 97, 121, 72, 111, 110, 101, 115, 116, 32, 109, 97, 114, 105, 103, 111, 108, 100, 47, 109, 97, 114, 105, 103, 111, 108, 100, 108, 97, 119, 50, 48, 46, 80, 108, 97, 121, 80, 97, 114, 116, 115, 32, 109, 97, 114, 105, 103, 111, 108, 100, 47, 109, 97, 114, 105, 103, 111, 108, 100, 108, 97, 119, 50, 48, 46, 80, 108, 97, 121, 81, 117, 105, 101, 116, 32, 109, 97, 114, 105, 103, 111, 108, 100, 47, 109, 97, 114, 105, 103, 111, 108, 100, 108, 97, 119, 50, 48, 46, 80, 108, 97, 121, 79, 116, 104, 101, 114, 32, 109, 97, 114, 105, 103, 111, 108, 100, 47, 109, 97, 114, 105, 103, 111, 108, 100, 108, 97, 119, 50, 48, 46, 80, 108, 97, 121, 78, 111, 100, 101, 115, 32, 109, 97, 114, 105, 103, 111, 108, 100, 47, 109, 97, 114, 105, 103, 111, 108, 100, 108, 97, 119, 50, 48, 46, 80, 108, 97, 121, 83, 112, 114, 101, 97, 100, 115, 32, 109, 97, 114, 105, 103, 111, 108, 100, 47, 109, 97, 114, 105, 103, 111, 108, 100, 108, 97, 119, 50, 49, 46, 65, 117, 100, 105, 116, 83, 101, 101, 110, 32, 109, 97, 114, 105, 103, 111, 108, 100, 47, 109, 97, 114, 105, 103, 111, 108, 100, 108, 97, 119, 50, 49, 46, 65, 117, 100, 105, 116, 72, 111, 108, 100, 115]
theorem II : Tryz.prog.initOrder = String.ofList (io.map Char.ofNat) := by kernel_rfl
theorem EP : Tryz.prog.initOrder.toList = io.map Char.ofNat := by rw [II, String.toList_ofList]
def ws : List (List Nat) := [[99, 117, 116], [97, 116], [109, 97, 114, 105, 103, 111, 108, 100, 47, 109, 97, 114, 105, 103, 111, 108, 100, 116, 111, 112, 46, 84, 111, 112, 65, 103, 114, 101, 101], [109, 97, 114, 105, 103, 111, 108, 100, 47, 109, 97, 114, 105, 103, 111, 108, 100, 116, 111, 112, 46, 84, 111, 112, 83, 117, 114, 101], [109, 97, 114, 105, 103, 111, 108, 100, 47, 109, 97, 114, 105, 103, 111, 108, 100, 116, 111, 112, 46, 84, 111, 112, 78, 101, 118, 101, 114], [109, 97, 114, 105, 103, 111, 108, 100, 47, 109, 97, 114, 105, 103, 111, 108, 100, 108, 97, 119, 50, 48, 46, 80, 108, 97, 121, 72, 111, 110, 101, 115, 116], [109, 97, 114, 105, 103, 111, 108, 100, 47, 109, 97, 114, 105, 103, 111, 108, 100, 108, 97, 119, 50, 48, 46, 80, 108, 97, 121, 80, 97, 114, 116, 115], [109, 97, 114, 105, 103, 111, 108, 100, 47, 109, 97, 114, 105, 103, 111, 108, 100, 108, 97, 119, 50, 48, 46, 80, 108, 97, 121, 81, 117, 105, 101, 116], [109, 97, 114, 105, 103, 111, 108, 100, 47, 109, 97, 114, 105, 103, 111, 108, 100, 108, 97, 119, 50, 48, 46, 80, 108, 97, 121, 79, 116, 104, 101, 114], [109, 97, 114, 105, 103, 111, 108, 100, 47, 109, 97, 114, 105, 103, 111, 108, 100, 108, 97, 119, 50, 48, 46, 80, 108, 97, 121, 78, 111, 100, 101, 115], [109, 97, 114, 105, 103, 111, 108, 100, 47, 109, 97, 114, 105, 103, 111, 108, 100, 108, 97, 119, 50, 48, 46, 80, 108, 97, 121, 83, 112, 114, 101, 97, 100, 115], [109, 97, 114, 105, 103, 111, 108, 100, 47, 109, 97, 114, 105, 103, 111, 108, 100, 108, 97, 119, 50, 49, 46, 65, 117, 100, 105, 116, 83, 101, 101, 110], [109, 97, 114, 105, 103, 111, 108, 100, 47, 109, 97, 114, 105, 103, 111, 108, 100, 108, 97, 119, 50, 49, 46, 65, 117, 100, 105, 116, 72, 111, 108, 100, 115]]
theorem BF : behindMainWord (wordsSigns Tryz.prog.initOrder.toList) = ws.map (List.map Char.ofNat) := by
 rw [EP]
 kernel_rfl
theorem G5 : stripLifts liftWords (ws.map (List.map Char.ofNat)) = ([], ws.map (List.map Char.ofNat)) := by kernel_rfl
theorem G2 : Tryz.prog.doorRows = [] := by kernel_rfl
theorem IJ : Tryz.prog.laysLater = false := by kernel_rfl
theorem GY : Tryz.prog.bearsReflect = false := by kernel_rfl
theorem Dv : (ws.map (List.map Char.ofNat)).head? = some "cut".toList := by kernel_rfl
theorem EJ (P : Program) (W : List (List Char)) (hW : behindMainWord (wordsSigns P.initOrder.toList) = W) (hs : stripLifts liftWords W = ([], W)) (hh : W.head? = some "cut".toList) (hr : P.doorRows = []) (hl : P.laysLater = false) (hb : P.bearsReflect = false) : P.mayEnter = true := by
 unfold Program.mayEnter;rw [hW]
 cases W with
 | nil => cases hh
 | cons c r =>
  simp only [hs, hh, hl, hb, Program.doorFits, hr];simp
theorem mayEnter : Tryz.prog.mayEnter = true := EJ Tryz.prog _ BF G5 Dv G2 IJ GY
theorem own : ownKnob Tryz.prog.godebug = none := by kernel_rfl
theorem wH : laidOutB Tryz.prog = true := by kernel_rfl
theorem GZ : mapsRowed Tryz.prog = true := by kernel_rfl
theorem GI : Tryz.prog.stopsHeard = true := by kernel_rfl
theorem CS (P : Program) (W : List (List Char)) (hW : behindMainWord (wordsSigns P.initOrder.toList) = W) (hh : W.head? = some "cut".toList) : P.make = some .cut := by
 unfold Program.make;rw [hW]
 cases W with
 | nil => cases hh
 | cons c r =>
  have e : c = "cut".toList := by simpa using hh
  subst e;show (if _ then _ else _) = _;rw [if_neg (by decide), if_pos (by simp)]
theorem GT : Tryz.prog.make = some .cut := CS Tryz.prog _ BF Dv
theorem GR : Tryz.prog.liftsFinal = false := by
 unfold Program.liftsFinal Program.headLifts;rw [BF]
 kernel_rfl
end Go.Proofs.YtbjmcafamkdokaaGreat
