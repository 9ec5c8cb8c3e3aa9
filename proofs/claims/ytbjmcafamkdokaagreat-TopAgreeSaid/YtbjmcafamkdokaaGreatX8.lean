/- The votes of a slot that count, by what votes there are, whatever their order. Offers, one behind another. What is confirmed. A node at a tick: what it hears, counts, and stands by. A node behind a tick. A world once more. What comes at a tick: closures. Nets. Conditions: none. -/
import Derived.Test.YtbjmcafamkdokaaGreatX7
import Derived.Test.YtbjmcafamkdokaaGreatX3
import Derived.Test.YtbjmcafamkdokaaGreatX6
import Derived.Test.YtbjmcafamkdokaaGreatX4
set_option maxRecDepth 100000
set_option linter.unusedSimpArgs false
set_option linter.unusedVariables false
namespace Go.Mg
theorem nU {α β : Type} [DecidableEq α] : ∀ {m : List (α × β)}, (m.map Prod.fst).Nodup → ∀ {k : α} {v : β}, (k, v) ∈ m ↔ ah m k = some v
 | [], _, k, v => by simp [ah]
 | (a, b) :: r, h, k, v => by
  rw [List.map_cons, List.nodup_cons] at h;have ih := nU h.2 (k := k) (v := v);by_cases e : a = k
  ·subst e;simp only [ah, if_true, List.mem_cons, Prod.mk.injEq, true_and];constructor
   ·rintro (h1 | h1)
    ·rw [h1]
    ·exact absurd (List.mem_map.2 ⟨_, h1, rfl⟩) h.1
   ·intro h1;exact .inl (Option.some.inj h1).symm
  ·have e' : ¬ k = a := fun h => e h.symm;simp only [ah, if_neg e, List.mem_cons, Prod.mk.injEq, e', false_and, false_or];exact ih
structure pi (l : List Vt) : Prop where
 was : ∀ d id, ah (bA l).1 d = some id → ∃ v ∈ l, nE v = d ∧ v.Head = id
 has : ∀ v ∈ l, ∃ id, ah (bA l).1 (nE v) = some id
 bad : ∀ d, (ah (bA l).2 d).getD false = true ↔ ∃ v ∈ l, ∃ w ∈ l, nE v = d ∧ nE w = d ∧ v.Head ≠ w.Head
theorem zS {l : List Vt} (h : pi l) (y : Vt) : pi (l ++ [y]) := by
 have e1 : (bA (l ++ [y])).1 = aN (bA l).1 (nE y) y.Head := by rw [jw]; rfl
 have e2 : (bA (l ++ [y])).2 = if td (bA l).1 y = true then aN (bA l).2 (nE y) true else (bA l).2 := by rw [jw]; rfl
 have hy : y ∈ l ++ [y] := List.mem_append_right _ (List.mem_singleton.2 rfl)
 have hdbl : td (bA l).1 y = true ↔ ∃ v ∈ l, nE v = nE y ∧ ah (bA l).1 (nE y) = some v.Head ∧ v.Head ≠ y.Head := by
  unfold td
  cases hf : ah (bA l).1 (nE y) with
  | none =>
   simp only [Bool.false_eq_true, false_iff];rintro ⟨v, -, -, h2, -⟩;cases h2
  | some id =>
   obtain ⟨v, h1, h2, h3⟩ := h.was _ _ hf;constructor
   ·intro h4;exact ⟨v, h1, h2, by rw [h3], by rw [h3]; exact of_decide_eq_true h4⟩
   ·rintro ⟨w, -, -, h5, h6⟩;rw [Option.some.inj h5];exact decide_eq_true h6
 refine ⟨fun d id hd => ?_, fun v hv => ?_, fun d => ?_⟩
 ·rw [e1, cq] at hd;split at hd
  ·rename_i e;exact ⟨y, hy, e, Option.some.inj hd⟩
  ·obtain ⟨v, h1, h2⟩ := h.was d id hd;exact ⟨v, List.mem_append_left _ h1, h2⟩
 ·rw [e1, cq];split
  ·exact ⟨_, rfl⟩
  ·rename_i hne;rcases List.mem_append.1 hv with hv | hv
   ·exact h.has v hv
   ·rw [List.mem_singleton.1 hv] at hne;exact absurd Z hne
 ·rw [e2];constructor
  ·intro hb;by_cases hd : td (bA l).1 y = true
   ·rw [if_pos hd, cq] at hb;by_cases e : nE y = d
    ·obtain ⟨v, h1, h2, -, h4⟩ := hdbl.1 hd;exact ⟨v, List.mem_append_left _ h1, y, hy, h2.trans e, e, h4⟩
    ·rw [if_neg e] at hb;obtain ⟨v, h1, w, h2, h3⟩ := (h.bad d).1 hb;exact ⟨v, List.mem_append_left _ h1, w, List.mem_append_left _ h2, h3⟩
   ·rw [if_neg hd] at hb;obtain ⟨v, h1, w, h2, h3⟩ := (h.bad d).1 hb;exact ⟨v, List.mem_append_left _ h1, w, List.mem_append_left _ h2, h3⟩
  ·have old : (ah (bA l).2 d).getD false = true → (ah (if td (bA l).1 y = true then aN (bA l).2 (nE y) true else (bA l).2) d).getD false = true := by
    intro ho;split
    ·rw [cq];split
     ·rfl
     ·exact ho
    ·exact ho
   have mix : ∀ v ∈ l, nE v = d → nE y = d → v.Head ≠ y.Head → (ah (if td (bA l).1 y = true then aN (bA l).2 (nE y) true else (bA l).2) d).getD false = true := by
    intro v hv h1 h2 h3;by_cases hd : td (bA l).1 y = true
    ·rw [if_pos hd, cq, if_pos h2]; rfl
    ·refine old<|(h.bad d).2 ?_;obtain ⟨id, hid⟩ := h.has v hv;rw [h1, ← h2] at hid;obtain ⟨u, hu, hu2, hu3⟩ := h.was _ _ hid;have : ¬ u.Head ≠ y.Head := fun hne => hd (hdbl.2 ⟨u, hu, hu2, by rw [hid, hu3], hne⟩);exact ⟨v, hv, u, hu, h1, hu2.trans h2, fun e => this fun e2 => h3 (e.trans e2)⟩
   rintro ⟨v, hv, w, hw, h1, h2, h3⟩;rcases List.mem_append.1 hv with hv | hv
   ·rcases List.mem_append.1 hw with hw | hw
    ·exact old<|(h.bad d).2 ⟨v, hv, w, hw, h1, h2, h3⟩
    ·rw [List.mem_singleton.1 hw] at h2 h3;exact mix v hv h1 h2 h3
   ·rw [List.mem_singleton.1 hv] at h1 h3;rcases List.mem_append.1 hw with hw | hw
    ·exact mix w hw h2 h1 fun e => h3 e.symm
    ·rw [List.mem_singleton.1 hw] at h3;exact absurd Z h3
theorem Ca (l : List Vt) : pi l := by
 have key : ∀ k, k ≤ l.length → pi (l.take k) := by
  intro k
  induction k with
  | zero => exact fun _ => ⟨fun d id h => (by cases h), fun v hv => (by cases hv), fun d => ⟨fun h => (by cases h), fun ⟨v, hv, _⟩ => (by cases hv)⟩⟩
  | succ k ih =>
   intro hk;obtain ⟨y, hy, -⟩ := aD (l := l) (n := k) (by omega);rw [aS hy];exact zS (ih (by omega)) y
 have := key l.length (Nat.le_refl _)
 rwa [List.take_length] at this
theorem G9 {x y : Vt} (h1 : nE x = nE y) (h2 : x.Head = y.Head) : x = y := by
 cases x; cases y;unfold nE at h1;simp only at h1 h2;cases h1;cases h2;rfl
theorem G2 {V : List Vt} {slot : Int} {x : Vt} : x ∈ EU V slot ↔ x ∈ V ∧ x.Slot = slot ∧ ∀ y ∈ V, nE y = nE x → y.Head = x.Head := by
 have hI := Ca V;have hk := (nQ V).1;unfold EU;rw [(bS _).mem_iff, List.mem_filterMap];constructor
 ·rintro ⟨⟨⟨f, s⟩, id⟩, he, h2⟩;unfold fQ at h2;split at h2
  ·rename_i hc;obtain ⟨hs, hb⟩ := hc;simp only at hs hb h2;subst hs;cases h2;obtain ⟨v, h3, h4, h5⟩ := hI.was _ _ ((nU hk).1 he);have e : v = ⟨f, s, id⟩ := G9 h4 h5;subst e;refine ⟨h3, rfl, fun y hy h6 => ?_⟩;by_cases h7 : y.Head = id
   ·exact h7
   ·have := (hI.bad ⟨f, s⟩).2 ⟨y, hy, _, h3, h6, h4, h7⟩;rw [this] at hb;cases hb
  ·cases h2
 ·rintro ⟨h1, h2, h3⟩;obtain ⟨id, hid⟩ := hI.has x h1;obtain ⟨v, h4, h5, h6⟩ := hI.was _ _ hid;have e : id = x.Head := h6.symm.trans (h3 v h4 h5);refine ⟨(nE x, id), (nU hk).2 hid, ?_⟩;unfold fQ;rw [if_pos]
  ·rw [e, ← h2]; rfl
  ·refine ⟨h2, ?_⟩
   cases hb : (ah (bA V).2 (nE x)).getD false with
   | false => rfl
   | true =>
    obtain ⟨u, hu, w, hw, h7, h8, h9⟩ := (hI.bad _).1 hb;exact absurd ((h3 u hu h7).trans (h3 w hw h8).symm) h9
theorem qB {c : Cf} {V : List Vt} {slot : Int} {x : Vt} : x ∈ cy c V slot ↔ x ∈ V ∧ x.Slot = slot ∧ x.From ∈ lz c slot ∧ ∀ y ∈ V, nE y = nE x → y.Head = x.Head := by
 unfold cy;rw [List.mem_filter, G2];unfold vf;rw [decide_eq_true_iff];exact ⟨fun ⟨⟨a, b, d⟩, e⟩ => ⟨a, b, e, d⟩, fun ⟨a, b, e, d⟩ => ⟨⟨a, b, d⟩, e⟩⟩
theorem Ab {c : Cf} {V W : List Vt} (h : ∀ x, x ∈ V ↔ x ∈ W) (slot : Int) (x : Vt) : x ∈ cy c V slot ↔ x ∈ cy c W slot := by
 rw [qB, qB, h];exact ⟨fun ⟨a, b, d, e⟩ => ⟨a, b, d, fun y hy => e y ((h y).2 hy)⟩, fun ⟨a, b, d, e⟩ => ⟨a, b, d, fun y hy => e y ((h y).1 hy)⟩⟩
open Go.Proofs
def ur (n : Int) : Option (List Of) :=
 bif decide (n < 0) then
  none
 else
  bif decide ((IntKind.i64.wrap (n - (IntKind.i64.wrap (0 - 0)))) > 0) then
   bif Am (IntKind.i64.wrap (n - (IntKind.i64.wrap (0 - 0)))) 104 then
    bif decide (0 ≤ 0 ∧ 0 ≤ (((List.replicate (IntKind.i64.wrap (n - (IntKind.i64.wrap (0 - 0)))).toNat (Of.mk 0 0 (Bk.mk 0 0 (0, 0) 0) (Vw.mk [] []) : Of)).map dP).length : Int)) then
     some (List.replicate (IntKind.i64.wrap (n - (IntKind.i64.wrap (0 - 0)))).toNat (Of.mk 0 0 (Bk.mk 0 0 (0, 0) 0) (Vw.mk [] []) : Of))
    else none
   else none
  else
   some []
theorem GJ {n : Int} {r_ : List Of} (hr : ur n = some r_) : LC Tryz.prog 163 [.zs, (iQ n)] [] (Is (.vec 9 0 (r_.map dP).length 0 0) [.vec 9 (r_.map dP)]) := by
 refine dc Tryz.func163 Z Z Z ?_;unfold ur at hr;refine zQ<|zR<|zM Z<|zN<|zT<|zQ<|zQ<|zR<|zM Z<|yS Z (aw Z Z Z Z)<|zN<|zT ?_;refine zX Z (fun g1 => ?_)<|fun g1 => ?_
 ·
  have hr := zI g1 hr;cases hr
 ·
  refine zo g1 hr fun hr => zk<|zT<|zQ<|zQ<|zR<|zM Z<|zM Z<|yS Z (ab.capZ Z Z ca)<|zM Z<|yS Z (ab.lenZ Z Z (by kernel_rfl))<|yS Z (aw Z Z Z Z)<|yS Z (aw Z Z Z Z)<|zM Z<|zN<|zT<|zQ<|zR<|zM Z<|yS Z (aw Z Z Z Z)<|zN<|zT ?_;refine zX Z (fun g2 => ?_)<|fun g2 => ?_
  ·
   refine zi g2 hr fun hr => zR<|zM Z<|zM Z<|yS Z (ab.capZ Z Z ca)<|yS Z (ab.sliceZ0 Z Z Z ca)<|zM Z<|zg hr fun q1 hr => ?_;refine yS Z (ab.appendMake (cs := [(iQ 0), (iQ 0), (iQ 0), (iQ 0), (uQ 0), (uQ 0), (uQ 0), .zs, .zs]) (zs := [.int .i64 0, .int .i64 0, .int .i64 0, .int .i64 0, .int .u64 0, .int .u64 0, .int .u64 0, .slice 5 [], .slice 4 []]) dP (Of.mk 0 0 (Bk.mk 0 0 (0, 0) 0) (Vw.mk [] [])) Z Z Z ca Tryz.underlying3 (fun _ => rfl) (by kernel_rfl) Z ⟨rfl, rfl, rfl, rfl, rfl, rfl, rfl, ⟨_, rfl⟩, ⟨_, rfl⟩, trivial⟩ q1 Z Z) ?_;refine zM Z<|yS Z (ab.lenZ Z Z (by kernel_rfl))<|zg hr fun q2 hr => yS Z (ab.sliceVHi Z Z Z Z ca q2)<|zM Z<|zN<|zT<|zQ<|zR<|zM Z<|zM Z<|zN<|zT<|zr ?_;obtain rfl := zJ hr;exact ap (.one (.tmp Z))<|⟨rfl, rfl⟩
  ·
   refine zo g2 hr fun hr => zk<|zT<|zQ<|LW.ent (bM.lazy (t := 0) (m := 9) Z Z Z)<|zR<|zM Z<|zM Z<|zN<|zT<|zr ?_;obtain rfl := zJ hr;exact ap (.one (.tmp Z))<|⟨rfl, rfl⟩
structure dn where
 size : Int
 t11 : Int
structure dp where
 newslice : Nat
 t27 : Int
 o0 : List Of
def gz (slices : List (List Of)) (x1 : dn) : Option (dn ⊕ dn) :=
 bif decide (x1.t11 < (slices.length : Int)) then
  (ix slices x1.t11).bind fun y1 =>
  bif decide ((IntKind.i64.wrap (x1.size + (y1.length : Int))) < 0) then
   none
  else
   some (.inl (dn.mk (IntKind.i64.wrap (x1.size + (y1.length : Int))) (IntKind.i64.wrap (x1.t11 + 1))))
 else
  some (.inr (dn.mk x1.size x1.t11))
def gA (slices : List (List Of)) (x2 : dp) : Option (dp ⊕ dp) :=
 bif decide (x2.t27 < (slices.length : Int)) then
  (ix slices x2.t27).bind fun y2 =>
  bif decide (x2.newslice + y2.length ≤ x2.o0.length) then
   some (.inl (dp.mk (x2.newslice + y2.length) (IntKind.i64.wrap (x2.t27 + 1)) (fg x2.o0 x2.newslice y2)))
  else none
 else
  some (.inr (dp.mk x2.newslice x2.t27 x2.o0))
def uh (slices : List (List Of)) : Option (List Of) :=
 (iter (gz slices) bG (dn.mk 0 0)).bind fun v1 =>
 (ur v1.size).bind fun v2 =>
 (iter (gA slices) bG (dp.mk 0 0 v2)).bind fun v3 =>
 bif Nat.ble v3.newslice v3.o0.length then
  some (v3.o0.take v3.newslice)
 else none
theorem It {slices : List (List Of)} {r_ : (List Of)} (hr : uh slices = some r_) : av Tryz.prog 136 [.slice 1 (slices.map (Jt 9 dP))] [.slice 9 (r_.map dP)] := by
 refine zh Tryz.func136 Z Z Z Z ?_;unfold uh at hr;refine zQ<|zR<|zM Z<|zN<|zT<|zQ<|zR<|zM Z<|zN<|zT<|zQ<|zQ<|zR<|zM Z<|yS Z (dT Z Z (by kernel_rfl))<|zM Z<|zN<|zT ?_;obtain ⟨v1, hb_v1, ho_v1⟩ := zB hr;clear hr;refine LW.tail (E := [(0, .p (.slice 1 (slices.map (Jt 9 dP)))), (2, .zs), (3, (iQ v1.size))]) (O := []) ?_<|fun env_v1 H_v1 hw_v1 => ?_
 ·refine LW.block ?_;refine LW.iterB (E := fun x1 : dn => [(0, .p (.slice 1 (slices.map (Jt 9 dP)))), (2, .zs), (3, (iQ x1.size)), (9, .p (.slice 1 (slices.map (Jt 9 dP)))), (10, .p (.int .i64 (slices.length : Int))), (11, (iQ x1.t11))]) (O := fun x1 => []) hb_v1 (zW 0 ⟨rfl, rfl, rfl, rfl, rfl, rfl, trivial⟩ Z Z Z Z)<|fun x1 z_x1 hr hb_x1 => ?_;unfold gz at hr;refine zQ<|zR<|yS Z (aw Z Z Z Z)<|zN<|zT<|zQ ?_;refine zX Z (fun g1 => ?_)<|fun g1 => ?_
  ·
   refine zi g1 hr fun hr => zk<|zT<|zQ<|zl<|zQ<|zR<|zb hr fun y1 h_y1 hr => yS Z (zx Z Z Z xc h_y1 Z)<|yS Z (dS Z Z Z bT Z Z)<|zM Z<|zN<|zT<|zQ<|zR<|zM Z<|zM Z<|yS Z (dT Z Z (by kernel_rfl))<|yS Z (aw Z Z Z Z)<|zM Z<|zN<|zT<|zQ<|zR ?_;refine zM Z<|yS Z (aw Z Z Z Z)<|zN<|zT ?_;refine zX Z (fun g2 => ?_)<|fun g2 => ?_
   ·
    have hr := zI g2 hr;cases hr
   ·
    refine zo g2 hr fun hr => zk<|ai<|zT<|zR<|yS Z (aw Z Z Z Z)<|zM Z<|zN<|zT ?_;obtain rfl := zJ hr;exact ⟨_, rfl, zW 0 ⟨rfl, rfl, rfl, rfl, rfl, rfl, trivial⟩ Z Z Z rfl⟩
  ·
   refine zo g1 hr fun hr => zq<|ao<|ao<|zy<|zT ?_;obtain rfl := zJ hr;have hr := congrArg some (hb_x1 _ rfl);obtain rfl := zJ hr;exact zW 0 ⟨Z, Z, Z, trivial⟩ Z Z Z Z
 ·have hr := ho_v1;clear hb_v1;refine zT<|LW.weak hw_v1<|zQ<|zR<|zM Z<|zb hr fun v2 h_v2 hr => yS Z (zC Z Z Z (by kernel_rfl) (LC.frameX (x' := .vec 9 0 (v2.map dP).length 0 0) (H' := [.vec 9 (v2.map dP)]) (GJ h_v2) (.consZ (.consC zv .nil)) Z Z Z))<|zM Z<|zN<|zT<|zQ<|zQ<|zR<|zM Z<|yS Z (dT Z Z (by kernel_rfl))<|zM Z<|zN<|zT ?_;obtain ⟨v3, hb_v3, ho_v3⟩ := zB hr;clear hr;refine LW.tail (E := [(2, .zs), (6, .vec 9 0 (v3.o0.map dP).length 0 v3.newslice)]) (O := [.vec 9 (v3.o0.map dP)]) ?_<|fun env_v3 H_v3 hw_v3 => ?_
  ·refine LW.block ?_;refine LW.iterB (E := fun x2 : dp => [(2, .zs), (6, .vec 9 0 (x2.o0.map dP).length 0 x2.newslice), (25, .p (.slice 1 (slices.map (Jt 9 dP)))), (26, .p (.int .i64 (slices.length : Int))), (27, (iQ x2.t27))]) (O := fun x2 => [.vec 9 (x2.o0.map dP)]) hb_v3 (zW 1 ⟨rfl, rfl, rfl, rfl, rfl, trivial⟩ Z Z Z Z)<|fun x2 z_x2 hr hb_x2 => ?_;unfold gA at hr;refine zQ<|zR<|yS Z (aw Z Z Z Z)<|zN<|zT<|zQ ?_;refine zX Z (fun g3 => ?_)<|fun g3 => ?_
   ·
    refine zi g3 hr fun hr => zk<|zT<|zQ<|zl<|zQ<|zR<|zb hr fun y2 h_y2 hr => yS Z (zx Z Z Z xc h_y2 Z)<|yS Z (dS Z Z Z bT Z Z)<|zM Z<|zN<|zT<|zR<|zM Z<|zM Z<|zg hr fun q1 hr => ?_;refine yS Z (ab.appendP (f := dP) Z Z Z (fun _ => rfl) Z kg.p Z ca q1 Z) ?_;refine zM Z<|zN<|ai<|zT<|zR<|yS Z (aw Z Z Z Z)<|zM Z<|zN<|zT ?_;obtain rfl := zJ hr;exact ⟨_, rfl, zW 1 ⟨rfl, rfl, rfl, rfl, rfl, trivial⟩ Z Z Z rfl⟩
   ·
    refine zo g3 hr fun hr => zq<|ao<|ao<|zy<|zT ?_;obtain rfl := zJ hr;have hr := congrArg some (hb_x2 _ rfl);obtain rfl := zJ hr;exact zW 1 ⟨Z, Z, trivial⟩ Z Z Z Z
  ·have hr := ho_v3;clear hb_v3;refine zT<|LW.weak hw_v3<|zQ<|zR<|zg hr fun q2 hr => zM Z<|zM Z<|zN<|zT<|zr ?_;obtain rfl := zJ hr;exact zf (.one (.tmp Z))<|(Conv.vecTake Z q2)
open Go.Proofs
def BV (c : Cf) (w : Vw) (slot : Int) : Option (List Vt × Int) :=
 (rG c w.V slot).bind fun v1 =>
 (E9 c slot).bind fun v2 =>
 (Fa c v2).bind fun v3 =>
 some (v1, v3)
theorem IZ {c : Cf} {w : Vw} {slot : Int} {r_ : List Vt × Int} (hr : BV c w slot = some r_) : LC Tryz.prog 59 [.p (jx c), .p (mA w), (iQ slot)] [] (Is (.agg [.fn 111 [] [.ptr 0 0, .ptr 1 0, .ptr 3 0], .fn 113 [] [.ptr 0 0, .ptr 4 0]]) [.box (bB c), .box (de w), .box [.fn 111 [] [.ptr 0 0, .ptr 1 0, .ptr 3 0], .fn 113 [] [.ptr 0 0, .ptr 4 0]], .box [(kV r_.1)], .box [(iQ r_.2)]]) := by
 refine dc Tryz.func59 Z Z Z ?_;unfold BV at hr;refine zQ<|zR<|yS Z (bV Z Z Z Z Z)<|yS Z (bV Z Z Z Z Z)<|yS Z (ze Z DL Z Z)<|zN<|zT<|zQ<|LW.ent (bM.slot Z)<|LW.ent (bM.slot Z)<|LW.drawW (by kernel_rfl) (by kernel_rfl)<|yF Z (zd Z Z Z bE Z Z) Z ?_;refine yF (F := []) (s := none) Z (fun H _ => zA Z Z bP) Z ?_;refine yF Z (zd Z Z Z eC Z Z) Z<|zK Z<|zb hr fun v1 h_v1 hr => ?_;refine yF (F := []) (s := none) Z (fun H _ => zC Z Z Z (by kernel_rfl) (zp (Fk h_v1) (.cons zv (.cons zv (.cons zv .nil))))) Z ?_;refine yF Z (zd Z Z Z bE Z Z) Z<|yF Z (zd Z Z Z bE Z Z) Z<|zK Z<|zb hr fun v2 h_v2 hr => ?_;refine yF (F := []) (s := none) Z (fun H _ => zC Z Z Z (by kernel_rfl) (zp (Kg h_v2) (.cons zv (.cons zv .nil)))) Z ?_;obtain ⟨v3, h_v3, hr⟩ := zB hr;refine yF (F := []) (s := none) Z (fun H _ => zC Z Z Z (by kernel_rfl) (zp (Kh h_v3) (.cons zv (.cons zv .nil)))) Z ?_;refine yF Z (bJ.alloc Z Lb (id := 3) Z) Z<|yF Z (bJ.alloc Z Lk (id := 4) Z) Z<|yF Z (zt Z Z Z Z eC Z Z Z) Z<|yF Z (zt Z Z Z Z bC Z Z Z) Z ?_;refine LF.nil ⟨by kernel_rfl, ?_⟩;refine zT<|zQ<|zR<|yS Z (ab.makeFunc Z Z Z)<|yS Z (ab.makeFunc Z Z Z)<|yS Z (ab.build Z Gq Z Z Z)<|yS Z (zs Z Z Z Z DB Z Z Z Z)<|zN<|zT<|zr ?_;obtain rfl := zJ hr;exact ap (.one (.cellAgg Z Z (by kernel_rfl) Z))<|⟨rfl, rfl⟩
theorem I7 {c : Cf} {w : Vw} {slot : Int} {r_ : List Vt × Int} (hr : BV c w slot = some r_) : uy Tryz.prog 59 [jx c, mA w, .int .i64 slot] (.agg [.fn 111 [] [.cptr [.slice 1 (c.W.map aE), .int .u64 c.Seed, .int .i64 c.Epoch, .int .i64 c.Num, .int .i64 c.Den], .cptr [.slice 5 (w.B.map ax), .slice 4 (w.V.map aI)], .cptr [.slice 4 (r_.1.map aI)]], .fn 113 [] [.cptr [.slice 1 (c.W.map aE), .int .u64 c.Seed, .int .i64 c.Epoch, .int .i64 c.Num, .int .i64 c.Den], .cptr [.int .i64 r_.2]]]) :=
 uy.ofLC rfl (IZ hr) (df.agg ⟨df.fn trivial ⟨df.ptr rfl rfl rfl, df.ptr rfl rfl rfl, df.ptr rfl rfl rfl, trivial⟩, df.fn trivial ⟨df.ptr rfl rfl rfl, df.ptr rfl rfl rfl, trivial⟩, trivial⟩)
def Ek (id : ID) (c : Cf) (w : Vw) (v : List Vt) : Option Int :=
 (yD c w.B v id).bind fun v1 =>
 some v1
theorem I0 {id : ID} {c : Cf} {w : Vw} {v : List Vt} {r_ : Int} (hr : Ek id c w v = some r_) : LC Tryz.prog 111 [.p (bH id), .cptr [.slice 1 (c.W.map aE), .int .u64 c.Seed, .int .i64 c.Epoch, .int .i64 c.Num, .int .i64 c.Den], .cptr [.slice 5 (w.B.map ax), .slice 4 (w.V.map aI)], .cptr [.slice 4 (v.map aI)]] [] (Is (iQ r_) []) := by
 refine dc Tryz.func111 Z Z Z ?_;unfold Ek at hr;refine zQ<|zR<|yS Z (bV Z Z Z Z Z)<|zM Z<|zN<|zT<|zQ<|zR<|yS Z (dS Z Z Z bE Z Z)<|yS Z (ab.fieldAddrC Z Z bD Z)<|yS Z (dS Z Z Z dE Z Z)<|yS Z (dS Z Z Z eC Z Z)<|yS Z (zD Z Z Z aR Z Z)<|zb hr fun v1 h_v1 hr => yS Z (zC Z Z Z (by kernel_rfl) (zp (H7 h_v1) (.cons zv (.cons zv (.cons zv (.cons zv .nil))))))<|zM Z<|zN<|zT<|zr ?_;obtain rfl := zJ hr;exact ba (env' := [(5, (iQ v1))]) (H' := []) (zW 0 ⟨rfl, trivial⟩ Z Z Z Z) (.one (.tmp Z))<|⟨rfl, rfl⟩
def sU (n : Int) (c : Cf) (al : Int) : Option Bool :=
 (tQ (IntKind.i64.wrap (2 * n)) c.Den al (IntKind.i64.wrap (c.Den + (IntKind.i64.wrap (2 * c.Num))))).bind fun v1 =>
 some v1
theorem EC {n : Int} {c : Cf} {al : Int} {r_ : Bool} (hr : sU n c al = some r_) : LC Tryz.prog 113 [(iQ n), .cptr [.slice 1 (c.W.map aE), .int .u64 c.Seed, .int .i64 c.Epoch, .int .i64 c.Num, .int .i64 c.Den], .cptr [.int .i64 al]] [] (Is (bQ r_) []) := by
 refine dc Tryz.func113 Z Z Z ?_;unfold sU at hr;refine zQ<|zR<|zM Z<|zN<|zT<|zQ<|zR<|zM Z<|yS Z (aw Z Z Z Z)<|yS Z (ab.fieldAddrC Z Z qy Z)<|yS Z (dS Z Z Z bC Z Z)<|yS Z (dS Z Z Z bC Z Z)<|yS Z (ab.fieldAddrC Z Z qy Z)<|yS Z (dS Z Z Z bC Z Z)<|yS Z (ab.fieldAddrC Z Z wK Z)<|yS Z (dS Z Z Z bC Z Z)<|yS Z (aw Z Z Z Z)<|yS Z (aw Z Z Z Z)<|zb hr fun v1 h_v1 hr => yS Z (zC Z Z Z (by kernel_rfl) (zp (HT h_v1) (.cons zv (.cons zv (.cons zv (.cons zv .nil))))))<|zM Z<|zN<|zT<|zr ?_;obtain rfl := zJ hr;exact ap (.one (.tmp Z))<|⟨rfl, rfl⟩
structure lk where
 l : List ID
 v : List Vt
 al : Int
def ju (c : Cf) (w : Vw) (x1 : lk) : Option (lk ⊕ (ID × Bool)) :=
 bif decide ((x1.l.length : Int) < 2) then
  some (.inr ((0, 0), false))
 else
  (ix x1.l 0).bind fun y1 =>
  (Ek y1 c w x1.v).bind fun v2 =>
  (sU v2 c x1.al).bind fun v3 =>
  bif v3 then
   (ix x1.l 0).bind fun y2 =>
   some (.inr (y2, true))
  else
   bif Hi x1.l 1 x1.l.length then
    some (.inl (lk.mk (x1.l.drop (1 : Int).toNat) x1.v x1.al))
   else none
def rJ (c : Cf) (w : Vw) (slot : Int) (head : ID) : Option (ID × Bool) :=
 (BV c w slot).bind fun v1 =>
 bif few w.B then
  iter (ju c w) bG (lk.mk (aF w.B head) v1.1 v1.2)
 else none
theorem Iu {c : Cf} {w : Vw} {slot : Int} {head : ID} {r_ : ID × Bool} (hr : rJ c w slot head = some r_) : av Tryz.prog 24 [jx c, mA w, .int .i64 slot, bH head] [bH r_.1, .bool r_.2] := by
 refine zh Tryz.func24 Z Z Z Z ?_;unfold rJ at hr;refine zQ<|zR<|yS Z (bV Z Z Z Z Z)<|yS Z (bV Z Z Z Z Z)<|yS Z (bV Z Z Z Z Z)<|yS Z (ze Z jo Z Z)<|zM Z<|zN<|zT ?_;refine LW.iterG (step := ju c w) (N := bG) (b := r_) (E := fun x1 : lk => [(8, .ptr 3 0), (9, (bQ false)), (10, .ptr 4 0), (11, .p (.slice 2 (x1.l.map bH)))]) (O := fun x1 => [.box (bB c), .box (de w), .box [(uQ head.1), (uQ head.2)], .box [(uQ 0), (uQ 0)], .box [.fn 111 [] [.cptr [.slice 1 (c.W.map aE), .int .u64 c.Seed, .int .i64 c.Epoch, .int .i64 c.Num, .int .i64 c.Den], .cptr [.slice 5 (w.B.map ax), .slice 4 (w.V.map aI)], .cptr [.slice 4 (x1.v.map aI)]], .fn 113 [] [.cptr [.slice 1 (c.W.map aE), .int .u64 c.Seed, .int .i64 c.Epoch, .int .i64 c.Num, .int .i64 c.Den], .cptr [.int .i64 x1.al]]]]) Z ?_<|fun x1 z_x1 hr hb_x1 => ?_
 ·
  refine LW.ent (bM.slot Z)<|LW.drawW (by kernel_rfl) (by kernel_rfl)<|yF Z (zd Z Z Z bE Z Z) Z<|yF Z (zd Z Z Z aT Z Z) Z<|zK Z<|zb hr fun v1 h_v1 hr => ?_;refine yF (F := []) (s := none) Z (fun H _ => zC Z Z Z (by kernel_rfl) (LC.free (I7 h_v1) (.cons zv (.cons zv (.cons zv .nil))))) Z ?_;refine yF (F := []) (s := none) Z (fun H _ => zA Z Z bD) Z ?_;refine yF Z (zd Z Z Z dE Z Z) Z<|yF Z (zd Z Z Z aR Z Z) Z<|zg hr fun q1 hr => ?_;refine yF (F := []) (s := none) Z (fun H _ => zC Z Z Z (by kernel_rfl) (zp (Ke (l := w.B) (id := head) (tf q1)) (.cons zv (.cons zv .nil)))) Z ?_;refine yF Z (bJ.alloc Z DL (id := 4) Z) Z<|yF Z (zt Z Z Z Z DB Z Z Z) Z<|zK Z ?_;refine LF.nil ⟨by kernel_rfl, ?_⟩;exact zT<|⟨_, hr, zW 5 ⟨rfl, rfl, rfl, rfl, trivial⟩ Z Z Z rfl⟩
 ·
  unfold ju at hr;refine zQ<|zQ<|zR<|zM Z<|yS Z (dT Z Z (by kernel_rfl))<|yS Z (aw Z Z Z Z)<|zN<|zT ?_;refine zX Z (fun g1 => ?_)<|fun g1 => ?_
  ·
   refine zi g1 hr fun hr => zQ<|zR<|yS Z (ab.build Z wz Z Z Z)<|yS Z (zs Z Z Z Z aR Z Z Z Z)<|zM Z<|zN<|zT<|zr<|aj<|vi ?_;obtain rfl := zJ hr;have hr := congrArg some (hb_x1 _ rfl);obtain rfl := zJ hr;exact zf (.two (.cellAgg Z Z (by kernel_rfl) Z) (.tmp Z))<|⟨_, rfl, (.cons zv (.cons zv .nil))⟩
  ·
   refine zo g1 hr fun hr => zk<|zT<|zQ<|zQ<|LW.draw2 (by kernel_rfl) (by kernel_rfl)<|yE Z (zA Z Z CJ)<|yE Z (zD Z Z Z sL Z Z)<|yE Z (zA Z Z CI)<|yE Z (zD Z Z Z G8 Z Z)<|zH Z<|zb hr fun y1 h_y1 hr => yE Z (zx Z Z Z nw h_y1 Z)<|yE Z (dS Z Z Z aR Z Z)<|zb hr fun v2 h_v2 hr => yE Z (zC Z Z Z (by kernel_rfl) (LC.pre (I0 h_v2) Z Z Z))<|zb hr fun v3 h_v3 hr => yE Z (zC Z Z Z (by kernel_rfl) (LC.pre (EC h_v3) Z Z Z))<|LO.nil<|zT ?_;refine zX Z (fun g2 => ?_)<|fun g2 => ?_
   ·
    refine zi g2 hr fun hr => zQ<|zR<|zM Z<|zb hr fun y2 h_y2 hr => yS Z (zx Z Z Z nw h_y2 Z)<|yS Z (dS Z Z Z aR Z Z)<|yS Z (zs Z Z Z Z aR Z Z Z Z)<|zM Z<|zN<|zT<|zr<|aj<|vi ?_;obtain rfl := zJ hr;have hr := congrArg some (hb_x1 _ rfl);obtain rfl := zJ hr;exact zf (.two (.cellAgg Z Z (by kernel_rfl) Z) (.tmp Z))<|⟨_, rfl, (.cons zv (.cons zv .nil))⟩
   ·
    refine zo g2 hr fun hr => zk<|zT<|zQ<|zR<|zM Z<|zg hr fun q2 hr => yS Z (ab.sliceLo Z Z Z nw q2)<|zM Z<|zN<|zT<|LW.goto<|CR ?_;obtain rfl := zJ hr;exact ⟨_, rfl, zW 5 ⟨rfl, rfl, rfl, rfl, trivial⟩ Z Z Z rfl⟩
open Go.Proofs
structure dt where
 t21 : Int
 w_11 : Bool
 o5 : List Of
def iZ (x : Nd) (c : Cf) (slot : Int) (v1 : (List Of)) (x1 : dt) : Option (dt ⊕ dt) :=
 bif decide (x1.t21 < (v1.length : Int)) then
  (ix v1 x1.t21).bind fun y1 =>
  (
   bif (x.Tick.tmod 3) == 2 then
    some ((x.Tick.tmod 3) == 2)
   else
    bif y1.Slot != slot then
     some (y1.Slot != slot)
    else
     (Ec c slot).bind fun v4 =>
     some (y1.From != v4)
  ).bind fun v3 =>
  bif v3 then
   some (.inl (dt.mk (IntKind.i64.wrap (x1.t21 + 1)) x1.w_11 x1.o5))
  else
   bif (x1.o5.length : Int) == 8 then
    some (.inl (dt.mk (IntKind.i64.wrap (x1.t21 + 1)) true x1.o5))
   else
    (pL y1).bind fun v5 =>
    bif room x1.o5.length [v5].length 104 then
     some (.inl (dt.mk (IntKind.i64.wrap (x1.t21 + 1)) x1.w_11 (x1.o5 ++ [v5])))
    else none
 else
  some (.inr (dt.mk x1.t21 x1.w_11 x1.o5))
def ut (l : List Of) (x : Nd) (c : Cf) (slot : Int) : Option (List Of × Bool) :=
 (uh [x.O, l]).bind fun v1 =>
 (iter (iZ x c slot v1) bG (dt.mk 0 x.Full ([] : List Of))).bind fun v2 =>
 some (v2.o5, v2.w_11)
theorem GK {l : List Of} {x : Nd} {c : Cf} {slot : Int} {tl : List Of} {c0 : Cf} {n0 : Nd} {in0 : Vw} {r_ : List Of × Bool} (hr : ut l x c slot = some r_) : LC Tryz.prog 98 [.ptr 4 0, (kO l)] [.box (bB c0), .box (ne n0), .box (de in0), .box nC, .box [(iQ x.No), (iQ x.Tick), (kB x.V.B), (kV x.V.V), (kB x.In.B), (kV x.In.V), (kO x.O), (uQ x.C.ID.1), (uQ x.C.ID.2), (iQ x.C.Slot), (iQ x.C.Revoked), (bQ x.Full), (kI c.W), (uQ c.Seed), (iQ c.Epoch), (iQ c.Num), (iQ c.Den), (iQ slot), (kO tl)]] (Is (.tup []) [.box (bB c0), .box (ne n0), .box (de in0), .box nC, .box [(iQ x.No), (iQ x.Tick), (kB x.V.B), (kV x.V.V), (kB x.In.B), (kV x.In.V), (jO 5 r_.1), (uQ x.C.ID.1), (uQ x.C.ID.2), (iQ x.C.Slot), (iQ x.C.Revoked), (bQ r_.2), (kI c.W), (uQ c.Seed), (iQ c.Epoch), (iQ c.Num), (iQ c.Den), (iQ slot), (kO tl)], .vec 9 (r_.1.map dP)]) := by
 refine dc Tryz.func98 Z Z Z ?_;unfold ut at hr;refine zQ<|zR<|zM Z<|yS Z (zn Z Z)<|yS Z (zA Z Z ar)<|yS Z (zA Z Z cL)<|yS Z (zD Z Z Z bT Z Z)<|zM Z<|yS Z (mD Z xc Z Z Z Z Z)<|zb hr fun v1 h_v1 hr => yS Z (zC Z Z Z (by kernel_rfl) (zp (It h_v1) (.cons zv .nil)))<|zM Z<|zN<|zT<|zQ<|zR<|zM Z<|yS Z (zn Z Z)<|yS Z (zA Z Z ar)<|yS Z (zA Z Z cL)<|yS Z (zs Z Z Z Z bT Z Z Z Z)<|zN<|zT<|zQ ?_;refine LW.ent (bM.lazyCell (i := 4) (j := 6) (m := 9) Z Z Z Z Z Z)<|zR<|zM Z<|yS Z (dT Z Z (by kernel_rfl))<|zM Z<|zN<|zT ?_;obtain ⟨v2, hb_v2, ho_v2⟩ := zB hr;clear hr;refine LW.tail (E := []) (O := [.box (bB c0), .box (ne n0), .box (de in0), .box nC, .box [(iQ x.No), (iQ x.Tick), (kB x.V.B), (kV x.V.V), (kB x.In.B), (kV x.In.V), (jO 5 v2.o5), (uQ x.C.ID.1), (uQ x.C.ID.2), (iQ x.C.Slot), (iQ x.C.Revoked), (bQ v2.w_11), (kI c.W), (uQ c.Seed), (iQ c.Epoch), (iQ c.Num), (iQ c.Den), (iQ slot), (kO tl)], .vec 9 (v2.o5.map dP)]) ?_<|fun env_v2 H_v2 hw_v2 => ?_
 ·refine LW.block ?_;refine LW.iterB (E := fun x1 : dt => [(0, .ptr 4 0), (19, (kO v1)), (20, .p (.int .i64 (v1.length : Int))), (21, (iQ x1.t21))]) (O := fun x1 => [.box (bB c0), .box (ne n0), .box (de in0), .box nC, .box [(iQ x.No), (iQ x.Tick), (kB x.V.B), (kV x.V.V), (kB x.In.B), (kV x.In.V), (jO 5 x1.o5), (uQ x.C.ID.1), (uQ x.C.ID.2), (iQ x.C.Slot), (iQ x.C.Revoked), (bQ x1.w_11), (kI c.W), (uQ c.Seed), (iQ c.Epoch), (iQ c.Num), (iQ c.Den), (iQ slot), (kO tl)], .vec 9 (x1.o5.map dP)]) hb_v2 (zW 6 ⟨rfl, rfl, rfl, rfl, trivial⟩ Z Z Z Z)<|fun x1 z_x1 hr hb_x1 => ?_;unfold iZ at hr;refine zQ<|zR<|yS Z (aw Z Z Z Z)<|zN<|zT<|zQ ?_;refine zX Z (fun g1 => ?_)<|fun g1 => ?_
  ·
   refine zi g1 hr fun hr => zk<|zT<|zQ<|zl<|zQ<|zR<|zb hr fun y1 h_y1 hr => yS Z (zx Z Z Z ca h_y1 Z)<|yS Z (dS Z Z Z f4 Z Z)<|yS Z (ze Z rm Z Z)<|yS Z (zs Z Z Z Z f4 Z Z Z Z)<|zN<|zT<|zl ?_;obtain ⟨v3, hb_v3, ho_v3⟩ := zB hr;clear hr;refine LW.cut (E := [(0, .ptr 4 0), (6, .ptr 6 0), (19, (kO v1)), (20, .p (.int .i64 (v1.length : Int))), (21, (iQ x1.t21)), (38, (bQ v3))]) (O := [.box (bB c0), .box (ne n0), .box (de in0), .box nC, .box [(iQ x.No), (iQ x.Tick), (kB x.V.B), (kV x.V.V), (kB x.In.B), (kV x.In.V), (jO 5 x1.o5), (uQ x.C.ID.1), (uQ x.C.ID.2), (iQ x.C.Slot), (iQ x.C.Revoked), (bQ x1.w_11), (kI c.W), (uQ c.Seed), (iQ c.Epoch), (iQ c.Num), (iQ c.Den), (iQ slot), (kO tl)], .vec 9 (x1.o5.map dP), .box [(iQ y1.Slot), (iQ y1.From), (iQ y1.B.Slot), (iQ y1.B.From), (uQ y1.B.Parent.1), (uQ y1.B.Parent.2), (uQ y1.B.Salt), (kB y1.V.B), (kV y1.V.V)]]) ?_ ?_
   ·have hr := hb_v3;refine zQ<|zR<|zM Z<|yS Z (zn Z Z)<|yS Z (zA Z Z ar)<|yS Z (zA Z Z cX)<|yS Z (zD Z Z Z bC Z Z)<|yS Z (ab.rem Z Z Z (by decide))<|yS Z (aw Z Z Z Z)<|zM Z<|zN<|zT ?_;refine zX Z (fun g2 => ?_)<|fun g2 => ?_
    ·
     refine zi g2 hr fun hr => zk<|zT ?_;obtain rfl := zJ hr;exact zW 7 ⟨Z, Z, Z, Z, Z, Z, trivial⟩ Z Z Z Z
    ·
     refine zo g2 hr fun hr => zQ<|LW.draw2 (by kernel_rfl) (by kernel_rfl)<|yE Z (zA Z Z u4)<|yE Z (zD Z Z Z bC Z Z)<|zH Z<|yE Z (zn Z Z)<|yE Z (zA Z Z cM)<|yE Z (zD Z Z Z bC Z Z)<|yE Z (aw Z Z Z Z)<|zH Z<|LO.nil<|zT ?_;refine zX Z (fun g3 => ?_)<|fun g3 => ?_
     ·
      refine zi g3 hr fun hr => zk<|zT ?_;obtain rfl := zJ hr;exact zW 7 ⟨Z, Z, Z, Z, Z, Z, trivial⟩ Z Z Z Z
     ·
      refine zo g3 hr fun hr => LW.draw2 (by kernel_rfl) (by kernel_rfl)<|yE Z (zA Z Z CG)<|yE Z (zD Z Z Z bC Z Z)<|zH Z<|yE Z (zn Z Z)<|yE Z (zA Z Z gL)<|yE Z (zD Z Z Z bE Z Z)<|zH Z<|yE Z (zn Z Z)<|yE Z (zA Z Z cM)<|yE Z (zD Z Z Z bC Z Z)<|zb hr fun v4 h_v4 hr => yE Z (zC Z Z Z (by kernel_rfl) (zp (Kf h_v4) (.cons zv (.cons zv .nil))))<|yE Z (aw Z Z Z Z)<|zH Z<|LO.nil<|zT ?_;obtain rfl := zJ hr;exact zW 7 ⟨Z, Z, Z, Z, Z, Z, trivial⟩ Z Z Z Z
   ·have hr := ho_v3;clear hb_v3;refine zX Z (fun g4 => ?_)<|fun g4 => ?_
    ·
     refine zi g4 hr fun hr => zk<|ai<|ai<|zT<|zR<|yS Z (aw Z Z Z Z)<|zM Z<|zN<|zT ?_;obtain rfl := zJ hr;exact ⟨_, rfl, zW 6 ⟨rfl, rfl, rfl, rfl, trivial⟩ Z Z Z rfl⟩
    ·
     refine zo g4 hr fun hr => zQ<|zR<|zM Z<|yS Z (zn Z Z)<|yS Z (zA Z Z ar)<|yS Z (zA Z Z cL)<|yS Z (zD Z Z Z bT Z Z)<|yS Z (ab.lenVM Z Z Z (by kernel_rfl))<|yS Z (aw Z Z Z Z)<|zM Z<|zN<|zT ?_;refine zX Z (fun g5 => ?_)<|fun g5 => ?_
     ·
      refine zi g5 hr fun hr => zR<|zM Z<|yS Z (zn Z Z)<|yS Z (zA Z Z ar)<|yS Z (zA Z Z kz)<|yS Z (zs Z Z Z Z AQ Z Z Z Z)<|zN<|ai<|ai<|zT<|zR<|yS Z (aw Z Z Z Z)<|zM Z<|zN<|zT ?_;obtain rfl := zJ hr;exact ⟨_, rfl, zW 6 ⟨rfl, rfl, rfl, rfl, trivial⟩ Z Z Z rfl⟩
     ·
      refine zo g5 hr fun hr => LW.drawW (by kernel_rfl) (by kernel_rfl)<|zK Z<|zK Z ?_;refine yF (F := []) (s := none) Z (fun H _ => zn Z Z) Z ?_;refine yF (F := []) (s := none) Z (fun H _ => zA Z Z ar) Z ?_;refine yF (F := []) (s := none) Z (fun H _ => zA Z Z cL) Z ?_;refine yF Z (zd Z Z Z bT Z Z) Z<|yF Z (zd Z Z Z f4 Z Z) Z<|zb hr fun v5 h_v5 hr => ?_;refine yF (F := []) (s := none) Z (fun H _ => zC Z Z Z (by kernel_rfl) (zp (Ch h_v5) (.cons zv .nil))) Z ?_;refine yF (F := []) (s := none) Z (fun H _ => mD Z ca Z Z Z Z Z) Z ?_;refine zg hr fun q1 hr => yF Z (bJ.appendX dP x1.o5 [v5] rfl Z Z Z Z ca q1) Z ?_;refine yF (F := []) (s := none) Z (fun H _ => zn Z Z) Z ?_;refine yF (F := []) (s := none) Z (fun H _ => zA Z Z ar) Z ?_;refine yF (F := []) (s := none) Z (fun H _ => zA Z Z cL) Z ?_;refine yF Z (zt Z Z Z Z bT Z Z Z) Z ?_;refine LF.nil ⟨by kernel_rfl, ?_⟩;refine ai<|ai<|zT<|zR<|yS Z (aw Z Z Z Z)<|zM Z<|zN<|zT ?_;obtain rfl := zJ hr;exact ⟨_, rfl, zW 6 ⟨rfl, rfl, rfl, rfl, trivial⟩ Z Z Z rfl⟩
  ·
   refine zo g1 hr fun hr => zq<|ao<|ao<|zy<|zT ?_;obtain rfl := zJ hr;have hr := congrArg some (hb_x1 _ rfl);obtain rfl := zJ hr;exact zW 6 trivial Z Z Z Z
 ·have hr := ho_v2;clear hb_v2;obtain rfl := zJ hr;exact ey hw_v2 .none ⟨rfl, rfl⟩
def kq (inp : Vw) (c : Cf) (slot : Int) (v : Vw) (full : Bool) : Option (Vw × Vw × Bool) :=
 (HG c v inp slot).bind fun v1 =>
 bif full then
  some (v1.2.1, v1.1, true)
 else
  some (v1.2.1, v1.1, v1.2.2)
theorem pq {inp : Vw} {c : Cf} {slot : Int} {v : Vw} {full : Bool} {x : Nd} {o : List Of} {tl : List Of} {c0 : Cf} {n0 : Nd} {in0 : Vw} {r_ : Vw × Vw × Bool} (hr : kq inp c slot v full = some r_) : LC Tryz.prog 137 [.ptr 4 0, .p (mA inp)] [.box (bB c0), .box (ne n0), .box (de in0), .box nC, .box [(iQ x.No), (iQ x.Tick), (kB v.B), (kV v.V), (kB x.In.B), (kV x.In.V), (jO 5 o), (uQ x.C.ID.1), (uQ x.C.ID.2), (iQ x.C.Slot), (iQ x.C.Revoked), (bQ full), (kI c.W), (uQ c.Seed), (iQ c.Epoch), (iQ c.Num), (iQ c.Den), (iQ slot), (kO tl)], .vec 9 (o.map dP)] (Is (.p (mA r_.1)) [.box (bB c0), .box (ne n0), .box (de in0), .box nC, .box [(iQ x.No), (iQ x.Tick), (kB r_.2.1.B), (kV r_.2.1.V), (kB x.In.B), (kV x.In.V), (jO 5 o), (uQ x.C.ID.1), (uQ x.C.ID.2), (iQ x.C.Slot), (iQ x.C.Revoked), (bQ r_.2.2), (kI c.W), (uQ c.Seed), (iQ c.Epoch), (iQ c.Num), (iQ c.Den), (iQ slot), (kO tl)], .vec 9 (o.map dP)]) := by
 refine dc Tryz.func137 Z Z Z ?_;unfold kq at hr;refine zQ<|zR<|yS Z (bV Z Z Z Z Z)<|yS Z (ze Z ia Z Z)<|zN<|zT<|zQ<|LW.ent (bM.slot Z)<|LW.ent (bM.slot Z)<|LW.drawW (by kernel_rfl) (by kernel_rfl)<|zK Z ?_;refine yF (F := []) (s := none) Z (fun H _ => zn Z Z) Z ?_;refine yF (F := []) (s := none) Z (fun H _ => zA Z Z gL) Z ?_;refine yF Z (zd Z Z Z bE Z Z) Z<|zK Z ?_;refine yF (F := []) (s := none) Z (fun H _ => zn Z Z) Z ?_;refine yF (F := []) (s := none) Z (fun H _ => zA Z Z ar) Z ?_;refine yF (F := []) (s := none) Z (fun H _ => zA Z Z ce) Z ?_;refine yF Z (zd Z Z Z aT Z Z) Z<|yF Z (zd Z Z Z aT Z Z) Z<|zK Z ?_;refine yF (F := []) (s := none) Z (fun H _ => zn Z Z) Z ?_;refine yF (F := []) (s := none) Z (fun H _ => zA Z Z cM) Z ?_;refine yF Z (zd Z Z Z bC Z Z) Z<|zb hr fun v1 h_v1 hr => ?_;refine yF (F := []) (s := none) Z (fun H _ => zC Z Z Z (by kernel_rfl) (zp (Lv h_v1) (.cons zv (.cons zv (.cons zv (.cons zv .nil)))))) Z ?_;refine zK Z ?_;refine yF (F := []) (s := none) Z (fun H _ => fA Z Z Z) Z ?_;refine yF (F := []) (s := none) Z (fun H _ => fA Z Z Z) Z ?_;refine yF (F := []) (s := none) Z (fun H _ => fA Z Z Z) Z ?_;refine yF Z (bJ.alloc Z ia (id := 8) Z) Z<|yF Z (bJ.alloc Z ia (id := 9) Z) Z<|yF Z (zt Z Z Z Z aT Z Z Z) Z<|yF Z (zt Z Z Z Z aT Z Z Z) Z<|zK Z ?_;refine LF.nil ⟨by kernel_rfl, ?_⟩;refine zT<|zQ<|LW.drawW (by kernel_rfl) (by kernel_rfl)<|zK Z<|zK Z<|yF Z (zd Z Z Z aT Z Z) Z<|zK Z ?_;refine yF (F := []) (s := none) Z (fun H _ => zn Z Z) Z ?_;refine yF (F := []) (s := none) Z (fun H _ => zA Z Z ar) Z ?_;refine yF (F := []) (s := none) Z (fun H _ => zA Z Z kz) Z ?_;refine yF Z (zd Z Z Z AQ Z Z) Z<|zK Z ?_;refine LF.cases 35 Z (fun (g1 : full = true) => ?_) (fun (g1 : full = false) => ?_)
 ·
  refine zi g1 hr fun hr => LF.sk Z Z Z (gd g1 Z) Z Z ?_;refine yF (F := []) (s := none) Z (fun H _ => eP Z (bL g1 Z) Z) Z ?_;refine yF (F := []) (s := none) Z (fun H _ => zn Z Z) Z ?_;refine yF (F := []) (s := none) Z (fun H _ => zA Z Z ar) Z ?_;refine yF (F := []) (s := none) Z (fun H _ => zA Z Z ce) Z ?_;refine yF Z (zt Z Z Z Z aT Z Z Z) Z ?_;refine yF (F := []) (s := none) Z (fun H _ => zn Z Z) Z ?_;refine yF (F := []) (s := none) Z (fun H _ => zA Z Z ar) Z ?_;refine yF (F := []) (s := none) Z (fun H _ => zA Z Z kz) Z ?_;refine yF Z (zt Z Z Z Z AQ Z Z Z) Z ?_;refine LF.nil ⟨by kernel_rfl, ?_⟩;refine zT<|zQ<|zR<|yS Z (zD Z Z Z aT Z Z)<|yS Z (zs Z Z Z Z aT Z Z Z Z)<|zN<|zT<|zr ?_;obtain rfl := zJ hr;exact i6 (env' := []) (H' := [.box (bB c0), .box (ne n0), .box (de in0), .box nC, .box [(iQ x.No), (iQ x.Tick), (kB v1.1.B), (kV v1.1.V), (kB x.In.B), (kV x.In.V), (jO 5 o), (uQ x.C.ID.1), (uQ x.C.ID.2), (iQ x.C.Slot), (iQ x.C.Revoked), (bQ true), (kI c.W), (uQ c.Seed), (iQ c.Epoch), (iQ c.Num), (iQ c.Den), (iQ slot), (kO tl)], .vec 9 (o.map dP)]) (zW 6 trivial Z Z Z Z) (.one (.cellAgg Z Z (by kernel_rfl) Z)) Z<|⟨rfl, rfl⟩
 ·
  have hr := zO g1 hr;refine LF.gd (F := []) (s := none) Z Z Z (gd g1 Z) Z (fun H _ => ab.move Z Z) Z ?_;refine yF (F := []) (s := none) Z (fun H _ => db Z (bL g1 Z) Z) Z ?_;refine yF (F := []) (s := none) Z (fun H _ => zn Z Z) Z ?_;refine yF (F := []) (s := none) Z (fun H _ => zA Z Z ar) Z ?_;refine yF (F := []) (s := none) Z (fun H _ => zA Z Z ce) Z ?_;refine yF Z (zt Z Z Z Z aT Z Z Z) Z ?_;refine yF (F := []) (s := none) Z (fun H _ => zn Z Z) Z ?_;refine yF (F := []) (s := none) Z (fun H _ => zA Z Z ar) Z ?_;refine yF (F := []) (s := none) Z (fun H _ => zA Z Z kz) Z ?_;refine yF Z (zt Z Z Z Z AQ Z Z Z) Z ?_;refine LF.nil ⟨by kernel_rfl, ?_⟩;refine zT<|zQ<|zR<|yS Z (zD Z Z Z aT Z Z)<|yS Z (zs Z Z Z Z aT Z Z Z Z)<|zN<|zT<|zr ?_;obtain rfl := zJ hr;exact i6 (env' := []) (H' := [.box (bB c0), .box (ne n0), .box (de in0), .box nC, .box [(iQ x.No), (iQ x.Tick), (kB v1.1.B), (kV v1.1.V), (kB x.In.B), (kV x.In.V), (jO 5 o), (uQ x.C.ID.1), (uQ x.C.ID.2), (iQ x.C.Slot), (iQ x.C.Revoked), (bQ v1.2.2), (kI c.W), (uQ c.Seed), (iQ c.Epoch), (iQ c.Num), (iQ c.Den), (iQ slot), (kO tl)], .vec 9 (o.map dP)]) (zW 6 trivial Z Z Z Z) (.one (.cellAgg Z Z (by kernel_rfl) Z)) Z<|⟨rfl, rfl⟩
def sW (c : Cf) (v : Vw) (s : Int) : Option ID :=
 (iK c v s).bind fun v1 =>
 some v1
theorem EE {c : Cf} {v : Vw} {s : Int} {x : Nd} {slot : Int} {o : List Of} {tl : List Of} {c0 : Cf} {n0 : Nd} {in0 : Vw} {r_ : ID} (hr : sW c v s = some r_) : LC Tryz.prog 138 [.ptr 4 0, (iQ s)] [.box (bB c0), .box (ne n0), .box (de in0), .box nC, .box [(iQ x.No), (iQ x.Tick), (kB v.B), (kV v.V), (kB x.In.B), (kV x.In.V), (jO 5 o), (uQ x.C.ID.1), (uQ x.C.ID.2), (iQ x.C.Slot), (iQ x.C.Revoked), (bQ x.Full), (kI c.W), (uQ c.Seed), (iQ c.Epoch), (iQ c.Num), (iQ c.Den), (iQ slot), (kO tl)], .vec 9 (o.map dP)] (Is (.p (bH r_)) [.box (bB c0), .box (ne n0), .box (de in0), .box nC, .box [(iQ x.No), (iQ x.Tick), (kB v.B), (kV v.V), (kB x.In.B), (kV x.In.V), (jO 5 o), (uQ x.C.ID.1), (uQ x.C.ID.2), (iQ x.C.Slot), (iQ x.C.Revoked), (bQ x.Full), (kI c.W), (uQ c.Seed), (iQ c.Epoch), (iQ c.Num), (iQ c.Den), (iQ slot), (kO tl)], .vec 9 (o.map dP)]) := by
 refine dc Tryz.func138 Z Z Z ?_;unfold sW at hr;refine zQ<|zR<|yS Z (ze Z jo Z Z)<|zN<|zT<|zQ<|LW.drawLast (m := 11) (by kernel_rfl) (by kernel_rfl) (by kernel_rfl)<|zH Z<|yE Z (zn Z Z)<|yE Z (zA Z Z gL)<|yE Z (zD Z Z Z bE Z Z)<|zH Z<|yE Z (zn Z Z)<|yE Z (zA Z Z ar)<|yE Z (zA Z Z ce)<|yE Z (zD Z Z Z aT Z Z)<|zH Z<|zb hr fun v1 h_v1 hr => yE Z (zC Z Z Z (by kernel_rfl) (zp (xV h_v1) (.cons zv (.cons zv (.cons zv .nil)))))<|LO.nil<|yS Z (zs Z Z Z Z aR Z Z Z Z)<|zN<|zT<|zr ?_;obtain rfl := zJ hr;exact i6 (env' := []) (H' := [.box (bB c0), .box (ne n0), .box (de in0), .box nC, .box [(iQ x.No), (iQ x.Tick), (kB v.B), (kV v.V), (kB x.In.B), (kV x.In.V), (jO 5 o), (uQ x.C.ID.1), (uQ x.C.ID.2), (iQ x.C.Slot), (iQ x.C.Revoked), (bQ x.Full), (kI c.W), (uQ c.Seed), (iQ c.Epoch), (iQ c.Num), (iQ c.Den), (iQ slot), (kO tl)], .vec 9 (o.map dP)]) (zW 6 trivial Z Z Z Z) (.one (.cellAgg Z Z (by kernel_rfl) Z)) Z<|⟨rfl, rfl⟩
theorem DF {c : Cf} {v : Vw} {s : Int} {r_ : ID} (h : iK c v s = some r_) : sW c v s = some r_ := by unfold sW; rw [h]; rfl
def pn (c : Cf) (v : Vw) (s : Int) : Option ID :=
 (iK c v s).bind fun v1 =>
 some v1
theorem uF {c : Cf} {v : Vw} {s : Int} {x : Nd} {slot : Int} {o : List Of} {tl : List Of} {c0 : Cf} {n0 : Nd} {in0 : Vw} {r_ : ID} (hr : pn c v s = some r_) : LC Tryz.prog 138 [.ptr 4 0, (iQ s)] [.box (bB c0), .box (ne n0), .box (de in0), .box nC, .box [(iQ x.No), (iQ x.Tick), (kB v.B), (kV v.V), (kB x.In.B), (kV x.In.V), (kO x.O), (uQ x.C.ID.1), (uQ x.C.ID.2), (iQ x.C.Slot), (iQ x.C.Revoked), (bQ x.Full), (kI c.W), (uQ c.Seed), (iQ c.Epoch), (iQ c.Num), (iQ c.Den), (iQ slot), (kO tl)], .vec 9 (o.map dP)] (Is (.p (bH r_)) [.box (bB c0), .box (ne n0), .box (de in0), .box nC, .box [(iQ x.No), (iQ x.Tick), (kB v.B), (kV v.V), (kB x.In.B), (kV x.In.V), (kO x.O), (uQ x.C.ID.1), (uQ x.C.ID.2), (iQ x.C.Slot), (iQ x.C.Revoked), (bQ x.Full), (kI c.W), (uQ c.Seed), (iQ c.Epoch), (iQ c.Num), (iQ c.Den), (iQ slot), (kO tl)], .vec 9 (o.map dP)]) := by
 refine dc Tryz.func138 Z Z Z ?_;unfold pn at hr;refine zQ<|zR<|yS Z (ze Z jo Z Z)<|zN<|zT<|zQ<|LW.drawLast (m := 11) (by kernel_rfl) (by kernel_rfl) (by kernel_rfl)<|zH Z<|yE Z (zn Z Z)<|yE Z (zA Z Z gL)<|yE Z (zD Z Z Z bE Z Z)<|zH Z<|yE Z (zn Z Z)<|yE Z (zA Z Z ar)<|yE Z (zA Z Z ce)<|yE Z (zD Z Z Z aT Z Z)<|zH Z<|zb hr fun v1 h_v1 hr => yE Z (zC Z Z Z (by kernel_rfl) (zp (xV h_v1) (.cons zv (.cons zv (.cons zv .nil)))))<|LO.nil<|yS Z (zs Z Z Z Z aR Z Z Z Z)<|zN<|zT<|zr ?_;obtain rfl := zJ hr;exact i6 (env' := []) (H' := [.box (bB c0), .box (ne n0), .box (de in0), .box nC, .box [(iQ x.No), (iQ x.Tick), (kB v.B), (kV v.V), (kB x.In.B), (kV x.In.V), (kO x.O), (uQ x.C.ID.1), (uQ x.C.ID.2), (iQ x.C.Slot), (iQ x.C.Revoked), (bQ x.Full), (kI c.W), (uQ c.Seed), (iQ c.Epoch), (iQ c.Num), (iQ c.Den), (iQ slot), (kO tl)], .vec 9 (o.map dP)]) (zW 6 trivial Z Z Z Z) (.one (.cellAgg Z Z (by kernel_rfl) Z)) Z<|⟨rfl, rfl⟩
theorem sM {c : Cf} {v : Vw} {s : Int} {r_ : ID} (h : iK c v s = some r_) : pn c v s = some r_ := by unfold pn; rw [h]; rfl
def nI (x : Nd) (c : Cf) (slot : Int) (tl : List Of) : Option (Vw × Vw × Bool × List Of) :=
 (Ec c slot).bind fun v1 =>
 bif x.No != v1 then
  some (x.V, x.In, x.Full, tl)
 else
  (kq x.In c slot x.V x.Full).bind fun v2 =>
  (iK c v2.2.1 (IntKind.i64.wrap (slot - 1))).bind fun v3 =>
  (pL (Of.mk slot x.No (Bk.mk slot x.No v3 0) v2.2.1)).bind fun v4 =>
  (rI (Bk.mk slot x.No v3 0)).bind fun v5 =>
  (kq v5 c slot v2.2.1 v2.2.2).bind fun v6 =>
  some (v6.2.1, v2.1, v6.2.2, [v4])
theorem Ey {x : Nd} {o : List Of} {c : Cf} {slot : Int} {tl : List Of} {c0 : Cf} {n0 : Nd} {in0 : Vw} {r_ : Vw × Vw × Bool × List Of} (hr : nI x c slot tl = some r_) : LC Tryz.prog 99 [.ptr 4 0] [.box (bB c0), .box (ne n0), .box (de in0), .box nC, .box [(iQ x.No), (iQ x.Tick), (kB x.V.B), (kV x.V.V), (kB x.In.B), (kV x.In.V), (jO 5 o), (uQ x.C.ID.1), (uQ x.C.ID.2), (iQ x.C.Slot), (iQ x.C.Revoked), (bQ x.Full), (kI c.W), (uQ c.Seed), (iQ c.Epoch), (iQ c.Num), (iQ c.Den), (iQ slot), (kO tl)], .vec 9 (o.map dP)] (Is (.tup []) [.box (bB c0), .box (ne n0), .box (de in0), .box nC, .box [(iQ x.No), (iQ x.Tick), (kB r_.1.B), (kV r_.1.V), (kB r_.2.1.B), (kV r_.2.1.V), (jO 5 o), (uQ x.C.ID.1), (uQ x.C.ID.2), (iQ x.C.Slot), (iQ x.C.Revoked), (bQ r_.2.2.1), (kI c.W), (uQ c.Seed), (iQ c.Epoch), (iQ c.Num), (iQ c.Den), (iQ slot), (kO r_.2.2.2)], .vec 9 (o.map dP)]) := by
 refine dc Tryz.func99 Z Z Z ?_;unfold nI at hr;refine zQ<|zQ<|LW.draw2 (by kernel_rfl) (by kernel_rfl)<|zH Z<|yE Z (zn Z Z)<|yE Z (zA Z Z ar)<|yE Z (zA Z Z gK)<|yE Z (zD Z Z Z bC Z Z)<|zH Z<|yE Z (zn Z Z)<|yE Z (zA Z Z gL)<|yE Z (zD Z Z Z bE Z Z)<|zH Z<|yE Z (zn Z Z)<|yE Z (zA Z Z cM)<|yE Z (zD Z Z Z bC Z Z)<|zb hr fun v1 h_v1 hr => yE Z (zC Z Z Z (by kernel_rfl) (zp (Kf h_v1) (.cons zv (.cons zv .nil))))<|yE Z (aw Z Z Z Z)<|LO.nil<|zT ?_;refine zX Z (fun g1 => ?_)<|fun g1 => ?_
 ·
  refine zi g1 hr fun hr => LW.ret<|aj ?_;obtain rfl := zJ hr;exact ap .none<|⟨rfl, rfl⟩
 ·
  refine zo g1 hr fun hr => zk<|zT<|zQ<|zR<|zM Z<|zM Z<|zM Z<|yS Z (zn Z Z)<|yS Z (zA Z Z ar)<|yS Z (zA Z Z cg)<|yS Z (zD Z Z Z aT Z Z)<|zb hr fun v2 h_v2 hr => yS Z (zC Z Z Z (by kernel_rfl) (pq (x := Nd.mk x.No x.Tick x.V x.In [] x.C x.Full) (o := o) (tl := tl) h_v2))<|yS Z (zn Z Z)<|yS Z (zA Z Z ar)<|yS Z (zA Z Z cg)<|yS Z (zs Z Z Z Z aT Z Z Z Z)<|zN<|zT<|zQ<|LW.ent (bM.slot Z)<|LW.drawW (by kernel_rfl) (by kernel_rfl)<|zK Z ?_;refine yF (F := []) (s := none) Z (fun H _ => zn Z Z) Z ?_;refine yF (F := []) (s := none) Z (fun H _ => zA Z Z cM) Z ?_;refine yF Z (zd Z Z Z bC Z Z) Z<|zK Z ?_;refine yF (F := []) (s := none) Z (fun H _ => zn Z Z) Z ?_;refine yF (F := []) (s := none) Z (fun H _ => zA Z Z ar) Z ?_;refine yF (F := []) (s := none) Z (fun H _ => zA Z Z gK) Z ?_;refine yF Z (zd Z Z Z bC Z Z) Z<|zK Z<|zK Z ?_;refine yF (F := []) (s := none) Z (fun H _ => zn Z Z) Z ?_;refine yF (F := []) (s := none) Z (fun H _ => zA Z Z cM) Z ?_;refine yF Z (zd Z Z Z bC Z Z) Z ?_;refine yF (F := []) (s := none) Z (fun H _ => aw Z Z Z Z) Z ?_;obtain ⟨v3, h_v3, hr⟩ := zB hr;refine yF Z (bJ.preH (s := none) (fun _ => zC Z Z Z (by kernel_rfl) (LC.pre (EE (x := Nd.mk x.No x.Tick v2.2.1 v2.1 [] x.C v2.2.2) (o := o) (tl := tl) (DF h_v3)) Z Z Z)) Z Z Z Z) Z ?_;refine yF (F := []) (s := none) Z (fun H _ => ab.build Z HO Z Z Z) Z ?_;refine yF Z (bJ.alloc Z tK (id := 6) Z) Z<|yF Z (zt Z Z Z Z cH Z Z Z) Z ?_;refine LF.nil ⟨by kernel_rfl, ?_⟩;refine zT<|zQ<|LW.drawW (by kernel_rfl) (by kernel_rfl)<|zK Z<|zK Z ?_;refine yF (F := []) (s := none) Z (fun H _ => zn Z Z) Z ?_;refine yF (F := []) (s := none) Z (fun H _ => zA Z Z cM) Z ?_;refine yF Z (zd Z Z Z bC Z Z) Z<|zK Z ?_;refine yF (F := []) (s := none) Z (fun H _ => zn Z Z) Z ?_;refine yF (F := []) (s := none) Z (fun H _ => zA Z Z ar) Z ?_;refine yF (F := []) (s := none) Z (fun H _ => zA Z Z gK) Z ?_;refine yF Z (zd Z Z Z bC Z Z) Z<|yF Z (zd Z Z Z cH Z Z) Z<|zK Z ?_;refine yF (F := []) (s := none) Z (fun H _ => zn Z Z) Z ?_;refine yF (F := []) (s := none) Z (fun H _ => zA Z Z ar) Z ?_;refine yF (F := []) (s := none) Z (fun H _ => zA Z Z ce) Z ?_;refine yF Z (zd Z Z Z aT Z Z) Z ?_;refine yF (F := []) (s := none) Z (fun H _ => ab.build Z Cc Z Z Z) Z ?_;obtain ⟨v4, h_v4, hr⟩ := zB hr;refine yF (F := []) (s := none) Z (fun H _ => zC Z Z Z (by kernel_rfl) (zp (Ch h_v4) (.cons zv .nil))) Z ?_;refine yF (F := []) (s := none) Z (fun H _ => mD Z ca Z Z Z Z Z) Z ?_;refine yF (F := []) (s := none) Z (fun H _ => zn Z Z) Z ?_;refine yF (F := []) (s := none) Z (fun H _ => zA Z Z mW) Z ?_;refine yF Z (zt Z Z Z Z bT Z Z Z) Z ?_;refine LF.nil ⟨by kernel_rfl, ?_⟩;refine zT<|zR<|zM Z<|yS Z (zD Z Z Z cH Z Z)<|zb hr fun v5 h_v5 hr => yS Z (zC Z Z Z (by kernel_rfl) (zp (Fm h_v5) (.cons zv .nil)))<|zb hr fun v6 h_v6 hr => yS Z (zC Z Z Z (by kernel_rfl) (LC.pre (pq (x := Nd.mk x.No x.Tick v2.2.1 v2.1 [] x.C v2.2.2) (o := o) (tl := [v4]) h_v6) Z Z Z))<|zN ?_;obtain rfl := zJ hr;exact ey (env' := []) (H' := [.box (bB c0), .box (ne n0), .box (de in0), .box nC, .box [(iQ x.No), (iQ x.Tick), (kB v6.2.1.B), (kV v6.2.1.V), (kB v2.1.B), (kV v2.1.V), (jO 5 o), (uQ x.C.ID.1), (uQ x.C.ID.2), (iQ x.C.Slot), (iQ x.C.Revoked), (bQ v6.2.2), (kI c.W), (uQ c.Seed), (iQ c.Epoch), (iQ c.Num), (iQ c.Den), (iQ slot), .p (.slice 9 ([v4].map dP))], .vec 9 (o.map dP)]) (zW 6 trivial Z Z Z Z) .none<|⟨rfl, rfl⟩
structure cQ where
 t11 : Int
 w_2 : List Bk
 w_3 : List Vt
 w_4 : List Bk
 w_5 : List Vt
 w_11 : Bool
def fr (o : List Of) (c : Cf) (slot : Int) (x1 : cQ) : Option (cQ ⊕ cQ) :=
 bif decide (x1.t11 < (o.length : Int)) then
  (ix o x1.t11).bind fun y1 =>
  (rI y1.B).bind fun v2 =>
  (xL y1.V v2).bind fun v3 =>
  (kq v3 c slot (Vw.mk x1.w_2 x1.w_3) x1.w_11).bind fun v4 =>
  (xL (Vw.mk x1.w_4 x1.w_5) v4.1).bind fun v5 =>
  some (.inl (cQ.mk (IntKind.i64.wrap (x1.t11 + 1)) v4.2.1.B v4.2.1.V v5.B v5.V v4.2.2))
 else
  some (.inr (cQ.mk x1.t11 x1.w_2 x1.w_3 x1.w_4 x1.w_5 x1.w_11))
def lj (x : Nd) (o : List Of) (c : Cf) (slot : Int) : Option (Vw × Vw × Bool) :=
 (iter (fr o c slot) bG (cQ.mk 0 x.V.B x.V.V x.In.B x.In.V x.Full)).bind fun v1 =>
 (F4 c slot x.No).bind fun v6 =>
 bif v6 then
  (iK c (Vw.mk v1.w_2 v1.w_3) (IntKind.i64.wrap (slot - 1))).bind fun v7 =>
  (xL (Vw.mk v1.w_4 v1.w_5) (Vw.mk [] [Vt.mk x.No slot v7])).bind fun v8 =>
  some (Vw.mk v1.w_2 v1.w_3, v8, v1.w_11)
 else
  some (Vw.mk v1.w_2 v1.w_3, Vw.mk v1.w_4 v1.w_5, v1.w_11)
theorem Cn {x : Nd} {o : List Of} {c : Cf} {slot : Int} {tl : List Of} {c0 : Cf} {n0 : Nd} {in0 : Vw} {r_ : Vw × Vw × Bool} (hr : lj x o c slot = some r_) : LC Tryz.prog 100 [.ptr 4 0] [.box (bB c0), .box (ne n0), .box (de in0), .box nC, .box [(iQ x.No), (iQ x.Tick), (kB x.V.B), (kV x.V.V), (kB x.In.B), (kV x.In.V), (jO 5 o), (uQ x.C.ID.1), (uQ x.C.ID.2), (iQ x.C.Slot), (iQ x.C.Revoked), (bQ x.Full), (kI c.W), (uQ c.Seed), (iQ c.Epoch), (iQ c.Num), (iQ c.Den), (iQ slot), (kO tl)], .vec 9 (o.map dP)] (Is (.tup []) [.box (bB c0), .box (ne n0), .box (de in0), .box nC, .box [(iQ x.No), (iQ x.Tick), (kB r_.1.B), (kV r_.1.V), (kB r_.2.1.B), (kV r_.2.1.V), (kO ([] : List Of)), (uQ x.C.ID.1), (uQ x.C.ID.2), (iQ x.C.Slot), (iQ x.C.Revoked), (bQ r_.2.2), (kI c.W), (uQ c.Seed), (iQ c.Epoch), (iQ c.Num), (iQ c.Den), (iQ slot), (kO tl)], .vec 9 (o.map dP)]) := by
 refine dc Tryz.func100 Z Z Z ?_;unfold lj at hr;refine zQ<|zQ<|zR<|zM Z<|yS Z (zn Z Z)<|yS Z (zA Z Z ar)<|yS Z (zA Z Z cL)<|yS Z (zD Z Z Z bT Z Z)<|yS Z (ab.lenVM Z Z Z (by kernel_rfl))<|zM Z<|zN<|zT ?_;obtain ⟨v1, hb_v1, ho_v1⟩ := zB hr;clear hr;refine LW.tail (E := [(0, .ptr 4 0)]) (O := [.box (bB c0), .box (ne n0), .box (de in0), .box nC, .box [(iQ x.No), (iQ x.Tick), (kB v1.w_2), (kV v1.w_3), (kB v1.w_4), (kV v1.w_5), (jO 5 o), (uQ x.C.ID.1), (uQ x.C.ID.2), (iQ x.C.Slot), (iQ x.C.Revoked), (bQ v1.w_11), (kI c.W), (uQ c.Seed), (iQ c.Epoch), (iQ c.Num), (iQ c.Den), (iQ slot), (kO tl)], .vec 9 (o.map dP)]) ?_<|fun env_v1 H_v1 hw_v1 => ?_
 ·refine LW.block ?_;refine LW.iterB (E := fun x1 : cQ => [(0, .ptr 4 0), (9, (jO 5 o)), (10, .p (.int .i64 (o.length : Int))), (11, (iQ x1.t11))]) (O := fun x1 => [.box (bB c0), .box (ne n0), .box (de in0), .box nC, .box [(iQ x.No), (iQ x.Tick), (kB x1.w_2), (kV x1.w_3), (kB x1.w_4), (kV x1.w_5), (jO 5 o), (uQ x.C.ID.1), (uQ x.C.ID.2), (iQ x.C.Slot), (iQ x.C.Revoked), (bQ x1.w_11), (kI c.W), (uQ c.Seed), (iQ c.Epoch), (iQ c.Num), (iQ c.Den), (iQ slot), (kO tl)], .vec 9 (o.map dP)]) hb_v1 (zW 6 ⟨rfl, rfl, rfl, rfl, trivial⟩ Z Z Z Z)<|fun x1 z_x1 hr hb_x1 => ?_;unfold fr at hr;refine zQ<|zR<|yS Z (aw Z Z Z Z)<|zN<|zT<|zQ ?_;refine zX Z (fun g1 => ?_)<|fun g1 => ?_
  ·
   refine zi g1 hr fun hr => zk<|zT<|zQ<|zl<|zQ<|zR<|zb hr fun y1 h_y1 hr => yS Z (ab.indexAddrVX Z Z Z Z ca h_y1)<|yS Z (ab.loadVX Z Z Z f4 h_y1 Z Z Z Z)<|yS Z (ze Z rm Z Z)<|yS Z (zs Z Z Z Z f4 Z Z Z Z)<|zN<|zT ?_;refine LW.drawWJ (z := 4) (e := 18) (J := (fun o_ => ∃ a_ b_ c_ : LV, o_ = .box [(iQ x.No), (iQ x.Tick), a_, b_, (kB x1.w_4), (kV x1.w_5), (jO 5 o), (uQ x.C.ID.1), (uQ x.C.ID.2), (iQ x.C.Slot), (iQ x.C.Revoked), c_, (kI c.W), (uQ c.Seed), (iQ c.Epoch), (iQ c.Num), (iQ c.Den), (iQ slot), (kO tl)])) (by kernel_rfl) (by kernel_rfl) (fun o_ h_ => ⟨_, _, _, (zJ h_).symm⟩) ?_;refine iC.mv Z<|iC.mv Z ?_;refine iC.st (F := []) (s := none) Z Z Z (fun H _ => ab.nilCheck Z Z) (fun _ => trivial) Z ?_;refine iC.st (F := []) (s := none) Z Z Z (fun H _ => zA Z Z ar) (fun _ => trivial) Z ?_;refine iC.st (F := []) (s := none) Z Z Z (fun H _ => zA Z Z cg) (fun _ => trivial) Z ?_;refine iC.look Z Z Z (by kernel_rfl) Z (fun H_ y_ hy_ hj_ => by obtain ⟨a_, b_, c_, rfl⟩ := hj_; exact zD Z Z hy_ aT Z Z) ?_;refine iC.mv Z ?_;refine iC.st (F := []) (s := none) Z Z Z (fun H _ => zA Z Z jb) (fun _ => trivial) Z ?_;refine iC.st Z Z Z (bJ.load Z Z Z aT Z Z) (fun _ => trivial) Z ?_;refine iC.st (F := []) (s := none) Z Z Z (fun H _ => zA Z Z qt) (fun _ => trivial) Z ?_;refine iC.st Z Z Z (bJ.load Z Z Z cH Z Z) (fun _ => trivial) Z ?_;obtain ⟨v2, h_v2, hr⟩ := zB hr;refine iC.st (F := []) (s := none) Z Z Z (fun H _ => zC Z Z Z (by kernel_rfl) (zp (Fm h_v2) (.cons zv .nil))) (fun _ => trivial) Z ?_;obtain ⟨v3, h_v3, hr⟩ := zB hr;refine iC.st (F := []) (s := none) Z Z Z (fun H _ => zC Z Z Z (by kernel_rfl) (zp (DM h_v3) (.cons zv (.cons zv .nil)))) (fun _ => trivial) Z ?_;obtain ⟨v4, h_v4, hr⟩ := zB hr;refine iC.st Z Z Z (bJ.preH (s := some (4, .box [(iQ x.No), (iQ x.Tick), (kB v4.2.1.B), (kV v4.2.1.V), (kB x1.w_4), (kV x1.w_5), (jO 5 o), (uQ x.C.ID.1), (uQ x.C.ID.2), (iQ x.C.Slot), (iQ x.C.Revoked), (bQ v4.2.2), (kI c.W), (uQ c.Seed), (iQ c.Epoch), (iQ c.Num), (iQ c.Den), (iQ slot), (kO tl)])) (fun _ => zC Z Z Z (by kernel_rfl) (LC.pre (pq (x := Nd.mk x.No x.Tick (Vw.mk x1.w_2 x1.w_3) (Vw.mk x1.w_4 x1.w_5) [] x.C x1.w_11) (o := o) (tl := tl) h_v4) Z Z Z)) Z Z Z Z) (fun _ _ => ⟨_, _, _, rfl⟩) Z ?_;obtain ⟨v5, h_v5, hr⟩ := zB hr;refine iC.st (F := []) (s := none) Z Z Z (fun H _ => zC Z Z Z (by kernel_rfl) (zp (DM h_v5) (.cons zv (.cons zv .nil)))) (fun _ => trivial) Z ?_;refine iC.st (F := []) (s := none) Z Z Z (fun H _ => ab.nilCheck Z Z) (fun _ => trivial) Z ?_;refine iC.st (F := []) (s := none) Z Z Z (fun H _ => zA Z Z ar) (fun _ => trivial) Z ?_;refine iC.st (F := []) (s := none) Z Z Z (fun H _ => zA Z Z cg) (fun _ => trivial) Z ?_;refine iC.st Z Z Z (bJ.store Z Z Z Z aT Z Z Z) (fun h => absurd h (by decide)) Z ?_;refine iC.nil ⟨by kernel_rfl, ?_⟩;refine ai<|zT<|zR<|yS Z (aw Z Z Z Z)<|zM Z<|zN<|zT ?_;obtain rfl := zJ hr;exact ⟨_, rfl, zW 6 ⟨rfl, rfl, rfl, rfl, trivial⟩ Z Z Z rfl⟩
  ·
   refine zo g1 hr fun hr => zq<|ao<|ao<|zy<|zT ?_;obtain rfl := zJ hr;have hr := congrArg some (hb_x1 _ rfl);obtain rfl := zJ hr;exact zW 6 ⟨Z, trivial⟩ Z Z Z Z
 ·have hr := ho_v1;clear hb_v1;refine zT<|LW.weak hw_v1<|zQ<|zR<|zM Z<|yS Z (zn Z Z)<|yS Z (zA Z Z ar)<|yS Z (zA Z Z cL)<|yS Z (zs Z Z Z Z bT Z Z Z Z)<|zN<|zT<|zQ<|LW.ent (bM.zsCell (i := 4) (j := 6) (m := 9) Z Z Z Z)<|LW.draw2 (by kernel_rfl) (by kernel_rfl)<|zH Z<|yE Z (zn Z Z)<|yE Z (zA Z Z gL)<|yE Z (zD Z Z Z bE Z Z)<|zH Z<|yE Z (zn Z Z)<|yE Z (zA Z Z cM)<|yE Z (zD Z Z Z bC Z Z)<|zH Z<|yE Z (zn Z Z) ?_;refine yE Z (zA Z Z ar)<|yE Z (zA Z Z gK)<|yE Z (zD Z Z Z bC Z Z)<|zb hr fun v6 h_v6 hr => yE Z (zC Z Z Z (by kernel_rfl) (zp (KT h_v6) (.cons zv (.cons zv (.cons zv .nil)))))<|LO.nil<|zT ?_;refine zX Z (fun g2 => ?_)<|fun g2 => ?_
  ·
   refine zi g2 hr fun hr => zQ<|LW.ent (bM.slot Z)<|LW.drawW (by kernel_rfl) (by kernel_rfl)<|zK Z ?_;refine yF (F := []) (s := none) Z (fun H _ => zn Z Z) Z ?_;refine yF (F := []) (s := none) Z (fun H _ => zA Z Z ar) Z ?_;refine yF (F := []) (s := none) Z (fun H _ => zA Z Z gK) Z ?_;refine yF Z (zd Z Z Z bC Z Z) Z<|zK Z ?_;refine yF (F := []) (s := none) Z (fun H _ => zn Z Z) Z ?_;refine yF (F := []) (s := none) Z (fun H _ => zA Z Z cM) Z ?_;refine yF Z (zd Z Z Z bC Z Z) Z<|zK Z<|zK Z ?_;refine yF (F := []) (s := none) Z (fun H _ => zn Z Z) Z ?_;refine yF (F := []) (s := none) Z (fun H _ => zA Z Z cM) Z ?_;refine yF Z (zd Z Z Z bC Z Z) Z ?_;refine yF (F := []) (s := none) Z (fun H _ => aw Z Z Z Z) Z ?_;obtain ⟨v7, h_v7, hr⟩ := zB hr;refine yF Z (bJ.preH (s := none) (fun _ => zC Z Z Z (by kernel_rfl) (LC.pre (uF (x := Nd.mk x.No x.Tick (Vw.mk v1.w_2 v1.w_3) (Vw.mk v1.w_4 v1.w_5) [] x.C v1.w_11) (o := o) (tl := tl) (sM h_v7)) Z Z Z)) Z Z Z Z) Z ?_;refine yF (F := []) (s := none) Z (fun H _ => ab.build Z Gs Z Z Z) Z ?_;refine yF Z (bJ.alloc Z rC (id := 6) Z) Z<|yF Z (zt Z Z Z Z cB Z Z Z) Z ?_;refine LF.nil ⟨by kernel_rfl, ?_⟩;refine zT<|LW.drawW (by kernel_rfl) (by kernel_rfl)<|zK Z<|zK Z ?_;refine yF (F := []) (s := none) Z (fun H _ => zn Z Z) Z ?_;refine yF (F := []) (s := none) Z (fun H _ => zA Z Z ar) Z ?_;refine yF (F := []) (s := none) Z (fun H _ => zA Z Z cg) Z ?_;refine yF Z (zd Z Z Z aT Z Z) Z<|yF Z (zd Z Z Z cB Z Z) Z ?_;refine yF (F := []) (s := none) Z (fun H _ => mD Z dF Z Z Z Z Z) Z ?_;refine yF (F := []) (s := none) Z (fun H _ => ab.build Z nS Z Z Z) Z ?_;obtain ⟨v8, h_v8, hr⟩ := zB hr;refine yF (F := []) (s := none) Z (fun H _ => zC Z Z Z (by kernel_rfl) (zp (DM h_v8) (.cons zv (.cons (Conv.agg (.cons Conv.zs (.cons zv .nil))) .nil)))) Z ?_;refine yF (F := []) (s := none) Z (fun H _ => zn Z Z) Z ?_;refine yF (F := []) (s := none) Z (fun H _ => zA Z Z ar) Z ?_;refine yF (F := []) (s := none) Z (fun H _ => zA Z Z cg) Z ?_;refine yF Z (zt Z Z Z Z aT Z Z Z) Z ?_;refine LF.nil ⟨by kernel_rfl, ?_⟩;obtain rfl := zJ hr;exact ey (env' := []) (H' := [.box (bB c0), .box (ne n0), .box (de in0), .box nC, .box [(iQ x.No), (iQ x.Tick), (kB v1.w_2), (kV v1.w_3), (kB v8.B), (kV v8.V), (kO ([] : List Of)), (uQ x.C.ID.1), (uQ x.C.ID.2), (iQ x.C.Slot), (iQ x.C.Revoked), (bQ v1.w_11), (kI c.W), (uQ c.Seed), (iQ c.Epoch), (iQ c.Num), (iQ c.Den), (iQ slot), (kO tl)], .vec 9 (o.map dP)]) (zW 6 trivial Z Z Z Z) .none<|⟨rfl, rfl⟩
  ·
   refine zo g2 hr fun hr => LW.skip ?_;obtain rfl := zJ hr;exact gh .none<|⟨rfl, rfl⟩
def lW (x : Nd) (c : Cf) (slot : Int) : Option (Vw × Vw × Cu × Bool) :=
 (kq x.In c slot x.V x.Full).bind fun v1 =>
 (iK c v1.2.1 slot).bind fun v2 =>
 (rJ c v1.2.1 slot v2).bind fun v3 =>
 bif few v1.2.1.B then
  some (v1.2.1, v1.1, eN x.C v1.2.1.B v2 v3.1 v3.2 slot, v1.2.2)
 else none
theorem ED {x : Nd} {o : List Of} {c : Cf} {slot : Int} {tl : List Of} {c0 : Cf} {n0 : Nd} {in0 : Vw} {r_ : Vw × Vw × Cu × Bool} (hr : lW x c slot = some r_) : LC Tryz.prog 101 [.ptr 4 0] [.box (bB c0), .box (ne n0), .box (de in0), .box nC, .box [(iQ x.No), (iQ x.Tick), (kB x.V.B), (kV x.V.V), (kB x.In.B), (kV x.In.V), (jO 5 o), (uQ x.C.ID.1), (uQ x.C.ID.2), (iQ x.C.Slot), (iQ x.C.Revoked), (bQ x.Full), (kI c.W), (uQ c.Seed), (iQ c.Epoch), (iQ c.Num), (iQ c.Den), (iQ slot), (kO tl)], .vec 9 (o.map dP)] (Is (.tup []) [.box (bB c0), .box (ne n0), .box (de in0), .box nC, .box [(iQ x.No), (iQ x.Tick), (kB r_.1.B), (kV r_.1.V), (kB r_.2.1.B), (kV r_.2.1.V), (kO ([] : List Of)), (uQ r_.2.2.1.ID.1), (uQ r_.2.2.1.ID.2), (iQ r_.2.2.1.Slot), (iQ r_.2.2.1.Revoked), (bQ r_.2.2.2), (kI c.W), (uQ c.Seed), (iQ c.Epoch), (iQ c.Num), (iQ c.Den), (iQ slot), (kO tl)], .vec 9 (o.map dP)]) := by
 refine dc Tryz.func101 Z Z Z ?_;unfold lW at hr;refine zQ<|zR<|zM Z<|zM Z<|zM Z<|yS Z (zn Z Z)<|yS Z (zA Z Z ar)<|yS Z (zA Z Z cg)<|yS Z (zD Z Z Z aT Z Z)<|zb hr fun v1 h_v1 hr => yS Z (zC Z Z Z (by kernel_rfl) (pq (x := Nd.mk x.No x.Tick x.V x.In [] x.C x.Full) (o := o) (tl := tl) h_v1))<|yS Z (zn Z Z)<|yS Z (zA Z Z ar)<|yS Z (zA Z Z cg)<|yS Z (zs Z Z Z Z aT Z Z Z Z)<|zN<|zT<|zQ<|zR<|zM Z<|yS Z (zn Z Z)<|yS Z (zA Z Z ar)<|yS Z (zA Z Z cL)<|yS Z (zs Z Z Z Z bT Z Z Z Z) ?_;refine zN<|zT<|zQ<|LW.ent (bM.zsCell (i := 4) (j := 6) (m := 9) Z Z Z Z)<|zR<|zM Z<|zM Z<|yS Z (zn Z Z)<|yS Z (zA Z Z cM)<|yS Z (zD Z Z Z bC Z Z)<|zb hr fun v2 h_v2 hr => yS Z (zC Z Z Z (by kernel_rfl) (uF (x := Nd.mk x.No x.Tick v1.2.1 v1.1 [] x.C v1.2.2) (o := o) (tl := tl) (sM h_v2)))<|yS Z (ze Z jo Z Z)<|yS Z (zs Z Z Z Z aR Z Z Z Z)<|zN<|zT<|zQ<|LW.ent (bM.slot Z)<|LW.drawW (by kernel_rfl) (by kernel_rfl)<|zK Z ?_;refine yF (F := []) (s := none) Z (fun H _ => zn Z Z) Z ?_;refine yF (F := []) (s := none) Z (fun H _ => zA Z Z gL) Z ?_;refine yF Z (zd Z Z Z bE Z Z) Z<|zK Z ?_;refine yF (F := []) (s := none) Z (fun H _ => zn Z Z) Z ?_;refine yF (F := []) (s := none) Z (fun H _ => zA Z Z ar) Z ?_;refine yF (F := []) (s := none) Z (fun H _ => zA Z Z ce) Z ?_;refine yF Z (zd Z Z Z aT Z Z) Z<|zK Z ?_;refine yF (F := []) (s := none) Z (fun H _ => zn Z Z) Z ?_;refine yF (F := []) (s := none) Z (fun H _ => zA Z Z cM) Z ?_;refine yF Z (zd Z Z Z bC Z Z) Z<|yF Z (zd Z Z Z aR Z Z) Z<|zb hr fun v3 h_v3 hr => ?_;refine yF (F := []) (s := none) Z (fun H _ => zC Z Z Z (by kernel_rfl) (zp (Iu h_v3) (.cons zv (.cons zv (.cons zv (.cons zv .nil)))))) Z ?_;refine zK Z ?_;refine yF (F := []) (s := none) Z (fun H _ => fA Z Z Z) Z ?_;refine yF (F := []) (s := none) Z (fun H _ => fA Z Z Z) Z ?_;refine yF Z (bJ.alloc Z jo (id := 7) Z) Z<|yF Z (zt Z Z Z Z aR Z Z Z) Z<|zK Z ?_;refine LF.nil ⟨by kernel_rfl, ?_⟩;refine zT<|LW.drawW (by kernel_rfl) (by kernel_rfl)<|zK Z<|zK Z ?_;refine yF (F := []) (s := none) Z (fun H _ => zn Z Z) Z ?_;refine yF (F := []) (s := none) Z (fun H _ => zA Z Z ar) Z ?_;refine yF (F := []) (s := none) Z (fun H _ => zA Z Z qr) Z ?_;refine yF Z (zd Z Z Z jX Z Z) Z<|zK Z ?_;refine yF (F := []) (s := none) Z (fun H _ => zn Z Z) Z ?_;refine yF (F := []) (s := none) Z (fun H _ => zA Z Z ar) Z ?_;refine yF (F := []) (s := none) Z (fun H _ => zA Z Z ce) Z ?_;refine yF (F := []) (s := none) Z (fun H _ => zA Z Z bD) Z ?_;refine yF Z (zd Z Z Z dE Z Z) Z<|yF Z (zd Z Z Z aR Z Z) Z<|yF Z (zd Z Z Z aR Z Z) Z<|zK Z<|zK Z ?_;refine yF (F := []) (s := none) Z (fun H _ => zn Z Z) Z ?_;refine yF (F := []) (s := none) Z (fun H _ => zA Z Z cM) Z ?_;refine yF Z (zd Z Z Z bC Z Z) Z<|zg hr fun q1 hr => ?_;refine yF (F := []) (s := none) Z (fun H _ => zC Z Z Z (by kernel_rfl) (zp (Lm (c := x.C) (l := v1.2.1.B) (head := v2) (found := v3.1) (is := v3.2) (slot := slot) (tf q1)) (.cons zv (.cons zv (.cons zv (.cons zv (.cons zv (.cons zv .nil)))))))) Z ?_;refine yF (F := []) (s := none) Z (fun H _ => zn Z Z) Z ?_;refine yF (F := []) (s := none) Z (fun H _ => zA Z Z ar) Z ?_;refine yF (F := []) (s := none) Z (fun H _ => zA Z Z qr) Z ?_;refine yF Z (zt Z Z Z Z jX Z Z Z) Z ?_;refine LF.nil ⟨by kernel_rfl, ?_⟩;obtain rfl := zJ hr;refine ey (env' := []) (H' := [.box (bB c0), .box (ne n0), .box (de in0), .box nC, .box [(iQ x.No), (iQ x.Tick), (kB v1.2.1.B), (kV v1.2.1.V), (kB v1.1.B), (kV v1.1.V), (kO ([] : List Of)), .p (.int .u64 (((eN x.C v1.2.1.B v2 v3.1 v3.2 slot).ID).1)), .p (.int .u64 (((eN x.C v1.2.1.B v2 v3.1 v3.2 slot).ID).2)), .p (.int .i64 ((eN x.C v1.2.1.B v2 v3.1 v3.2 slot).Slot)), .p (.int .i64 ((eN x.C v1.2.1.B v2 v3.1 v3.2 slot).Revoked)), (bQ v1.2.2), (kI c.W), (uQ c.Seed), (iQ c.Epoch), (iQ c.Num), (iQ c.Den), (iQ slot), (kO tl)], .vec 9 (o.map dP)]) (zW 6 trivial Z Z Z Z) .none ?_
 exact ⟨rfl, rfl⟩
open Go.Proofs
theorem xU {b : Bool} {p : Prop} (h1 : b = true → p) (h2 : b = false → p) : p := by cases b <;> simp_all
theorem tE {a b : Int} (h : (a == b) = true) : LV.p (.int .i64 a) = (iQ b) := by rw [eq_of_beq h]
structure dH where
 t57 : Int
 o5 : List Of
def iR (n : Nd) (x1 : dH) : Option (dH ⊕ dH) :=
 bif decide (x1.t57 < (n.O.length : Int)) then
  (ix n.O x1.t57).bind fun y1 =>
  (pL y1).bind fun v6 =>
  bif room x1.o5.length [v6].length 104 then
   some (.inl (dH.mk (IntKind.i64.wrap (x1.t57 + 1)) (x1.o5 ++ [v6])))
  else none
 else
  some (.inr (dH.mk x1.t57 x1.o5))
def iP (c : Cf) (n : Nd) (v_in : Vw) (o : List Of) : Option (Nd × (List Of)) :=
 (
  (yP c).bind fun v2 =>
  bif !v2 then
   some true
  else
   bif decide (n.Tick < 3) then
    some true
   else
    some (decide ((IntKind.i64.wrap (n.Tick.tdiv 3)) > 1048576))
 ).bind fun v1 =>
 bif v1 then
  (pJ n.V).bind fun v3 =>
  (pJ n.In).bind fun v4 =>
  (iter (iR n) bG (dH.mk 0 ([] : List Of))).bind fun v5 =>
  some (Nd.mk n.No n.Tick v3 v4 v5.o5 n.C n.Full, [])
 else
  (Hg c v_in).bind fun v7 =>
  (xL n.In v7).bind fun v8 =>
  (ut o (Nd.mk n.No n.Tick n.V v8 n.O n.C n.Full) c (IntKind.i64.wrap (n.Tick.tdiv 3))).bind fun v9 =>
  bif (n.Tick.tmod 3) == 0 then
   (nI (Nd.mk n.No n.Tick n.V v8 [] n.C v9.2) c (IntKind.i64.wrap (n.Tick.tdiv 3)) ([] : List Of)).bind fun v10 =>
   some (Nd.mk n.No (IntKind.i64.wrap (n.Tick + 1)) v10.1 v10.2.1 v9.1 n.C v10.2.2.1, v10.2.2.2)
  else
   bif (n.Tick.tmod 3) == 1 then
    (lj (Nd.mk n.No n.Tick n.V v8 [] n.C v9.2) v9.1 c (IntKind.i64.wrap (n.Tick.tdiv 3))).bind fun v11 =>
    some (Nd.mk n.No (IntKind.i64.wrap (n.Tick + 1)) v11.1 v11.2.1 [] n.C v11.2.2, [])
   else
    bif (n.Tick.tmod 3) == 2 then
     (lW (Nd.mk n.No n.Tick n.V v8 [] n.C v9.2) c (IntKind.i64.wrap (n.Tick.tdiv 3))).bind fun v12 =>
     some (Nd.mk n.No (IntKind.i64.wrap (n.Tick + 1)) v12.1 v12.2.1 [] v12.2.2.1 v12.2.2.2, [])
    else none
theorem Il {c : Cf} {n : Nd} {v_in : Vw} {o : List Of} {r_ : Nd × (List Of)} (hr : iP c n v_in o = some r_) : av Tryz.prog 53 [jx c, gk n, mA v_in, .slice 9 (o.map dP)] [gk r_.1, .slice 9 (r_.2.map dP)] := by
 refine zh Tryz.func53 Z Z Z Z ?_;unfold iP at hr;refine zQ<|zR<|yS Z (bV Z Z Z Z Z)<|yS Z (bV Z Z Z Z Z)<|yS Z (bV Z Z Z Z Z)<|yS Z (ze Z rl Z Z)<|zM Z<|zN<|zT<|zQ<|zR<|yS Z (zD Z Z Z co Z Z)<|yS Z (zD Z Z Z bE Z Z)<|yS Z (zA Z Z cX)<|yS Z (zD Z Z Z bC Z Z)<|yS Z (ab.quo Z Z Z (by decide))<|yS Z (ab.build Z Gn Z Z Z)<|yS Z (bV Z Z Z Z Z)<|zM Z<|zN<|zT<|zQ ?_;obtain ⟨v1, hb_v1, ho_v1⟩ := zB hr;clear hr;refine LW.cut (E := [(3, (kO o)), (4, .ptr 0 0), (5, .ptr 1 0), (6, .ptr 2 0), (8, .ptr 3 0), (9, .zs), (10, .ptr 4 0), (35, (bQ v1))]) (O := [.box (bB c), .box (ne n), .box (de v_in), .box nC, .box [(iQ n.No), (iQ n.Tick), (kB n.V.B), (kV n.V.V), (kB n.In.B), (kV n.In.V), (kO n.O), (uQ n.C.ID.1), (uQ n.C.ID.2), (iQ n.C.Slot), (iQ n.C.Revoked), (bQ n.Full), (kI c.W), (uQ c.Seed), (iQ c.Epoch), (iQ c.Num), (iQ c.Den), .p (.int .i64 (IntKind.i64.wrap (n.Tick.tdiv 3))), .zs]]) ?_ ?_
 ·have hr := hb_v1;refine zR<|yS Z (zD Z Z Z bE Z Z)<|zb hr fun v2 h_v2 hr => yS Z (zC Z Z Z (by kernel_rfl) (zp (Gv h_v2) (.cons zv .nil)))<|yS Z (ab.not Z Z)<|zM Z ?_;refine zc 24 Z (fun g1 => ?_)<|fun g1 => ?_
  ·
   refine zi g1 hr fun hr => yU Z (gd g1 Z) Z<|yU Z (gd g1 Z) Z<|yU Z (gd g1 Z) Z<|yS Z (eP Z (bL g1 Z) Z)<|zM Z<|yU Z Z Z<|yU Z Z Z<|yU Z Z Z<|yU Z Z Z<|yU Z Z Z<|yS Z (eP Z Z Z)<|zN<|zT ?_;obtain rfl := zJ hr;exact zW 5 ⟨Z, Z, Z, Z, Z, Z, Z, Z, trivial⟩ Z Z Z Z
  ·
   refine zo g1 hr fun hr => yV Z (gd g1 Z) (zA Z Z cX)<|yV Z (gd g1 Z) (zD Z Z Z bC Z Z)<|yV Z (gd g1 Z) (aw Z Z Z Z)<|yS Z (db Z (bL g1 Z) Z)<|zM Z ?_;refine zc 29 Z (fun g2 => ?_)<|fun g2 => ?_
   ·
    refine zi g2 hr fun hr => yU Z (gd g2 Z) Z<|yU Z (gd g2 Z) Z<|yU Z (gd g2 Z) Z<|yU Z (gd g2 Z) Z<|yU Z (gd g2 Z) Z<|yS Z (eP Z (bL g2 Z) Z)<|zN<|zT ?_;obtain rfl := zJ hr;exact zW 5 ⟨Z, Z, Z, Z, Z, Z, Z, Z, trivial⟩ Z Z Z Z
   ·
    refine zo g2 hr fun hr => yV Z (gd g2 Z) (zm Z Z)<|yV Z (gd g2 Z) (zn Z Z)<|yV Z (gd g2 Z) (zA Z Z cM)<|yV Z (gd g2 Z) (zD Z Z Z bC Z Z)<|yV Z (gd g2 Z) (aw Z Z Z Z)<|yS Z (db Z (bL g2 Z) Z)<|zN<|zT ?_;obtain rfl := zJ hr;exact zW 5 ⟨Z, Z, Z, Z, Z, Z, Z, Z, trivial⟩ Z Z Z Z
 ·have hr := ho_v1;clear hb_v1;refine zX Z (fun g3 => ?_)<|fun g3 => ?_
  ·
   refine zi g3 hr fun hr => zQ<|LW.drawW (by kernel_rfl) (by kernel_rfl)<|zK Z<|zK Z ?_;refine yF (F := []) (s := none) Z (fun H _ => zA Z Z ce) Z ?_;refine yF Z (zd Z Z Z aT Z Z) Z<|zb hr fun v3 h_v3 hr => ?_;refine yF (F := []) (s := none) Z (fun H _ => zC Z Z Z (by kernel_rfl) (zp (Cg h_v3) (.cons zv .nil))) Z ?_;refine yF (F := []) (s := none) Z (fun H _ => zA Z Z cg) Z ?_;refine yF Z (zd Z Z Z aT Z Z) Z<|zb hr fun v4 h_v4 hr => ?_;refine yF (F := []) (s := none) Z (fun H _ => zC Z Z Z (by kernel_rfl) (zp (Cg h_v4) (.cons zv .nil))) Z ?_;refine yF (F := []) (s := none) Z (fun H _ => zn Z Z) Z ?_;refine yF (F := []) (s := none) Z (fun H _ => zA Z Z ar) Z ?_;refine yF (F := []) (s := none) Z (fun H _ => zA Z Z ce) Z ?_;refine yF Z (zt Z Z Z Z aT Z Z Z) Z ?_;refine yF (F := []) (s := none) Z (fun H _ => zn Z Z) Z ?_;refine yF (F := []) (s := none) Z (fun H _ => zA Z Z ar) Z ?_;refine yF (F := []) (s := none) Z (fun H _ => zA Z Z cg) Z ?_;refine yF Z (zt Z Z Z Z aT Z Z Z) Z ?_;refine LF.nil ⟨by kernel_rfl, ?_⟩;refine zT<|zQ<|zR<|zM Z<|yS Z (zn Z Z)<|yS Z (zA Z Z ar)<|yS Z (zA Z Z cL)<|yS Z (zs Z Z Z Z bT Z Z Z Z)<|zN<|zT<|zQ<|zQ<|LW.ent (bM.lazyCell (i := 4) (j := 6) (m := 9) Z Z Z Z Z Z)<|zR<|yS Z (zA Z Z cL)<|yS Z (zD Z Z Z bT Z Z)<|yS Z (dT Z Z (by kernel_rfl))<|zM Z<|zN<|zT ?_;obtain ⟨v5, hb_v5, ho_v5⟩ := zB hr;clear hr;refine LW.tail (E := [(3, (kO o)), (4, .ptr 0 0), (5, .ptr 1 0), (6, .ptr 2 0), (8, .ptr 3 0), (9, .zs), (10, .ptr 4 0)]) (O := [.box (bB c), .box (ne n), .box (de v_in), .box nC, .box [(iQ n.No), (iQ n.Tick), (kB v3.B), (kV v3.V), (kB v4.B), (kV v4.V), (jO 5 v5.o5), (uQ n.C.ID.1), (uQ n.C.ID.2), (iQ n.C.Slot), (iQ n.C.Revoked), (bQ n.Full), (kI c.W), (uQ c.Seed), (iQ c.Epoch), (iQ c.Num), (iQ c.Den), .p (.int .i64 (IntKind.i64.wrap (n.Tick.tdiv 3))), .zs], .vec 9 (v5.o5.map dP)]) ?_<|fun env_v5 H_v5 hw_v5 => ?_
   ·refine LW.block ?_;refine LW.iterB (E := fun x1 : dH => [(3, (kO o)), (4, .ptr 0 0), (5, .ptr 1 0), (6, .ptr 2 0), (8, .ptr 3 0), (9, .zs), (10, .ptr 4 0), (55, (kO n.O)), (56, .p (.int .i64 (n.O.length : Int))), (57, (iQ x1.t57))]) (O := fun x1 => [.box (bB c), .box (ne n), .box (de v_in), .box nC, .box [(iQ n.No), (iQ n.Tick), (kB v3.B), (kV v3.V), (kB v4.B), (kV v4.V), (jO 5 x1.o5), (uQ n.C.ID.1), (uQ n.C.ID.2), (iQ n.C.Slot), (iQ n.C.Revoked), (bQ n.Full), (kI c.W), (uQ c.Seed), (iQ c.Epoch), (iQ c.Num), (iQ c.Den), .p (.int .i64 (IntKind.i64.wrap (n.Tick.tdiv 3))), .zs], .vec 9 (x1.o5.map dP)]) hb_v5 (zW 6 ⟨rfl, rfl, rfl, rfl, rfl, rfl, rfl, rfl, rfl, rfl, trivial⟩ Z Z Z Z)<|fun x1 z_x1 hr hb_x1 => ?_;unfold iR at hr;refine zQ<|zR<|yS Z (aw Z Z Z Z)<|zN<|zT<|zQ ?_;refine zX Z (fun g4 => ?_)<|fun g4 => ?_
    ·
     refine zi g4 hr fun hr => zk<|zT<|zQ<|zl<|zQ<|zR<|zb hr fun y1 h_y1 hr => yS Z (zx Z Z Z ca h_y1 Z)<|yS Z (dS Z Z Z f4 Z Z)<|yS Z (ze Z rm Z Z)<|yS Z (zs Z Z Z Z f4 Z Z Z Z)<|zN<|zT<|LW.drawW (by kernel_rfl) (by kernel_rfl)<|zK Z<|zK Z ?_;refine yF (F := []) (s := none) Z (fun H _ => zn Z Z) Z ?_;refine yF (F := []) (s := none) Z (fun H _ => zA Z Z ar) Z ?_;refine yF (F := []) (s := none) Z (fun H _ => zA Z Z cL) Z ?_;refine yF Z (zd Z Z Z bT Z Z) Z<|yF Z (zd Z Z Z f4 Z Z) Z<|zb hr fun v6 h_v6 hr => ?_;refine yF (F := []) (s := none) Z (fun H _ => zC Z Z Z (by kernel_rfl) (zp (Ch h_v6) (.cons zv .nil))) Z ?_;refine yF (F := []) (s := none) Z (fun H _ => mD Z ca Z Z Z Z Z) Z ?_;refine zg hr fun q1 hr => yF Z (bJ.appendX dP x1.o5 [v6] rfl Z Z Z Z ca q1) Z ?_;refine yF (F := []) (s := none) Z (fun H _ => zn Z Z) Z ?_;refine yF (F := []) (s := none) Z (fun H _ => zA Z Z ar) Z ?_;refine yF (F := []) (s := none) Z (fun H _ => zA Z Z cL) Z ?_;refine yF Z (zt Z Z Z Z bT Z Z Z) Z ?_;refine LF.nil ⟨by kernel_rfl, ?_⟩;refine ai<|zT<|zR<|yS Z (aw Z Z Z Z)<|zM Z<|zN<|zT ?_;obtain rfl := zJ hr;exact ⟨_, rfl, zW 6 ⟨rfl, rfl, rfl, rfl, rfl, rfl, rfl, rfl, rfl, rfl, trivial⟩ Z Z Z rfl⟩
    ·
     refine zo g4 hr fun hr => zq<|ao<|ao<|zy<|zT ?_;obtain rfl := zJ hr;have hr := congrArg some (hb_x1 _ rfl);obtain rfl := zJ hr;exact zW 6 ⟨Z, Z, Z, Z, Z, Z, Z, trivial⟩ Z Z Z Z
   ·have hr := ho_v5;clear hb_v5;refine zT<|LW.weak hw_v5<|zQ<|zR<|zM Z<|yS Z (zn Z Z)<|yS Z (zA Z Z ar)<|yS Z (zD Z Z Z co Z Z)<|yS Z (zs Z Z Z Z co Z Z Z Z)<|zM Z<|zN<|zT<|zr<|aj ?_;obtain rfl := zJ hr;exact zf (.two (.cellAgg Z Z (by kernel_rfl) Z) (.tmp Z))<|⟨_, rfl, (.cons (Conv.agg (.cons zv (.cons zv (.cons zv (.cons zv (.cons zv (.cons zv (.cons (Conv.vecAll Z Z Z) (.cons zv (.cons zv (.cons zv (.cons zv (.cons zv .nil))))))))))))) (.cons Conv.zs .nil))⟩
  ·
   refine zo g3 hr fun hr => zk<|zT<|zQ<|LW.drawW (by kernel_rfl) (by kernel_rfl)<|zK Z ?_;refine yF (F := []) (s := none) Z (fun H _ => zA Z Z cg) Z ?_;refine yF Z (zd Z Z Z aT Z Z) Z<|yF Z (zd Z Z Z bE Z Z) Z<|yF Z (zd Z Z Z aT Z Z) Z<|zb hr fun v7 h_v7 hr => ?_;refine yF (F := []) (s := none) Z (fun H _ => zC Z Z Z (by kernel_rfl) (zp (Le h_v7) (.cons zv (.cons zv .nil)))) Z ?_;obtain ⟨v8, h_v8, hr⟩ := zB hr;refine yF (F := []) (s := none) Z (fun H _ => zC Z Z Z (by kernel_rfl) (zp (DM h_v8) (.cons zv (.cons zv .nil)))) Z ?_;refine yF (F := []) (s := none) Z (fun H _ => zn Z Z) Z ?_;refine yF (F := []) (s := none) Z (fun H _ => zA Z Z ar) Z ?_;refine yF (F := []) (s := none) Z (fun H _ => zA Z Z cg) Z ?_;refine yF Z (zt Z Z Z Z aT Z Z Z) Z ?_;refine LF.nil ⟨by kernel_rfl, ?_⟩;refine zT<|zQ<|LW.ent (bM.zsCell (i := 4) (j := 18) (m := 9) Z Z Z Z)<|zR<|zM Z<|zM Z<|zb hr fun v9 h_v9 hr => yS Z (zC Z Z Z (by kernel_rfl) (GK (x := Nd.mk n.No n.Tick n.V v8 n.O n.C n.Full) (tl := ([] : List Of)) h_v9))<|zN<|zT<|zQ<|zR<|yS Z (ab.build Z Gp Z Z Z)<|yS Z (ze Z He Z Z)<|yS Z (zs Z Z Z Z G7 Z Z Z Z)<|zN<|zT<|zQ ?_;refine xU (b := (n.Tick.tmod 3) == 0) (fun (g5 : ((n.Tick.tmod 3) == 0) = true) => ?_) (fun (g5 : ((n.Tick.tmod 3) == 0) = false) => ?_)
   ·
    refine zi g5 hr fun hr => zR<|yS Z (zA Z Z cX)<|yS Z (zD Z Z Z bC Z Z)<|yS Z (ab.isEq (y := (iQ 0)) (ab.rem Z Z Z (by decide)) (tE g5))<|yS Z (ab.indexAddrA Z Z Z wx (by decide) (by decide))<|yS Z (zD Z Z Z xj Z Z)<|zM Z<|zb hr fun v10 h_v10 hr => yS Z (zC Z Z Z (by kernel_rfl) (LC.pre (Ey (x := Nd.mk n.No n.Tick n.V v8 [] n.C v9.2) (o := v9.1) (tl := ([] : List Of)) h_v10) Z Z Z))<|zN<|zT<|zQ<|zR<|zM Z<|yS Z (zn Z Z)<|yS Z (zA Z Z ar)<|yS Z (zA Z Z cX)<|yS Z (zD Z Z Z bC Z Z)<|yS Z (aw Z Z Z Z)<|yS Z (zn Z Z)<|yS Z (zA Z Z ar)<|yS Z (zA Z Z cX)<|yS Z (zs Z Z Z Z bC Z Z Z Z) ?_;refine zN<|zT<|zQ<|LW.drawW (by kernel_rfl) (by kernel_rfl)<|zK Z ?_;refine yF (F := []) (s := none) Z (fun H _ => zn Z Z) Z ?_;refine yF (F := []) (s := none) Z (fun H _ => zA Z Z ar) Z ?_;refine yF Z (zd Z Z Z co Z Z) Z<|zK Z ?_;refine yF (F := []) (s := none) Z (fun H _ => zn Z Z) Z ?_;refine yF (F := []) (s := none) Z (fun H _ => zA Z Z mW) Z ?_;refine yF Z (zd Z Z Z bT Z Z) Z<|yF Z (zt Z Z Z Z co Z Z Z) Z<|zK Z ?_;refine LF.nil ⟨by kernel_rfl, ?_⟩;refine zT<|zr ?_;obtain rfl := zJ hr;exact zf (.two (.cellAgg Z Z (by kernel_rfl) Z) (.tmp Z))<|⟨_, rfl, (.cons (Conv.agg (.cons zv (.cons zv (.cons zv (.cons zv (.cons zv (.cons zv (.cons (Conv.vecAll Z Z Z) (.cons zv (.cons zv (.cons zv (.cons zv (.cons zv .nil))))))))))))) (.cons zv .nil))⟩
   ·
    have hr := zO g5 hr;refine xU (b := (n.Tick.tmod 3) == 1) (fun (g6 : ((n.Tick.tmod 3) == 1) = true) => ?_) (fun (g6 : ((n.Tick.tmod 3) == 1) = false) => ?_)
    ·
     refine zi g6 hr fun hr => zR<|yS Z (zA Z Z cX)<|yS Z (zD Z Z Z bC Z Z)<|yS Z (ab.isEq (y := (iQ 1)) (ab.rem Z Z Z (by decide)) (tE g6))<|yS Z (ab.indexAddrA Z Z Z wx (by decide) (by decide))<|yS Z (zD Z Z Z xj Z Z)<|zM Z<|zb hr fun v11 h_v11 hr => yS Z (zC Z Z Z (by kernel_rfl) (LC.pre (Cn (x := Nd.mk n.No n.Tick n.V v8 [] n.C v9.2) (o := v9.1) (tl := ([] : List Of)) h_v11) Z Z Z))<|zN<|zT<|zQ<|zR<|zM Z<|yS Z (zn Z Z)<|yS Z (zA Z Z ar)<|yS Z (zA Z Z cX)<|yS Z (zD Z Z Z bC Z Z)<|yS Z (aw Z Z Z Z)<|yS Z (zn Z Z)<|yS Z (zA Z Z ar)<|yS Z (zA Z Z cX)<|yS Z (zs Z Z Z Z bC Z Z Z Z) ?_;refine zN<|zT<|zQ<|LW.drawW (by kernel_rfl) (by kernel_rfl)<|zK Z ?_;refine yF (F := []) (s := none) Z (fun H _ => zn Z Z) Z ?_;refine yF (F := []) (s := none) Z (fun H _ => zA Z Z ar) Z ?_;refine yF Z (zd Z Z Z co Z Z) Z<|zK Z ?_;refine yF (F := []) (s := none) Z (fun H _ => zn Z Z) Z ?_;refine yF (F := []) (s := none) Z (fun H _ => zA Z Z mW) Z ?_;refine yF Z (zd Z Z Z bT Z Z) Z<|yF Z (zt Z Z Z Z co Z Z Z) Z<|zK Z ?_;refine LF.nil ⟨by kernel_rfl, ?_⟩;refine zT<|zr ?_;obtain rfl := zJ hr;exact zf (.two (.cellAgg Z Z (by kernel_rfl) Z) (.tmp Z))<|⟨_, rfl, (.cons zv (.cons zv .nil))⟩
    ·
     refine zo g6 hr fun hr => zg hr fun q2 hr => zR<|yS Z (zA Z Z cX)<|yS Z (zD Z Z Z bC Z Z)<|yS Z (ab.isEq (y := (iQ 2)) (ab.rem Z Z Z (by decide)) (tE q2))<|yS Z (ab.indexAddrA Z Z Z wx (by decide) (by decide))<|yS Z (zD Z Z Z xj Z Z)<|zM Z<|zb hr fun v12 h_v12 hr => yS Z (zC Z Z Z (by kernel_rfl) (LC.pre (ED (x := Nd.mk n.No n.Tick n.V v8 [] n.C v9.2) (o := v9.1) (tl := ([] : List Of)) h_v12) Z Z Z))<|zN<|zT<|zQ<|zR<|zM Z<|yS Z (zn Z Z)<|yS Z (zA Z Z ar)<|yS Z (zA Z Z cX)<|yS Z (zD Z Z Z bC Z Z)<|yS Z (aw Z Z Z Z)<|yS Z (zn Z Z)<|yS Z (zA Z Z ar)<|yS Z (zA Z Z cX) ?_;refine yS Z (zs Z Z Z Z bC Z Z Z Z)<|zN<|zT<|zQ<|LW.drawW (by kernel_rfl) (by kernel_rfl)<|zK Z ?_;refine yF (F := []) (s := none) Z (fun H _ => zn Z Z) Z ?_;refine yF (F := []) (s := none) Z (fun H _ => zA Z Z ar) Z ?_;refine yF Z (zd Z Z Z co Z Z) Z<|zK Z ?_;refine yF (F := []) (s := none) Z (fun H _ => zn Z Z) Z ?_;refine yF (F := []) (s := none) Z (fun H _ => zA Z Z mW) Z ?_;refine yF Z (zd Z Z Z bT Z Z) Z<|yF Z (zt Z Z Z Z co Z Z Z) Z<|zK Z ?_;refine LF.nil ⟨by kernel_rfl, ?_⟩;refine zT<|zr ?_;obtain rfl := zJ hr;exact zf (.two (.cellAgg Z Z (by kernel_rfl) Z) (.tmp Z))<|⟨_, rfl, (.cons zv (.cons zv .nil))⟩
open Go.Proofs
theorem wA {α : Type} {f : α → PV} {l : List α} (hb : room 0 l.length 8 = true) : LC Tryz.prog 46 [.p (.slice 1 (l.map f))] [] (Is (.vec 1 0 (l.map f).length 0 (l.map f).length) [.vec 1 (l.map f)]) := by
 refine dc Tryz.func46 Z Z Z ?_;refine zQ<|zR<|yS Z (za Z Z)<|zN<|zT<|zQ<|zQ<|zR<|yS Z (zm Z Z)<|am.cons Z Z Z (ab.eqNil Z Z Z fY) ?_;rintro _ _ ⟨rfl, b, rfl, hn⟩;refine zN<|zT ?_;refine zX Z (fun g => ?_)<|fun g => ?_
 ·have hl : l = [] := List.map_eq_nil_iff.1 (hn g);subst hl;exact zQ<|zR<|yS Z (za Z Z)<|zN<|zT<|LW.ent (bM.lazy (t := 2) (m := 1) Z Z Z)<|zr<|aj<|ap (.one (.tmp Z)) ⟨rfl, rfl⟩
 ·refine LW.skip ?_;exact zT<|zQ<|zR<|yS Z (ab.buildSlice0 Z fY)<|yS Z (zm Z Z)<|yS Z (ab.appendZX f l Z Z Z Z kg.p Z fY hb Z)<|yS Z (za Z Z)<|zN<|zT<|zr<|ap (.one (.tmp Z)) ⟨rfl, rfl⟩
theorem Gu {α : Type} {f : α → PV} {l : List α} (hb : room 0 l.length 176 = true) : LC Tryz.prog 81 [.p (.slice 12 (l.map f))] [] (Is (.vec 12 0 (l.map f).length 0 (l.map f).length) [.vec 12 (l.map f)]) := by
 refine dc Tryz.func81 Z Z Z ?_;refine zQ<|zR<|yS Z (za Z Z)<|zN<|zT<|zQ<|zQ<|zR<|yS Z (zm Z Z)<|am.cons Z Z Z (ab.eqNil Z Z Z dR) ?_;rintro _ _ ⟨rfl, b, rfl, hn⟩;refine zN<|zT ?_;refine zX Z (fun g => ?_)<|fun g => ?_
 ·have hl : l = [] := List.map_eq_nil_iff.1 (hn g);subst hl;exact zQ<|zR<|yS Z (za Z Z)<|zN<|zT<|LW.ent (bM.lazy (t := 2) (m := 12) Z Z Z)<|zr<|aj<|ap (.one (.tmp Z)) ⟨rfl, rfl⟩
 ·refine LW.skip ?_;exact zT<|zQ<|zR<|yS Z (ab.buildSlice0 Z dR)<|yS Z (zm Z Z)<|yS Z (ab.appendZX f l Z Z Z Z kg.p Z dR hb Z)<|yS Z (za Z Z)<|zN<|zT<|zr<|ap (.one (.tmp Z)) ⟨rfl, rfl⟩
theorem Cj {α : Type} {f : α → PV} {l : List α} (hb : room 0 l.length 104 = true) : LC Tryz.prog 94 [.p (.slice 9 (l.map f))] [] (Is (.vec 9 0 (l.map f).length 0 (l.map f).length) [.vec 9 (l.map f)]) := by
 refine dc Tryz.func94 Z Z Z ?_;refine zQ<|zR<|yS Z (za Z Z)<|zN<|zT<|zQ<|zQ<|zR<|yS Z (zm Z Z)<|am.cons Z Z Z (ab.eqNil Z Z Z ca) ?_;rintro _ _ ⟨rfl, b, rfl, hn⟩;refine zN<|zT ?_;refine zX Z (fun g => ?_)<|fun g => ?_
 ·have hl : l = [] := List.map_eq_nil_iff.1 (hn g);subst hl;exact zQ<|zR<|yS Z (za Z Z)<|zN<|zT<|LW.ent (bM.lazy (t := 2) (m := 9) Z Z Z)<|zr<|aj<|ap (.one (.tmp Z)) ⟨rfl, rfl⟩
 ·refine LW.skip ?_;exact zT<|zQ<|zR<|yS Z (ab.buildSlice0 Z ca)<|yS Z (zm Z Z)<|yS Z (ab.appendZX f l Z Z Z Z kg.p Z ca hb Z)<|yS Z (za Z Z)<|zN<|zT<|zr<|ap (.one (.tmp Z)) ⟨rfl, rfl⟩
def mL (v : Vw) : Option Vw :=
 bif room 0 v.B.length 40 then
  bif room 0 v.V.length 32 then
   some v
  else none
 else none
theorem Ci {v : Vw} {r_ : Vw} (hr : mL v = some r_) : av Tryz.prog 83 [mA v] [mA r_] := by
 refine zh Tryz.func83 Z Z Z Z ?_;unfold mL at hr;refine zQ<|zR<|yS Z (bV Z Z Z Z Z)<|yS Z (ze Z ia Z Z)<|zN<|zT<|zQ<|LW.ent (bM.slot Z)<|LW.ent (bM.slot Z)<|LW.drawW (by kernel_rfl) (by kernel_rfl) ?_;refine yF (F := []) (s := none) Z (fun H _ => zA Z Z bD) Z ?_;refine yF Z (zd Z Z Z dE Z Z) Z<|zg hr fun q1 hr => ?_;refine yF Z (bJ.callV (id := 2) (qs := [(kB v.B)]) Z Z Z (by kernel_rfl) (uD q1) (fun H => (.consC zv .nil)) Z) Z ?_;refine yF (F := []) (s := none) Z (fun H _ => zA Z Z bP) Z ?_;refine yF Z (zd Z Z Z eC Z Z) Z<|zg hr fun q2 hr => ?_;refine yF Z (bJ.callV (id := 3) (qs := [(kV v.V)]) Z Z Z (by kernel_rfl) (uE q2) (fun H => (.consC zv .nil)) Z) Z ?_;refine yF (F := []) (s := none) Z (fun H _ => ab.build Z nS Z Z Z) Z ?_;refine yF Z (zt Z Z Z Z aT Z Z Z) Z ?_;refine LF.nil ⟨by kernel_rfl, ?_⟩;refine zT<|zr ?_;obtain rfl := zJ hr;exact zf (.one (.cellAgg Z Z (by kernel_rfl) Z))<|(Conv.agg (.cons (Conv.vecAll Z Z Z) (.cons (Conv.vecAll Z Z Z) .nil)))
theorem pO {v r_ : Vw} (h : mL v = some r_) : v = r_ := by
 unfold mL at h;obtain ⟨_, h⟩ := zG h;obtain ⟨_, h⟩ := zG h;exact zJ h
structure er where
 t8 : Int
def iX (l : List Of) (x1 : er) : Option (er ⊕ er) :=
 bif decide (x1.t8 < (l.length : Int)) then
  (ix l x1.t8).bind fun y1 =>
  (mL y1.V).bind fun _ =>
  (ix l x1.t8).bind fun _ =>
  some (.inl (er.mk (IntKind.i64.wrap (x1.t8 + 1))))
 else
  some (.inr (er.mk x1.t8))
def oH (l : List Of) : Option (List Of) :=
 bif room 0 l.length 104 then
  (iter (iX l) bG (er.mk 0)).bind fun _ =>
  some l
 else none
theorem Fq {l : List Of} {r_ : (List Of)} (hr : oH l = some r_) : av Tryz.prog 82 [.slice 9 (l.map dP)] [.slice 9 (r_.map dP)] := by
 refine zh Tryz.func82 Z Z Z Z ?_;unfold oH at hr;refine zQ<|zR<|zM Z<|zN<|zT<|zQ<|zR<|zM Z<|zg hr fun q1 hr => yS Z (ab.callV (qs := [(kO l)]) Z Z Z (by kernel_rfl) (Cj q1) (.consC zv .nil) Z Z)<|zM Z<|zN<|zT<|zQ<|zQ<|zR<|zM Z<|yS Z (ab.lenVM Z Z Z (by kernel_rfl))<|zM Z<|zN<|zT ?_;obtain ⟨v1, hb_v1, ho_v1⟩ := zB hr;clear hr;refine LW.tail (E := [(0, (jO 0 l)), (2, .zs)]) (O := [.vec 9 (l.map dP)]) ?_<|fun env_v1 H_v1 hw_v1 => ?_
 ·refine LW.block ?_;refine LW.iterB (E := fun x1 : er => [(0, (jO 0 l)), (2, .zs), (7, .p (.int .i64 (l.length : Int))), (8, (iQ x1.t8))]) (O := fun x1 => [.vec 9 (l.map dP)]) hb_v1 (zW 1 ⟨rfl, rfl, rfl, rfl, trivial⟩ Z Z Z Z)<|fun x1 z_x1 hr hb_x1 => ?_;unfold iX at hr;refine zQ<|zR<|yS Z (aw Z Z Z Z)<|zN<|zT<|zQ ?_;refine zX Z (fun g1 => ?_)<|fun g1 => ?_
  ·
   refine zi g1 hr fun hr => zk<|zT<|zQ<|zl<|zQ<|zR<|zM Z<|zM Z<|zN<|zT<|zR<|zM Z<|zM Z<|zM Z<|zM Z<|zb hr fun y1 h_y1 hr => yS Z (ab.indexAddrVX Z Z Z Z ca h_y1)<|yS Z (ab.fieldAddrV Z Z Z Z jb)<|yS Z (ab.loadVX Z Z Z aT h_y1 Z Z Z Z)<|zb hr fun v2 h_v2 hr => ?_;obtain rfl := pO h_v2;refine yS Z (zC Z Z Z (by kernel_rfl) (zp (Ci h_v2) (.cons zv .nil)))<|zb hr fun y2 h_y2 hr => yS Z (ab.indexAddrVX Z Z Z Z ca h_y2)<|yS Z (ab.fieldAddrV Z Z Z Z jb) ?_;obtain rfl := zJ (h_y1.symm.trans h_y2);refine yS Z (ab.storeVS (f := dP) (l := l) Z Z Z Z aT (fun _ => rfl) h_y2 Z Z Z Z Z) ?_;refine zN<|ai<|zT<|zR<|yS Z (aw Z Z Z Z)<|zM Z<|zN<|zT ?_;obtain rfl := zJ hr;exact ⟨_, rfl, zW 1 ⟨rfl, rfl, rfl, rfl, trivial⟩ Z Z Z rfl⟩
  ·
   refine zo g1 hr fun hr => zq<|ao<|ao<|zy<|zT ?_;obtain rfl := zJ hr;have hr := congrArg some (hb_x1 _ rfl);obtain rfl := zJ hr;exact zW 1 ⟨Z, Z, trivial⟩ Z Z Z Z
 ·have hr := ho_v1;clear hb_v1;refine zT<|LW.weak hw_v1<|zQ<|zR<|zM Z<|zM Z<|zN<|zT<|zr ?_;obtain rfl := zJ hr;exact zf (.one (.tmp Z))<|(Conv.vecAll Z Z Z)
theorem um {v r_ : List Of} (h : oH v = some r_) : v = r_ := by
 unfold oH at h;obtain ⟨_, h⟩ := zG h;obtain ⟨_, _, h⟩ := zB h;exact zJ h
structure ep where
 t20 : Int
def iW (w : Wd) (x1 : ep) : Option (ep ⊕ ep) :=
 bif decide (x1.t20 < (w.N.length : Int)) then
  (ix w.N x1.t20).bind fun y1 =>
  (mL y1.V).bind fun _ =>
  (mL y1.In).bind fun _ =>
  (oH y1.O).bind fun _ =>
  some (.inl (ep.mk (IntKind.i64.wrap (x1.t20 + 1))))
 else
  some (.inr (ep.mk x1.t20))
def oG (w : Wd) : Option Wd :=
 bif room 0 w.Bad.length 8 then
  bif room 0 w.N.length 176 then
   (oH w.O).bind fun _ =>
   (iter (iW w) bG (ep.mk 0)).bind fun _ =>
   some w
  else none
 else none
theorem Fp {w : Wd} {r_ : Wd} (hr : oG w = some r_) : av Tryz.prog 50 [DE w] [DE r_] := by
 refine zh Tryz.func50 Z Z Z Z ?_;unfold oG at hr;refine zQ<|zR<|yS Z (bV Z Z Z Z Z)<|yS Z (ze Z kW Z Z)<|zN<|zT<|zQ<|LW.ent (bM.slot Z)<|LW.ent (bM.slot Z)<|LW.drawW (by kernel_rfl) (by kernel_rfl) ?_;refine yF (F := []) (s := none) Z (fun H _ => zA Z Z ky) Z ?_;refine yF Z (zd Z Z Z fh Z Z) Z<|zg hr fun q1 hr => ?_;refine yF Z (bJ.callV (id := 2) (qs := [(kI w.Bad)]) Z Z Z (by kernel_rfl) (wA q1) (fun H => (.consC zv .nil)) Z) Z ?_;refine yF (F := []) (s := none) Z (fun H _ => zA Z Z bK) Z ?_;refine yF Z (zd Z Z Z dk Z Z) Z<|zg hr fun q2 hr => ?_;refine yF Z (bJ.callV (id := 3) (qs := [.p (.slice 12 (w.N.map gk))]) Z Z Z (by kernel_rfl) (Gu q2) (fun H => (.consC zv .nil)) Z) Z ?_;refine yF (F := []) (s := none) Z (fun H _ => zA Z Z gJ) Z ?_;refine yF Z (zd Z Z Z bT Z Z) Z<|zb hr fun v1 h_v1 hr => ?_;obtain rfl := um h_v1;refine yF (F := []) (s := none) Z (fun H _ => zC Z Z Z (by kernel_rfl) (zp (Fq h_v1) (.cons zv .nil))) Z ?_;refine yF (F := []) (s := none) Z (fun H _ => zA Z Z ky) Z ?_;refine yF Z (zt Z Z Z Z fh Z Z Z) Z ?_;refine yF (F := []) (s := none) Z (fun H _ => zA Z Z bK) Z ?_;refine yF Z (zt Z Z Z Z dk Z Z Z) Z ?_;refine yF (F := []) (s := none) Z (fun H _ => zA Z Z gJ) Z ?_;refine yF Z (zt Z Z Z Z bT Z Z Z) Z ?_;refine LF.nil ⟨by kernel_rfl, ?_⟩;refine zT<|zQ<|zQ<|zR<|yS Z (zA Z Z bK)<|yS Z (zD Z Z Z dk Z Z)<|yS Z (ab.lenVM Z Z Z (by kernel_rfl))<|zM Z<|zN<|zT ?_;obtain ⟨v2, hb_v2, ho_v2⟩ := zB hr;clear hr;refine LW.tail (E := [(1, .ptr 0 0), (2, .ptr 1 0)]) (O := [.box [(kI w.C.W), (uQ w.C.Seed), (iQ w.C.Epoch), (iQ w.C.Num), (iQ w.C.Den), (jI 2 w.Bad), (iQ w.Tick), .vec 12 3 (w.N.map gk).length 0 (w.N.map gk).length, (kO w.O)], .box tL, .vec 1 (w.Bad.map aE), .vec 12 (w.N.map gk)]) ?_<|fun env_v2 H_v2 hw_v2 => ?_
 ·refine LW.block ?_;refine LW.iterB (E := fun x1 : ep => [(1, .ptr 0 0), (2, .ptr 1 0), (19, .p (.int .i64 (w.N.length : Int))), (20, (iQ x1.t20))]) (O := fun x1 => [.box [(kI w.C.W), (uQ w.C.Seed), (iQ w.C.Epoch), (iQ w.C.Num), (iQ w.C.Den), (jI 2 w.Bad), (iQ w.Tick), .vec 12 3 (w.N.map gk).length 0 (w.N.map gk).length, (kO w.O)], .box tL, .vec 1 (w.Bad.map aE), .vec 12 (w.N.map gk)]) hb_v2 (zW 4 ⟨rfl, rfl, rfl, rfl, trivial⟩ Z Z Z Z)<|fun x1 z_x1 hr hb_x1 => ?_;unfold iW at hr;refine zQ<|zR<|yS Z (aw Z Z Z Z)<|zN<|zT<|zQ ?_;refine zX Z (fun g1 => ?_)<|fun g1 => ?_
  ·
   refine zi g1 hr fun hr => zk<|zT<|zQ<|zl<|zQ<|zR<|zM Z<|zM Z<|zN<|zT<|zQ<|zR<|yS Z (zA Z Z bK)<|yS Z (zD Z Z Z dk Z Z)<|zM Z<|zb hr fun y1 h_y1 hr => yS Z (ab.indexAddrVX Z Z Z Z dR h_y1)<|zM Z<|zN<|zT<|LW.draw2 (by kernel_rfl) (by kernel_rfl)<|zH Z<|zH Z ?_;refine zH Z<|zH Z<|yE Z (ab.nilCheckV Z Z Z Z)<|yE Z (ab.fieldAddrV Z Z Z Z ce)<|yE Z (ab.loadVX Z Z Z aT h_y1 Z Z Z Z)<|zb hr fun v3 h_v3 hr => ?_;obtain rfl := pO h_v3;refine yE Z (zC Z Z Z (by kernel_rfl) (zp (Ci h_v3) (.cons zv .nil)))<|zH Z<|yE Z (ab.nilCheckV Z Z Z Z)<|yE Z (ab.fieldAddrV Z Z Z Z cg)<|yE Z (ab.loadVX Z Z Z aT h_y1 Z Z Z Z)<|zb hr fun v4 h_v4 hr => ?_;obtain rfl := pO h_v4;refine yE Z (zC Z Z Z (by kernel_rfl) (zp (Ci h_v4) (.cons zv .nil)))<|zH Z<|yE Z (ab.nilCheckV Z Z Z Z)<|yE Z (ab.fieldAddrV Z Z Z Z cL)<|yE Z (ab.loadVX Z Z Z bT h_y1 Z Z Z Z)<|zb hr fun v5 h_v5 hr => ?_;obtain rfl := um h_v5;refine yE Z (zC Z Z Z (by kernel_rfl) (zp (Fq h_v5) (.cons zv .nil)))<|yE Z (ab.nilCheckV Z Z Z Z)<|yE Z (ab.fieldAddrV Z Z Z Z ce) ?_;refine yE Z (ab.storeVS (f := gk) (l := w.N) Z Z Z Z aT (fun _ => rfl) h_y1 Z Z Z Z Z) ?_;refine yE Z (ab.nilCheckV Z Z Z Z)<|yE Z (ab.fieldAddrV Z Z Z Z cg) ?_;refine yE Z (ab.storeVS (f := gk) (l := w.N) Z Z Z Z aT (fun _ => rfl) h_y1 Z Z Z Z Z) ?_;refine yE Z (ab.nilCheckV Z Z Z Z)<|yE Z (ab.fieldAddrV Z Z Z Z cL) ?_;refine yE Z (ab.storeVS (f := gk) (l := w.N) Z Z Z Z bT (fun _ => rfl) h_y1 Z Z Z Z Z) ?_;refine LO.nil<|ai<|zT<|zR<|yS Z (aw Z Z Z Z)<|zM Z<|zN<|zT ?_;obtain rfl := zJ hr;exact ⟨_, rfl, zW 4 ⟨rfl, rfl, rfl, rfl, trivial⟩ Z Z Z rfl⟩
  ·
   refine zo g1 hr fun hr => zq<|ao<|ao<|zy<|zT ?_;obtain rfl := zJ hr;have hr := congrArg some (hb_x1 _ rfl);obtain rfl := zJ hr;exact zW 4 ⟨Z, Z, trivial⟩ Z Z Z Z
 ·have hr := ho_v2;clear hb_v2;refine zT<|LW.weak hw_v2<|zQ<|zR<|yS Z (zD Z Z Z bU Z Z)<|yS Z (zs Z Z Z Z bU Z Z Z Z)<|zN<|zT<|zr ?_;obtain rfl := zJ hr;exact zf (.one (.cellAgg Z Z (by kernel_rfl) Z))<|(Conv.agg (.cons zv (.cons zv (.cons zv (.cons zv (.cons zv (.cons (Conv.vecAll Z Z Z) (.cons zv (.cons (Conv.vecAll Z Z Z) (.cons zv .nil))))))))))
open Go.Proofs
theorem uk {w r_ : Wd} (h : oG w = some r_) : w = r_ := by
 unfold oG at h;obtain ⟨_, h⟩ := zG h;obtain ⟨_, h⟩ := zG h;obtain ⟨_, _, h⟩ := zB h;obtain ⟨_, _, h⟩ := zB h;exact zJ h
def Ei (a : Ac) (w : Wd) : Option Bool :=
 bif a.Tick == w.Tick then
  some (decide (a.To ≥ 0))
 else
  some false
theorem IX {a : Ac} {w : Wd} {r_ : Bool} (hr : Ei a w = some r_) : LC Tryz.prog 85 [.p (kc a), .ptr 0 0] [.box (fl w)] (Is (bQ r_) [.box (fl w)]) := by
 refine dc Tryz.func85 Z Z Z ?_;unfold Ei at hr;refine zQ<|zR<|yS Z (bV Z Z Z Z Z)<|zM Z<|zN<|zT<|zQ<|zR<|yS Z (zA Z Z CE)<|yS Z (zD Z Z Z bC Z Z)<|yS Z (zA Z Z ja)<|yS Z (zD Z Z Z bC Z Z)<|yS Z (aw Z Z Z Z)<|zM Z ?_;refine zc 9 Z (fun g1 => ?_)<|fun g1 => ?_
 ·
  refine zi g1 hr fun hr => yV Z (gd g1 Z) (zA Z Z uZ)<|yV Z (gd g1 Z) (zD Z Z Z bC Z Z)<|yV Z (gd g1 Z) (aw Z Z Z Z)<|yS Z (eP Z (bL g1 Z) Z)<|zM Z<|zN<|zT<|zr ?_;obtain rfl := zJ hr;exact ba (env' := [(3, .p (.bool (decide (a.To ≥ 0))))]) (H' := [.box (fl w)]) (zW 1 ⟨rfl, trivial⟩ Z Z Z Z) (.one (.tmp Z))<|⟨rfl, rfl⟩
 ·
  refine zo g1 hr fun hr => yU Z (gd g1 Z) Z<|yU Z (gd g1 Z) Z<|yU Z (gd g1 Z) Z<|yS Z (db Z (bL g1 Z) Z)<|zM Z<|zN<|zT<|zr ?_;obtain rfl := zJ hr;exact ba (env' := [(3, (bQ false))]) (H' := [.box (fl w)]) (zW 1 ⟨rfl, trivial⟩ Z Z Z Z) (.one (.tmp Z))<|⟨rfl, rfl⟩
structure cT where
 t10 : Int
 out : List Ac
def gn (l : List Ac) (w : Wd) (x1 : cT) : Option (cT ⊕ cT) :=
 bif decide (x1.t10 < (l.length : Int)) then
  (ix l x1.t10).bind fun y1 =>
  (Ei y1 w).bind fun v2 =>
  bif v2 then
   bif room x1.out.length [y1].length 72 then
    some (.inl (cT.mk (IntKind.i64.wrap (x1.t10 + 1)) (x1.out ++ [y1])))
   else none
  else
   some (.inl (cT.mk (IntKind.i64.wrap (x1.t10 + 1)) x1.out))
 else
  some (.inr (cT.mk x1.t10 x1.out))
def pS (l : List Ac) (w : Wd) : Option (List Ac) :=
 (iter (gn l w) bG (cT.mk 0 ([] : List Ac))).bind fun v1 =>
 some v1.out
theorem Ez {l : List Ac} {w : Wd} {r_ : (List Ac)} (hr : pS l w = some r_) : LC Tryz.prog 84 [.p (.slice 5 (l.map kc)), .fn 85 [] [.ptr 0 0]] [.box (fl w)] (Is (.p (.slice 5 (r_.map kc))) [.box (fl w)]) := by
 refine dc Tryz.func84 Z Z Z ?_;unfold pS at hr;refine zQ<|zR<|zM Z<|zN<|zT<|zQ<|zR<|zM Z<|zN<|zT<|zQ<|zQ<|LW.ent (bM.lazy (t := 5) (m := 5) Z Z Z)<|zR<|zM Z<|yS Z (dT Z Z (by kernel_rfl))<|zM Z<|zN<|zT ?_;obtain ⟨v1, hb_v1, ho_v1⟩ := zB hr;clear hr;refine LW.tail (E := [(4, .zs), (5, .vec 5 1 (v1.out.map kc).length 0 (v1.out.map kc).length)]) (O := [.box (fl w), .vec 5 (v1.out.map kc)]) ?_<|fun env_v1 H_v1 hw_v1 => ?_
 ·refine LW.block ?_;refine LW.iterB (E := fun x1 : cT => [(1, .fn 85 [] [.ptr 0 0]), (4, .zs), (5, .vec 5 1 (x1.out.map kc).length 0 (x1.out.map kc).length), (8, .p (.slice 5 (l.map kc))), (9, .p (.int .i64 (l.length : Int))), (10, (iQ x1.t10))]) (O := fun x1 => [.box (fl w), .vec 5 (x1.out.map kc)]) hb_v1 (zW 2 ⟨rfl, rfl, rfl, rfl, rfl, rfl, trivial⟩ Z Z Z Z)<|fun x1 z_x1 hr hb_x1 => ?_;unfold gn at hr;refine zQ<|zR<|yS Z (aw Z Z Z Z)<|zN<|zT<|zQ ?_;refine zX Z (fun g1 => ?_)<|fun g1 => ?_
  ·
   refine zi g1 hr fun hr => zk<|zT<|zQ<|zl<|zQ<|zR<|zb hr fun y1 h_y1 hr => yS Z (zx Z Z Z mq h_y1 Z)<|yS Z (dS Z Z Z jW Z Z)<|yS Z (ze Z xl Z Z)<|yS Z (zs Z Z Z Z jW Z Z Z Z)<|zN<|zT<|zQ<|zR<|zM Z<|yS Z (zD Z Z Z jW Z Z)<|zb hr fun v2 h_v2 hr => yS Z (zC Z Z Z (by kernel_rfl) (LC.pre (IX h_v2) Z Z Z))<|zN<|zT ?_;refine zX Z (fun g2 => ?_)<|fun g2 => ?_
   ·
    refine zi g2 hr fun hr => zR<|zM Z<|yS Z (zD Z Z Z jW Z Z)<|yS Z (mD Z mq Z Z Z Z Z)<|zg hr fun q1 hr => yS Z (ab.appendX kc x1.out [y1] rfl Z Z Z kg.p Z mq q1 Z)<|zM Z<|zN<|ai<|zT<|zR<|yS Z (aw Z Z Z Z)<|zM Z<|zN<|zT ?_;obtain rfl := zJ hr;exact ⟨_, rfl, zW 2 ⟨rfl, rfl, rfl, rfl, rfl, rfl, trivial⟩ Z Z Z rfl⟩
   ·
    refine zo g2 hr fun hr => zk<|ai<|zT<|zR<|yS Z (aw Z Z Z Z)<|zM Z<|zN<|zT ?_;obtain rfl := zJ hr;exact ⟨_, rfl, zW 2 ⟨rfl, rfl, rfl, rfl, rfl, rfl, trivial⟩ Z Z Z rfl⟩
  ·
   refine zo g1 hr fun hr => zq<|ao<|ao<|zy<|zT ?_;obtain rfl := zJ hr;have hr := congrArg some (hb_x1 _ rfl);obtain rfl := zJ hr;exact zW 2 ⟨Z, Z, trivial⟩ Z Z Z Z
 ·have hr := ho_v1;clear hb_v1;refine zT<|LW.weak hw_v1<|zQ<|LW.ent (bM.frz (t := 5) (env' := []) (H0 := [.box (fl w)]) Z Z Z Z Z trivial Z Z)<|zR<|zM Z<|zM Z<|zN<|zT<|zr ?_;obtain rfl := zJ hr;exact ap (.one (.tmp Z))<|⟨rfl, rfl⟩
def yW (who : Int) (w : Wd) : Option Bool :=
 (sO w.Bad who).bind fun v1 =>
 some v1
theorem Fy {who : Int} {w : Wd} {al : Vw} {wh : Int} {me : Bool} {cl : List Ac} {r_ : Bool} (hr : yW who w = some r_) : LC Tryz.prog 86 [(iQ who), .ptr 2 0] (hM w al wh me cl 87 86) (Is (bQ r_) (hM w al wh me cl 87 86)) := by
 refine dc Tryz.func86 Z Z Z ?_;unfold yW at hr;refine zQ<|zR<|zM Z<|zN<|zT<|zQ<|zR<|yS Z (zA Z Z ky)<|yS Z (zD Z Z Z fh Z Z)<|zM Z<|zb hr fun v1 h_v1 hr => yS Z (zC Z Z Z (by kernel_rfl) (zp (Ce h_v1) (.cons zv (.cons zv .nil))))<|zM Z<|zN<|zT<|zr ?_;obtain rfl := zJ hr;exact ap (.one (.tmp Z))<|⟨rfl, rfl⟩
def uv (x : Bk) (w : Wd) (al : Vw) : Option Bool :=
 (yW x.From w).bind fun v1 =>
 bif v1 then
  some true
 else
  (yL al.B x).bind fun v2 =>
  some v2
theorem GM {x : Bk} {w : Wd} {al : Vw} {wh : Int} {me : Bool} {cl : List Ac} {r_ : Bool} (hr : uv x w al = some r_) : LC Tryz.prog 89 [.p (ax x), .ptr 5 0, .ptr 4 0] (hM w al wh me cl 87 86) (Is (bQ r_) (hM w al wh me cl 87 86)) := by
 refine dc Tryz.func89 Z Z Z ?_;unfold uv at hr;refine zQ<|zR<|yS Z (bV Z Z Z Z Z)<|zM Z<|zN<|zT<|zQ<|zR<|yS Z (zD Z Z Z sL Z Z)<|yS Z (zA Z Z wJ)<|yS Z (zD Z Z Z bC Z Z)<|zb hr fun v1 h_v1 hr => yS Z (zC Z Z Z (by kernel_rfl) (LC.pre (Fy h_v1) Z Z Z))<|zM Z ?_;refine zc 9 Z (fun g1 => ?_)<|fun g1 => ?_
 ·
  refine zi g1 hr fun hr => yU Z (gd g1 Z) Z<|yU Z (gd g1 Z) Z<|yU Z (gd g1 Z) Z<|yU Z (gd g1 Z) Z<|yU Z (gd g1 Z) Z<|yS Z (eP Z (bL g1 Z) Z)<|zM Z<|zN<|zT<|zr ?_;obtain rfl := zJ hr;exact ba (env' := [(4, (bQ true))]) (H' := (hM w al wh me cl 87 86)) (zW 6 ⟨rfl, trivial⟩ Z Z Z Z) (.one (.tmp Z))<|⟨rfl, rfl⟩
 ·
  refine zo g1 hr fun hr => yV Z (gd g1 Z) (zA Z Z qv)<|yV Z (gd g1 Z) (zA Z Z bD)<|yV Z (gd g1 Z) (zD Z Z Z dE Z Z)<|yV Z (gd g1 Z) (zD Z Z Z cH Z Z)<|zb hr fun v2 h_v2 hr => yV Z (gd g1 Z) (zC Z Z Z (by kernel_rfl) (zp (Id h_v2) (.cons zv (.cons zv .nil))))<|yS Z (db Z (bL g1 Z) Z)<|zM Z<|zN<|zT<|zr ?_;obtain rfl := zJ hr;exact ba (env' := [(4, (bQ v2))]) (H' := (hM w al wh me cl 87 86)) (zW 6 ⟨rfl, trivial⟩ Z Z Z Z) (.one (.tmp Z))<|⟨rfl, rfl⟩
def uw (x : Vt) (w : Wd) (al : Vw) : Option Bool :=
 (yW x.From w).bind fun v1 =>
 bif v1 then
  some true
 else
  (yM al.V x).bind fun v2 =>
  some v2
theorem GN {x : Vt} {w : Wd} {al : Vw} {wh : Int} {me : Bool} {cl : List Ac} {r_ : Bool} (hr : uw x w al = some r_) : LC Tryz.prog 92 [.p (aI x), .ptr 5 0, .ptr 4 0] (hM w al wh me cl 87 86) (Is (bQ r_) (hM w al wh me cl 87 86)) := by
 refine dc Tryz.func92 Z Z Z ?_;unfold uw at hr;refine zQ<|zR<|yS Z (bV Z Z Z Z Z)<|zM Z<|zN<|zT<|zQ<|zR<|yS Z (zD Z Z Z sL Z Z)<|yS Z (zA Z Z qz)<|yS Z (zD Z Z Z bC Z Z)<|zb hr fun v1 h_v1 hr => yS Z (zC Z Z Z (by kernel_rfl) (LC.pre (Fy h_v1) Z Z Z))<|zM Z ?_;refine zc 9 Z (fun g1 => ?_)<|fun g1 => ?_
 ·
  refine zi g1 hr fun hr => yU Z (gd g1 Z) Z<|yU Z (gd g1 Z) Z<|yU Z (gd g1 Z) Z<|yU Z (gd g1 Z) Z<|yU Z (gd g1 Z) Z<|yS Z (eP Z (bL g1 Z) Z)<|zM Z<|zN<|zT<|zr ?_;obtain rfl := zJ hr;exact ba (env' := [(4, (bQ true))]) (H' := (hM w al wh me cl 87 86)) (zW 6 ⟨rfl, trivial⟩ Z Z Z Z) (.one (.tmp Z))<|⟨rfl, rfl⟩
 ·
  refine zo g1 hr fun hr => yV Z (gd g1 Z) (zA Z Z qv)<|yV Z (gd g1 Z) (zA Z Z bP)<|yV Z (gd g1 Z) (zD Z Z Z eC Z Z)<|yV Z (gd g1 Z) (zD Z Z Z cB Z Z)<|zb hr fun v2 h_v2 hr => yV Z (gd g1 Z) (zC Z Z Z (by kernel_rfl) (zp (Ie h_v2) (.cons zv (.cons zv .nil))))<|yS Z (db Z (bL g1 Z) Z)<|zM Z<|zN<|zT<|zr ?_;obtain rfl := zJ hr;exact ba (env' := [(4, (bQ v2))]) (H' := (hM w al wh me cl 87 86)) (zW 6 ⟨rfl, trivial⟩ Z Z Z Z) (.one (.tmp Z))<|⟨rfl, rfl⟩
structure cU where
 t10 : Int
 out : List Bk
def gp (l : List Bk) (w : Wd) (al : Vw) (x1 : cU) : Option (cU ⊕ cU) :=
 bif decide (x1.t10 < (l.length : Int)) then
  (ix l x1.t10).bind fun y1 =>
  (uv y1 w al).bind fun v2 =>
  bif v2 then
   bif room x1.out.length [y1].length 40 then
    some (.inl (cU.mk (IntKind.i64.wrap (x1.t10 + 1)) (x1.out ++ [y1])))
   else none
  else
   some (.inl (cU.mk (IntKind.i64.wrap (x1.t10 + 1)) x1.out))
 else
  some (.inr (cU.mk x1.t10 x1.out))
def pT (l : List Bk) (w : Wd) (al : Vw) : Option (List Bk) :=
 (iter (gp l w al) bG (cU.mk 0 ([] : List Bk))).bind fun v1 =>
 some v1.out
theorem EA {l : List Bk} {w : Wd} {al : Vw} {wh : Int} {me : Bool} {cl : List Ac} {r_ : (List Bk)} (hr : pT l w al = some r_) : LC Tryz.prog 88 [(kB l), .fn 89 [] [.ptr 5 0, .ptr 4 0]] (hM w al wh me cl 87 86) (Is (kB r_) (hM w al wh me cl 87 86)) := by
 refine dc Tryz.func88 Z Z Z ?_;unfold pT at hr;refine zQ<|zR<|zM Z<|zN<|zT<|zQ<|zR<|zM Z<|zN<|zT<|zQ<|zQ<|LW.ent (bM.lazy (t := 5) (m := 5) Z Z Z)<|zR<|zM Z<|yS Z (dT Z Z (by kernel_rfl))<|zM Z<|zN<|zT ?_;obtain ⟨v1, hb_v1, ho_v1⟩ := zB hr;clear hr;refine LW.tail (E := [(4, .zs), (5, (jB 6 v1.out))]) (O := [.box (fl w), .box tL, .box (fl w), .box (kG w al wh me cl 87 5 4), .box (kG w al wh me cl 87 5 4), .box [.fn 86 [] [.ptr 2 0]], .vec 5 (v1.out.map ax)]) ?_<|fun env_v1 H_v1 hw_v1 => ?_
 ·refine LW.block ?_;refine LW.iterB (E := fun x1 : cU => [(1, .fn 89 [] [.ptr 5 0, .ptr 4 0]), (4, .zs), (5, (jB 6 x1.out)), (8, (kB l)), (9, .p (.int .i64 (l.length : Int))), (10, (iQ x1.t10))]) (O := fun x1 => [.box (fl w), .box tL, .box (fl w), .box (kG w al wh me cl 87 5 4), .box (kG w al wh me cl 87 5 4), .box [.fn 86 [] [.ptr 2 0]], .vec 5 (x1.out.map ax)]) hb_v1 (zW 7 ⟨rfl, rfl, rfl, rfl, rfl, rfl, trivial⟩ Z Z Z Z)<|fun x1 z_x1 hr hb_x1 => ?_;unfold gp at hr;refine zQ<|zR<|yS Z (aw Z Z Z Z)<|zN<|zT<|zQ ?_;refine zX Z (fun g1 => ?_)<|fun g1 => ?_
  ·
   refine zi g1 hr fun hr => zk<|zT<|zQ<|zl<|zQ<|zR<|zb hr fun y1 h_y1 hr => yS Z (zx Z Z Z eB h_y1 Z)<|yS Z (dS Z Z Z cH Z Z)<|yS Z (ze Z tK Z Z)<|yS Z (zs Z Z Z Z cH Z Z Z Z)<|zN<|zT<|zQ<|zR<|zM Z<|yS Z (zD Z Z Z cH Z Z)<|zb hr fun v2 h_v2 hr => yS Z (zC Z Z Z (by kernel_rfl) (LC.pre (GM h_v2) Z Z Z))<|zN<|zT ?_;refine zX Z (fun g2 => ?_)<|fun g2 => ?_
   ·
    refine zi g2 hr fun hr => zR<|zM Z<|yS Z (zD Z Z Z cH Z Z)<|yS Z (mD Z eB Z Z Z Z Z)<|zg hr fun q1 hr => yS Z (ab.appendX ax x1.out [y1] rfl Z Z Z kg.p Z eB q1 Z)<|zM Z<|zN<|ai<|zT<|zR<|yS Z (aw Z Z Z Z)<|zM Z<|zN<|zT ?_;obtain rfl := zJ hr;exact ⟨_, rfl, zW 7 ⟨rfl, rfl, rfl, rfl, rfl, rfl, trivial⟩ Z Z Z rfl⟩
   ·
    refine zo g2 hr fun hr => zk<|ai<|zT<|zR<|yS Z (aw Z Z Z Z)<|zM Z<|zN<|zT ?_;obtain rfl := zJ hr;exact ⟨_, rfl, zW 7 ⟨rfl, rfl, rfl, rfl, rfl, rfl, trivial⟩ Z Z Z rfl⟩
  ·
   refine zo g1 hr fun hr => zq<|ao<|ao<|zy<|zT ?_;obtain rfl := zJ hr;have hr := congrArg some (hb_x1 _ rfl);obtain rfl := zJ hr;exact zW 7 ⟨Z, Z, trivial⟩ Z Z Z Z
 ·have hr := ho_v1;clear hb_v1;refine zT<|LW.weak hw_v1<|zQ<|LW.ent (bM.frz (t := 5) (env' := []) (H0 := (hM w al wh me cl 87 86)) Z Z Z Z Z trivial Z Z)<|zR<|zM Z<|zM Z<|zN<|zT<|zr ?_;obtain rfl := zJ hr;exact ap (.one (.tmp Z))<|⟨rfl, rfl⟩
structure cV where
 t10 : Int
 out : List Vt
def gq (l : List Vt) (w : Wd) (al : Vw) (x1 : cV) : Option (cV ⊕ cV) :=
 bif decide (x1.t10 < (l.length : Int)) then
  (ix l x1.t10).bind fun y1 =>
  (uw y1 w al).bind fun v2 =>
  bif v2 then
   bif room x1.out.length [y1].length 32 then
    some (.inl (cV.mk (IntKind.i64.wrap (x1.t10 + 1)) (x1.out ++ [y1])))
   else none
  else
   some (.inl (cV.mk (IntKind.i64.wrap (x1.t10 + 1)) x1.out))
 else
  some (.inr (cV.mk x1.t10 x1.out))
def pU (l : List Vt) (w : Wd) (al : Vw) : Option (List Vt) :=
 (iter (gq l w al) bG (cV.mk 0 ([] : List Vt))).bind fun v1 =>
 some v1.out
theorem EB {l : List Vt} {w : Wd} {al : Vw} {wh : Int} {me : Bool} {cl : List Ac} {r_ : (List Vt)} (hr : pU l w al = some r_) : LC Tryz.prog 91 [(kV l), .fn 92 [] [.ptr 5 0, .ptr 4 0]] (hM w al wh me cl 87 86) (Is (kV r_) (hM w al wh me cl 87 86)) := by
 refine dc Tryz.func91 Z Z Z ?_;unfold pU at hr;refine zQ<|zR<|zM Z<|zN<|zT<|zQ<|zR<|zM Z<|zN<|zT<|zQ<|zQ<|LW.ent (bM.lazy (t := 5) (m := 4) Z Z Z)<|zR<|zM Z<|yS Z (dT Z Z (by kernel_rfl))<|zM Z<|zN<|zT ?_;obtain ⟨v1, hb_v1, ho_v1⟩ := zB hr;clear hr;refine LW.tail (E := [(4, .zs), (5, (jV 6 v1.out))]) (O := [.box (fl w), .box tL, .box (fl w), .box (kG w al wh me cl 87 5 4), .box (kG w al wh me cl 87 5 4), .box [.fn 86 [] [.ptr 2 0]], .vec 4 (v1.out.map aI)]) ?_<|fun env_v1 H_v1 hw_v1 => ?_
 ·refine LW.block ?_;refine LW.iterB (E := fun x1 : cV => [(1, .fn 92 [] [.ptr 5 0, .ptr 4 0]), (4, .zs), (5, (jV 6 x1.out)), (8, (kV l)), (9, .p (.int .i64 (l.length : Int))), (10, (iQ x1.t10))]) (O := fun x1 => [.box (fl w), .box tL, .box (fl w), .box (kG w al wh me cl 87 5 4), .box (kG w al wh me cl 87 5 4), .box [.fn 86 [] [.ptr 2 0]], .vec 4 (x1.out.map aI)]) hb_v1 (zW 7 ⟨rfl, rfl, rfl, rfl, rfl, rfl, trivial⟩ Z Z Z Z)<|fun x1 z_x1 hr hb_x1 => ?_;unfold gq at hr;refine zQ<|zR<|yS Z (aw Z Z Z Z)<|zN<|zT<|zQ ?_;refine zX Z (fun g1 => ?_)<|fun g1 => ?_
  ·
   refine zi g1 hr fun hr => zk<|zT<|zQ<|zl<|zQ<|zR<|zb hr fun y1 h_y1 hr => yS Z (zx Z Z Z dF h_y1 Z)<|yS Z (dS Z Z Z cB Z Z)<|yS Z (ze Z rC Z Z)<|yS Z (zs Z Z Z Z cB Z Z Z Z)<|zN<|zT<|zQ<|zR<|zM Z<|yS Z (zD Z Z Z cB Z Z)<|zb hr fun v2 h_v2 hr => yS Z (zC Z Z Z (by kernel_rfl) (LC.pre (GN h_v2) Z Z Z))<|zN<|zT ?_;refine zX Z (fun g2 => ?_)<|fun g2 => ?_
   ·
    refine zi g2 hr fun hr => zR<|zM Z<|yS Z (zD Z Z Z cB Z Z)<|yS Z (mD Z dF Z Z Z Z Z)<|zg hr fun q1 hr => yS Z (ab.appendX aI x1.out [y1] rfl Z Z Z kg.p Z dF q1 Z)<|zM Z<|zN<|ai<|zT<|zR<|yS Z (aw Z Z Z Z)<|zM Z<|zN<|zT ?_;obtain rfl := zJ hr;exact ⟨_, rfl, zW 7 ⟨rfl, rfl, rfl, rfl, rfl, rfl, trivial⟩ Z Z Z rfl⟩
   ·
    refine zo g2 hr fun hr => zk<|ai<|zT<|zR<|yS Z (aw Z Z Z Z)<|zM Z<|zN<|zT ?_;obtain rfl := zJ hr;exact ⟨_, rfl, zW 7 ⟨rfl, rfl, rfl, rfl, rfl, rfl, trivial⟩ Z Z Z rfl⟩
  ·
   refine zo g1 hr fun hr => zq<|ao<|ao<|zy<|zT ?_;obtain rfl := zJ hr;have hr := congrArg some (hb_x1 _ rfl);obtain rfl := zJ hr;exact zW 7 ⟨Z, Z, trivial⟩ Z Z Z Z
 ·have hr := ho_v1;clear hb_v1;refine zT<|LW.weak hw_v1<|zQ<|LW.ent (bM.frz (t := 5) (env' := []) (H0 := (hM w al wh me cl 87 86)) Z Z Z Z Z trivial Z Z)<|zR<|zM Z<|zM Z<|zN<|zT<|zr ?_;obtain rfl := zJ hr;exact ap (.one (.tmp Z))<|⟨rfl, rfl⟩
def uq (a : Ac) (w : Wd) (al : Vw) : Option Vw :=
 (pT a.B w al).bind fun v1 =>
 (pU a.V w al).bind fun v2 =>
 some (Vw.mk v1 v2)
theorem GI {a : Ac} {w : Wd} {al : Vw} {wh : Int} {me : Bool} {cl : List Ac} {r_ : Vw} (hr : uq a w al = some r_) : LC Tryz.prog 87 [.p (kc a), .ptr 5 0, .ptr 4 0] (hM w al wh me cl 87 86) (Is (.p (mA r_)) (hM w al wh me cl 87 86)) := by
 refine dc Tryz.func87 Z Z Z ?_;unfold uq at hr;refine zQ<|zR<|yS Z (bV Z Z Z Z Z)<|yS Z (ze Z ia Z Z)<|zN<|zT<|zQ<|LW.drawLast (m := 9) (by kernel_rfl) (by kernel_rfl) (by kernel_rfl)<|yE Z (zA Z Z qm)<|yE Z (zD Z Z Z dE Z Z)<|yE Z (ab.makeFunc Z Z Z)<|zb hr fun v1 h_v1 hr => yE Z (zC Z Z Z (by kernel_rfl) (LC.pre (EA h_v1) Z Z Z))<|yE Z (zA Z Z qo)<|yE Z (zD Z Z Z eC Z Z)<|yE Z (ab.makeFunc Z Z Z)<|zb hr fun v2 h_v2 hr => yE Z (zC Z Z Z (by kernel_rfl) (LC.pre (EB h_v2) Z Z Z))<|yE Z (ab.build Z nS Z Z Z)<|LO.nil<|yS Z (zs Z Z Z Z aT Z Z Z Z)<|zN<|zT<|zr ?_;obtain rfl := zJ hr;exact i6 (env' := []) (H' := (hM w al wh me cl 87 86)) (zW 6 trivial Z Z Z Z) (.one (.cellAgg Z Z (by kernel_rfl) Z)) Z<|⟨rfl, rfl⟩
open Go.Proofs
def xM (n : Nd) (w : Vw) : Option Vw :=
 (tT n).bind fun v1 =>
 (xL w v1).bind fun v2 =>
 some v2
theorem GF {n : Nd} {w : Vw} {r_ : Vw} (hr : xM n w = some r_) : LC Tryz.prog 67 [.p (gk n), .ptr 0 0] [.box (de w)] (Is (.tup []) [.box (de r_)]) := by
 refine dc Tryz.func67 Z Z Z ?_;unfold xM at hr;refine zQ<|zR<|yS Z (bV Z Z Z Z Z)<|zN<|zT<|LW.drawLast (m := 4) (by kernel_rfl) (by kernel_rfl) (by kernel_rfl)<|yE Z (zD Z Z Z aT Z Z)<|yE Z (zD Z Z Z co Z Z)<|zb hr fun v1 h_v1 hr => yE Z (zC Z Z Z (by kernel_rfl) (zp (HV h_v1) (.cons zv .nil)))<|zb hr fun v2 h_v2 hr => yE Z (zC Z Z Z (by kernel_rfl) (zp (DM h_v2) (.cons zv (.cons zv .nil))))<|LO.nil<|yS Z (zs Z Z Z Z aT Z Z Z Z)<|zN ?_;obtain rfl := zJ hr;exact ey (env' := []) (H' := [.box (de v2)]) (zW 1 trivial Z Z Z Z) .none<|⟨rfl, rfl⟩
structure dy where
 t8 : Int
 o0 : Vw
def gl (l : List Nd) (x1 : dy) : Option (dy ⊕ dy) :=
 bif decide (x1.t8 < (l.length : Int)) then
  (ix l x1.t8).bind fun y1 =>
  (xM y1 x1.o0).bind fun v2 =>
  some (.inl (dy.mk (IntKind.i64.wrap (x1.t8 + 1)) v2))
 else
  some (.inr (dy.mk x1.t8 x1.o0))
def pR (l : List Nd) (w : Vw) : Option Vw :=
 (iter (gl l) bG (dy.mk 0 w)).bind fun v1 =>
 some v1.o0
theorem Ew {l : List Nd} {w : Vw} {r_ : Vw} (hr : pR l w = some r_) : LC Tryz.prog 55 [.p (.slice 12 (l.map gk)), .fn 67 [] [.ptr 0 0]] [.box (de w)] (Is (.tup []) [.box (de r_)]) := by
 refine dc Tryz.func55 Z Z Z ?_;unfold pR at hr;refine zQ<|zR<|zM Z<|yS Z (dT Z Z (by kernel_rfl))<|zM Z<|zN<|zT ?_;obtain ⟨v1, hb_v1, ho_v1⟩ := zB hr;clear hr;refine LW.tail (E := []) (O := [.box (de v1.o0)]) ?_<|fun env_v1 H_v1 hw_v1 => ?_
 ·refine LW.block ?_;refine LW.iterB (E := fun x1 : dy => [(1, .fn 67 [] [.ptr 0 0]), (6, .p (.slice 12 (l.map gk))), (7, .p (.int .i64 (l.length : Int))), (8, (iQ x1.t8))]) (O := fun x1 => [.box (de x1.o0)]) hb_v1 (zW 1 ⟨rfl, rfl, rfl, rfl, trivial⟩ Z Z Z Z)<|fun x1 z_x1 hr hb_x1 => ?_;unfold gl at hr;refine zQ<|zR<|yS Z (aw Z Z Z Z)<|zN<|zT<|zQ ?_;refine zX Z (fun g1 => ?_)<|fun g1 => ?_
  ·
   refine zi g1 hr fun hr => zk<|zT<|zQ<|zl<|zQ<|zR<|zb hr fun y1 h_y1 hr => yS Z (zx Z Z Z dR h_y1 Z)<|yS Z (dS Z Z Z co Z Z)<|yS Z (ze Z rl Z Z)<|yS Z (zs Z Z Z Z co Z Z Z Z)<|zN<|zT<|zR<|zM Z<|yS Z (zD Z Z Z co Z Z)<|zb hr fun v2 h_v2 hr => yS Z (zC Z Z Z (by kernel_rfl) (LC.pre (GF h_v2) Z Z Z))<|zN<|ai<|zT<|zR<|yS Z (aw Z Z Z Z) ?_;refine zM Z<|zN<|zT ?_;obtain rfl := zJ hr;exact ⟨_, rfl, zW 1 ⟨rfl, rfl, rfl, rfl, trivial⟩ Z Z Z rfl⟩
  ·
   refine zo g1 hr fun hr => zq<|ao<|ao<|zy<|zT ?_;obtain rfl := zJ hr;have hr := congrArg some (hb_x1 _ rfl);obtain rfl := zJ hr;exact zW 1 trivial Z Z Z Z
 ·have hr := ho_v1;clear hb_v1;obtain rfl := zJ hr;exact ey hw_v1 .none ⟨rfl, rfl⟩
def rE (l : List Nd) : Option Vw :=
 (pR l (Vw.mk [] [])).bind fun v1 =>
 some v1
theorem Fh {l : List Nd} {r_ : Vw} (hr : rE l = some r_) : av Tryz.prog 32 [.slice 12 (l.map gk)] [mA r_] := by
 refine zh Tryz.func32 Z Z Z Z ?_;unfold rE at hr;refine zQ<|zR<|yS Z (ze Z ia Z Z)<|zN<|zT<|zQ<|LW.ent (bM.zsCell (i := 0) (j := 0) (m := 5) Z Z Z Z)<|LW.ent (bM.zsCell (i := 0) (j := 1) (m := 4) Z Z Z Z)<|zR<|zM Z<|yS Z (ab.makeFunc Z Z Z)<|zb hr fun v1 h_v1 hr => yS Z (zC Z Z Z (by kernel_rfl) (Ew h_v1))<|zN<|zT<|zQ<|zR<|yS Z (zD Z Z Z aT Z Z)<|yS Z (zs Z Z Z Z aT Z Z Z Z)<|zN<|zT<|zr ?_;obtain rfl := zJ hr;exact zf (.one (.cellAgg Z Z (by kernel_rfl) Z)) zv
def pk (n : Nd) (c : Cf) (hs : List ID) : Option (List ID) :=
 (rD c n).bind fun v1 =>
 bif room hs.length [v1].length 16 then
  some (hs ++ [v1])
 else none
theorem Ck {n : Nd} {c : Cf} {hs : List ID} {r_ : List ID} (hr : pk n c hs = some r_) : LC Tryz.prog 56 [.p (gk n), .ptr 1 0, .ptr 0 0] [.box (bB c), .box [.vec 2 2 (hs.map bH).length 0 (hs.map bH).length], .vec 2 (hs.map bH)] (Is (.tup []) [.box (bB c), .box [.vec 2 2 (r_.map bH).length 0 (r_.map bH).length], .vec 2 (r_.map bH)]) := by
 refine dc Tryz.func56 Z Z Z ?_;unfold pk at hr;refine zQ<|zR<|yS Z (bV Z Z Z Z Z)<|zN<|zT<|LW.drawW (by kernel_rfl) (by kernel_rfl)<|yF Z (zd Z Z Z E5 Z Z) Z<|yF Z (zd Z Z Z bE Z Z) Z<|yF Z (zd Z Z Z co Z Z) Z<|zb hr fun v1 h_v1 hr => ?_;refine yF (F := []) (s := none) Z (fun H _ => zC Z Z Z (by kernel_rfl) (zp (Fg h_v1) (.cons zv (.cons zv .nil)))) Z ?_;refine yF (F := []) (s := none) Z (fun H _ => mD Z nw Z Z Z Z Z) Z ?_;refine zg hr fun q1 hr => yF Z (bJ.appendX bH hs [v1] rfl Z Z Z Z nw q1) Z<|yF Z (zt Z Z Z Z E5 Z Z Z) Z ?_;refine LF.nil ⟨by kernel_rfl, ?_⟩;obtain rfl := zJ hr;exact ey (env' := []) (H' := [.box (bB c), .box [.vec 2 2 ((hs ++ [v1]).map bH).length 0 ((hs ++ [v1]).map bH).length], .vec 2 ((hs ++ [v1]).map bH)]) (zW 3 trivial Z Z Z Z) .none<|⟨rfl, rfl⟩
structure dz where
 t8 : Int
 o2 : List ID
def gm (l : List Nd) (c : Cf) (x1 : dz) : Option (dz ⊕ dz) :=
 bif decide (x1.t8 < (l.length : Int)) then
  (ix l x1.t8).bind fun y1 =>
  (pk y1 c x1.o2).bind fun v2 =>
  some (.inl (dz.mk (IntKind.i64.wrap (x1.t8 + 1)) v2))
 else
  some (.inr (dz.mk x1.t8 x1.o2))
def sR (l : List Nd) (c : Cf) (hs : List ID) : Option (List ID) :=
 (iter (gm l c) bG (dz.mk 0 hs)).bind fun v1 =>
 some v1.o2
theorem Ex {l : List Nd} {c : Cf} {hs : List ID} {r_ : List ID} (hr : sR l c hs = some r_) : LC Tryz.prog 55 [.p (.slice 12 (l.map gk)), .fn 56 [] [.ptr 1 0, .ptr 0 0]] [.box (bB c), .box [.vec 2 2 (hs.map bH).length 0 (hs.map bH).length], .vec 2 (hs.map bH)] (Is (.tup []) [.box (bB c), .box [.vec 2 2 (r_.map bH).length 0 (r_.map bH).length], .vec 2 (r_.map bH)]) := by
 refine dc Tryz.func55 Z Z Z ?_;unfold sR at hr;refine zQ<|zR<|zM Z<|yS Z (dT Z Z (by kernel_rfl))<|zM Z<|zN<|zT ?_;obtain ⟨v1, hb_v1, ho_v1⟩ := zB hr;clear hr;refine LW.tail (E := []) (O := [.box (bB c), .box [.vec 2 2 (v1.o2.map bH).length 0 (v1.o2.map bH).length], .vec 2 (v1.o2.map bH)]) ?_<|fun env_v1 H_v1 hw_v1 => ?_
 ·refine LW.block ?_;refine LW.iterB (E := fun x1 : dz => [(1, .fn 56 [] [.ptr 1 0, .ptr 0 0]), (6, .p (.slice 12 (l.map gk))), (7, .p (.int .i64 (l.length : Int))), (8, (iQ x1.t8))]) (O := fun x1 => [.box (bB c), .box [.vec 2 2 (x1.o2.map bH).length 0 (x1.o2.map bH).length], .vec 2 (x1.o2.map bH)]) hb_v1 (zW 3 ⟨rfl, rfl, rfl, rfl, trivial⟩ Z Z Z Z)<|fun x1 z_x1 hr hb_x1 => ?_;unfold gm at hr;refine zQ<|zR<|yS Z (aw Z Z Z Z)<|zN<|zT<|zQ ?_;refine zX Z (fun g1 => ?_)<|fun g1 => ?_
  ·
   refine zi g1 hr fun hr => zk<|zT<|zQ<|zl<|zQ<|zR<|zb hr fun y1 h_y1 hr => yS Z (zx Z Z Z dR h_y1 Z)<|yS Z (dS Z Z Z co Z Z)<|yS Z (ze Z rl Z Z)<|yS Z (zs Z Z Z Z co Z Z Z Z)<|zN<|zT<|zR<|zM Z<|yS Z (zD Z Z Z co Z Z)<|zb hr fun v2 h_v2 hr => yS Z (zC Z Z Z (by kernel_rfl) (LC.pre (Ck h_v2) Z Z Z))<|zN<|ai<|zT<|zR<|yS Z (aw Z Z Z Z) ?_;refine zM Z<|zN<|zT ?_;obtain rfl := zJ hr;exact ⟨_, rfl, zW 3 ⟨rfl, rfl, rfl, rfl, trivial⟩ Z Z Z rfl⟩
  ·
   refine zo g1 hr fun hr => zq<|ao<|ao<|zy<|zT ?_;obtain rfl := zJ hr;have hr := congrArg some (hb_x1 _ rfl);obtain rfl := zJ hr;exact zW 3 trivial Z Z Z Z
 ·have hr := ho_v1;clear hb_v1;obtain rfl := zJ hr;exact ey hw_v1 .none ⟨rfl, rfl⟩
def ug (c : Cf) (l : List Nd) : Option (List ID) :=
 (sR l c ([] : List ID)).bind fun v1 =>
 some v1
theorem Ip {c : Cf} {l : List Nd} {r_ : (List ID)} (hr : ug c l = some r_) : av Tryz.prog 20 [jx c, .slice 12 (l.map gk)] [.slice 2 (r_.map bH)] := by
 refine zh Tryz.func20 Z Z Z Z ?_;unfold ug at hr;refine zQ<|zR<|yS Z (bV Z Z Z Z Z)<|yS Z (ze Z K8 Z Z)<|zN<|zT<|zQ<|LW.ent (bM.lazyCell (i := 1) (j := 0) (m := 2) Z Z Z Z Z Z)<|zR<|zM Z<|yS Z (ab.makeFunc Z Z Z)<|zb hr fun v1 h_v1 hr => yS Z (zC Z Z Z (by kernel_rfl) (Ex h_v1))<|zN<|zT<|zQ<|zR<|yS Z (zD Z Z Z E5 Z Z)<|yS Z (zs Z Z Z Z E5 Z Z Z Z)<|zN<|zT<|zr ?_;obtain rfl := zJ hr;exact zf (.one (.cellOne Z Z (by kernel_rfl)))<|(Conv.vecAll Z Z Z)
structure en where
 t12 : Int
 names : List (ID × Bool)
def iS (w : Vw) (x1 : en) : Option (en ⊕ en) :=
 bif decide (x1.t12 < (w.B.length : Int)) then
  (ix w.B x1.t12).bind fun y1 =>
  some (.inl (en.mk (IntKind.i64.wrap (x1.t12 + 1)) (aN x1.names (nm y1) true)))
 else
  some (.inr (en.mk x1.t12 x1.names))
def uf (w : Vw) : Option Bool :=
 (iter (iS w) bG (en.mk 0 (aN [] (0, 0) true))).bind fun v1 =>
 bif qe v1.names then
  some ((v1.names.length : Int) != (IntKind.i64.wrap ((w.B.length : Int) + 1)))
 else none
theorem Io {w : Vw} {r_ : Bool} (hr : uf w = some r_) : av Tryz.prog 38 [mA w] [.bool r_] := by
 refine zh Tryz.func38 Z Z Z Z ?_;unfold uf at hr;refine zQ<|zR<|yS Z (bV Z Z Z Z Z)<|zM Z<|zN<|zT<|zQ<|zR<|yS Z (ab.makeMap Z Z Z)<|yS Z (ab.build Z wz Z Z Z) ?_;refine yS Z (ab.setX (f := bH) (g := (fun v => (bQ v))) (m := ([] : List (ID × Bool))) (0, 0) true dO (.inr Z) Z Z Z Z Z yo Z) ?_;refine zM Z<|zM Z<|zN<|zT<|zQ<|zQ<|zR<|yS Z (zA Z Z bD)<|yS Z (zD Z Z Z dE Z Z)<|yS Z (dT Z Z (by kernel_rfl))<|zM Z<|zN<|zT ?_;obtain ⟨v1, hb_v1, ho_v1⟩ := zB hr;clear hr;refine LW.tail (E := [(1, .ptr 0 0), (2, (bQ false)), (3, .map 1)]) (O := [.box (de w), .map (af bH (fun v => (bQ v)) v1.names)]) ?_<|fun env_v1 H_v1 hw_v1 => ?_
 ·refine LW.block ?_;refine LW.iterB (E := fun x1 : en => [(1, .ptr 0 0), (2, (bQ false)), (3, .map 1), (10, (kB w.B)), (11, .p (.int .i64 (w.B.length : Int))), (12, (iQ x1.t12))]) (O := fun x1 => [.box (de w), .map (af bH (fun v => (bQ v)) x1.names)]) hb_v1 (zW 2 ⟨rfl, rfl, rfl, rfl, rfl, rfl, trivial⟩ Z Z Z (zL Z (zL (ae (fun _ => rfl) _) Z)))<|fun x1 z_x1 hr hb_x1 => ?_;unfold iS at hr;refine zQ<|zR<|yS Z (aw Z Z Z Z)<|zN<|zT<|zQ ?_;refine zX Z (fun g1 => ?_)<|fun g1 => ?_
  ·
   refine zi g1 hr fun hr => zk<|zT<|zQ<|zl<|zQ<|zR<|zb hr fun y1 h_y1 hr => yS Z (zx Z Z Z eB h_y1 Z)<|yS Z (dS Z Z Z cH Z Z)<|yS Z (ze Z tK Z Z)<|yS Z (zs Z Z Z Z cH Z Z Z Z)<|zN<|zT<|zR<|zM Z<|yS Z (zD Z Z Z cH Z Z)<|yS Z (zC Z Z Z (by kernel_rfl) (zp (Fr (b := y1)) (.cons zv .nil))) ?_;refine yS Z (ab.setX (f := bH) (g := (fun v => (bQ v))) (nm y1) true dO (.inl Z) Z Z Z Z Z yo Z) ?_;refine zN<|ai<|zT<|zR<|yS Z (aw Z Z Z Z)<|zM Z<|zN<|zT ?_;obtain rfl := zJ hr;exact ⟨_, rfl, zW 2 ⟨rfl, rfl, rfl, rfl, rfl, rfl, trivial⟩ Z Z Z (zL Z (zL (ae (fun _ => rfl) _) Z))⟩
  ·
   refine zo g1 hr fun hr => zq<|ao<|ao<|zy<|zT ?_;obtain rfl := zJ hr;have hr := congrArg some (hb_x1 _ rfl);obtain rfl := zJ hr;exact zW 2 ⟨Z, Z, Z, trivial⟩ Z Z Z<|zL Z<|zL (ae (fun _ => rfl) _) Z
 ·have hr := ho_v1;clear hb_v1;refine zT<|LW.weak hw_v1<|zQ<|zR<|zM Z<|zg hr fun q1 hr => yS Z (ab.lenMapX Z Z Z (by kernel_rfl) q1)<|yS Z (zA Z Z bD)<|yS Z (zD Z Z Z dE Z Z)<|yS Z (dT Z Z (by kernel_rfl))<|yS Z (aw Z Z Z Z)<|yS Z (aw Z Z Z Z)<|zM Z<|zN<|zT<|zr ?_;obtain rfl := zJ hr;exact zf (.one (.tmp Z)) zv
structure gc where
 t8 : Int
def li (l : List Nd) (x1 : gc) : Option (gc ⊕ (gc ⊕ Int)) :=
 bif decide (x1.t8 < (l.length : Int)) then
  (ix l x1.t8).bind fun y1 =>
  (xJ y1).bind fun v2 =>
  bif v2 then
   some (.inr (.inr x1.t8))
  else
   some (.inl (gc.mk (IntKind.i64.wrap (x1.t8 + 1))))
 else
  some (.inr (.inl (gc.mk x1.t8)))
def Eh (l : List Nd) : Option Int :=
 (iter (li l) bG (gc.mk 0)).bind fun b_v1 => Sum.elim (fun _ =>
  some (-1)) some b_v1
theorem IW {l : List Nd} {r_ : Int} (hr : Eh l = some r_) : LC Tryz.prog 118 [.p (.slice 12 (l.map gk)), .fn 73 [] []] [] (Is (iQ r_) []) := by
 refine dc Tryz.func118 Z Z Z ?_;unfold Eh at hr;refine zQ<|zR<|zM Z<|zN<|zT<|zQ<|zQ<|zR<|zM Z<|yS Z (dT Z Z (by kernel_rfl))<|zM Z<|zN<|zT ?_;obtain ⟨b_v1, hb_v1, ho_v1⟩ := zB hr;clear hr;refine LW.tailB (b := b_v1) (E := fun v1 => [(4, (iQ 0))]) (O := fun v1 => []) ?_<|fun v1 e_v1 env_v1 H_v1 hw_v1 => ?_
 ·refine LW.block ?_;refine LW.iterB (E := fun x1 : gc => [(0, .p (.slice 12 (l.map gk))), (1, .fn 73 [] []), (4, (iQ 0)), (7, .p (.int .i64 (l.length : Int))), (8, (iQ x1.t8))]) (O := fun x1 => []) hb_v1 (zW 0 ⟨rfl, rfl, rfl, rfl, rfl, trivial⟩ Z Z Z Z)<|fun x1 z_x1 hr hb_x1 => ?_;unfold li at hr;refine zQ<|zR<|yS Z (aw Z Z Z Z)<|zN<|zT<|zQ ?_;refine zX Z (fun g1 => ?_)<|fun g1 => ?_
  ·
   refine zi g1 hr fun hr => zk<|zT<|zQ<|zl<|zQ<|zR<|zM Z<|zM Z<|zN<|zT<|zQ<|zR<|zM Z<|zM Z<|zM Z<|zb hr fun y1 h_y1 hr => yS Z (zx Z Z Z dR h_y1 Z)<|yS Z (dS Z Z Z co Z Z)<|zb hr fun v2 h_v2 hr => yS Z (zC Z Z Z (by kernel_rfl) (zp (Ir h_v2) (.cons zv .nil)))<|zN<|zT ?_;refine zX Z (fun g2 => ?_)<|fun g2 => ?_
   ·
    refine zi g2 hr fun hr => zQ<|zR<|zM Z<|zM Z<|zN<|zT<|zr<|ay<|aj<|aj<|ay<|aj<|aj ?_;obtain rfl := zJ hr;have hr := congrArg some (hb_x1 _ rfl);obtain rfl := zJ hr;have hr := d8 ho_v1;obtain rfl := zJ hr;exact ap (.one (.tmp Z))<|⟨rfl, rfl⟩
   ·
    refine zo g2 hr fun hr => zk<|ai<|zT<|zR<|yS Z (aw Z Z Z Z)<|zM Z<|zN<|zT ?_;obtain rfl := zJ hr;exact ⟨_, rfl, zW 0 ⟨rfl, rfl, rfl, rfl, rfl, trivial⟩ Z Z Z rfl⟩
  ·
   refine zo g1 hr fun hr => zq<|ao<|ao<|zy<|zT ?_;obtain rfl := zJ hr;have hr := congrArg some (hb_x1 _ rfl);obtain rfl := zJ hr;exact ⟨_, rfl, zW 0 ⟨rfl, trivial⟩ Z Z Z rfl⟩
 ·obtain rfl := e_v1;have hr := gb ho_v1;clear hb_v1;refine zT<|LW.weak hw_v1<|zQ<|zR<|zM Z<|zN<|zT<|zr ?_;obtain rfl := zJ hr;exact ap (.one (.tmp Z))<|⟨rfl, rfl⟩
def Ee (l : List Nd) : Option Bool :=
 (Eh l).bind fun v1 =>
 some (decide (v1 ≥ 0))
theorem IT {l : List Nd} {r_ : Bool} (hr : Ee l = some r_) : LC Tryz.prog 63 [.p (.slice 12 (l.map gk)), .fn 73 [] []] [] (Is (bQ r_) []) := by
 refine dc Tryz.func63 Z Z Z ?_;unfold Ee at hr;refine zQ<|zR<|zM Z<|zN<|zT<|zQ<|zR<|zM Z<|zM Z<|zb hr fun v1 h_v1 hr => yS Z (zC Z Z Z (by kernel_rfl) (IW h_v1))<|yS Z (aw Z Z Z Z)<|zM Z<|zN<|zT<|zr ?_;obtain rfl := zJ hr;exact ap (.one (.tmp Z))<|⟨rfl, rfl⟩
def ue (l : List Nd) : Option Bool :=
 (Ee l).bind fun v1 =>
 some v1
theorem Im {l : List Nd} {r_ : Bool} (hr : ue l = some r_) : av Tryz.prog 37 [.slice 12 (l.map gk)] [.bool r_] := by
 refine zh Tryz.func37 Z Z Z Z ?_;unfold ue at hr;refine zQ<|zR<|zM Z<|zN<|zT<|zQ<|zR<|zM Z<|zb hr fun v1 h_v1 hr => yS Z (zC Z Z Z (by kernel_rfl) (IT h_v1))<|zM Z<|zN<|zT<|zr ?_;obtain rfl := zJ hr;exact zf (.one (.tmp Z)) zv
end Go.Mg
