/- The votes of a slot that count, by what votes there are, whatever their order. Offers, one behind another. What is confirmed. A node at a tick: what it hears, counts, and stands by. A node behind a tick. A world once more. What comes at a tick: closures. Nets. Conditions: none. -/
import Derived.Test.YtbjmcafamkdokaaGreatX7
import Derived.Test.YtbjmcafamkdokaaGreatX3
import Derived.Test.YtbjmcafamkdokaaGreatX6
import Derived.Test.YtbjmcafamkdokaaGreatX4
set_option maxRecDepth 100000
set_option linter.unusedSimpArgs false
set_option linter.unusedVariables false
namespace Go.Mg
theorem og {α β : Type} [DecidableEq α] : ∀ {m : List (α × β)}, (m.map Prod.fst).Nodup → ∀ {k : α} {v : β}, (k, v) ∈ m ↔ af m k = some v
 | [], _, k, v => by simp [af]
 | (a, b) :: r, h, k, v => by
  rw [List.map_cons, List.nodup_cons] at h;have ih := og h.2 (k := k) (v := v);by_cases e : a = k
  ·subst e;simp only [af, if_true, List.mem_cons, Prod.mk.injEq, true_and];constructor
   ·rintro (h1 | h1)
    ·rw [h1]
    ·exact absurd (List.mem_map.2 ⟨_, h1, rfl⟩) h.1
   ·intro h1;exact .inl (Option.some.inj h1).symm
  ·have e' : ¬ k = a := fun h => e h.symm;simp only [af, if_neg e, List.mem_cons, Prod.mk.injEq, e', false_and, false_or];exact ih
structure py (l : List Vt) : Prop where
 was : ∀ d id, af (bx l).1 d = some id → ∃ v ∈ l, kc v = d ∧ v.Head = id
 has : ∀ v ∈ l, ∃ id, af (bx l).1 (kc v) = some id
 bad : ∀ d, (af (bx l).2 d).getD false = true ↔ ∃ v ∈ l, ∃ w ∈ l, kc v = d ∧ kc w = d ∧ v.Head ≠ w.Head
theorem At {l : List Vt} (h : py l) (y : Vt) : py (l ++ [y]) := by
 have e1 : (bx (l ++ [y])).1 = aO (bx l).1 (kc y) y.Head := by rw [jA]; rfl
 have e2 : (bx (l ++ [y])).2 = if tD (bx l).1 y = true then aO (bx l).2 (kc y) true else (bx l).2 := by rw [jA]; rfl
 have hy : y ∈ l ++ [y] := List.mem_append_right _ (List.mem_singleton.2 rfl)
 have hdbl : tD (bx l).1 y = true ↔ ∃ v ∈ l, kc v = kc y ∧ af (bx l).1 (kc y) = some v.Head ∧ v.Head ≠ y.Head := by
  unfold tD
  cases hf : af (bx l).1 (kc y) with
  | none =>
   simp only [Bool.false_eq_true, false_iff];rintro ⟨v, -, -, h2, -⟩;cases h2
  | some id =>
   obtain ⟨v, h1, h2, h3⟩ := h.was _ _ hf;constructor
   ·intro h4;exact ⟨v, h1, h2, by rw [h3], by rw [h3]; exact of_decide_eq_true h4⟩
   ·rintro ⟨w, -, -, h5, h6⟩;rw [Option.some.inj h5];exact decide_eq_true h6
 refine ⟨fun d id hd => ?_, fun v hv => ?_, fun d => ?_⟩
 ·rw [e1, cg] at hd;split at hd
  ·rename_i e;exact ⟨y, hy, e, Option.some.inj hd⟩
  ·obtain ⟨v, h1, h2⟩ := h.was d id hd;exact ⟨v, List.mem_append_left _ h1, h2⟩
 ·rw [e1, cg];split
  ·exact ⟨_, rfl⟩
  ·rename_i hne;rcases List.mem_append.1 hv with hv | hv
   ·exact h.has v hv
   ·rw [List.mem_singleton.1 hv] at hne;exact absurd Z hne
 ·rw [e2];constructor
  ·intro hb;by_cases hd : tD (bx l).1 y = true
   ·rw [if_pos hd, cg] at hb;by_cases e : kc y = d
    ·obtain ⟨v, h1, h2, -, h4⟩ := hdbl.1 hd;exact ⟨v, List.mem_append_left _ h1, y, hy, h2.trans e, e, h4⟩
    ·rw [if_neg e] at hb;obtain ⟨v, h1, w, h2, h3⟩ := (h.bad d).1 hb;exact ⟨v, List.mem_append_left _ h1, w, List.mem_append_left _ h2, h3⟩
   ·rw [if_neg hd] at hb;obtain ⟨v, h1, w, h2, h3⟩ := (h.bad d).1 hb;exact ⟨v, List.mem_append_left _ h1, w, List.mem_append_left _ h2, h3⟩
  ·have old : (af (bx l).2 d).getD false = true → (af (if tD (bx l).1 y = true then aO (bx l).2 (kc y) true else (bx l).2) d).getD false = true := by
    intro ho;split
    ·rw [cg];split
     ·rfl
     ·exact ho
    ·exact ho
   have mix : ∀ v ∈ l, kc v = d → kc y = d → v.Head ≠ y.Head → (af (if tD (bx l).1 y = true then aO (bx l).2 (kc y) true else (bx l).2) d).getD false = true := by
    intro v hv h1 h2 h3;by_cases hd : tD (bx l).1 y = true
    ·rw [if_pos hd, cg, if_pos h2]; rfl
    ·refine old ((h.bad d).2 ?_);obtain ⟨id, hid⟩ := h.has v hv;rw [h1, ← h2] at hid;obtain ⟨u, hu, hu2, hu3⟩ := h.was _ _ hid;have : ¬ u.Head ≠ y.Head := fun hne => hd (hdbl.2 ⟨u, hu, hu2, by rw [hid, hu3], hne⟩);exact ⟨v, hv, u, hu, h1, hu2.trans h2, fun e => this fun e2 => h3 (e.trans e2)⟩
   rintro ⟨v, hv, w, hw, h1, h2, h3⟩;rcases List.mem_append.1 hv with hv | hv
   ·rcases List.mem_append.1 hw with hw | hw
    ·exact old ((h.bad d).2 ⟨v, hv, w, hw, h1, h2, h3⟩)
    ·rw [List.mem_singleton.1 hw] at h2 h3;exact mix v hv h1 h2 h3
   ·rw [List.mem_singleton.1 hv] at h1 h3;rcases List.mem_append.1 hw with hw | hw
    ·exact mix w hw h2 h1 fun e => h3 e.symm
    ·rw [List.mem_singleton.1 hw] at h3;exact absurd Z h3
theorem CH (l : List Vt) : py l := by
 have key : ∀ k, k ≤ l.length → py (l.take k) := by
  intro k
  induction k with
  | zero => exact fun _ => ⟨fun d id h => (by cases h), fun v hv => (by cases hv), fun d => ⟨fun h => (by cases h), fun ⟨v, hv, _⟩ => (by cases hv)⟩⟩
  | succ k ih =>
   intro hk;obtain ⟨y, hy, -⟩ := aE (l := l) (n := k) (by omega);rw [aY hy];exact At (ih (by omega)) y
 have := key l.length (Nat.le_refl _)
 rwa [List.take_length] at this
theorem Ea {x y : Vt} (h1 : kc x = kc y) (h2 : x.Head = y.Head) : x = y := by
 cases x; cases y;unfold kc at h1;simp only at h1 h2;cases h1;cases h2;rfl
theorem HH {V : List Vt} {slot : Int} {x : Vt} : x ∈ Fy V slot ↔ x ∈ V ∧ x.Slot = slot ∧ ∀ y ∈ V, kc y = kc x → y.Head = x.Head := by
 have hI := CH V;have hk := (n8 V).1;unfold Fy;rw [(bS _).mem_iff, List.mem_filterMap];constructor
 ·rintro ⟨⟨⟨f, s⟩, id⟩, he, h2⟩;unfold fM at h2;split at h2
  ·rename_i hc;obtain ⟨hs, hb⟩ := hc;simp only at hs hb h2;subst hs;cases h2;obtain ⟨v, h3, h4, h5⟩ := hI.was _ _ ((og hk).1 he);have e : v = ⟨f, s, id⟩ := Ea h4 h5;subst e;refine ⟨h3, rfl, fun y hy h6 => ?_⟩;by_cases h7 : y.Head = id
   ·exact h7
   ·have := (hI.bad ⟨f, s⟩).2 ⟨y, hy, _, h3, h6, h4, h7⟩;rw [this] at hb;cases hb
  ·cases h2
 ·rintro ⟨h1, h2, h3⟩;obtain ⟨id, hid⟩ := hI.has x h1;obtain ⟨v, h4, h5, h6⟩ := hI.was _ _ hid;have e : id = x.Head := h6.symm.trans (h3 v h4 h5);refine ⟨(kc x, id), (og hk).2 hid, ?_⟩;unfold fM;rw [if_pos]
  ·rw [e, ← h2]; rfl
  ·refine ⟨h2, ?_⟩
   cases hb : (af (bx V).2 (kc x)).getD false with
   | false => rfl
   | true =>
    obtain ⟨u, hu, w, hw, h7, h8, h9⟩ := (hI.bad _).1 hb;exact absurd ((h3 u hu h7).trans (h3 w hw h8).symm) h9
theorem jd {c : Cf} {V : List Vt} {slot : Int} {x : Vt} : x ∈ bJ c V slot ↔ x ∈ V ∧ x.Slot = slot ∧ x.From ∈ fT c slot ∧ ∀ y ∈ V, kc y = kc x → y.Head = x.Head := by
 unfold bJ;rw [List.mem_filter, HH];unfold vK;rw [decide_eq_true_iff];exact ⟨fun ⟨⟨a, b, d⟩, e⟩ => ⟨a, b, e, d⟩, fun ⟨a, b, e, d⟩ => ⟨⟨a, b, d⟩, e⟩⟩
theorem Di {c : Cf} {V : List Vt} {slot : Int} : ∀ x ∈ bJ c V slot, ∀ y ∈ bJ c V slot, x.From = y.From → x = y := by
 intro x hx y hy e;obtain ⟨-, h2, -, h4⟩ := jd.1 hx;obtain ⟨h5, h6, -, -⟩ := jd.1 hy
 have hd : kc y = kc x := by unfold kc; rw [e, h2, h6]
 exact (Ea hd (h4 y h5 hd)).symm
open Go.Proofs
def uT (n : Int) : Option (List Of) :=
 bif decide (n < 0) then
  none
 else
  bif decide ((IntKind.i64.wrap (n - (IntKind.i64.wrap (0 - 0)))) > 0) then
   bif AP (IntKind.i64.wrap (n - (IntKind.i64.wrap (0 - 0)))) 104 then
    bif decide (0 ≤ 0 ∧ 0 ≤ (((List.replicate (IntKind.i64.wrap (n - (IntKind.i64.wrap (0 - 0)))).toNat (Of.mk 0 0 (Bk.mk 0 0 (0, 0) 0) (Vw.mk [] []) : Of)).map dK).length : Int)) then
     some (List.replicate (IntKind.i64.wrap (n - (IntKind.i64.wrap (0 - 0)))).toNat (Of.mk 0 0 (Bk.mk 0 0 (0, 0) 0) (Vw.mk [] []) : Of))
    else none
   else none
  else
   some []
theorem Ho {n : Int} {r_ : List Of} (hr : uT n = some r_) : LC Tryz.prog 163 [.zs, (iQ n)] [] (Is (.vec 9 0 (r_.map dK).length 0 0) [.vec 9 (r_.map dK)]) := by
 refine dk Tryz.func163 Z Z Z ?_;unfold uT at hr;refine zQ (zR (zM Z (zN (zT (zQ (zQ (zR (zM Z (yS Z (ax Z Z Z Z) (zN (zT ?_)))))))))));refine zX Z (fun g1 => ?_) (fun g1 => ?_)
 ·
  have hr := zI g1 hr;cases hr
 ·
  refine zo g1 hr fun hr => zk (zT (zQ (zQ (zR (zM Z (zM Z (yS Z (ab.capZ Z Z cz) (zM Z (yS Z (ab.lenZ Z Z (by kernel_rfl)) (yS Z (ax Z Z Z Z) (yS Z (ax Z Z Z Z) (zM Z (zN (zT (zQ (zR (zM Z (yS Z (ax Z Z Z Z) (zN (zT ?_))))))))))))))))))));refine zX Z (fun g2 => ?_) (fun g2 => ?_)
  ·
   refine zi g2 hr fun hr => zR (zM Z (zM Z (yS Z (ab.capZ Z Z cz) (yS Z (ab.sliceZ0 Z Z Z cz) (zM Z (zg hr fun q1 hr => ?_))))));refine yS Z (ab.appendMake (cs := [(iQ 0), (iQ 0), (iQ 0), (iQ 0), (uQ 0), (uQ 0), (uQ 0), .zs, .zs]) (zs := [.int .i64 0, .int .i64 0, .int .i64 0, .int .i64 0, .int .u64 0, .int .u64 0, .int .u64 0, .slice 5 [], .slice 4 []]) dK (Of.mk 0 0 (Bk.mk 0 0 (0, 0) 0) (Vw.mk [] [])) Z Z Z cz Tryz.underlying3 (fun _ => rfl) (by kernel_rfl) Z ⟨rfl, rfl, rfl, rfl, rfl, rfl, rfl, ⟨_, rfl⟩, ⟨_, rfl⟩, trivial⟩ q1 Z Z) ?_;refine zM Z (yS Z (ab.lenZ Z Z (by kernel_rfl)) (zg hr fun q2 hr => yS Z (ab.sliceVHi Z Z Z Z cz q2) (zM Z (zN (zT (zQ (zR (zM Z (zM Z (zN (zT (zr ?_))))))))))));obtain rfl := zJ hr;exact ap (.one (.tmp Z)) (⟨rfl, rfl⟩)
  ·
   refine zo g2 hr fun hr => zk (zT (zQ (LW.ent (bL.lazy (t := 0) (m := 9) Z Z Z) (zR (zM Z (zM Z (zN (zT (zr ?_)))))))));obtain rfl := zJ hr;exact ap (.one (.tmp Z)) (⟨rfl, rfl⟩)
structure dp where
 size : Int
 t11 : Int
structure dq where
 newslice : Nat
 t27 : Int
 o0 : List Of
def gC (slices : List (List Of)) (x1 : dp) : Option (dp ⊕ dp) :=
 bif decide (x1.t11 < (slices.length : Int)) then
  (ix slices x1.t11).bind fun y1 =>
  bif decide ((IntKind.i64.wrap (x1.size + (y1.length : Int))) < 0) then
   none
  else
   some (.inl (dp.mk (IntKind.i64.wrap (x1.size + (y1.length : Int))) (IntKind.i64.wrap (x1.t11 + 1))))
 else
  some (.inr (dp.mk x1.size x1.t11))
def gD (slices : List (List Of)) (x2 : dq) : Option (dq ⊕ dq) :=
 bif decide (x2.t27 < (slices.length : Int)) then
  (ix slices x2.t27).bind fun y2 =>
  bif decide (x2.newslice + y2.length ≤ x2.o0.length) then
   some (.inl (dq.mk (x2.newslice + y2.length) (IntKind.i64.wrap (x2.t27 + 1)) (fb x2.o0 x2.newslice y2)))
  else none
 else
  some (.inr (dq.mk x2.newslice x2.t27 x2.o0))
def uJ (slices : List (List Of)) : Option (List Of) :=
 (iter (gC slices) bD (dp.mk 0 0)).bind fun v1 =>
 (uT v1.size).bind fun v2 =>
 (iter (gD slices) bD (dq.mk 0 0 v2)).bind fun v3 =>
 bif Nat.ble v3.newslice v3.o0.length then
  some (v3.o0.take v3.newslice)
 else none
theorem Ja {slices : List (List Of)} {r_ : (List Of)} (hr : uJ slices = some r_) : aw Tryz.prog 136 [.slice 1 (slices.map (J7 9 dK))] [.slice 9 (r_.map dK)] := by
 refine zh Tryz.func136 Z Z Z Z ?_;unfold uJ at hr;refine zQ (zR (zM Z (zN (zT (zQ (zR (zM Z (zN (zT (zQ (zQ (zR (zM Z (yS Z (dY Z Z (by kernel_rfl)) (zM Z (zN (zT ?_)))))))))))))))));obtain ⟨v1, hb_v1, ho_v1⟩ := zB hr;clear hr;refine LW.tail (E := [(0, .p (.slice 1 (slices.map (J7 9 dK)))), (2, .zs), (3, (iQ v1.size))]) (O := []) ?_ (fun env_v1 H_v1 hw_v1 => ?_)
 ·refine LW.block ?_;refine LW.iterB (E := fun x1 : dp => [(0, .p (.slice 1 (slices.map (J7 9 dK)))), (2, .zs), (3, (iQ x1.size)), (9, .p (.slice 1 (slices.map (J7 9 dK)))), (10, .p (.int .i64 (slices.length : Int))), (11, (iQ x1.t11))]) (O := fun x1 => []) hb_v1 (zW 0 ⟨rfl, rfl, rfl, rfl, rfl, rfl, trivial⟩ Z Z Z Z) (fun x1 z_x1 hr hb_x1 => ?_);unfold gC at hr;refine zQ (zR (yS Z (ax Z Z Z Z) (zN (zT (zQ ?_)))));refine zX Z (fun g1 => ?_) (fun g1 => ?_)
  ·
   refine zi g1 hr fun hr => zk (zT (zQ (zl (zQ (zR (zb hr fun y1 h_y1 hr => yS Z (zx Z Z Z xG h_y1 Z) (yS Z (eA Z Z Z bY Z Z) (zM Z (zN (zT (zQ (zR (zM Z (zM Z (yS Z (dY Z Z (by kernel_rfl)) (yS Z (ax Z Z Z Z) (zM Z (zN (zT (zQ (zR ?_)))))))))))))))))))));refine zM Z (yS Z (ax Z Z Z Z) (zN (zT ?_)));refine zX Z (fun g2 => ?_) (fun g2 => ?_)
   ·
    have hr := zI g2 hr;cases hr
   ·
    refine zo g2 hr fun hr => zk (ai (zT (zR (yS Z (ax Z Z Z Z) (zM Z (zN (zT ?_)))))));obtain rfl := zJ hr;exact ⟨_, rfl, zW 0 ⟨rfl, rfl, rfl, rfl, rfl, rfl, trivial⟩ Z Z Z rfl⟩
  ·
   refine zo g1 hr fun hr => zq (ao (ao (zy (zT ?_))));obtain rfl := zJ hr;have hr := congrArg some (hb_x1 _ rfl);obtain rfl := zJ hr;exact zW 0 ⟨Z, Z, Z, trivial⟩ Z Z Z Z
 ·have hr := ho_v1;clear hb_v1;refine zT (LW.weak hw_v1 (zQ (zR (zM Z (zb hr fun v2 h_v2 hr => yS Z (zC Z Z Z (by kernel_rfl) (LC.frameX (x' := .vec 9 0 (v2.map dK).length 0 0) (H' := [.vec 9 (v2.map dK)]) (Ho h_v2) (.consZ (.consC zv .nil)) Z Z Z)) (zM Z (zN (zT (zQ (zQ (zR (zM Z (yS Z (dY Z Z (by kernel_rfl)) (zM Z (zN (zT ?_))))))))))))))));obtain ⟨v3, hb_v3, ho_v3⟩ := zB hr;clear hr;refine LW.tail (E := [(2, .zs), (6, .vec 9 0 (v3.o0.map dK).length 0 v3.newslice)]) (O := [.vec 9 (v3.o0.map dK)]) ?_ (fun env_v3 H_v3 hw_v3 => ?_)
  ·refine LW.block ?_;refine LW.iterB (E := fun x2 : dq => [(2, .zs), (6, .vec 9 0 (x2.o0.map dK).length 0 x2.newslice), (25, .p (.slice 1 (slices.map (J7 9 dK)))), (26, .p (.int .i64 (slices.length : Int))), (27, (iQ x2.t27))]) (O := fun x2 => [.vec 9 (x2.o0.map dK)]) hb_v3 (zW 1 ⟨rfl, rfl, rfl, rfl, rfl, trivial⟩ Z Z Z Z) (fun x2 z_x2 hr hb_x2 => ?_);unfold gD at hr;refine zQ (zR (yS Z (ax Z Z Z Z) (zN (zT (zQ ?_)))));refine zX Z (fun g3 => ?_) (fun g3 => ?_)
   ·
    refine zi g3 hr fun hr => zk (zT (zQ (zl (zQ (zR (zb hr fun y2 h_y2 hr => yS Z (zx Z Z Z xG h_y2 Z) (yS Z (eA Z Z Z bY Z Z) (zM Z (zN (zT (zR (zM Z (zM Z (zg hr fun q1 hr => ?_))))))))))))));refine yS Z (ab.appendP (f := dK) Z Z Z (fun _ => rfl) Z km.p Z cz q1 Z) ?_;refine zM Z (zN (ai (zT (zR (yS Z (ax Z Z Z Z) (zM Z (zN (zT ?_))))))));obtain rfl := zJ hr;exact ⟨_, rfl, zW 1 ⟨rfl, rfl, rfl, rfl, rfl, trivial⟩ Z Z Z rfl⟩
   ·
    refine zo g3 hr fun hr => zq (ao (ao (zy (zT ?_))));obtain rfl := zJ hr;have hr := congrArg some (hb_x2 _ rfl);obtain rfl := zJ hr;exact zW 1 ⟨Z, Z, trivial⟩ Z Z Z Z
  ·have hr := ho_v3;clear hb_v3;refine zT (LW.weak hw_v3 (zQ (zR (zg hr fun q2 hr => zM Z (zM Z (zN (zT (zr ?_))))))));obtain rfl := zJ hr;exact zf (.one (.tmp Z)) ((Conv.vecTake Z q2))
open Go.Proofs
def Cv (c : Cf) (w : Vw) (slot : Int) : Option (List Vt × Int) :=
 (rX c w.V slot).bind fun v1 =>
 (FO c slot).bind fun v2 =>
 (FQ c v2).bind fun v3 =>
 some (v1, v3)
theorem JD {c : Cf} {w : Vw} {slot : Int} {r_ : List Vt × Int} (hr : Cv c w slot = some r_) : LC Tryz.prog 59 [.p (jC c), .p (mO w), (iQ slot)] [] (Is (.agg [.fn 111 [] [.ptr 0 0, .ptr 1 0, .ptr 3 0], .fn 113 [] [.ptr 0 0, .ptr 4 0]]) [.box (bE c), .box (dm w), .box [.fn 111 [] [.ptr 0 0, .ptr 1 0, .ptr 3 0], .fn 113 [] [.ptr 0 0, .ptr 4 0]], .box [(kV r_.1)], .box [(iQ r_.2)]]) := by
 refine dk Tryz.func59 Z Z Z ?_;unfold Cv at hr;refine zQ (zR (yS Z (bZ Z Z Z Z Z) (yS Z (bZ Z Z Z Z Z) (yS Z (ze Z Em Z Z) (zN (zT (zQ (LW.ent (bL.slot Z) (LW.ent (bL.slot Z) (LW.drawW (by kernel_rfl) (by kernel_rfl) (yF Z (zd Z Z Z bv Z Z) Z ?_)))))))))));refine yF (F := []) (s := none) Z (fun H _ => zA Z Z b7) Z ?_;refine yF Z (zd Z Z Z eS Z Z) Z (zK Z (zb hr fun v1 h_v1 hr => ?_));refine yF (F := []) (s := none) Z (fun H _ => zC Z Z Z (by kernel_rfl) (zp (F2 h_v1) (.cons zv (.cons zv (.cons zv .nil))))) Z ?_;refine yF Z (zd Z Z Z bv Z Z) Z (yF Z (zd Z Z Z bv Z Z) Z (zK Z (zb hr fun v2 h_v2 hr => ?_)));refine yF (F := []) (s := none) Z (fun H _ => zC Z Z Z (by kernel_rfl) (zp (KU h_v2) (.cons zv (.cons zv .nil)))) Z ?_;obtain ⟨v3, h_v3, hr⟩ := zB hr;refine yF (F := []) (s := none) Z (fun H _ => zC Z Z Z (by kernel_rfl) (zp (KV h_v3) (.cons zv (.cons zv .nil)))) Z ?_;refine yF Z (bH.alloc Z LR (id := 3) Z) Z (yF Z (bH.alloc Z L3 (id := 4) Z) Z (yF Z (zt Z Z Z Z eS Z Z Z) Z (yF Z (zt Z Z Z Z bA Z Z Z) Z ?_)));refine LF.nil ⟨by kernel_rfl, ?_⟩;refine zT (zQ (zR (yS Z (ab.makeFunc Z Z Z) (yS Z (ab.makeFunc Z Z Z) (yS Z (ab.build Z G5 Z Z Z) (yS Z (zs Z Z Z Z D8 Z Z Z Z) (zN (zT (zr ?_)))))))));obtain rfl := zJ hr;exact ap (.one (.cellAgg Z Z (by kernel_rfl) Z)) (⟨rfl, rfl⟩)
theorem JJ {c : Cf} {w : Vw} {slot : Int} {r_ : List Vt × Int} (hr : Cv c w slot = some r_) : u4 Tryz.prog 59 [jC c, mO w, .int .i64 slot] (.agg [.fn 111 [] [.cptr [.slice 1 (c.W.map aF), .int .u64 c.Seed, .int .i64 c.Epoch, .int .i64 c.Num, .int .i64 c.Den], .cptr [.slice 5 (w.B.map ay), .slice 4 (w.V.map aI)], .cptr [.slice 4 (r_.1.map aI)]], .fn 113 [] [.cptr [.slice 1 (c.W.map aF), .int .u64 c.Seed, .int .i64 c.Epoch, .int .i64 c.Num, .int .i64 c.Den], .cptr [.int .i64 r_.2]]]) :=
 u4.ofLC rfl (JD hr) (de.agg ⟨de.fn trivial ⟨de.ptr rfl rfl rfl, de.ptr rfl rfl rfl, de.ptr rfl rfl rfl, trivial⟩, de.fn trivial ⟨de.ptr rfl rfl rfl, de.ptr rfl rfl rfl, trivial⟩, trivial⟩)
def EX (id : ID) (c : Cf) (w : Vw) (v : List Vt) : Option Int :=
 (zV c w.B v id).bind fun v1 =>
 some v1
theorem JE {id : ID} {c : Cf} {w : Vw} {v : List Vt} {r_ : Int} (hr : EX id c w v = some r_) : LC Tryz.prog 111 [.p (bF id), .cptr [.slice 1 (c.W.map aF), .int .u64 c.Seed, .int .i64 c.Epoch, .int .i64 c.Num, .int .i64 c.Den], .cptr [.slice 5 (w.B.map ay), .slice 4 (w.V.map aI)], .cptr [.slice 4 (v.map aI)]] [] (Is (iQ r_) []) := by
 refine dk Tryz.func111 Z Z Z ?_;unfold EX at hr;refine zQ (zR (yS Z (bZ Z Z Z Z Z) (zM Z (zN (zT (zQ (zR (yS Z (eA Z Z Z bv Z Z) (yS Z (ab.fieldAddrC Z Z bz Z) (yS Z (eA Z Z Z dC Z Z) (yS Z (eA Z Z Z eS Z Z) (yS Z (zD Z Z Z aR Z Z) (zb hr fun v1 h_v1 hr => yS Z (zC Z Z Z (by kernel_rfl) (zp (IP h_v1) (.cons zv (.cons zv (.cons zv (.cons zv .nil)))))) (zM Z (zN (zT (zr ?_)))))))))))))))));obtain rfl := zJ hr;exact a8 (env' := [(5, (iQ v1))]) (H' := []) (zW 0 ⟨rfl, trivial⟩ Z Z Z Z) (.one (.tmp Z)) (⟨rfl, rfl⟩)
def tq (n : Int) (c : Cf) (al : Int) : Option Bool :=
 (rU (IntKind.i64.wrap (2 * n)) c.Den al (IntKind.i64.wrap (c.Den + (IntKind.i64.wrap (2 * c.Num))))).bind fun v1 =>
 some v1
theorem Fd {n : Int} {c : Cf} {al : Int} {r_ : Bool} (hr : tq n c al = some r_) : LC Tryz.prog 113 [(iQ n), .cptr [.slice 1 (c.W.map aF), .int .u64 c.Seed, .int .i64 c.Epoch, .int .i64 c.Num, .int .i64 c.Den], .cptr [.int .i64 al]] [] (Is (bQ r_) []) := by
 refine dk Tryz.func113 Z Z Z ?_;unfold tq at hr;refine zQ (zR (zM Z (zN (zT (zQ (zR (zM Z (yS Z (ax Z Z Z Z) (yS Z (ab.fieldAddrC Z Z oq Z) (yS Z (eA Z Z Z bA Z Z) (yS Z (eA Z Z Z bA Z Z) (yS Z (ab.fieldAddrC Z Z oq Z) (yS Z (eA Z Z Z bA Z Z) (yS Z (ab.fieldAddrC Z Z tL Z) (yS Z (eA Z Z Z bA Z Z) (yS Z (ax Z Z Z Z) (yS Z (ax Z Z Z Z) (zb hr fun v1 h_v1 hr => yS Z (zC Z Z Z (by kernel_rfl) (zp (FY h_v1) (.cons zv (.cons zv (.cons zv (.cons zv .nil)))))) (zM Z (zN (zT (zr ?_))))))))))))))))))))));obtain rfl := zJ hr;exact ap (.one (.tmp Z)) (⟨rfl, rfl⟩)
structure ly where
 l : List ID
 v : List Vt
 al : Int
def jx (c : Cf) (w : Vw) (x1 : ly) : Option (ly ⊕ (ID × Bool)) :=
 bif decide ((x1.l.length : Int) < 2) then
  some (.inr ((0, 0), false))
 else
  (ix x1.l 0).bind fun y1 =>
  (EX y1 c w x1.v).bind fun v2 =>
  (tq v2 c x1.al).bind fun v3 =>
  bif v3 then
   (ix x1.l 0).bind fun y2 =>
   some (.inr (y2, true))
  else
   bif H4 x1.l 1 x1.l.length then
    some (.inl (ly.mk (x1.l.drop (1 : Int).toNat) x1.v x1.al))
   else none
def oV (c : Cf) (w : Vw) (slot : Int) (head : ID) : Option (ID × Bool) :=
 (Cv c w slot).bind fun v1 =>
 bif few w.B then
  iter (jx c w) bD (ly.mk (aq w.B head) v1.1 v1.2)
 else none
theorem F5 {c : Cf} {w : Vw} {slot : Int} {head : ID} {r_ : ID × Bool} (hr : oV c w slot head = some r_) : aw Tryz.prog 24 [jC c, mO w, .int .i64 slot, bF head] [bF r_.1, .bool r_.2] := by
 refine zh Tryz.func24 Z Z Z Z ?_;unfold oV at hr;refine zQ (zR (yS Z (bZ Z Z Z Z Z) (yS Z (bZ Z Z Z Z Z) (yS Z (bZ Z Z Z Z Z) (yS Z (ze Z js Z Z) (zM Z (zN (zT ?_))))))));refine LW.iterG (step := jx c w) (N := bD) (b := r_) (E := fun x1 : ly => [(8, .ptr 3 0), (9, (bQ false)), (10, .ptr 4 0), (11, .p (.slice 2 (x1.l.map bF)))]) (O := fun x1 => [.box (bE c), .box (dm w), .box [(uQ head.1), (uQ head.2)], .box [(uQ 0), (uQ 0)], .box [.fn 111 [] [.cptr [.slice 1 (c.W.map aF), .int .u64 c.Seed, .int .i64 c.Epoch, .int .i64 c.Num, .int .i64 c.Den], .cptr [.slice 5 (w.B.map ay), .slice 4 (w.V.map aI)], .cptr [.slice 4 (x1.v.map aI)]], .fn 113 [] [.cptr [.slice 1 (c.W.map aF), .int .u64 c.Seed, .int .i64 c.Epoch, .int .i64 c.Num, .int .i64 c.Den], .cptr [.int .i64 x1.al]]]]) Z ?_ (fun x1 z_x1 hr hb_x1 => ?_)
 ·
  refine LW.ent (bL.slot Z) (LW.drawW (by kernel_rfl) (by kernel_rfl) (yF Z (zd Z Z Z bv Z Z) Z (yF Z (zd Z Z Z aS Z Z) Z (zK Z (zb hr fun v1 h_v1 hr => ?_)))));refine yF (F := []) (s := none) Z (fun H _ => zC Z Z Z (by kernel_rfl) (LC.free (JJ h_v1) (.cons zv (.cons zv (.cons zv .nil))))) Z ?_;refine yF (F := []) (s := none) Z (fun H _ => zA Z Z bz) Z ?_;refine yF Z (zd Z Z Z dC Z Z) Z (yF Z (zd Z Z Z aR Z Z) Z (zg hr fun q1 hr => ?_));refine yF (F := []) (s := none) Z (fun H _ => zC Z Z Z (by kernel_rfl) (zp (KS (l := w.B) (id := head) (tF q1)) (.cons zv (.cons zv .nil)))) Z ?_;refine yF Z (bH.alloc Z Em (id := 4) Z) Z (yF Z (zt Z Z Z Z D8 Z Z Z) Z (zK Z ?_));refine LF.nil ⟨by kernel_rfl, ?_⟩;exact zT (⟨_, hr, zW 5 ⟨rfl, rfl, rfl, rfl, trivial⟩ Z Z Z rfl⟩)
 ·
  unfold jx at hr;refine zQ (zQ (zR (zM Z (yS Z (dY Z Z (by kernel_rfl)) (yS Z (ax Z Z Z Z) (zN (zT ?_)))))));refine zX Z (fun g1 => ?_) (fun g1 => ?_)
  ·
   refine zi g1 hr fun hr => zQ (zR (yS Z (ab.build Z wZ Z Z Z) (yS Z (zs Z Z Z Z aR Z Z Z Z) (zM Z (zN (zT (zr (am (vM ?_)))))))));obtain rfl := zJ hr;have hr := congrArg some (hb_x1 _ rfl);obtain rfl := zJ hr;exact zf (.two (.cellAgg Z Z (by kernel_rfl) Z) (.tmp Z)) (⟨_, rfl, (.cons zv (.cons zv .nil))⟩)
  ·
   refine zo g1 hr fun hr => zk (zT (zQ (zQ (LW.draw2 (by kernel_rfl) (by kernel_rfl) (yE Z (zA Z Z Dc) (yE Z (zD Z Z Z te Z Z) (yE Z (zA Z Z Db) (yE Z (zD Z Z Z HQ Z Z) (zH Z (zb hr fun y1 h_y1 hr => yE Z (zx Z Z Z nG h_y1 Z) (yE Z (eA Z Z Z aR Z Z) (zb hr fun v2 h_v2 hr => yE Z (zC Z Z Z (by kernel_rfl) (LC.pre (JE h_v2) Z Z Z)) (zb hr fun v3 h_v3 hr => yE Z (zC Z Z Z (by kernel_rfl) (LC.pre (Fd h_v3) Z Z Z)) (LO.nil (zT ?_)))))))))))))));refine zX Z (fun g2 => ?_) (fun g2 => ?_)
   ·
    refine zi g2 hr fun hr => zQ (zR (zM Z (zb hr fun y2 h_y2 hr => yS Z (zx Z Z Z nG h_y2 Z) (yS Z (eA Z Z Z aR Z Z) (yS Z (zs Z Z Z Z aR Z Z Z Z) (zM Z (zN (zT (zr (am (vM ?_)))))))))));obtain rfl := zJ hr;have hr := congrArg some (hb_x1 _ rfl);obtain rfl := zJ hr;exact zf (.two (.cellAgg Z Z (by kernel_rfl) Z) (.tmp Z)) (⟨_, rfl, (.cons zv (.cons zv .nil))⟩)
   ·
    refine zo g2 hr fun hr => zk (zT (zQ (zR (zM Z (zg hr fun q2 hr => yS Z (ab.sliceLo Z Z Z nG q2) (zM Z (zN (zT (LW.goto (Dn ?_))))))))));obtain rfl := zJ hr;exact ⟨_, rfl, zW 5 ⟨rfl, rfl, rfl, rfl, trivial⟩ Z Z Z rfl⟩
open Go.Proofs
structure dt where
 t21 : Int
 w_11 : Bool
 o5 : List Of
def i4 (x : Nd) (c : Cf) (slot : Int) (v1 : (List Of)) (x1 : dt) : Option (dt ⊕ dt) :=
 bif decide (x1.t21 < (v1.length : Int)) then
  (ix v1 x1.t21).bind fun y1 =>
  (
   bif (x.Tick.tmod 3) == 2 then
    some ((x.Tick.tmod 3) == 2)
   else
    bif y1.Slot != slot then
     some (y1.Slot != slot)
    else
     (EN c slot).bind fun v4 =>
     some (y1.From != v4)
  ).bind fun v3 =>
  bif v3 then
   some (.inl (dt.mk (IntKind.i64.wrap (x1.t21 + 1)) x1.w_11 x1.o5))
  else
   bif (x1.o5.length : Int) == 8 then
    some (.inl (dt.mk (IntKind.i64.wrap (x1.t21 + 1)) true x1.o5))
   else
    (p3 y1).bind fun v5 =>
    bif room x1.o5.length [v5].length 104 then
     some (.inl (dt.mk (IntKind.i64.wrap (x1.t21 + 1)) x1.w_11 (x1.o5 ++ [v5])))
    else none
 else
  some (.inr (dt.mk x1.t21 x1.w_11 x1.o5))
def uU (l : List Of) (x : Nd) (c : Cf) (slot : Int) : Option (List Of × Bool) :=
 (uJ [x.O, l]).bind fun v1 =>
 (iter (i4 x c slot v1) bD (dt.mk 0 x.Full ([] : List Of))).bind fun v2 =>
 some (v2.o5, v2.w_11)
theorem Hq {l : List Of} {x : Nd} {c : Cf} {slot : Int} {tl : List Of} {c0 : Cf} {n0 : Nd} {in0 : Vw} {r_ : List Of × Bool} (hr : uU l x c slot = some r_) : LC Tryz.prog 98 [.ptr 4 0, (kO l)] [.box (bE c0), .box (nr n0), .box (dm in0), .box nO, .box [(iQ x.No), (iQ x.Tick), (kB x.V.B), (kV x.V.V), (kB x.In.B), (kV x.In.V), (kO x.O), (uQ x.C.ID.1), (uQ x.C.ID.2), (iQ x.C.Slot), (iQ x.C.Revoked), (bQ x.Full), (kI c.W), (uQ c.Seed), (iQ c.Epoch), (iQ c.Num), (iQ c.Den), (iQ slot), (kO tl)]] (Is (.tup []) [.box (bE c0), .box (nr n0), .box (dm in0), .box nO, .box [(iQ x.No), (iQ x.Tick), (kB x.V.B), (kV x.V.V), (kB x.In.B), (kV x.In.V), (jO 5 r_.1), (uQ x.C.ID.1), (uQ x.C.ID.2), (iQ x.C.Slot), (iQ x.C.Revoked), (bQ r_.2), (kI c.W), (uQ c.Seed), (iQ c.Epoch), (iQ c.Num), (iQ c.Den), (iQ slot), (kO tl)], .vec 9 (r_.1.map dK)]) := by
 refine dk Tryz.func98 Z Z Z ?_;unfold uU at hr;refine zQ (zR (zM Z (yS Z (zn Z Z) (yS Z (zA Z Z au) (yS Z (zA Z Z cJ) (yS Z (zD Z Z Z bY Z Z) (zM Z (yS Z (mL Z xG Z Z Z Z Z) (zb hr fun v1 h_v1 hr => yS Z (zC Z Z Z (by kernel_rfl) (zp (Ja h_v1) (.cons zv .nil))) (zM Z (zN (zT (zQ (zR (zM Z (yS Z (zn Z Z) (yS Z (zA Z Z au) (yS Z (zA Z Z cJ) (yS Z (zs Z Z Z Z bY Z Z Z Z) (zN (zT (zQ ?_))))))))))))))))))))));refine LW.ent (bL.lazyCell (i := 4) (j := 6) (m := 9) Z Z Z Z Z Z) (zR (zM Z (yS Z (dY Z Z (by kernel_rfl)) (zM Z (zN (zT ?_))))));obtain ⟨v2, hb_v2, ho_v2⟩ := zB hr;clear hr;refine LW.tail (E := []) (O := [.box (bE c0), .box (nr n0), .box (dm in0), .box nO, .box [(iQ x.No), (iQ x.Tick), (kB x.V.B), (kV x.V.V), (kB x.In.B), (kV x.In.V), (jO 5 v2.o5), (uQ x.C.ID.1), (uQ x.C.ID.2), (iQ x.C.Slot), (iQ x.C.Revoked), (bQ v2.w_11), (kI c.W), (uQ c.Seed), (iQ c.Epoch), (iQ c.Num), (iQ c.Den), (iQ slot), (kO tl)], .vec 9 (v2.o5.map dK)]) ?_ (fun env_v2 H_v2 hw_v2 => ?_)
 ·refine LW.block ?_;refine LW.iterB (E := fun x1 : dt => [(0, .ptr 4 0), (19, (kO v1)), (20, .p (.int .i64 (v1.length : Int))), (21, (iQ x1.t21))]) (O := fun x1 => [.box (bE c0), .box (nr n0), .box (dm in0), .box nO, .box [(iQ x.No), (iQ x.Tick), (kB x.V.B), (kV x.V.V), (kB x.In.B), (kV x.In.V), (jO 5 x1.o5), (uQ x.C.ID.1), (uQ x.C.ID.2), (iQ x.C.Slot), (iQ x.C.Revoked), (bQ x1.w_11), (kI c.W), (uQ c.Seed), (iQ c.Epoch), (iQ c.Num), (iQ c.Den), (iQ slot), (kO tl)], .vec 9 (x1.o5.map dK)]) hb_v2 (zW 6 ⟨rfl, rfl, rfl, rfl, trivial⟩ Z Z Z Z) (fun x1 z_x1 hr hb_x1 => ?_);unfold i4 at hr;refine zQ (zR (yS Z (ax Z Z Z Z) (zN (zT (zQ ?_)))));refine zX Z (fun g1 => ?_) (fun g1 => ?_)
  ·
   refine zi g1 hr fun hr => zk (zT (zQ (zl (zQ (zR (zb hr fun y1 h_y1 hr => yS Z (zx Z Z Z cz h_y1 Z) (yS Z (eA Z Z Z f8 Z Z) (yS Z (ze Z rF Z Z) (yS Z (zs Z Z Z Z f8 Z Z Z Z) (zN (zT (zl ?_))))))))))));obtain ⟨v3, hb_v3, ho_v3⟩ := zB hr;clear hr;refine LW.cut (E := [(0, .ptr 4 0), (6, .ptr 6 0), (19, (kO v1)), (20, .p (.int .i64 (v1.length : Int))), (21, (iQ x1.t21)), (38, (bQ v3))]) (O := [.box (bE c0), .box (nr n0), .box (dm in0), .box nO, .box [(iQ x.No), (iQ x.Tick), (kB x.V.B), (kV x.V.V), (kB x.In.B), (kV x.In.V), (jO 5 x1.o5), (uQ x.C.ID.1), (uQ x.C.ID.2), (iQ x.C.Slot), (iQ x.C.Revoked), (bQ x1.w_11), (kI c.W), (uQ c.Seed), (iQ c.Epoch), (iQ c.Num), (iQ c.Den), (iQ slot), (kO tl)], .vec 9 (x1.o5.map dK), .box [(iQ y1.Slot), (iQ y1.From), (iQ y1.B.Slot), (iQ y1.B.From), (uQ y1.B.Parent.1), (uQ y1.B.Parent.2), (uQ y1.B.Salt), (kB y1.V.B), (kV y1.V.V)]]) ?_ ?_
   ·have hr := hb_v3;refine zQ (zR (zM Z (yS Z (zn Z Z) (yS Z (zA Z Z au) (yS Z (zA Z Z c8) (yS Z (zD Z Z Z bA Z Z) (yS Z (ab.rem Z Z Z (by decide)) (yS Z (ax Z Z Z Z) (zM Z (zN (zT ?_)))))))))));refine zX Z (fun g2 => ?_) (fun g2 => ?_)
    ·
     refine zi g2 hr fun hr => zk (zT ?_);obtain rfl := zJ hr;exact zW 7 ⟨Z, Z, Z, Z, Z, Z, trivial⟩ Z Z Z Z
    ·
     refine zo g2 hr fun hr => zQ (LW.draw2 (by kernel_rfl) (by kernel_rfl) (yE Z (zA Z Z C8) (yE Z (zD Z Z Z bA Z Z) (zH Z (yE Z (zn Z Z) (yE Z (zA Z Z cK) (yE Z (zD Z Z Z bA Z Z) (yE Z (ax Z Z Z Z) (zH Z (LO.nil (zT ?_)))))))))));refine zX Z (fun g3 => ?_) (fun g3 => ?_)
     ·
      refine zi g3 hr fun hr => zk (zT ?_);obtain rfl := zJ hr;exact zW 7 ⟨Z, Z, Z, Z, Z, Z, trivial⟩ Z Z Z Z
     ·
      refine zo g3 hr fun hr => LW.draw2 (by kernel_rfl) (by kernel_rfl) (yE Z (zA Z Z C9) (yE Z (zD Z Z Z bA Z Z) (zH Z (yE Z (zn Z Z) (yE Z (zA Z Z gO) (yE Z (zD Z Z Z bv Z Z) (zH Z (yE Z (zn Z Z) (yE Z (zA Z Z cK) (yE Z (zD Z Z Z bA Z Z) (zb hr fun v4 h_v4 hr => yE Z (zC Z Z Z (by kernel_rfl) (zp (KT h_v4) (.cons zv (.cons zv .nil)))) (yE Z (ax Z Z Z Z) (zH Z (LO.nil (zT ?_)))))))))))))));obtain rfl := zJ hr;exact zW 7 ⟨Z, Z, Z, Z, Z, Z, trivial⟩ Z Z Z Z
   ·have hr := ho_v3;clear hb_v3;refine zX Z (fun g4 => ?_) (fun g4 => ?_)
    ·
     refine zi g4 hr fun hr => zk (ai (ai (zT (zR (yS Z (ax Z Z Z Z) (zM Z (zN (zT ?_))))))));obtain rfl := zJ hr;exact ⟨_, rfl, zW 6 ⟨rfl, rfl, rfl, rfl, trivial⟩ Z Z Z rfl⟩
    ·
     refine zo g4 hr fun hr => zQ (zR (zM Z (yS Z (zn Z Z) (yS Z (zA Z Z au) (yS Z (zA Z Z cJ) (yS Z (zD Z Z Z bY Z Z) (yS Z (ab.lenVM Z Z Z (by kernel_rfl)) (yS Z (ax Z Z Z Z) (zM Z (zN (zT ?_)))))))))));refine zX Z (fun g5 => ?_) (fun g5 => ?_)
     ·
      refine zi g5 hr fun hr => zR (zM Z (yS Z (zn Z Z) (yS Z (zA Z Z au) (yS Z (zA Z Z kH) (yS Z (zs Z Z Z Z Br Z Z Z Z) (zN (ai (ai (zT (zR (yS Z (ax Z Z Z Z) (zM Z (zN (zT ?_))))))))))))));obtain rfl := zJ hr;exact ⟨_, rfl, zW 6 ⟨rfl, rfl, rfl, rfl, trivial⟩ Z Z Z rfl⟩
     ·
      refine zo g5 hr fun hr => LW.drawW (by kernel_rfl) (by kernel_rfl) (zK Z (zK Z ?_));refine yF (F := []) (s := none) Z (fun H _ => zn Z Z) Z ?_;refine yF (F := []) (s := none) Z (fun H _ => zA Z Z au) Z ?_;refine yF (F := []) (s := none) Z (fun H _ => zA Z Z cJ) Z ?_;refine yF Z (zd Z Z Z bY Z Z) Z (yF Z (zd Z Z Z f8 Z Z) Z (zb hr fun v5 h_v5 hr => ?_));refine yF (F := []) (s := none) Z (fun H _ => zC Z Z Z (by kernel_rfl) (zp (CN h_v5) (.cons zv .nil))) Z ?_;refine yF (F := []) (s := none) Z (fun H _ => mL Z cz Z Z Z Z Z) Z ?_;refine zg hr fun q1 hr => yF Z (bH.appendX dK x1.o5 [v5] rfl Z Z Z Z cz q1) Z ?_;refine yF (F := []) (s := none) Z (fun H _ => zn Z Z) Z ?_;refine yF (F := []) (s := none) Z (fun H _ => zA Z Z au) Z ?_;refine yF (F := []) (s := none) Z (fun H _ => zA Z Z cJ) Z ?_;refine yF Z (zt Z Z Z Z bY Z Z Z) Z ?_;refine LF.nil ⟨by kernel_rfl, ?_⟩;refine ai (ai (zT (zR (yS Z (ax Z Z Z Z) (zM Z (zN (zT ?_)))))));obtain rfl := zJ hr;exact ⟨_, rfl, zW 6 ⟨rfl, rfl, rfl, rfl, trivial⟩ Z Z Z rfl⟩
  ·
   refine zo g1 hr fun hr => zq (ao (ao (zy (zT ?_))));obtain rfl := zJ hr;have hr := congrArg some (hb_x1 _ rfl);obtain rfl := zJ hr;exact zW 6 trivial Z Z Z Z
 ·have hr := ho_v2;clear hb_v2;obtain rfl := zJ hr;exact fH hw_v2 .none ⟨rfl, rfl⟩
def kz (inp : Vw) (c : Cf) (slot : Int) (v : Vw) (full : Bool) : Option (Vw × Vw × Bool) :=
 (It c v inp slot).bind fun v1 =>
 bif full then
  some (v1.2.1, v1.1, true)
 else
  some (v1.2.1, v1.1, v1.2.2)
theorem pG {inp : Vw} {c : Cf} {slot : Int} {v : Vw} {full : Bool} {x : Nd} {o : List Of} {tl : List Of} {c0 : Cf} {n0 : Nd} {in0 : Vw} {r_ : Vw × Vw × Bool} (hr : kz inp c slot v full = some r_) : LC Tryz.prog 137 [.ptr 4 0, .p (mO inp)] [.box (bE c0), .box (nr n0), .box (dm in0), .box nO, .box [(iQ x.No), (iQ x.Tick), (kB v.B), (kV v.V), (kB x.In.B), (kV x.In.V), (jO 5 o), (uQ x.C.ID.1), (uQ x.C.ID.2), (iQ x.C.Slot), (iQ x.C.Revoked), (bQ full), (kI c.W), (uQ c.Seed), (iQ c.Epoch), (iQ c.Num), (iQ c.Den), (iQ slot), (kO tl)], .vec 9 (o.map dK)] (Is (.p (mO r_.1)) [.box (bE c0), .box (nr n0), .box (dm in0), .box nO, .box [(iQ x.No), (iQ x.Tick), (kB r_.2.1.B), (kV r_.2.1.V), (kB x.In.B), (kV x.In.V), (jO 5 o), (uQ x.C.ID.1), (uQ x.C.ID.2), (iQ x.C.Slot), (iQ x.C.Revoked), (bQ r_.2.2), (kI c.W), (uQ c.Seed), (iQ c.Epoch), (iQ c.Num), (iQ c.Den), (iQ slot), (kO tl)], .vec 9 (o.map dK)]) := by
 refine dk Tryz.func137 Z Z Z ?_;unfold kz at hr;refine zQ (zR (yS Z (bZ Z Z Z Z Z) (yS Z (ze Z ii Z Z) (zN (zT (zQ (LW.ent (bL.slot Z) (LW.ent (bL.slot Z) (LW.drawW (by kernel_rfl) (by kernel_rfl) (zK Z ?_))))))))));refine yF (F := []) (s := none) Z (fun H _ => zn Z Z) Z ?_;refine yF (F := []) (s := none) Z (fun H _ => zA Z Z gO) Z ?_;refine yF Z (zd Z Z Z bv Z Z) Z (zK Z ?_);refine yF (F := []) (s := none) Z (fun H _ => zn Z Z) Z ?_;refine yF (F := []) (s := none) Z (fun H _ => zA Z Z au) Z ?_;refine yF (F := []) (s := none) Z (fun H _ => zA Z Z bV) Z ?_;refine yF Z (zd Z Z Z aS Z Z) Z (yF Z (zd Z Z Z aS Z Z) Z (zK Z ?_));refine yF (F := []) (s := none) Z (fun H _ => zn Z Z) Z ?_;refine yF (F := []) (s := none) Z (fun H _ => zA Z Z cK) Z ?_;refine yF Z (zd Z Z Z bA Z Z) Z (zb hr fun v1 h_v1 hr => ?_);refine yF (F := []) (s := none) Z (fun H _ => zC Z Z Z (by kernel_rfl) (zp (Me h_v1) (.cons zv (.cons zv (.cons zv (.cons zv .nil)))))) Z ?_;refine zK Z ?_;refine yF (F := []) (s := none) Z (fun H _ => eZ Z Z Z) Z ?_;refine yF (F := []) (s := none) Z (fun H _ => eZ Z Z Z) Z ?_;refine yF (F := []) (s := none) Z (fun H _ => eZ Z Z Z) Z ?_;refine yF Z (bH.alloc Z ii (id := 8) Z) Z (yF Z (bH.alloc Z ii (id := 9) Z) Z (yF Z (zt Z Z Z Z aS Z Z Z) Z (yF Z (zt Z Z Z Z aS Z Z Z) Z (zK Z ?_))));refine LF.nil ⟨by kernel_rfl, ?_⟩;refine zT (zQ (LW.drawW (by kernel_rfl) (by kernel_rfl) (zK Z (zK Z (yF Z (zd Z Z Z aS Z Z) Z (zK Z ?_))))));refine yF (F := []) (s := none) Z (fun H _ => zn Z Z) Z ?_;refine yF (F := []) (s := none) Z (fun H _ => zA Z Z au) Z ?_;refine yF (F := []) (s := none) Z (fun H _ => zA Z Z kH) Z ?_;refine yF Z (zd Z Z Z Br Z Z) Z (zK Z ?_);refine LF.cases 35 Z (fun (g1 : full = true) => ?_) (fun (g1 : full = false) => ?_)
 ·
  refine zi g1 hr fun hr => LF.sk Z Z Z (gd g1 Z) Z Z ?_;refine yF (F := []) (s := none) Z (fun H _ => eo Z (bI g1 Z) Z) Z ?_;refine yF (F := []) (s := none) Z (fun H _ => zn Z Z) Z ?_;refine yF (F := []) (s := none) Z (fun H _ => zA Z Z au) Z ?_;refine yF (F := []) (s := none) Z (fun H _ => zA Z Z bV) Z ?_;refine yF Z (zt Z Z Z Z aS Z Z Z) Z ?_;refine yF (F := []) (s := none) Z (fun H _ => zn Z Z) Z ?_;refine yF (F := []) (s := none) Z (fun H _ => zA Z Z au) Z ?_;refine yF (F := []) (s := none) Z (fun H _ => zA Z Z kH) Z ?_;refine yF Z (zt Z Z Z Z Br Z Z Z) Z ?_;refine LF.nil ⟨by kernel_rfl, ?_⟩;refine zT (zQ (zR (yS Z (zD Z Z Z aS Z Z) (yS Z (zs Z Z Z Z aS Z Z Z Z) (zN (zT (zr ?_)))))));obtain rfl := zJ hr;exact i6 (env' := []) (H' := [.box (bE c0), .box (nr n0), .box (dm in0), .box nO, .box [(iQ x.No), (iQ x.Tick), (kB v1.1.B), (kV v1.1.V), (kB x.In.B), (kV x.In.V), (jO 5 o), (uQ x.C.ID.1), (uQ x.C.ID.2), (iQ x.C.Slot), (iQ x.C.Revoked), (bQ true), (kI c.W), (uQ c.Seed), (iQ c.Epoch), (iQ c.Num), (iQ c.Den), (iQ slot), (kO tl)], .vec 9 (o.map dK)]) (zW 6 trivial Z Z Z Z) (.one (.cellAgg Z Z (by kernel_rfl) Z)) Z (⟨rfl, rfl⟩)
 ·
  have hr := zO g1 hr;refine LF.gd (F := []) (s := none) Z Z Z (gd g1 Z) Z (fun H _ => ab.move Z Z) Z ?_;refine yF (F := []) (s := none) Z (fun H _ => dc Z (bI g1 Z) Z) Z ?_;refine yF (F := []) (s := none) Z (fun H _ => zn Z Z) Z ?_;refine yF (F := []) (s := none) Z (fun H _ => zA Z Z au) Z ?_;refine yF (F := []) (s := none) Z (fun H _ => zA Z Z bV) Z ?_;refine yF Z (zt Z Z Z Z aS Z Z Z) Z ?_;refine yF (F := []) (s := none) Z (fun H _ => zn Z Z) Z ?_;refine yF (F := []) (s := none) Z (fun H _ => zA Z Z au) Z ?_;refine yF (F := []) (s := none) Z (fun H _ => zA Z Z kH) Z ?_;refine yF Z (zt Z Z Z Z Br Z Z Z) Z ?_;refine LF.nil ⟨by kernel_rfl, ?_⟩;refine zT (zQ (zR (yS Z (zD Z Z Z aS Z Z) (yS Z (zs Z Z Z Z aS Z Z Z Z) (zN (zT (zr ?_)))))));obtain rfl := zJ hr;exact i6 (env' := []) (H' := [.box (bE c0), .box (nr n0), .box (dm in0), .box nO, .box [(iQ x.No), (iQ x.Tick), (kB v1.1.B), (kV v1.1.V), (kB x.In.B), (kV x.In.V), (jO 5 o), (uQ x.C.ID.1), (uQ x.C.ID.2), (iQ x.C.Slot), (iQ x.C.Revoked), (bQ v1.2.2), (kI c.W), (uQ c.Seed), (iQ c.Epoch), (iQ c.Num), (iQ c.Den), (iQ slot), (kO tl)], .vec 9 (o.map dK)]) (zW 6 trivial Z Z Z Z) (.one (.cellAgg Z Z (by kernel_rfl) Z)) Z (⟨rfl, rfl⟩)
def tr (c : Cf) (v : Vw) (s : Int) : Option ID :=
 (iL c v s).bind fun v1 =>
 some v1
theorem Ff {c : Cf} {v : Vw} {s : Int} {x : Nd} {slot : Int} {o : List Of} {tl : List Of} {c0 : Cf} {n0 : Nd} {in0 : Vw} {r_ : ID} (hr : tr c v s = some r_) : LC Tryz.prog 138 [.ptr 4 0, (iQ s)] [.box (bE c0), .box (nr n0), .box (dm in0), .box nO, .box [(iQ x.No), (iQ x.Tick), (kB v.B), (kV v.V), (kB x.In.B), (kV x.In.V), (jO 5 o), (uQ x.C.ID.1), (uQ x.C.ID.2), (iQ x.C.Slot), (iQ x.C.Revoked), (bQ x.Full), (kI c.W), (uQ c.Seed), (iQ c.Epoch), (iQ c.Num), (iQ c.Den), (iQ slot), (kO tl)], .vec 9 (o.map dK)] (Is (.p (bF r_)) [.box (bE c0), .box (nr n0), .box (dm in0), .box nO, .box [(iQ x.No), (iQ x.Tick), (kB v.B), (kV v.V), (kB x.In.B), (kV x.In.V), (jO 5 o), (uQ x.C.ID.1), (uQ x.C.ID.2), (iQ x.C.Slot), (iQ x.C.Revoked), (bQ x.Full), (kI c.W), (uQ c.Seed), (iQ c.Epoch), (iQ c.Num), (iQ c.Den), (iQ slot), (kO tl)], .vec 9 (o.map dK)]) := by
 refine dk Tryz.func138 Z Z Z ?_;unfold tr at hr;refine zQ (zR (yS Z (ze Z js Z Z) (zN (zT (zQ (LW.drawLast (m := 11) (by kernel_rfl) (by kernel_rfl) (by kernel_rfl) (zH Z (yE Z (zn Z Z) (yE Z (zA Z Z gO) (yE Z (zD Z Z Z bv Z Z) (zH Z (yE Z (zn Z Z) (yE Z (zA Z Z au) (yE Z (zA Z Z bV) (yE Z (zD Z Z Z aS Z Z) (zH Z (zb hr fun v1 h_v1 hr => yE Z (zC Z Z Z (by kernel_rfl) (zp (yr h_v1) (.cons zv (.cons zv (.cons zv .nil))))) (LO.nil (yS Z (zs Z Z Z Z aR Z Z Z Z) (zN (zT (zr ?_))))))))))))))))))))));obtain rfl := zJ hr;exact i6 (env' := []) (H' := [.box (bE c0), .box (nr n0), .box (dm in0), .box nO, .box [(iQ x.No), (iQ x.Tick), (kB v.B), (kV v.V), (kB x.In.B), (kV x.In.V), (jO 5 o), (uQ x.C.ID.1), (uQ x.C.ID.2), (iQ x.C.Slot), (iQ x.C.Revoked), (bQ x.Full), (kI c.W), (uQ c.Seed), (iQ c.Epoch), (iQ c.Num), (iQ c.Den), (iQ slot), (kO tl)], .vec 9 (o.map dK)]) (zW 6 trivial Z Z Z Z) (.one (.cellAgg Z Z (by kernel_rfl) Z)) Z (⟨rfl, rfl⟩)
theorem Ee {c : Cf} {v : Vw} {s : Int} {r_ : ID} (h : iL c v s = some r_) : tr c v s = some r_ := by unfold tr; rw [h]; rfl
def pE (c : Cf) (v : Vw) (s : Int) : Option ID :=
 (iL c v s).bind fun v1 =>
 some v1
theorem vb {c : Cf} {v : Vw} {s : Int} {x : Nd} {slot : Int} {o : List Of} {tl : List Of} {c0 : Cf} {n0 : Nd} {in0 : Vw} {r_ : ID} (hr : pE c v s = some r_) : LC Tryz.prog 138 [.ptr 4 0, (iQ s)] [.box (bE c0), .box (nr n0), .box (dm in0), .box nO, .box [(iQ x.No), (iQ x.Tick), (kB v.B), (kV v.V), (kB x.In.B), (kV x.In.V), (kO x.O), (uQ x.C.ID.1), (uQ x.C.ID.2), (iQ x.C.Slot), (iQ x.C.Revoked), (bQ x.Full), (kI c.W), (uQ c.Seed), (iQ c.Epoch), (iQ c.Num), (iQ c.Den), (iQ slot), (kO tl)], .vec 9 (o.map dK)] (Is (.p (bF r_)) [.box (bE c0), .box (nr n0), .box (dm in0), .box nO, .box [(iQ x.No), (iQ x.Tick), (kB v.B), (kV v.V), (kB x.In.B), (kV x.In.V), (kO x.O), (uQ x.C.ID.1), (uQ x.C.ID.2), (iQ x.C.Slot), (iQ x.C.Revoked), (bQ x.Full), (kI c.W), (uQ c.Seed), (iQ c.Epoch), (iQ c.Num), (iQ c.Den), (iQ slot), (kO tl)], .vec 9 (o.map dK)]) := by
 refine dk Tryz.func138 Z Z Z ?_;unfold pE at hr;refine zQ (zR (yS Z (ze Z js Z Z) (zN (zT (zQ (LW.drawLast (m := 11) (by kernel_rfl) (by kernel_rfl) (by kernel_rfl) (zH Z (yE Z (zn Z Z) (yE Z (zA Z Z gO) (yE Z (zD Z Z Z bv Z Z) (zH Z (yE Z (zn Z Z) (yE Z (zA Z Z au) (yE Z (zA Z Z bV) (yE Z (zD Z Z Z aS Z Z) (zH Z (zb hr fun v1 h_v1 hr => yE Z (zC Z Z Z (by kernel_rfl) (zp (yr h_v1) (.cons zv (.cons zv (.cons zv .nil))))) (LO.nil (yS Z (zs Z Z Z Z aR Z Z Z Z) (zN (zT (zr ?_))))))))))))))))))))));obtain rfl := zJ hr;exact i6 (env' := []) (H' := [.box (bE c0), .box (nr n0), .box (dm in0), .box nO, .box [(iQ x.No), (iQ x.Tick), (kB v.B), (kV v.V), (kB x.In.B), (kV x.In.V), (kO x.O), (uQ x.C.ID.1), (uQ x.C.ID.2), (iQ x.C.Slot), (iQ x.C.Revoked), (bQ x.Full), (kI c.W), (uQ c.Seed), (iQ c.Epoch), (iQ c.Num), (iQ c.Den), (iQ slot), (kO tl)], .vec 9 (o.map dK)]) (zW 6 trivial Z Z Z Z) (.one (.cellAgg Z Z (by kernel_rfl) Z)) Z (⟨rfl, rfl⟩)
theorem tf {c : Cf} {v : Vw} {s : Int} {r_ : ID} (h : iL c v s = some r_) : pE c v s = some r_ := by unfold pE; rw [h]; rfl
def nT (x : Nd) (c : Cf) (slot : Int) (tl : List Of) : Option (Vw × Vw × Bool × List Of) :=
 (EN c slot).bind fun v1 =>
 bif x.No != v1 then
  some (x.V, x.In, x.Full, tl)
 else
  (kz x.In c slot x.V x.Full).bind fun v2 =>
  (iL c v2.2.1 (IntKind.i64.wrap (slot - 1))).bind fun v3 =>
  (p3 (Of.mk slot x.No (Bk.mk slot x.No v3 0) v2.2.1)).bind fun v4 =>
  (rZ (Bk.mk slot x.No v3 0)).bind fun v5 =>
  (kz v5 c slot v2.2.1 v2.2.2).bind fun v6 =>
  some (v6.2.1, v2.1, v6.2.2, [v4])
theorem E9 {x : Nd} {o : List Of} {c : Cf} {slot : Int} {tl : List Of} {c0 : Cf} {n0 : Nd} {in0 : Vw} {r_ : Vw × Vw × Bool × List Of} (hr : nT x c slot tl = some r_) : LC Tryz.prog 99 [.ptr 4 0] [.box (bE c0), .box (nr n0), .box (dm in0), .box nO, .box [(iQ x.No), (iQ x.Tick), (kB x.V.B), (kV x.V.V), (kB x.In.B), (kV x.In.V), (jO 5 o), (uQ x.C.ID.1), (uQ x.C.ID.2), (iQ x.C.Slot), (iQ x.C.Revoked), (bQ x.Full), (kI c.W), (uQ c.Seed), (iQ c.Epoch), (iQ c.Num), (iQ c.Den), (iQ slot), (kO tl)], .vec 9 (o.map dK)] (Is (.tup []) [.box (bE c0), .box (nr n0), .box (dm in0), .box nO, .box [(iQ x.No), (iQ x.Tick), (kB r_.1.B), (kV r_.1.V), (kB r_.2.1.B), (kV r_.2.1.V), (jO 5 o), (uQ x.C.ID.1), (uQ x.C.ID.2), (iQ x.C.Slot), (iQ x.C.Revoked), (bQ r_.2.2.1), (kI c.W), (uQ c.Seed), (iQ c.Epoch), (iQ c.Num), (iQ c.Den), (iQ slot), (kO r_.2.2.2)], .vec 9 (o.map dK)]) := by
 refine dk Tryz.func99 Z Z Z ?_;unfold nT at hr;refine zQ (zQ (LW.draw2 (by kernel_rfl) (by kernel_rfl) (zH Z (yE Z (zn Z Z) (yE Z (zA Z Z au) (yE Z (zA Z Z kG) (yE Z (zD Z Z Z bA Z Z) (zH Z (yE Z (zn Z Z) (yE Z (zA Z Z gO) (yE Z (zD Z Z Z bv Z Z) (zH Z (yE Z (zn Z Z) (yE Z (zA Z Z cK) (yE Z (zD Z Z Z bA Z Z) (zb hr fun v1 h_v1 hr => yE Z (zC Z Z Z (by kernel_rfl) (zp (KT h_v1) (.cons zv (.cons zv .nil)))) (yE Z (ax Z Z Z Z) (LO.nil (zT ?_)))))))))))))))))));refine zX Z (fun g1 => ?_) (fun g1 => ?_)
 ·
  refine zi g1 hr fun hr => LW.ret (am ?_);obtain rfl := zJ hr;exact ap .none (⟨rfl, rfl⟩)
 ·
  refine zo g1 hr fun hr => zk (zT (zQ (zR (zM Z (zM Z (zM Z (yS Z (zn Z Z) (yS Z (zA Z Z au) (yS Z (zA Z Z cw) (yS Z (zD Z Z Z aS Z Z) (zb hr fun v2 h_v2 hr => yS Z (zC Z Z Z (by kernel_rfl) (pG (x := Nd.mk x.No x.Tick x.V x.In [] x.C x.Full) (o := o) (tl := tl) h_v2)) (yS Z (zn Z Z) (yS Z (zA Z Z au) (yS Z (zA Z Z cw) (yS Z (zs Z Z Z Z aS Z Z Z Z) (zN (zT (zQ (LW.ent (bL.slot Z) (LW.drawW (by kernel_rfl) (by kernel_rfl) (zK Z ?_)))))))))))))))))))));refine yF (F := []) (s := none) Z (fun H _ => zn Z Z) Z ?_;refine yF (F := []) (s := none) Z (fun H _ => zA Z Z cK) Z ?_;refine yF Z (zd Z Z Z bA Z Z) Z (zK Z ?_);refine yF (F := []) (s := none) Z (fun H _ => zn Z Z) Z ?_;refine yF (F := []) (s := none) Z (fun H _ => zA Z Z au) Z ?_;refine yF (F := []) (s := none) Z (fun H _ => zA Z Z kG) Z ?_;refine yF Z (zd Z Z Z bA Z Z) Z (zK Z (zK Z ?_));refine yF (F := []) (s := none) Z (fun H _ => zn Z Z) Z ?_;refine yF (F := []) (s := none) Z (fun H _ => zA Z Z cK) Z ?_;refine yF Z (zd Z Z Z bA Z Z) Z ?_;refine yF (F := []) (s := none) Z (fun H _ => ax Z Z Z Z) Z ?_;obtain ⟨v3, h_v3, hr⟩ := zB hr;refine yF Z (bH.preH (s := none) (fun _ => zC Z Z Z (by kernel_rfl) (LC.pre (Ff (x := Nd.mk x.No x.Tick v2.2.1 v2.1 [] x.C v2.2.2) (o := o) (tl := tl) (Ee h_v3)) Z Z Z)) Z Z Z Z) Z ?_;refine yF (F := []) (s := none) Z (fun H _ => ab.build Z IB Z Z Z) Z ?_;refine yF Z (bH.alloc Z uj (id := 6) Z) Z (yF Z (zt Z Z Z Z cO Z Z Z) Z ?_);refine LF.nil ⟨by kernel_rfl, ?_⟩;refine zT (zQ (LW.drawW (by kernel_rfl) (by kernel_rfl) (zK Z (zK Z ?_))));refine yF (F := []) (s := none) Z (fun H _ => zn Z Z) Z ?_;refine yF (F := []) (s := none) Z (fun H _ => zA Z Z cK) Z ?_;refine yF Z (zd Z Z Z bA Z Z) Z (zK Z ?_);refine yF (F := []) (s := none) Z (fun H _ => zn Z Z) Z ?_;refine yF (F := []) (s := none) Z (fun H _ => zA Z Z au) Z ?_;refine yF (F := []) (s := none) Z (fun H _ => zA Z Z kG) Z ?_;refine yF Z (zd Z Z Z bA Z Z) Z (yF Z (zd Z Z Z cO Z Z) Z (zK Z ?_));refine yF (F := []) (s := none) Z (fun H _ => zn Z Z) Z ?_;refine yF (F := []) (s := none) Z (fun H _ => zA Z Z au) Z ?_;refine yF (F := []) (s := none) Z (fun H _ => zA Z Z bV) Z ?_;refine yF Z (zd Z Z Z aS Z Z) Z ?_;refine yF (F := []) (s := none) Z (fun H _ => ab.build Z CJ Z Z Z) Z ?_;obtain ⟨v4, h_v4, hr⟩ := zB hr;refine yF (F := []) (s := none) Z (fun H _ => zC Z Z Z (by kernel_rfl) (zp (CN h_v4) (.cons zv .nil))) Z ?_;refine yF (F := []) (s := none) Z (fun H _ => mL Z cz Z Z Z Z Z) Z ?_;refine yF (F := []) (s := none) Z (fun H _ => zn Z Z) Z ?_;refine yF (F := []) (s := none) Z (fun H _ => zA Z Z nb) Z ?_;refine yF Z (zt Z Z Z Z bY Z Z Z) Z ?_;refine LF.nil ⟨by kernel_rfl, ?_⟩;refine zT (zR (zM Z (yS Z (zD Z Z Z cO Z Z) (zb hr fun v5 h_v5 hr => yS Z (zC Z Z Z (by kernel_rfl) (zp (F4 h_v5) (.cons zv .nil))) (zb hr fun v6 h_v6 hr => yS Z (zC Z Z Z (by kernel_rfl) (LC.pre (pG (x := Nd.mk x.No x.Tick v2.2.1 v2.1 [] x.C v2.2.2) (o := o) (tl := [v4]) h_v6) Z Z Z)) (zN ?_))))));obtain rfl := zJ hr;exact fH (env' := []) (H' := [.box (bE c0), .box (nr n0), .box (dm in0), .box nO, .box [(iQ x.No), (iQ x.Tick), (kB v6.2.1.B), (kV v6.2.1.V), (kB v2.1.B), (kV v2.1.V), (jO 5 o), (uQ x.C.ID.1), (uQ x.C.ID.2), (iQ x.C.Slot), (iQ x.C.Revoked), (bQ v6.2.2), (kI c.W), (uQ c.Seed), (iQ c.Epoch), (iQ c.Num), (iQ c.Den), (iQ slot), .p (.slice 9 ([v4].map dK))], .vec 9 (o.map dK)]) (zW 6 trivial Z Z Z Z) .none (⟨rfl, rfl⟩)
structure cQ where
 t11 : Int
 w_2 : List Bk
 w_3 : List Vt
 w_4 : List Bk
 w_5 : List Vt
 w_11 : Bool
def fl (o : List Of) (c : Cf) (slot : Int) (x1 : cQ) : Option (cQ ⊕ cQ) :=
 bif decide (x1.t11 < (o.length : Int)) then
  (ix o x1.t11).bind fun y1 =>
  (rZ y1.B).bind fun v2 =>
  (yi y1.V v2).bind fun v3 =>
  (kz v3 c slot (Vw.mk x1.w_2 x1.w_3) x1.w_11).bind fun v4 =>
  (yi (Vw.mk x1.w_4 x1.w_5) v4.1).bind fun v5 =>
  some (.inl (cQ.mk (IntKind.i64.wrap (x1.t11 + 1)) v4.2.1.B v4.2.1.V v5.B v5.V v4.2.2))
 else
  some (.inr (cQ.mk x1.t11 x1.w_2 x1.w_3 x1.w_4 x1.w_5 x1.w_11))
def lw (x : Nd) (o : List Of) (c : Cf) (slot : Int) : Option (Vw × Vw × Bool) :=
 (iter (fl o c slot) bD (cQ.mk 0 x.V.B x.V.V x.In.B x.In.V x.Full)).bind fun v1 =>
 (HW c slot x.No).bind fun v6 =>
 bif v6 then
  (iL c (Vw.mk v1.w_2 v1.w_3) (IntKind.i64.wrap (slot - 1))).bind fun v7 =>
  (yi (Vw.mk v1.w_4 v1.w_5) (Vw.mk [] [Vt.mk x.No slot v7])).bind fun v8 =>
  some (Vw.mk v1.w_2 v1.w_3, v8, v1.w_11)
 else
  some (Vw.mk v1.w_2 v1.w_3, Vw.mk v1.w_4 v1.w_5, v1.w_11)
theorem CS {x : Nd} {o : List Of} {c : Cf} {slot : Int} {tl : List Of} {c0 : Cf} {n0 : Nd} {in0 : Vw} {r_ : Vw × Vw × Bool} (hr : lw x o c slot = some r_) : LC Tryz.prog 100 [.ptr 4 0] [.box (bE c0), .box (nr n0), .box (dm in0), .box nO, .box [(iQ x.No), (iQ x.Tick), (kB x.V.B), (kV x.V.V), (kB x.In.B), (kV x.In.V), (jO 5 o), (uQ x.C.ID.1), (uQ x.C.ID.2), (iQ x.C.Slot), (iQ x.C.Revoked), (bQ x.Full), (kI c.W), (uQ c.Seed), (iQ c.Epoch), (iQ c.Num), (iQ c.Den), (iQ slot), (kO tl)], .vec 9 (o.map dK)] (Is (.tup []) [.box (bE c0), .box (nr n0), .box (dm in0), .box nO, .box [(iQ x.No), (iQ x.Tick), (kB r_.1.B), (kV r_.1.V), (kB r_.2.1.B), (kV r_.2.1.V), (kO ([] : List Of)), (uQ x.C.ID.1), (uQ x.C.ID.2), (iQ x.C.Slot), (iQ x.C.Revoked), (bQ r_.2.2), (kI c.W), (uQ c.Seed), (iQ c.Epoch), (iQ c.Num), (iQ c.Den), (iQ slot), (kO tl)], .vec 9 (o.map dK)]) := by
 refine dk Tryz.func100 Z Z Z ?_;unfold lw at hr;refine zQ (zQ (zR (zM Z (yS Z (zn Z Z) (yS Z (zA Z Z au) (yS Z (zA Z Z cJ) (yS Z (zD Z Z Z bY Z Z) (yS Z (ab.lenVM Z Z Z (by kernel_rfl)) (zM Z (zN (zT ?_)))))))))));obtain ⟨v1, hb_v1, ho_v1⟩ := zB hr;clear hr;refine LW.tail (E := [(0, .ptr 4 0)]) (O := [.box (bE c0), .box (nr n0), .box (dm in0), .box nO, .box [(iQ x.No), (iQ x.Tick), (kB v1.w_2), (kV v1.w_3), (kB v1.w_4), (kV v1.w_5), (jO 5 o), (uQ x.C.ID.1), (uQ x.C.ID.2), (iQ x.C.Slot), (iQ x.C.Revoked), (bQ v1.w_11), (kI c.W), (uQ c.Seed), (iQ c.Epoch), (iQ c.Num), (iQ c.Den), (iQ slot), (kO tl)], .vec 9 (o.map dK)]) ?_ (fun env_v1 H_v1 hw_v1 => ?_)
 ·refine LW.block ?_;refine LW.iterB (E := fun x1 : cQ => [(0, .ptr 4 0), (9, (jO 5 o)), (10, .p (.int .i64 (o.length : Int))), (11, (iQ x1.t11))]) (O := fun x1 => [.box (bE c0), .box (nr n0), .box (dm in0), .box nO, .box [(iQ x.No), (iQ x.Tick), (kB x1.w_2), (kV x1.w_3), (kB x1.w_4), (kV x1.w_5), (jO 5 o), (uQ x.C.ID.1), (uQ x.C.ID.2), (iQ x.C.Slot), (iQ x.C.Revoked), (bQ x1.w_11), (kI c.W), (uQ c.Seed), (iQ c.Epoch), (iQ c.Num), (iQ c.Den), (iQ slot), (kO tl)], .vec 9 (o.map dK)]) hb_v1 (zW 6 ⟨rfl, rfl, rfl, rfl, trivial⟩ Z Z Z Z) (fun x1 z_x1 hr hb_x1 => ?_);unfold fl at hr;refine zQ (zR (yS Z (ax Z Z Z Z) (zN (zT (zQ ?_)))));refine zX Z (fun g1 => ?_) (fun g1 => ?_)
  ·
   refine zi g1 hr fun hr => zk (zT (zQ (zl (zQ (zR (zb hr fun y1 h_y1 hr => yS Z (ab.indexAddrVX Z Z Z Z cz h_y1) (yS Z (ab.loadVX Z Z Z f8 h_y1 Z Z Z Z) (yS Z (ze Z rF Z Z) (yS Z (zs Z Z Z Z f8 Z Z Z Z) (zN (zT ?_)))))))))));refine LW.drawWJ (z := 4) (e := 18) (J := (fun o_ => ∃ a_ b_ c_ : LV, o_ = .box [(iQ x.No), (iQ x.Tick), a_, b_, (kB x1.w_4), (kV x1.w_5), (jO 5 o), (uQ x.C.ID.1), (uQ x.C.ID.2), (iQ x.C.Slot), (iQ x.C.Revoked), c_, (kI c.W), (uQ c.Seed), (iQ c.Epoch), (iQ c.Num), (iQ c.Den), (iQ slot), (kO tl)])) (by kernel_rfl) (by kernel_rfl) (fun o_ h_ => ⟨_, _, _, (zJ h_).symm⟩) ?_;refine iE.mv Z (iE.mv Z ?_);refine iE.st (F := []) (s := none) Z Z Z (fun H _ => ab.nilCheck Z Z) (fun _ => trivial) Z ?_;refine iE.st (F := []) (s := none) Z Z Z (fun H _ => zA Z Z au) (fun _ => trivial) Z ?_;refine iE.st (F := []) (s := none) Z Z Z (fun H _ => zA Z Z cw) (fun _ => trivial) Z ?_;refine iE.look Z Z Z (by kernel_rfl) Z (fun H_ y_ hy_ hj_ => by obtain ⟨a_, b_, c_, rfl⟩ := hj_; exact zD Z Z hy_ aS Z Z) ?_;refine iE.mv Z ?_;refine iE.st (F := []) (s := none) Z Z Z (fun H _ => zA Z Z jc) (fun _ => trivial) Z ?_;refine iE.st Z Z Z (bH.load Z Z Z aS Z Z) (fun _ => trivial) Z ?_;refine iE.st (F := []) (s := none) Z Z Z (fun H _ => zA Z Z vv) (fun _ => trivial) Z ?_;refine iE.st Z Z Z (bH.load Z Z Z cO Z Z) (fun _ => trivial) Z ?_;obtain ⟨v2, h_v2, hr⟩ := zB hr;refine iE.st (F := []) (s := none) Z Z Z (fun H _ => zC Z Z Z (by kernel_rfl) (zp (F4 h_v2) (.cons zv .nil))) (fun _ => trivial) Z ?_;obtain ⟨v3, h_v3, hr⟩ := zB hr;refine iE.st (F := []) (s := none) Z Z Z (fun H _ => zC Z Z Z (by kernel_rfl) (zp (En h_v3) (.cons zv (.cons zv .nil)))) (fun _ => trivial) Z ?_;obtain ⟨v4, h_v4, hr⟩ := zB hr;refine iE.st Z Z Z (bH.preH (s := some (4, .box [(iQ x.No), (iQ x.Tick), (kB v4.2.1.B), (kV v4.2.1.V), (kB x1.w_4), (kV x1.w_5), (jO 5 o), (uQ x.C.ID.1), (uQ x.C.ID.2), (iQ x.C.Slot), (iQ x.C.Revoked), (bQ v4.2.2), (kI c.W), (uQ c.Seed), (iQ c.Epoch), (iQ c.Num), (iQ c.Den), (iQ slot), (kO tl)])) (fun _ => zC Z Z Z (by kernel_rfl) (LC.pre (pG (x := Nd.mk x.No x.Tick (Vw.mk x1.w_2 x1.w_3) (Vw.mk x1.w_4 x1.w_5) [] x.C x1.w_11) (o := o) (tl := tl) h_v4) Z Z Z)) Z Z Z Z) (fun _ _ => ⟨_, _, _, rfl⟩) Z ?_;obtain ⟨v5, h_v5, hr⟩ := zB hr;refine iE.st (F := []) (s := none) Z Z Z (fun H _ => zC Z Z Z (by kernel_rfl) (zp (En h_v5) (.cons zv (.cons zv .nil)))) (fun _ => trivial) Z ?_;refine iE.st (F := []) (s := none) Z Z Z (fun H _ => ab.nilCheck Z Z) (fun _ => trivial) Z ?_;refine iE.st (F := []) (s := none) Z Z Z (fun H _ => zA Z Z au) (fun _ => trivial) Z ?_;refine iE.st (F := []) (s := none) Z Z Z (fun H _ => zA Z Z cw) (fun _ => trivial) Z ?_;refine iE.st Z Z Z (bH.store Z Z Z Z aS Z Z Z) (fun h => absurd h (by decide)) Z ?_;refine iE.nil ⟨by kernel_rfl, ?_⟩;refine ai (zT (zR (yS Z (ax Z Z Z Z) (zM Z (zN (zT ?_))))));obtain rfl := zJ hr;exact ⟨_, rfl, zW 6 ⟨rfl, rfl, rfl, rfl, trivial⟩ Z Z Z rfl⟩
  ·
   refine zo g1 hr fun hr => zq (ao (ao (zy (zT ?_))));obtain rfl := zJ hr;have hr := congrArg some (hb_x1 _ rfl);obtain rfl := zJ hr;exact zW 6 ⟨Z, trivial⟩ Z Z Z Z
 ·have hr := ho_v1;clear hb_v1;refine zT (LW.weak hw_v1 (zQ (zR (zM Z (yS Z (zn Z Z) (yS Z (zA Z Z au) (yS Z (zA Z Z cJ) (yS Z (zs Z Z Z Z bY Z Z Z Z) (zN (zT (zQ (LW.ent (bL.zsCell (i := 4) (j := 6) (m := 9) Z Z Z Z) (LW.draw2 (by kernel_rfl) (by kernel_rfl) (zH Z (yE Z (zn Z Z) (yE Z (zA Z Z gO) (yE Z (zD Z Z Z bv Z Z) (zH Z (yE Z (zn Z Z) (yE Z (zA Z Z cK) (yE Z (zD Z Z Z bA Z Z) (zH Z (yE Z (zn Z Z) ?_)))))))))))))))))))))));refine yE Z (zA Z Z au) (yE Z (zA Z Z kG) (yE Z (zD Z Z Z bA Z Z) (zb hr fun v6 h_v6 hr => yE Z (zC Z Z Z (by kernel_rfl) (zp (LU h_v6) (.cons zv (.cons zv (.cons zv .nil))))) (LO.nil (zT ?_)))));refine zX Z (fun g2 => ?_) (fun g2 => ?_)
  ·
   refine zi g2 hr fun hr => zQ (LW.ent (bL.slot Z) (LW.drawW (by kernel_rfl) (by kernel_rfl) (zK Z ?_)));refine yF (F := []) (s := none) Z (fun H _ => zn Z Z) Z ?_;refine yF (F := []) (s := none) Z (fun H _ => zA Z Z au) Z ?_;refine yF (F := []) (s := none) Z (fun H _ => zA Z Z kG) Z ?_;refine yF Z (zd Z Z Z bA Z Z) Z (zK Z ?_);refine yF (F := []) (s := none) Z (fun H _ => zn Z Z) Z ?_;refine yF (F := []) (s := none) Z (fun H _ => zA Z Z cK) Z ?_;refine yF Z (zd Z Z Z bA Z Z) Z (zK Z (zK Z ?_));refine yF (F := []) (s := none) Z (fun H _ => zn Z Z) Z ?_;refine yF (F := []) (s := none) Z (fun H _ => zA Z Z cK) Z ?_;refine yF Z (zd Z Z Z bA Z Z) Z ?_;refine yF (F := []) (s := none) Z (fun H _ => ax Z Z Z Z) Z ?_;obtain ⟨v7, h_v7, hr⟩ := zB hr;refine yF Z (bH.preH (s := none) (fun _ => zC Z Z Z (by kernel_rfl) (LC.pre (vb (x := Nd.mk x.No x.Tick (Vw.mk v1.w_2 v1.w_3) (Vw.mk v1.w_4 v1.w_5) [] x.C v1.w_11) (o := o) (tl := tl) (tf h_v7)) Z Z Z)) Z Z Z Z) Z ?_;refine yF (F := []) (s := none) Z (fun H _ => ab.build Z IC Z Z Z) Z ?_;refine yF Z (bH.alloc Z uk (id := 6) Z) Z (yF Z (zt Z Z Z Z cT Z Z Z) Z ?_);refine LF.nil ⟨by kernel_rfl, ?_⟩;refine zT (LW.drawW (by kernel_rfl) (by kernel_rfl) (zK Z (zK Z ?_)));refine yF (F := []) (s := none) Z (fun H _ => zn Z Z) Z ?_;refine yF (F := []) (s := none) Z (fun H _ => zA Z Z au) Z ?_;refine yF (F := []) (s := none) Z (fun H _ => zA Z Z cw) Z ?_;refine yF Z (zd Z Z Z aS Z Z) Z (yF Z (zd Z Z Z cT Z Z) Z ?_);refine yF (F := []) (s := none) Z (fun H _ => mL Z dM Z Z Z Z Z) Z ?_;refine yF (F := []) (s := none) Z (fun H _ => ab.build Z oa Z Z Z) Z ?_;obtain ⟨v8, h_v8, hr⟩ := zB hr;refine yF (F := []) (s := none) Z (fun H _ => zC Z Z Z (by kernel_rfl) (zp (En h_v8) (.cons zv (.cons (Conv.agg (.cons Conv.zs (.cons zv .nil))) .nil)))) Z ?_;refine yF (F := []) (s := none) Z (fun H _ => zn Z Z) Z ?_;refine yF (F := []) (s := none) Z (fun H _ => zA Z Z au) Z ?_;refine yF (F := []) (s := none) Z (fun H _ => zA Z Z cw) Z ?_;refine yF Z (zt Z Z Z Z aS Z Z Z) Z ?_;refine LF.nil ⟨by kernel_rfl, ?_⟩;obtain rfl := zJ hr;exact fH (env' := []) (H' := [.box (bE c0), .box (nr n0), .box (dm in0), .box nO, .box [(iQ x.No), (iQ x.Tick), (kB v1.w_2), (kV v1.w_3), (kB v8.B), (kV v8.V), (kO ([] : List Of)), (uQ x.C.ID.1), (uQ x.C.ID.2), (iQ x.C.Slot), (iQ x.C.Revoked), (bQ v1.w_11), (kI c.W), (uQ c.Seed), (iQ c.Epoch), (iQ c.Num), (iQ c.Den), (iQ slot), (kO tl)], .vec 9 (o.map dK)]) (zW 6 trivial Z Z Z Z) .none (⟨rfl, rfl⟩)
  ·
   refine zo g2 hr fun hr => LW.skip ?_;obtain rfl := zJ hr;exact gi .none (⟨rfl, rfl⟩)
def l7 (x : Nd) (c : Cf) (slot : Int) : Option (Vw × Vw × Cu × Bool) :=
 (kz x.In c slot x.V x.Full).bind fun v1 =>
 (iL c v1.2.1 slot).bind fun v2 =>
 (oV c v1.2.1 slot v2).bind fun v3 =>
 bif few v1.2.1.B then
  some (v1.2.1, v1.1, eC x.C v1.2.1.B v2 v3.1 v3.2 slot, v1.2.2)
 else none
theorem Fe {x : Nd} {o : List Of} {c : Cf} {slot : Int} {tl : List Of} {c0 : Cf} {n0 : Nd} {in0 : Vw} {r_ : Vw × Vw × Cu × Bool} (hr : l7 x c slot = some r_) : LC Tryz.prog 101 [.ptr 4 0] [.box (bE c0), .box (nr n0), .box (dm in0), .box nO, .box [(iQ x.No), (iQ x.Tick), (kB x.V.B), (kV x.V.V), (kB x.In.B), (kV x.In.V), (jO 5 o), (uQ x.C.ID.1), (uQ x.C.ID.2), (iQ x.C.Slot), (iQ x.C.Revoked), (bQ x.Full), (kI c.W), (uQ c.Seed), (iQ c.Epoch), (iQ c.Num), (iQ c.Den), (iQ slot), (kO tl)], .vec 9 (o.map dK)] (Is (.tup []) [.box (bE c0), .box (nr n0), .box (dm in0), .box nO, .box [(iQ x.No), (iQ x.Tick), (kB r_.1.B), (kV r_.1.V), (kB r_.2.1.B), (kV r_.2.1.V), (kO ([] : List Of)), (uQ r_.2.2.1.ID.1), (uQ r_.2.2.1.ID.2), (iQ r_.2.2.1.Slot), (iQ r_.2.2.1.Revoked), (bQ r_.2.2.2), (kI c.W), (uQ c.Seed), (iQ c.Epoch), (iQ c.Num), (iQ c.Den), (iQ slot), (kO tl)], .vec 9 (o.map dK)]) := by
 refine dk Tryz.func101 Z Z Z ?_;unfold l7 at hr;refine zQ (zR (zM Z (zM Z (zM Z (yS Z (zn Z Z) (yS Z (zA Z Z au) (yS Z (zA Z Z cw) (yS Z (zD Z Z Z aS Z Z) (zb hr fun v1 h_v1 hr => yS Z (zC Z Z Z (by kernel_rfl) (pG (x := Nd.mk x.No x.Tick x.V x.In [] x.C x.Full) (o := o) (tl := tl) h_v1)) (yS Z (zn Z Z) (yS Z (zA Z Z au) (yS Z (zA Z Z cw) (yS Z (zs Z Z Z Z aS Z Z Z Z) (zN (zT (zQ (zR (zM Z (yS Z (zn Z Z) (yS Z (zA Z Z au) (yS Z (zA Z Z cJ) (yS Z (zs Z Z Z Z bY Z Z Z Z) ?_))))))))))))))))))))));refine zN (zT (zQ (LW.ent (bL.zsCell (i := 4) (j := 6) (m := 9) Z Z Z Z) (zR (zM Z (zM Z (yS Z (zn Z Z) (yS Z (zA Z Z cK) (yS Z (zD Z Z Z bA Z Z) (zb hr fun v2 h_v2 hr => yS Z (zC Z Z Z (by kernel_rfl) (vb (x := Nd.mk x.No x.Tick v1.2.1 v1.1 [] x.C v1.2.2) (o := o) (tl := tl) (tf h_v2))) (yS Z (ze Z js Z Z) (yS Z (zs Z Z Z Z aR Z Z Z Z) (zN (zT (zQ (LW.ent (bL.slot Z) (LW.drawW (by kernel_rfl) (by kernel_rfl) (zK Z ?_))))))))))))))))));refine yF (F := []) (s := none) Z (fun H _ => zn Z Z) Z ?_;refine yF (F := []) (s := none) Z (fun H _ => zA Z Z gO) Z ?_;refine yF Z (zd Z Z Z bv Z Z) Z (zK Z ?_);refine yF (F := []) (s := none) Z (fun H _ => zn Z Z) Z ?_;refine yF (F := []) (s := none) Z (fun H _ => zA Z Z au) Z ?_;refine yF (F := []) (s := none) Z (fun H _ => zA Z Z bV) Z ?_;refine yF Z (zd Z Z Z aS Z Z) Z (zK Z ?_);refine yF (F := []) (s := none) Z (fun H _ => zn Z Z) Z ?_;refine yF (F := []) (s := none) Z (fun H _ => zA Z Z cK) Z ?_;refine yF Z (zd Z Z Z bA Z Z) Z (yF Z (zd Z Z Z aR Z Z) Z (zb hr fun v3 h_v3 hr => ?_));refine yF (F := []) (s := none) Z (fun H _ => zC Z Z Z (by kernel_rfl) (zp (F5 h_v3) (.cons zv (.cons zv (.cons zv (.cons zv .nil)))))) Z ?_;refine zK Z ?_;refine yF (F := []) (s := none) Z (fun H _ => eZ Z Z Z) Z ?_;refine yF (F := []) (s := none) Z (fun H _ => eZ Z Z Z) Z ?_;refine yF Z (bH.alloc Z js (id := 7) Z) Z (yF Z (zt Z Z Z Z aR Z Z Z) Z (zK Z ?_));refine LF.nil ⟨by kernel_rfl, ?_⟩;refine zT (LW.drawW (by kernel_rfl) (by kernel_rfl) (zK Z (zK Z ?_)));refine yF (F := []) (s := none) Z (fun H _ => zn Z Z) Z ?_;refine yF (F := []) (s := none) Z (fun H _ => zA Z Z au) Z ?_;refine yF (F := []) (s := none) Z (fun H _ => zA Z Z qK) Z ?_;refine yF Z (zd Z Z Z j4 Z Z) Z (zK Z ?_);refine yF (F := []) (s := none) Z (fun H _ => zn Z Z) Z ?_;refine yF (F := []) (s := none) Z (fun H _ => zA Z Z au) Z ?_;refine yF (F := []) (s := none) Z (fun H _ => zA Z Z bV) Z ?_;refine yF (F := []) (s := none) Z (fun H _ => zA Z Z bz) Z ?_;refine yF Z (zd Z Z Z dC Z Z) Z (yF Z (zd Z Z Z aR Z Z) Z (yF Z (zd Z Z Z aR Z Z) Z (zK Z (zK Z ?_))));refine yF (F := []) (s := none) Z (fun H _ => zn Z Z) Z ?_;refine yF (F := []) (s := none) Z (fun H _ => zA Z Z cK) Z ?_;refine yF Z (zd Z Z Z bA Z Z) Z (zg hr fun q1 hr => ?_);refine yF (F := []) (s := none) Z (fun H _ => zC Z Z Z (by kernel_rfl) (zp (L5 (c := x.C) (l := v1.2.1.B) (head := v2) (found := v3.1) (is := v3.2) (slot := slot) (tF q1)) (.cons zv (.cons zv (.cons zv (.cons zv (.cons zv (.cons zv .nil)))))))) Z ?_;refine yF (F := []) (s := none) Z (fun H _ => zn Z Z) Z ?_;refine yF (F := []) (s := none) Z (fun H _ => zA Z Z au) Z ?_;refine yF (F := []) (s := none) Z (fun H _ => zA Z Z qK) Z ?_;refine yF Z (zt Z Z Z Z j4 Z Z Z) Z ?_;refine LF.nil ⟨by kernel_rfl, ?_⟩;obtain rfl := zJ hr;refine fH (env' := []) (H' := [.box (bE c0), .box (nr n0), .box (dm in0), .box nO, .box [(iQ x.No), (iQ x.Tick), (kB v1.2.1.B), (kV v1.2.1.V), (kB v1.1.B), (kV v1.1.V), (kO ([] : List Of)), .p (.int .u64 (((eC x.C v1.2.1.B v2 v3.1 v3.2 slot).ID).1)), .p (.int .u64 (((eC x.C v1.2.1.B v2 v3.1 v3.2 slot).ID).2)), .p (.int .i64 ((eC x.C v1.2.1.B v2 v3.1 v3.2 slot).Slot)), .p (.int .i64 ((eC x.C v1.2.1.B v2 v3.1 v3.2 slot).Revoked)), (bQ v1.2.2), (kI c.W), (uQ c.Seed), (iQ c.Epoch), (iQ c.Num), (iQ c.Den), (iQ slot), (kO tl)], .vec 9 (o.map dK)]) (zW 6 trivial Z Z Z Z) .none ?_
 exact ⟨rfl, rfl⟩
open Go.Proofs
theorem yq {b : Bool} {p : Prop} (h1 : b = true → p) (h2 : b = false → p) : p := by cases b <;> simp_all
theorem ub {a b : Int} (h : (a == b) = true) : LV.p (.int .i64 a) = (iQ b) := by rw [eq_of_beq h]
structure dE where
 t57 : Int
 o5 : List Of
def iS (n : Nd) (x1 : dE) : Option (dE ⊕ dE) :=
 bif decide (x1.t57 < (n.O.length : Int)) then
  (ix n.O x1.t57).bind fun y1 =>
  (p3 y1).bind fun v6 =>
  bif room x1.o5.length [v6].length 104 then
   some (.inl (dE.mk (IntKind.i64.wrap (x1.t57 + 1)) (x1.o5 ++ [v6])))
  else none
 else
  some (.inr (dE.mk x1.t57 x1.o5))
def iR (c : Cf) (n : Nd) (v_in : Vw) (o : List Of) : Option (Nd × (List Of)) :=
 (
  (yh c).bind fun v2 =>
  bif !v2 then
   some true
  else
   bif decide (n.Tick < 3) then
    some true
   else
    some (decide ((IntKind.i64.wrap (n.Tick.tdiv 3)) > 1048576))
 ).bind fun v1 =>
 bif v1 then
  (pZ n.V).bind fun v3 =>
  (pZ n.In).bind fun v4 =>
  (iter (iS n) bD (dE.mk 0 ([] : List Of))).bind fun v5 =>
  some (Nd.mk n.No n.Tick v3 v4 v5.o5 n.C n.Full, [])
 else
  (HX c v_in).bind fun v7 =>
  (yi n.In v7).bind fun v8 =>
  (uU o (Nd.mk n.No n.Tick n.V v8 n.O n.C n.Full) c (IntKind.i64.wrap (n.Tick.tdiv 3))).bind fun v9 =>
  bif (n.Tick.tmod 3) == 0 then
   (nT (Nd.mk n.No n.Tick n.V v8 [] n.C v9.2) c (IntKind.i64.wrap (n.Tick.tdiv 3)) ([] : List Of)).bind fun v10 =>
   some (Nd.mk n.No (IntKind.i64.wrap (n.Tick + 1)) v10.1 v10.2.1 v9.1 n.C v10.2.2.1, v10.2.2.2)
  else
   bif (n.Tick.tmod 3) == 1 then
    (lw (Nd.mk n.No n.Tick n.V v8 [] n.C v9.2) v9.1 c (IntKind.i64.wrap (n.Tick.tdiv 3))).bind fun v11 =>
    some (Nd.mk n.No (IntKind.i64.wrap (n.Tick + 1)) v11.1 v11.2.1 [] n.C v11.2.2, [])
   else
    bif (n.Tick.tmod 3) == 2 then
     (l7 (Nd.mk n.No n.Tick n.V v8 [] n.C v9.2) c (IntKind.i64.wrap (n.Tick.tdiv 3))).bind fun v12 =>
     some (Nd.mk n.No (IntKind.i64.wrap (n.Tick + 1)) v12.1 v12.2.1 [] v12.2.2.1 v12.2.2.2, [])
    else none
theorem I5 {c : Cf} {n : Nd} {v_in : Vw} {o : List Of} {r_ : Nd × (List Of)} (hr : iR c n v_in o = some r_) : aw Tryz.prog 53 [jC c, ig n, mO v_in, .slice 9 (o.map dK)] [ig r_.1, .slice 9 (r_.2.map dK)] := by
 refine zh Tryz.func53 Z Z Z Z ?_;unfold iR at hr;refine zQ (zR (yS Z (bZ Z Z Z Z Z) (yS Z (bZ Z Z Z Z Z) (yS Z (bZ Z Z Z Z Z) (yS Z (ze Z ui Z Z) (zM Z (zN (zT (zQ (zR (yS Z (zD Z Z Z cS Z Z) (yS Z (zD Z Z Z bv Z Z) (yS Z (zA Z Z c8) (yS Z (zD Z Z Z bA Z Z) (yS Z (ab.quo Z Z Z (by decide)) (yS Z (ab.build Z G3 Z Z Z) (yS Z (bZ Z Z Z Z Z) (zM Z (zN (zT (zQ ?_)))))))))))))))))))));obtain ⟨v1, hb_v1, ho_v1⟩ := zB hr;clear hr;refine LW.cut (E := [(3, (kO o)), (4, .ptr 0 0), (5, .ptr 1 0), (6, .ptr 2 0), (8, .ptr 3 0), (9, .zs), (10, .ptr 4 0), (35, (bQ v1))]) (O := [.box (bE c), .box (nr n), .box (dm v_in), .box nO, .box [(iQ n.No), (iQ n.Tick), (kB n.V.B), (kV n.V.V), (kB n.In.B), (kV n.In.V), (kO n.O), (uQ n.C.ID.1), (uQ n.C.ID.2), (iQ n.C.Slot), (iQ n.C.Revoked), (bQ n.Full), (kI c.W), (uQ c.Seed), (iQ c.Epoch), (iQ c.Num), (iQ c.Den), .p (.int .i64 (IntKind.i64.wrap (n.Tick.tdiv 3))), .zs]]) ?_ ?_
 ·have hr := hb_v1;refine zR (yS Z (zD Z Z Z bv Z Z) (zb hr fun v2 h_v2 hr => yS Z (zC Z Z Z (by kernel_rfl) (zp (Ga h_v2) (.cons zv .nil))) (yS Z (ab.not Z Z) (zM Z ?_))));refine zc 24 Z (fun g1 => ?_) (fun g1 => ?_)
  ·
   refine zi g1 hr fun hr => yU Z (gd g1 Z) Z (yU Z (gd g1 Z) Z (yU Z (gd g1 Z) Z (yS Z (eo Z (bI g1 Z) Z) (zM Z (yU Z Z Z (yU Z Z Z (yU Z Z Z (yU Z Z Z (yU Z Z Z (yS Z (eo Z Z Z) (zN (zT ?_))))))))))));obtain rfl := zJ hr;exact zW 5 ⟨Z, Z, Z, Z, Z, Z, Z, Z, trivial⟩ Z Z Z Z
  ·
   refine zo g1 hr fun hr => yV Z (gd g1 Z) (zA Z Z c8) (yV Z (gd g1 Z) (zD Z Z Z bA Z Z) (yV Z (gd g1 Z) (ax Z Z Z Z) (yS Z (dc Z (bI g1 Z) Z) (zM Z ?_))));refine zc 29 Z (fun g2 => ?_) (fun g2 => ?_)
   ·
    refine zi g2 hr fun hr => yU Z (gd g2 Z) Z (yU Z (gd g2 Z) Z (yU Z (gd g2 Z) Z (yU Z (gd g2 Z) Z (yU Z (gd g2 Z) Z (yS Z (eo Z (bI g2 Z) Z) (zN (zT ?_)))))));obtain rfl := zJ hr;exact zW 5 ⟨Z, Z, Z, Z, Z, Z, Z, Z, trivial⟩ Z Z Z Z
   ·
    refine zo g2 hr fun hr => yV Z (gd g2 Z) (zm Z Z) (yV Z (gd g2 Z) (zn Z Z) (yV Z (gd g2 Z) (zA Z Z cK) (yV Z (gd g2 Z) (zD Z Z Z bA Z Z) (yV Z (gd g2 Z) (ax Z Z Z Z) (yS Z (dc Z (bI g2 Z) Z) (zN (zT ?_)))))));obtain rfl := zJ hr;exact zW 5 ⟨Z, Z, Z, Z, Z, Z, Z, Z, trivial⟩ Z Z Z Z
 ·have hr := ho_v1;clear hb_v1;refine zX Z (fun g3 => ?_) (fun g3 => ?_)
  ·
   refine zi g3 hr fun hr => zQ (LW.drawW (by kernel_rfl) (by kernel_rfl) (zK Z (zK Z ?_)));refine yF (F := []) (s := none) Z (fun H _ => zA Z Z bV) Z ?_;refine yF Z (zd Z Z Z aS Z Z) Z (zb hr fun v3 h_v3 hr => ?_);refine yF (F := []) (s := none) Z (fun H _ => zC Z Z Z (by kernel_rfl) (zp (CM h_v3) (.cons zv .nil))) Z ?_;refine yF (F := []) (s := none) Z (fun H _ => zA Z Z cw) Z ?_;refine yF Z (zd Z Z Z aS Z Z) Z (zb hr fun v4 h_v4 hr => ?_);refine yF (F := []) (s := none) Z (fun H _ => zC Z Z Z (by kernel_rfl) (zp (CM h_v4) (.cons zv .nil))) Z ?_;refine yF (F := []) (s := none) Z (fun H _ => zn Z Z) Z ?_;refine yF (F := []) (s := none) Z (fun H _ => zA Z Z au) Z ?_;refine yF (F := []) (s := none) Z (fun H _ => zA Z Z bV) Z ?_;refine yF Z (zt Z Z Z Z aS Z Z Z) Z ?_;refine yF (F := []) (s := none) Z (fun H _ => zn Z Z) Z ?_;refine yF (F := []) (s := none) Z (fun H _ => zA Z Z au) Z ?_;refine yF (F := []) (s := none) Z (fun H _ => zA Z Z cw) Z ?_;refine yF Z (zt Z Z Z Z aS Z Z Z) Z ?_;refine LF.nil ⟨by kernel_rfl, ?_⟩;refine zT (zQ (zR (zM Z (yS Z (zn Z Z) (yS Z (zA Z Z au) (yS Z (zA Z Z cJ) (yS Z (zs Z Z Z Z bY Z Z Z Z) (zN (zT (zQ (zQ (LW.ent (bL.lazyCell (i := 4) (j := 6) (m := 9) Z Z Z Z Z Z) (zR (yS Z (zA Z Z cJ) (yS Z (zD Z Z Z bY Z Z) (yS Z (dY Z Z (by kernel_rfl)) (zM Z (zN (zT ?_)))))))))))))))))));obtain ⟨v5, hb_v5, ho_v5⟩ := zB hr;clear hr;refine LW.tail (E := [(3, (kO o)), (4, .ptr 0 0), (5, .ptr 1 0), (6, .ptr 2 0), (8, .ptr 3 0), (9, .zs), (10, .ptr 4 0)]) (O := [.box (bE c), .box (nr n), .box (dm v_in), .box nO, .box [(iQ n.No), (iQ n.Tick), (kB v3.B), (kV v3.V), (kB v4.B), (kV v4.V), (jO 5 v5.o5), (uQ n.C.ID.1), (uQ n.C.ID.2), (iQ n.C.Slot), (iQ n.C.Revoked), (bQ n.Full), (kI c.W), (uQ c.Seed), (iQ c.Epoch), (iQ c.Num), (iQ c.Den), .p (.int .i64 (IntKind.i64.wrap (n.Tick.tdiv 3))), .zs], .vec 9 (v5.o5.map dK)]) ?_ (fun env_v5 H_v5 hw_v5 => ?_)
   ·refine LW.block ?_;refine LW.iterB (E := fun x1 : dE => [(3, (kO o)), (4, .ptr 0 0), (5, .ptr 1 0), (6, .ptr 2 0), (8, .ptr 3 0), (9, .zs), (10, .ptr 4 0), (55, (kO n.O)), (56, .p (.int .i64 (n.O.length : Int))), (57, (iQ x1.t57))]) (O := fun x1 => [.box (bE c), .box (nr n), .box (dm v_in), .box nO, .box [(iQ n.No), (iQ n.Tick), (kB v3.B), (kV v3.V), (kB v4.B), (kV v4.V), (jO 5 x1.o5), (uQ n.C.ID.1), (uQ n.C.ID.2), (iQ n.C.Slot), (iQ n.C.Revoked), (bQ n.Full), (kI c.W), (uQ c.Seed), (iQ c.Epoch), (iQ c.Num), (iQ c.Den), .p (.int .i64 (IntKind.i64.wrap (n.Tick.tdiv 3))), .zs], .vec 9 (x1.o5.map dK)]) hb_v5 (zW 6 ⟨rfl, rfl, rfl, rfl, rfl, rfl, rfl, rfl, rfl, rfl, trivial⟩ Z Z Z Z) (fun x1 z_x1 hr hb_x1 => ?_);unfold iS at hr;refine zQ (zR (yS Z (ax Z Z Z Z) (zN (zT (zQ ?_)))));refine zX Z (fun g4 => ?_) (fun g4 => ?_)
    ·
     refine zi g4 hr fun hr => zk (zT (zQ (zl (zQ (zR (zb hr fun y1 h_y1 hr => yS Z (zx Z Z Z cz h_y1 Z) (yS Z (eA Z Z Z f8 Z Z) (yS Z (ze Z rF Z Z) (yS Z (zs Z Z Z Z f8 Z Z Z Z) (zN (zT (LW.drawW (by kernel_rfl) (by kernel_rfl) (zK Z (zK Z ?_))))))))))))));refine yF (F := []) (s := none) Z (fun H _ => zn Z Z) Z ?_;refine yF (F := []) (s := none) Z (fun H _ => zA Z Z au) Z ?_;refine yF (F := []) (s := none) Z (fun H _ => zA Z Z cJ) Z ?_;refine yF Z (zd Z Z Z bY Z Z) Z (yF Z (zd Z Z Z f8 Z Z) Z (zb hr fun v6 h_v6 hr => ?_));refine yF (F := []) (s := none) Z (fun H _ => zC Z Z Z (by kernel_rfl) (zp (CN h_v6) (.cons zv .nil))) Z ?_;refine yF (F := []) (s := none) Z (fun H _ => mL Z cz Z Z Z Z Z) Z ?_;refine zg hr fun q1 hr => yF Z (bH.appendX dK x1.o5 [v6] rfl Z Z Z Z cz q1) Z ?_;refine yF (F := []) (s := none) Z (fun H _ => zn Z Z) Z ?_;refine yF (F := []) (s := none) Z (fun H _ => zA Z Z au) Z ?_;refine yF (F := []) (s := none) Z (fun H _ => zA Z Z cJ) Z ?_;refine yF Z (zt Z Z Z Z bY Z Z Z) Z ?_;refine LF.nil ⟨by kernel_rfl, ?_⟩;refine ai (zT (zR (yS Z (ax Z Z Z Z) (zM Z (zN (zT ?_))))));obtain rfl := zJ hr;exact ⟨_, rfl, zW 6 ⟨rfl, rfl, rfl, rfl, rfl, rfl, rfl, rfl, rfl, rfl, trivial⟩ Z Z Z rfl⟩
    ·
     refine zo g4 hr fun hr => zq (ao (ao (zy (zT ?_))));obtain rfl := zJ hr;have hr := congrArg some (hb_x1 _ rfl);obtain rfl := zJ hr;exact zW 6 ⟨Z, Z, Z, Z, Z, Z, Z, trivial⟩ Z Z Z Z
   ·have hr := ho_v5;clear hb_v5;refine zT (LW.weak hw_v5 (zQ (zR (zM Z (yS Z (zn Z Z) (yS Z (zA Z Z au) (yS Z (zD Z Z Z cS Z Z) (yS Z (zs Z Z Z Z cS Z Z Z Z) (zM Z (zN (zT (zr (am ?_)))))))))))));obtain rfl := zJ hr;exact zf (.two (.cellAgg Z Z (by kernel_rfl) Z) (.tmp Z)) (⟨_, rfl, (.cons (Conv.agg (.cons zv (.cons zv (.cons zv (.cons zv (.cons zv (.cons zv (.cons (Conv.vecAll Z Z Z) (.cons zv (.cons zv (.cons zv (.cons zv (.cons zv .nil))))))))))))) (.cons Conv.zs .nil))⟩)
  ·
   refine zo g3 hr fun hr => zk (zT (zQ (LW.drawW (by kernel_rfl) (by kernel_rfl) (zK Z ?_))));refine yF (F := []) (s := none) Z (fun H _ => zA Z Z cw) Z ?_;refine yF Z (zd Z Z Z aS Z Z) Z (yF Z (zd Z Z Z bv Z Z) Z (yF Z (zd Z Z Z aS Z Z) Z (zb hr fun v7 h_v7 hr => ?_)));refine yF (F := []) (s := none) Z (fun H _ => zC Z Z Z (by kernel_rfl) (zp (LX h_v7) (.cons zv (.cons zv .nil)))) Z ?_;obtain ⟨v8, h_v8, hr⟩ := zB hr;refine yF (F := []) (s := none) Z (fun H _ => zC Z Z Z (by kernel_rfl) (zp (En h_v8) (.cons zv (.cons zv .nil)))) Z ?_;refine yF (F := []) (s := none) Z (fun H _ => zn Z Z) Z ?_;refine yF (F := []) (s := none) Z (fun H _ => zA Z Z au) Z ?_;refine yF (F := []) (s := none) Z (fun H _ => zA Z Z cw) Z ?_;refine yF Z (zt Z Z Z Z aS Z Z Z) Z ?_;refine LF.nil ⟨by kernel_rfl, ?_⟩;refine zT (zQ (LW.ent (bL.zsCell (i := 4) (j := 18) (m := 9) Z Z Z Z) (zR (zM Z (zM Z (zb hr fun v9 h_v9 hr => yS Z (zC Z Z Z (by kernel_rfl) (Hq (x := Nd.mk n.No n.Tick n.V v8 n.O n.C n.Full) (tl := ([] : List Of)) h_v9)) (zN (zT (zQ (zR (yS Z (ab.build Z G4 Z Z Z) (yS Z (ze Z HU Z Z) (yS Z (zs Z Z Z Z HP Z Z Z Z) (zN (zT (zQ ?_))))))))))))))));refine yq (b := (n.Tick.tmod 3) == 0) (fun (g5 : ((n.Tick.tmod 3) == 0) = true) => ?_) (fun (g5 : ((n.Tick.tmod 3) == 0) = false) => ?_)
   ·
    refine zi g5 hr fun hr => zR (yS Z (zA Z Z c8) (yS Z (zD Z Z Z bA Z Z) (yS Z (ab.isEq (y := (iQ 0)) (ab.rem Z Z Z (by decide)) (ub g5)) (yS Z (ab.indexAddrA Z Z Z wX (by decide) (by decide)) (yS Z (zD Z Z Z xN Z Z) (zM Z (zb hr fun v10 h_v10 hr => yS Z (zC Z Z Z (by kernel_rfl) (LC.pre (E9 (x := Nd.mk n.No n.Tick n.V v8 [] n.C v9.2) (o := v9.1) (tl := ([] : List Of)) h_v10) Z Z Z)) (zN (zT (zQ (zR (zM Z (yS Z (zn Z Z) (yS Z (zA Z Z au) (yS Z (zA Z Z c8) (yS Z (zD Z Z Z bA Z Z) (yS Z (ax Z Z Z Z) (yS Z (zn Z Z) (yS Z (zA Z Z au) (yS Z (zA Z Z c8) (yS Z (zs Z Z Z Z bA Z Z Z Z) ?_)))))))))))))))))))));refine zN (zT (zQ (LW.drawW (by kernel_rfl) (by kernel_rfl) (zK Z ?_))));refine yF (F := []) (s := none) Z (fun H _ => zn Z Z) Z ?_;refine yF (F := []) (s := none) Z (fun H _ => zA Z Z au) Z ?_;refine yF Z (zd Z Z Z cS Z Z) Z (zK Z ?_);refine yF (F := []) (s := none) Z (fun H _ => zn Z Z) Z ?_;refine yF (F := []) (s := none) Z (fun H _ => zA Z Z nb) Z ?_;refine yF Z (zd Z Z Z bY Z Z) Z (yF Z (zt Z Z Z Z cS Z Z Z) Z (zK Z ?_));refine LF.nil ⟨by kernel_rfl, ?_⟩;refine zT (zr ?_);obtain rfl := zJ hr;exact zf (.two (.cellAgg Z Z (by kernel_rfl) Z) (.tmp Z)) (⟨_, rfl, (.cons (Conv.agg (.cons zv (.cons zv (.cons zv (.cons zv (.cons zv (.cons zv (.cons (Conv.vecAll Z Z Z) (.cons zv (.cons zv (.cons zv (.cons zv (.cons zv .nil))))))))))))) (.cons zv .nil))⟩)
   ·
    have hr := zO g5 hr;refine yq (b := (n.Tick.tmod 3) == 1) (fun (g6 : ((n.Tick.tmod 3) == 1) = true) => ?_) (fun (g6 : ((n.Tick.tmod 3) == 1) = false) => ?_)
    ·
     refine zi g6 hr fun hr => zR (yS Z (zA Z Z c8) (yS Z (zD Z Z Z bA Z Z) (yS Z (ab.isEq (y := (iQ 1)) (ab.rem Z Z Z (by decide)) (ub g6)) (yS Z (ab.indexAddrA Z Z Z wX (by decide) (by decide)) (yS Z (zD Z Z Z xN Z Z) (zM Z (zb hr fun v11 h_v11 hr => yS Z (zC Z Z Z (by kernel_rfl) (LC.pre (CS (x := Nd.mk n.No n.Tick n.V v8 [] n.C v9.2) (o := v9.1) (tl := ([] : List Of)) h_v11) Z Z Z)) (zN (zT (zQ (zR (zM Z (yS Z (zn Z Z) (yS Z (zA Z Z au) (yS Z (zA Z Z c8) (yS Z (zD Z Z Z bA Z Z) (yS Z (ax Z Z Z Z) (yS Z (zn Z Z) (yS Z (zA Z Z au) (yS Z (zA Z Z c8) (yS Z (zs Z Z Z Z bA Z Z Z Z) ?_)))))))))))))))))))));refine zN (zT (zQ (LW.drawW (by kernel_rfl) (by kernel_rfl) (zK Z ?_))));refine yF (F := []) (s := none) Z (fun H _ => zn Z Z) Z ?_;refine yF (F := []) (s := none) Z (fun H _ => zA Z Z au) Z ?_;refine yF Z (zd Z Z Z cS Z Z) Z (zK Z ?_);refine yF (F := []) (s := none) Z (fun H _ => zn Z Z) Z ?_;refine yF (F := []) (s := none) Z (fun H _ => zA Z Z nb) Z ?_;refine yF Z (zd Z Z Z bY Z Z) Z (yF Z (zt Z Z Z Z cS Z Z Z) Z (zK Z ?_));refine LF.nil ⟨by kernel_rfl, ?_⟩;refine zT (zr ?_);obtain rfl := zJ hr;exact zf (.two (.cellAgg Z Z (by kernel_rfl) Z) (.tmp Z)) (⟨_, rfl, (.cons zv (.cons zv .nil))⟩)
    ·
     refine zo g6 hr fun hr => zg hr fun q2 hr => zR (yS Z (zA Z Z c8) (yS Z (zD Z Z Z bA Z Z) (yS Z (ab.isEq (y := (iQ 2)) (ab.rem Z Z Z (by decide)) (ub q2)) (yS Z (ab.indexAddrA Z Z Z wX (by decide) (by decide)) (yS Z (zD Z Z Z xN Z Z) (zM Z (zb hr fun v12 h_v12 hr => yS Z (zC Z Z Z (by kernel_rfl) (LC.pre (Fe (x := Nd.mk n.No n.Tick n.V v8 [] n.C v9.2) (o := v9.1) (tl := ([] : List Of)) h_v12) Z Z Z)) (zN (zT (zQ (zR (zM Z (yS Z (zn Z Z) (yS Z (zA Z Z au) (yS Z (zA Z Z c8) (yS Z (zD Z Z Z bA Z Z) (yS Z (ax Z Z Z Z) (yS Z (zn Z Z) (yS Z (zA Z Z au) (yS Z (zA Z Z c8) ?_))))))))))))))))))));refine yS Z (zs Z Z Z Z bA Z Z Z Z) (zN (zT (zQ (LW.drawW (by kernel_rfl) (by kernel_rfl) (zK Z ?_)))));refine yF (F := []) (s := none) Z (fun H _ => zn Z Z) Z ?_;refine yF (F := []) (s := none) Z (fun H _ => zA Z Z au) Z ?_;refine yF Z (zd Z Z Z cS Z Z) Z (zK Z ?_);refine yF (F := []) (s := none) Z (fun H _ => zn Z Z) Z ?_;refine yF (F := []) (s := none) Z (fun H _ => zA Z Z nb) Z ?_;refine yF Z (zd Z Z Z bY Z Z) Z (yF Z (zt Z Z Z Z cS Z Z Z) Z (zK Z ?_));refine LF.nil ⟨by kernel_rfl, ?_⟩;refine zT (zr ?_);obtain rfl := zJ hr;exact zf (.two (.cellAgg Z Z (by kernel_rfl) Z) (.tmp Z)) (⟨_, rfl, (.cons zv (.cons zv .nil))⟩)
open Go.Proofs
theorem w2 {α : Type} {f : α → PV} {l : List α} (hb : room 0 l.length 8 = true) : LC Tryz.prog 46 [.p (.slice 1 (l.map f))] [] (Is (.vec 1 0 (l.map f).length 0 (l.map f).length) [.vec 1 (l.map f)]) := by
 refine dk Tryz.func46 Z Z Z ?_;refine zQ (zR (yS Z (za Z Z) (zN (zT (zQ (zQ (zR (yS Z (zm Z Z) (an.cons Z Z Z (ab.eqNil Z Z Z fY) ?_)))))))));rintro _ _ ⟨rfl, b, rfl, hn⟩;refine zN (zT ?_);refine zX Z (fun g => ?_) (fun g => ?_)
 ·have hl : l = [] := List.map_eq_nil_iff.1 (hn g);subst hl;exact zQ (zR (yS Z (za Z Z) (zN (zT (LW.ent (bL.lazy (t := 2) (m := 1) Z Z Z) (zr (am (ap (.one (.tmp Z)) ⟨rfl, rfl⟩))))))))
 ·refine LW.skip ?_;exact zT (zQ (zR (yS Z (ab.buildSlice0 Z fY) (yS Z (zm Z Z) (yS Z (ab.appendZX f l Z Z Z Z km.p Z fY hb Z) (yS Z (za Z Z) (zN (zT (zr (ap (.one (.tmp Z)) ⟨rfl, rfl⟩))))))))))
theorem G8 {α : Type} {f : α → PV} {l : List α} (hb : room 0 l.length 176 = true) : LC Tryz.prog 81 [.p (.slice 12 (l.map f))] [] (Is (.vec 12 0 (l.map f).length 0 (l.map f).length) [.vec 12 (l.map f)]) := by
 refine dk Tryz.func81 Z Z Z ?_;refine zQ (zR (yS Z (za Z Z) (zN (zT (zQ (zQ (zR (yS Z (zm Z Z) (an.cons Z Z Z (ab.eqNil Z Z Z eE) ?_)))))))));rintro _ _ ⟨rfl, b, rfl, hn⟩;refine zN (zT ?_);refine zX Z (fun g => ?_) (fun g => ?_)
 ·have hl : l = [] := List.map_eq_nil_iff.1 (hn g);subst hl;exact zQ (zR (yS Z (za Z Z) (zN (zT (LW.ent (bL.lazy (t := 2) (m := 12) Z Z Z) (zr (am (ap (.one (.tmp Z)) ⟨rfl, rfl⟩))))))))
 ·refine LW.skip ?_;exact zT (zQ (zR (yS Z (ab.buildSlice0 Z eE) (yS Z (zm Z Z) (yS Z (ab.appendZX f l Z Z Z Z km.p Z eE hb Z) (yS Z (za Z Z) (zN (zT (zr (ap (.one (.tmp Z)) ⟨rfl, rfl⟩))))))))))
theorem CP {α : Type} {f : α → PV} {l : List α} (hb : room 0 l.length 104 = true) : LC Tryz.prog 94 [.p (.slice 9 (l.map f))] [] (Is (.vec 9 0 (l.map f).length 0 (l.map f).length) [.vec 9 (l.map f)]) := by
 refine dk Tryz.func94 Z Z Z ?_;refine zQ (zR (yS Z (za Z Z) (zN (zT (zQ (zQ (zR (yS Z (zm Z Z) (an.cons Z Z Z (ab.eqNil Z Z Z cz) ?_)))))))));rintro _ _ ⟨rfl, b, rfl, hn⟩;refine zN (zT ?_);refine zX Z (fun g => ?_) (fun g => ?_)
 ·have hl : l = [] := List.map_eq_nil_iff.1 (hn g);subst hl;exact zQ (zR (yS Z (za Z Z) (zN (zT (LW.ent (bL.lazy (t := 2) (m := 9) Z Z Z) (zr (am (ap (.one (.tmp Z)) ⟨rfl, rfl⟩))))))))
 ·refine LW.skip ?_;exact zT (zQ (zR (yS Z (ab.buildSlice0 Z cz) (yS Z (zm Z Z) (yS Z (ab.appendZX f l Z Z Z Z km.p Z cz hb Z) (yS Z (za Z Z) (zN (zT (zr (ap (.one (.tmp Z)) ⟨rfl, rfl⟩))))))))))
def mX (v : Vw) : Option Vw :=
 bif room 0 v.B.length 40 then
  bif room 0 v.V.length 32 then
   some v
  else none
 else none
theorem CO {v : Vw} {r_ : Vw} (hr : mX v = some r_) : aw Tryz.prog 83 [mO v] [mO r_] := by
 refine zh Tryz.func83 Z Z Z Z ?_;unfold mX at hr;refine zQ (zR (yS Z (bZ Z Z Z Z Z) (yS Z (ze Z ii Z Z) (zN (zT (zQ (LW.ent (bL.slot Z) (LW.ent (bL.slot Z) (LW.drawW (by kernel_rfl) (by kernel_rfl) ?_)))))))));refine yF (F := []) (s := none) Z (fun H _ => zA Z Z bz) Z ?_;refine yF Z (zd Z Z Z dC Z Z) Z (zg hr fun q1 hr => ?_);refine yF Z (bH.callV (id := 2) (qs := [(kB v.B)]) Z Z Z (by kernel_rfl) (u9 q1) (fun H => (.consC zv .nil)) Z) Z ?_;refine yF (F := []) (s := none) Z (fun H _ => zA Z Z b7) Z ?_;refine yF Z (zd Z Z Z eS Z Z) Z (zg hr fun q2 hr => ?_);refine yF Z (bH.callV (id := 3) (qs := [(kV v.V)]) Z Z Z (by kernel_rfl) (va q2) (fun H => (.consC zv .nil)) Z) Z ?_;refine yF (F := []) (s := none) Z (fun H _ => ab.build Z oa Z Z Z) Z ?_;refine yF Z (zt Z Z Z Z aS Z Z Z) Z ?_;refine LF.nil ⟨by kernel_rfl, ?_⟩;refine zT (zr ?_);obtain rfl := zJ hr;exact zf (.one (.cellAgg Z Z (by kernel_rfl) Z)) ((Conv.agg (.cons (Conv.vecAll Z Z Z) (.cons (Conv.vecAll Z Z Z) .nil))))
theorem p6 {v r_ : Vw} (h : mX v = some r_) : v = r_ := by
 unfold mX at h;obtain ⟨_, h⟩ := zG h;obtain ⟨_, h⟩ := zG h;exact zJ h
structure ea where
 t8 : Int
def iY (l : List Of) (x1 : ea) : Option (ea ⊕ ea) :=
 bif decide (x1.t8 < (l.length : Int)) then
  (ix l x1.t8).bind fun y1 =>
  (mX y1.V).bind fun _ =>
  (ix l x1.t8).bind fun _ =>
  some (.inl (ea.mk (IntKind.i64.wrap (x1.t8 + 1))))
 else
  some (.inr (ea.mk x1.t8))
def oY (l : List Of) : Option (List Of) :=
 bif room 0 l.length 104 then
  (iter (iY l) bD (ea.mk 0)).bind fun _ =>
  some l
 else none
theorem F9 {l : List Of} {r_ : (List Of)} (hr : oY l = some r_) : aw Tryz.prog 82 [.slice 9 (l.map dK)] [.slice 9 (r_.map dK)] := by
 refine zh Tryz.func82 Z Z Z Z ?_;unfold oY at hr;refine zQ (zR (zM Z (zN (zT (zQ (zR (zM Z (zg hr fun q1 hr => yS Z (ab.callV (qs := [(kO l)]) Z Z Z (by kernel_rfl) (CP q1) (.consC zv .nil) Z Z) (zM Z (zN (zT (zQ (zQ (zR (zM Z (yS Z (ab.lenVM Z Z Z (by kernel_rfl)) (zM Z (zN (zT ?_)))))))))))))))))));obtain ⟨v1, hb_v1, ho_v1⟩ := zB hr;clear hr;refine LW.tail (E := [(0, (jO 0 l)), (2, .zs)]) (O := [.vec 9 (l.map dK)]) ?_ (fun env_v1 H_v1 hw_v1 => ?_)
 ·refine LW.block ?_;refine LW.iterB (E := fun x1 : ea => [(0, (jO 0 l)), (2, .zs), (7, .p (.int .i64 (l.length : Int))), (8, (iQ x1.t8))]) (O := fun x1 => [.vec 9 (l.map dK)]) hb_v1 (zW 1 ⟨rfl, rfl, rfl, rfl, trivial⟩ Z Z Z Z) (fun x1 z_x1 hr hb_x1 => ?_);unfold iY at hr;refine zQ (zR (yS Z (ax Z Z Z Z) (zN (zT (zQ ?_)))));refine zX Z (fun g1 => ?_) (fun g1 => ?_)
  ·
   refine zi g1 hr fun hr => zk (zT (zQ (zl (zQ (zR (zM Z (zM Z (zN (zT (zR (zM Z (zM Z (zM Z (zM Z (zb hr fun y1 h_y1 hr => yS Z (ab.indexAddrVX Z Z Z Z cz h_y1) (yS Z (ab.fieldAddrV Z Z Z Z jc) (yS Z (ab.loadVX Z Z Z aS h_y1 Z Z Z Z) (zb hr fun v2 h_v2 hr => ?_))))))))))))))))));obtain rfl := p6 h_v2;refine yS Z (zC Z Z Z (by kernel_rfl) (zp (CO h_v2) (.cons zv .nil))) (zb hr fun y2 h_y2 hr => yS Z (ab.indexAddrVX Z Z Z Z cz h_y2) (yS Z (ab.fieldAddrV Z Z Z Z jc) ?_));obtain rfl := zJ (h_y1.symm.trans h_y2);refine yS Z (ab.storeVS (f := dK) (l := l) Z Z Z Z aS (fun _ => rfl) h_y2 Z Z Z Z Z) ?_;refine zN (ai (zT (zR (yS Z (ax Z Z Z Z) (zM Z (zN (zT ?_)))))));obtain rfl := zJ hr;exact ⟨_, rfl, zW 1 ⟨rfl, rfl, rfl, rfl, trivial⟩ Z Z Z rfl⟩
  ·
   refine zo g1 hr fun hr => zq (ao (ao (zy (zT ?_))));obtain rfl := zJ hr;have hr := congrArg some (hb_x1 _ rfl);obtain rfl := zJ hr;exact zW 1 ⟨Z, Z, trivial⟩ Z Z Z Z
 ·have hr := ho_v1;clear hb_v1;refine zT (LW.weak hw_v1 (zQ (zR (zM Z (zM Z (zN (zT (zr ?_))))))));obtain rfl := zJ hr;exact zf (.one (.tmp Z)) ((Conv.vecAll Z Z Z))
theorem uO {v r_ : List Of} (h : oY v = some r_) : v = r_ := by
 unfold oY at h;obtain ⟨_, h⟩ := zG h;obtain ⟨_, _, h⟩ := zB h;exact zJ h
structure d9 where
 t20 : Int
def iX (w : Wd) (x1 : d9) : Option (d9 ⊕ d9) :=
 bif decide (x1.t20 < (w.N.length : Int)) then
  (ix w.N x1.t20).bind fun y1 =>
  (mX y1.V).bind fun _ =>
  (mX y1.In).bind fun _ =>
  (oY y1.O).bind fun _ =>
  some (.inl (d9.mk (IntKind.i64.wrap (x1.t20 + 1))))
 else
  some (.inr (d9.mk x1.t20))
def oX (w : Wd) : Option Wd :=
 bif room 0 w.Bad.length 8 then
  bif room 0 w.N.length 176 then
   (oY w.O).bind fun _ =>
   (iter (iX w) bD (d9.mk 0)).bind fun _ =>
   some w
  else none
 else none
theorem F8 {w : Wd} {r_ : Wd} (hr : oX w = some r_) : aw Tryz.prog 50 [Ec w] [Ec r_] := by
 refine zh Tryz.func50 Z Z Z Z ?_;unfold oX at hr;refine zQ (zR (yS Z (bZ Z Z Z Z Z) (yS Z (ze Z k9 Z Z) (zN (zT (zQ (LW.ent (bL.slot Z) (LW.ent (bL.slot Z) (LW.drawW (by kernel_rfl) (by kernel_rfl) ?_)))))))));refine yF (F := []) (s := none) Z (fun H _ => zA Z Z kF) Z ?_;refine yF Z (zd Z Z Z fc Z Z) Z (zg hr fun q1 hr => ?_);refine yF Z (bH.callV (id := 2) (qs := [(kI w.Bad)]) Z Z Z (by kernel_rfl) (w2 q1) (fun H => (.consC zv .nil)) Z) Z ?_;refine yF (F := []) (s := none) Z (fun H _ => zA Z Z bN) Z ?_;refine yF Z (zd Z Z Z dB Z Z) Z (zg hr fun q2 hr => ?_);refine yF Z (bH.callV (id := 3) (qs := [.p (.slice 12 (w.N.map ig))]) Z Z Z (by kernel_rfl) (G8 q2) (fun H => (.consC zv .nil)) Z) Z ?_;refine yF (F := []) (s := none) Z (fun H _ => zA Z Z jb) Z ?_;refine yF Z (zd Z Z Z bY Z Z) Z (zb hr fun v1 h_v1 hr => ?_);obtain rfl := uO h_v1;refine yF (F := []) (s := none) Z (fun H _ => zC Z Z Z (by kernel_rfl) (zp (F9 h_v1) (.cons zv .nil))) Z ?_;refine yF (F := []) (s := none) Z (fun H _ => zA Z Z kF) Z ?_;refine yF Z (zt Z Z Z Z fc Z Z Z) Z ?_;refine yF (F := []) (s := none) Z (fun H _ => zA Z Z bN) Z ?_;refine yF Z (zt Z Z Z Z dB Z Z Z) Z ?_;refine yF (F := []) (s := none) Z (fun H _ => zA Z Z jb) Z ?_;refine yF Z (zt Z Z Z Z bY Z Z Z) Z ?_;refine LF.nil ⟨by kernel_rfl, ?_⟩;refine zT (zQ (zQ (zR (yS Z (zA Z Z bN) (yS Z (zD Z Z Z dB Z Z) (yS Z (ab.lenVM Z Z Z (by kernel_rfl)) (zM Z (zN (zT ?_)))))))));obtain ⟨v2, hb_v2, ho_v2⟩ := zB hr;clear hr;refine LW.tail (E := [(1, .ptr 0 0), (2, .ptr 1 0)]) (O := [.box [(kI w.C.W), (uQ w.C.Seed), (iQ w.C.Epoch), (iQ w.C.Num), (iQ w.C.Den), (jI 2 w.Bad), (iQ w.Tick), .vec 12 3 (w.N.map ig).length 0 (w.N.map ig).length, (kO w.O)], .box ul, .vec 1 (w.Bad.map aF), .vec 12 (w.N.map ig)]) ?_ (fun env_v2 H_v2 hw_v2 => ?_)
 ·refine LW.block ?_;refine LW.iterB (E := fun x1 : d9 => [(1, .ptr 0 0), (2, .ptr 1 0), (19, .p (.int .i64 (w.N.length : Int))), (20, (iQ x1.t20))]) (O := fun x1 => [.box [(kI w.C.W), (uQ w.C.Seed), (iQ w.C.Epoch), (iQ w.C.Num), (iQ w.C.Den), (jI 2 w.Bad), (iQ w.Tick), .vec 12 3 (w.N.map ig).length 0 (w.N.map ig).length, (kO w.O)], .box ul, .vec 1 (w.Bad.map aF), .vec 12 (w.N.map ig)]) hb_v2 (zW 4 ⟨rfl, rfl, rfl, rfl, trivial⟩ Z Z Z Z) (fun x1 z_x1 hr hb_x1 => ?_);unfold iX at hr;refine zQ (zR (yS Z (ax Z Z Z Z) (zN (zT (zQ ?_)))));refine zX Z (fun g1 => ?_) (fun g1 => ?_)
  ·
   refine zi g1 hr fun hr => zk (zT (zQ (zl (zQ (zR (zM Z (zM Z (zN (zT (zQ (zR (yS Z (zA Z Z bN) (yS Z (zD Z Z Z dB Z Z) (zM Z (zb hr fun y1 h_y1 hr => yS Z (ab.indexAddrVX Z Z Z Z eE h_y1) (zM Z (zN (zT (LW.draw2 (by kernel_rfl) (by kernel_rfl) (zH Z (zH Z ?_)))))))))))))))))))));refine zH Z (zH Z (yE Z (ab.nilCheckV Z Z Z Z) (yE Z (ab.fieldAddrV Z Z Z Z bV) (yE Z (ab.loadVX Z Z Z aS h_y1 Z Z Z Z) (zb hr fun v3 h_v3 hr => ?_)))));obtain rfl := p6 h_v3;refine yE Z (zC Z Z Z (by kernel_rfl) (zp (CO h_v3) (.cons zv .nil))) (zH Z (yE Z (ab.nilCheckV Z Z Z Z) (yE Z (ab.fieldAddrV Z Z Z Z cw) (yE Z (ab.loadVX Z Z Z aS h_y1 Z Z Z Z) (zb hr fun v4 h_v4 hr => ?_)))));obtain rfl := p6 h_v4;refine yE Z (zC Z Z Z (by kernel_rfl) (zp (CO h_v4) (.cons zv .nil))) (zH Z (yE Z (ab.nilCheckV Z Z Z Z) (yE Z (ab.fieldAddrV Z Z Z Z cJ) (yE Z (ab.loadVX Z Z Z bY h_y1 Z Z Z Z) (zb hr fun v5 h_v5 hr => ?_)))));obtain rfl := uO h_v5;refine yE Z (zC Z Z Z (by kernel_rfl) (zp (F9 h_v5) (.cons zv .nil))) (yE Z (ab.nilCheckV Z Z Z Z) (yE Z (ab.fieldAddrV Z Z Z Z bV) ?_));refine yE Z (ab.storeVS (f := ig) (l := w.N) Z Z Z Z aS (fun _ => rfl) h_y1 Z Z Z Z Z) ?_;refine yE Z (ab.nilCheckV Z Z Z Z) (yE Z (ab.fieldAddrV Z Z Z Z cw) ?_);refine yE Z (ab.storeVS (f := ig) (l := w.N) Z Z Z Z aS (fun _ => rfl) h_y1 Z Z Z Z Z) ?_;refine yE Z (ab.nilCheckV Z Z Z Z) (yE Z (ab.fieldAddrV Z Z Z Z cJ) ?_);refine yE Z (ab.storeVS (f := ig) (l := w.N) Z Z Z Z bY (fun _ => rfl) h_y1 Z Z Z Z Z) ?_;refine LO.nil (ai (zT (zR (yS Z (ax Z Z Z Z) (zM Z (zN (zT ?_)))))));obtain rfl := zJ hr;exact ⟨_, rfl, zW 4 ⟨rfl, rfl, rfl, rfl, trivial⟩ Z Z Z rfl⟩
  ·
   refine zo g1 hr fun hr => zq (ao (ao (zy (zT ?_))));obtain rfl := zJ hr;have hr := congrArg some (hb_x1 _ rfl);obtain rfl := zJ hr;exact zW 4 ⟨Z, Z, trivial⟩ Z Z Z Z
 ·have hr := ho_v2;clear hb_v2;refine zT (LW.weak hw_v2 (zQ (zR (yS Z (zD Z Z Z bK Z Z) (yS Z (zs Z Z Z Z bK Z Z Z Z) (zN (zT (zr ?_))))))));obtain rfl := zJ hr;exact zf (.one (.cellAgg Z Z (by kernel_rfl) Z)) ((Conv.agg (.cons zv (.cons zv (.cons zv (.cons zv (.cons zv (.cons (Conv.vecAll Z Z Z) (.cons zv (.cons (Conv.vecAll Z Z Z) (.cons zv .nil)))))))))))
open Go.Proofs
theorem uM {w r_ : Wd} (h : oX w = some r_) : w = r_ := by
 unfold oX at h;obtain ⟨_, h⟩ := zG h;obtain ⟨_, h⟩ := zG h;obtain ⟨_, _, h⟩ := zB h;obtain ⟨_, _, h⟩ := zB h;exact zJ h
def EV (a : Ac) (w : Wd) : Option Bool :=
 bif a.Tick == w.Tick then
  some (decide (a.To ≥ 0))
 else
  some false
theorem JB {a : Ac} {w : Wd} {r_ : Bool} (hr : EV a w = some r_) : LC Tryz.prog 85 [.p (jz a), .ptr 0 0] [.box (e8 w)] (Is (bQ r_) [.box (e8 w)]) := by
 refine dk Tryz.func85 Z Z Z ?_;unfold EV at hr;refine zQ (zR (yS Z (bZ Z Z Z Z Z) (zM Z (zN (zT (zQ (zR (yS Z (zA Z Z C6) (yS Z (zD Z Z Z bA Z Z) (yS Z (zA Z Z ja) (yS Z (zD Z Z Z bA Z Z) (yS Z (ax Z Z Z Z) (zM Z ?_)))))))))))));refine zc 9 Z (fun g1 => ?_) (fun g1 => ?_)
 ·
  refine zi g1 hr fun hr => yV Z (gd g1 Z) (zA Z Z vu) (yV Z (gd g1 Z) (zD Z Z Z bA Z Z) (yV Z (gd g1 Z) (ax Z Z Z Z) (yS Z (eo Z (bI g1 Z) Z) (zM Z (zN (zT (zr ?_)))))));obtain rfl := zJ hr;exact a8 (env' := [(3, .p (.bool (decide (a.To ≥ 0))))]) (H' := [.box (e8 w)]) (zW 1 ⟨rfl, trivial⟩ Z Z Z Z) (.one (.tmp Z)) (⟨rfl, rfl⟩)
 ·
  refine zo g1 hr fun hr => yU Z (gd g1 Z) Z (yU Z (gd g1 Z) Z (yU Z (gd g1 Z) Z (yS Z (dc Z (bI g1 Z) Z) (zM Z (zN (zT (zr ?_)))))));obtain rfl := zJ hr;exact a8 (env' := [(3, (bQ false))]) (H' := [.box (e8 w)]) (zW 1 ⟨rfl, trivial⟩ Z Z Z Z) (.one (.tmp Z)) (⟨rfl, rfl⟩)
structure cW where
 t10 : Int
 out : List Ac
def gm (l : List Ac) (w : Wd) (x1 : cW) : Option (cW ⊕ cW) :=
 bif decide (x1.t10 < (l.length : Int)) then
  (ix l x1.t10).bind fun y1 =>
  (EV y1 w).bind fun v2 =>
  bif v2 then
   bif room x1.out.length [y1].length 72 then
    some (.inl (cW.mk (IntKind.i64.wrap (x1.t10 + 1)) (x1.out ++ [y1])))
   else none
  else
   some (.inl (cW.mk (IntKind.i64.wrap (x1.t10 + 1)) x1.out))
 else
  some (.inr (cW.mk x1.t10 x1.out))
def qa (l : List Ac) (w : Wd) : Option (List Ac) :=
 (iter (gm l w) bD (cW.mk 0 ([] : List Ac))).bind fun v1 =>
 some v1.out
theorem Fa {l : List Ac} {w : Wd} {r_ : (List Ac)} (hr : qa l w = some r_) : LC Tryz.prog 84 [.p (.slice 5 (l.map jz)), .fn 85 [] [.ptr 0 0]] [.box (e8 w)] (Is (.p (.slice 5 (r_.map jz))) [.box (e8 w)]) := by
 refine dk Tryz.func84 Z Z Z ?_;unfold qa at hr;refine zQ (zR (zM Z (zN (zT (zQ (zR (zM Z (zN (zT (zQ (zQ (LW.ent (bL.lazy (t := 5) (m := 5) Z Z Z) (zR (zM Z (yS Z (dY Z Z (by kernel_rfl)) (zM Z (zN (zT ?_))))))))))))))))));obtain ⟨v1, hb_v1, ho_v1⟩ := zB hr;clear hr;refine LW.tail (E := [(4, .zs), (5, .vec 5 1 (v1.out.map jz).length 0 (v1.out.map jz).length)]) (O := [.box (e8 w), .vec 5 (v1.out.map jz)]) ?_ (fun env_v1 H_v1 hw_v1 => ?_)
 ·refine LW.block ?_;refine LW.iterB (E := fun x1 : cW => [(1, .fn 85 [] [.ptr 0 0]), (4, .zs), (5, .vec 5 1 (x1.out.map jz).length 0 (x1.out.map jz).length), (8, .p (.slice 5 (l.map jz))), (9, .p (.int .i64 (l.length : Int))), (10, (iQ x1.t10))]) (O := fun x1 => [.box (e8 w), .vec 5 (x1.out.map jz)]) hb_v1 (zW 2 ⟨rfl, rfl, rfl, rfl, rfl, rfl, trivial⟩ Z Z Z Z) (fun x1 z_x1 hr hb_x1 => ?_);unfold gm at hr;refine zQ (zR (yS Z (ax Z Z Z Z) (zN (zT (zQ ?_)))));refine zX Z (fun g1 => ?_) (fun g1 => ?_)
  ·
   refine zi g1 hr fun hr => zk (zT (zQ (zl (zQ (zR (zb hr fun y1 h_y1 hr => yS Z (zx Z Z Z mD h_y1 Z) (yS Z (eA Z Z Z j3 Z Z) (yS Z (ze Z xP Z Z) (yS Z (zs Z Z Z Z j3 Z Z Z Z) (zN (zT (zQ (zR (zM Z (yS Z (zD Z Z Z j3 Z Z) (zb hr fun v2 h_v2 hr => yS Z (zC Z Z Z (by kernel_rfl) (LC.pre (JB h_v2) Z Z Z)) (zN (zT ?_))))))))))))))))));refine zX Z (fun g2 => ?_) (fun g2 => ?_)
   ·
    refine zi g2 hr fun hr => zR (zM Z (yS Z (zD Z Z Z j3 Z Z) (yS Z (mL Z mD Z Z Z Z Z) (zg hr fun q1 hr => yS Z (ab.appendX jz x1.out [y1] rfl Z Z Z km.p Z mD q1 Z) (zM Z (zN (ai (zT (zR (yS Z (ax Z Z Z Z) (zM Z (zN (zT ?_)))))))))))));obtain rfl := zJ hr;exact ⟨_, rfl, zW 2 ⟨rfl, rfl, rfl, rfl, rfl, rfl, trivial⟩ Z Z Z rfl⟩
   ·
    refine zo g2 hr fun hr => zk (ai (zT (zR (yS Z (ax Z Z Z Z) (zM Z (zN (zT ?_)))))));obtain rfl := zJ hr;exact ⟨_, rfl, zW 2 ⟨rfl, rfl, rfl, rfl, rfl, rfl, trivial⟩ Z Z Z rfl⟩
  ·
   refine zo g1 hr fun hr => zq (ao (ao (zy (zT ?_))));obtain rfl := zJ hr;have hr := congrArg some (hb_x1 _ rfl);obtain rfl := zJ hr;exact zW 2 ⟨Z, Z, trivial⟩ Z Z Z Z
 ·have hr := ho_v1;clear hb_v1;refine zT (LW.weak hw_v1 (zQ (LW.ent (bL.frz (t := 5) (env' := []) (H0 := [.box (e8 w)]) Z Z Z Z Z trivial Z Z) (zR (zM Z (zM Z (zN (zT (zr ?_)))))))));obtain rfl := zJ hr;exact ap (.one (.tmp Z)) (⟨rfl, rfl⟩)
def Ag (who : Int) (w : Wd) : Option Bool :=
 (tj w.Bad who).bind fun v1 =>
 some v1
theorem Gh {who : Int} {w : Wd} {al : Vw} {wh : Int} {me : Bool} {cl : List Ac} {r_ : Bool} (hr : Ag who w = some r_) : LC Tryz.prog 86 [(iQ who), .ptr 2 0] (hM w al wh me cl 87 86) (Is (bQ r_) (hM w al wh me cl 87 86)) := by
 refine dk Tryz.func86 Z Z Z ?_;unfold Ag at hr;refine zQ (zR (zM Z (zN (zT (zQ (zR (yS Z (zA Z Z kF) (yS Z (zD Z Z Z fc Z Z) (zM Z (zb hr fun v1 h_v1 hr => yS Z (zC Z Z Z (by kernel_rfl) (zp (CL h_v1) (.cons zv (.cons zv .nil)))) (zM Z (zN (zT (zr ?_))))))))))))));obtain rfl := zJ hr;exact ap (.one (.tmp Z)) (⟨rfl, rfl⟩)
def uX (x : Bk) (w : Wd) (al : Vw) : Option Bool :=
 (Ag x.From w).bind fun v1 =>
 bif v1 then
  some true
 else
  (Aa al.B x).bind fun v2 =>
  some v2
theorem Ht {x : Bk} {w : Wd} {al : Vw} {wh : Int} {me : Bool} {cl : List Ac} {r_ : Bool} (hr : uX x w al = some r_) : LC Tryz.prog 89 [.p (ay x), .ptr 5 0, .ptr 4 0] (hM w al wh me cl 87 86) (Is (bQ r_) (hM w al wh me cl 87 86)) := by
 refine dk Tryz.func89 Z Z Z ?_;unfold uX at hr;refine zQ (zR (yS Z (bZ Z Z Z Z Z) (zM Z (zN (zT (zQ (zR (yS Z (zD Z Z Z te Z Z) (yS Z (zA Z Z xc) (yS Z (zD Z Z Z bA Z Z) (zb hr fun v1 h_v1 hr => yS Z (zC Z Z Z (by kernel_rfl) (LC.pre (Gh h_v1) Z Z Z)) (zM Z ?_))))))))))));refine zc 9 Z (fun g1 => ?_) (fun g1 => ?_)
 ·
  refine zi g1 hr fun hr => yU Z (gd g1 Z) Z (yU Z (gd g1 Z) Z (yU Z (gd g1 Z) Z (yU Z (gd g1 Z) Z (yU Z (gd g1 Z) Z (yS Z (eo Z (bI g1 Z) Z) (zM Z (zN (zT (zr ?_)))))))));obtain rfl := zJ hr;exact a8 (env' := [(4, (bQ true))]) (H' := (hM w al wh me cl 87 86)) (zW 6 ⟨rfl, trivial⟩ Z Z Z Z) (.one (.tmp Z)) (⟨rfl, rfl⟩)
 ·
  refine zo g1 hr fun hr => yV Z (gd g1 Z) (zA Z Z qM) (yV Z (gd g1 Z) (zA Z Z bz) (yV Z (gd g1 Z) (zD Z Z Z dC Z Z) (yV Z (gd g1 Z) (zD Z Z Z cO Z Z) (zb hr fun v2 h_v2 hr => yV Z (gd g1 Z) (zC Z Z Z (by kernel_rfl) (zp (IU h_v2) (.cons zv (.cons zv .nil)))) (yS Z (dc Z (bI g1 Z) Z) (zM Z (zN (zT (zr ?_)))))))));obtain rfl := zJ hr;exact a8 (env' := [(4, (bQ v2))]) (H' := (hM w al wh me cl 87 86)) (zW 6 ⟨rfl, trivial⟩ Z Z Z Z) (.one (.tmp Z)) (⟨rfl, rfl⟩)
def uY (x : Vt) (w : Wd) (al : Vw) : Option Bool :=
 (Ag x.From w).bind fun v1 =>
 bif v1 then
  some true
 else
  (Ab al.V x).bind fun v2 =>
  some v2
theorem Hu {x : Vt} {w : Wd} {al : Vw} {wh : Int} {me : Bool} {cl : List Ac} {r_ : Bool} (hr : uY x w al = some r_) : LC Tryz.prog 92 [.p (aI x), .ptr 5 0, .ptr 4 0] (hM w al wh me cl 87 86) (Is (bQ r_) (hM w al wh me cl 87 86)) := by
 refine dk Tryz.func92 Z Z Z ?_;unfold uY at hr;refine zQ (zR (yS Z (bZ Z Z Z Z Z) (zM Z (zN (zT (zQ (zR (yS Z (zD Z Z Z te Z Z) (yS Z (zA Z Z qP) (yS Z (zD Z Z Z bA Z Z) (zb hr fun v1 h_v1 hr => yS Z (zC Z Z Z (by kernel_rfl) (LC.pre (Gh h_v1) Z Z Z)) (zM Z ?_))))))))))));refine zc 9 Z (fun g1 => ?_) (fun g1 => ?_)
 ·
  refine zi g1 hr fun hr => yU Z (gd g1 Z) Z (yU Z (gd g1 Z) Z (yU Z (gd g1 Z) Z (yU Z (gd g1 Z) Z (yU Z (gd g1 Z) Z (yS Z (eo Z (bI g1 Z) Z) (zM Z (zN (zT (zr ?_)))))))));obtain rfl := zJ hr;exact a8 (env' := [(4, (bQ true))]) (H' := (hM w al wh me cl 87 86)) (zW 6 ⟨rfl, trivial⟩ Z Z Z Z) (.one (.tmp Z)) (⟨rfl, rfl⟩)
 ·
  refine zo g1 hr fun hr => yV Z (gd g1 Z) (zA Z Z qM) (yV Z (gd g1 Z) (zA Z Z b7) (yV Z (gd g1 Z) (zD Z Z Z eS Z Z) (yV Z (gd g1 Z) (zD Z Z Z cT Z Z) (zb hr fun v2 h_v2 hr => yV Z (gd g1 Z) (zC Z Z Z (by kernel_rfl) (zp (IV h_v2) (.cons zv (.cons zv .nil)))) (yS Z (dc Z (bI g1 Z) Z) (zM Z (zN (zT (zr ?_)))))))));obtain rfl := zJ hr;exact a8 (env' := [(4, (bQ v2))]) (H' := (hM w al wh me cl 87 86)) (zW 6 ⟨rfl, trivial⟩ Z Z Z Z) (.one (.tmp Z)) (⟨rfl, rfl⟩)
structure cX where
 t10 : Int
 out : List Bk
def gn (l : List Bk) (w : Wd) (al : Vw) (x1 : cX) : Option (cX ⊕ cX) :=
 bif decide (x1.t10 < (l.length : Int)) then
  (ix l x1.t10).bind fun y1 =>
  (uX y1 w al).bind fun v2 =>
  bif v2 then
   bif room x1.out.length [y1].length 40 then
    some (.inl (cX.mk (IntKind.i64.wrap (x1.t10 + 1)) (x1.out ++ [y1])))
   else none
  else
   some (.inl (cX.mk (IntKind.i64.wrap (x1.t10 + 1)) x1.out))
 else
  some (.inr (cX.mk x1.t10 x1.out))
def qb (l : List Bk) (w : Wd) (al : Vw) : Option (List Bk) :=
 (iter (gn l w al) bD (cX.mk 0 ([] : List Bk))).bind fun v1 =>
 some v1.out
theorem Fb {l : List Bk} {w : Wd} {al : Vw} {wh : Int} {me : Bool} {cl : List Ac} {r_ : (List Bk)} (hr : qb l w al = some r_) : LC Tryz.prog 88 [(kB l), .fn 89 [] [.ptr 5 0, .ptr 4 0]] (hM w al wh me cl 87 86) (Is (kB r_) (hM w al wh me cl 87 86)) := by
 refine dk Tryz.func88 Z Z Z ?_;unfold qb at hr;refine zQ (zR (zM Z (zN (zT (zQ (zR (zM Z (zN (zT (zQ (zQ (LW.ent (bL.lazy (t := 5) (m := 5) Z Z Z) (zR (zM Z (yS Z (dY Z Z (by kernel_rfl)) (zM Z (zN (zT ?_))))))))))))))))));obtain ⟨v1, hb_v1, ho_v1⟩ := zB hr;clear hr;refine LW.tail (E := [(4, .zs), (5, (jB 6 v1.out))]) (O := [.box (e8 w), .box ul, .box (e8 w), .box (kQ w al wh me cl 87 5 4), .box (kQ w al wh me cl 87 5 4), .box [.fn 86 [] [.ptr 2 0]], .vec 5 (v1.out.map ay)]) ?_ (fun env_v1 H_v1 hw_v1 => ?_)
 ·refine LW.block ?_;refine LW.iterB (E := fun x1 : cX => [(1, .fn 89 [] [.ptr 5 0, .ptr 4 0]), (4, .zs), (5, (jB 6 x1.out)), (8, (kB l)), (9, .p (.int .i64 (l.length : Int))), (10, (iQ x1.t10))]) (O := fun x1 => [.box (e8 w), .box ul, .box (e8 w), .box (kQ w al wh me cl 87 5 4), .box (kQ w al wh me cl 87 5 4), .box [.fn 86 [] [.ptr 2 0]], .vec 5 (x1.out.map ay)]) hb_v1 (zW 7 ⟨rfl, rfl, rfl, rfl, rfl, rfl, trivial⟩ Z Z Z Z) (fun x1 z_x1 hr hb_x1 => ?_);unfold gn at hr;refine zQ (zR (yS Z (ax Z Z Z Z) (zN (zT (zQ ?_)))));refine zX Z (fun g1 => ?_) (fun g1 => ?_)
  ·
   refine zi g1 hr fun hr => zk (zT (zQ (zl (zQ (zR (zb hr fun y1 h_y1 hr => yS Z (zx Z Z Z en h_y1 Z) (yS Z (eA Z Z Z cO Z Z) (yS Z (ze Z uj Z Z) (yS Z (zs Z Z Z Z cO Z Z Z Z) (zN (zT (zQ (zR (zM Z (yS Z (zD Z Z Z cO Z Z) (zb hr fun v2 h_v2 hr => yS Z (zC Z Z Z (by kernel_rfl) (LC.pre (Ht h_v2) Z Z Z)) (zN (zT ?_))))))))))))))))));refine zX Z (fun g2 => ?_) (fun g2 => ?_)
   ·
    refine zi g2 hr fun hr => zR (zM Z (yS Z (zD Z Z Z cO Z Z) (yS Z (mL Z en Z Z Z Z Z) (zg hr fun q1 hr => yS Z (ab.appendX ay x1.out [y1] rfl Z Z Z km.p Z en q1 Z) (zM Z (zN (ai (zT (zR (yS Z (ax Z Z Z Z) (zM Z (zN (zT ?_)))))))))))));obtain rfl := zJ hr;exact ⟨_, rfl, zW 7 ⟨rfl, rfl, rfl, rfl, rfl, rfl, trivial⟩ Z Z Z rfl⟩
   ·
    refine zo g2 hr fun hr => zk (ai (zT (zR (yS Z (ax Z Z Z Z) (zM Z (zN (zT ?_)))))));obtain rfl := zJ hr;exact ⟨_, rfl, zW 7 ⟨rfl, rfl, rfl, rfl, rfl, rfl, trivial⟩ Z Z Z rfl⟩
  ·
   refine zo g1 hr fun hr => zq (ao (ao (zy (zT ?_))));obtain rfl := zJ hr;have hr := congrArg some (hb_x1 _ rfl);obtain rfl := zJ hr;exact zW 7 ⟨Z, Z, trivial⟩ Z Z Z Z
 ·have hr := ho_v1;clear hb_v1;refine zT (LW.weak hw_v1 (zQ (LW.ent (bL.frz (t := 5) (env' := []) (H0 := (hM w al wh me cl 87 86)) Z Z Z Z Z trivial Z Z) (zR (zM Z (zM Z (zN (zT (zr ?_)))))))));obtain rfl := zJ hr;exact ap (.one (.tmp Z)) (⟨rfl, rfl⟩)
structure cY where
 t10 : Int
 out : List Vt
def gp (l : List Vt) (w : Wd) (al : Vw) (x1 : cY) : Option (cY ⊕ cY) :=
 bif decide (x1.t10 < (l.length : Int)) then
  (ix l x1.t10).bind fun y1 =>
  (uY y1 w al).bind fun v2 =>
  bif v2 then
   bif room x1.out.length [y1].length 32 then
    some (.inl (cY.mk (IntKind.i64.wrap (x1.t10 + 1)) (x1.out ++ [y1])))
   else none
  else
   some (.inl (cY.mk (IntKind.i64.wrap (x1.t10 + 1)) x1.out))
 else
  some (.inr (cY.mk x1.t10 x1.out))
def qc (l : List Vt) (w : Wd) (al : Vw) : Option (List Vt) :=
 (iter (gp l w al) bD (cY.mk 0 ([] : List Vt))).bind fun v1 =>
 some v1.out
theorem Fc {l : List Vt} {w : Wd} {al : Vw} {wh : Int} {me : Bool} {cl : List Ac} {r_ : (List Vt)} (hr : qc l w al = some r_) : LC Tryz.prog 91 [(kV l), .fn 92 [] [.ptr 5 0, .ptr 4 0]] (hM w al wh me cl 87 86) (Is (kV r_) (hM w al wh me cl 87 86)) := by
 refine dk Tryz.func91 Z Z Z ?_;unfold qc at hr;refine zQ (zR (zM Z (zN (zT (zQ (zR (zM Z (zN (zT (zQ (zQ (LW.ent (bL.lazy (t := 5) (m := 4) Z Z Z) (zR (zM Z (yS Z (dY Z Z (by kernel_rfl)) (zM Z (zN (zT ?_))))))))))))))))));obtain ⟨v1, hb_v1, ho_v1⟩ := zB hr;clear hr;refine LW.tail (E := [(4, .zs), (5, (jV 6 v1.out))]) (O := [.box (e8 w), .box ul, .box (e8 w), .box (kQ w al wh me cl 87 5 4), .box (kQ w al wh me cl 87 5 4), .box [.fn 86 [] [.ptr 2 0]], .vec 4 (v1.out.map aI)]) ?_ (fun env_v1 H_v1 hw_v1 => ?_)
 ·refine LW.block ?_;refine LW.iterB (E := fun x1 : cY => [(1, .fn 92 [] [.ptr 5 0, .ptr 4 0]), (4, .zs), (5, (jV 6 x1.out)), (8, (kV l)), (9, .p (.int .i64 (l.length : Int))), (10, (iQ x1.t10))]) (O := fun x1 => [.box (e8 w), .box ul, .box (e8 w), .box (kQ w al wh me cl 87 5 4), .box (kQ w al wh me cl 87 5 4), .box [.fn 86 [] [.ptr 2 0]], .vec 4 (x1.out.map aI)]) hb_v1 (zW 7 ⟨rfl, rfl, rfl, rfl, rfl, rfl, trivial⟩ Z Z Z Z) (fun x1 z_x1 hr hb_x1 => ?_);unfold gp at hr;refine zQ (zR (yS Z (ax Z Z Z Z) (zN (zT (zQ ?_)))));refine zX Z (fun g1 => ?_) (fun g1 => ?_)
  ·
   refine zi g1 hr fun hr => zk (zT (zQ (zl (zQ (zR (zb hr fun y1 h_y1 hr => yS Z (zx Z Z Z dM h_y1 Z) (yS Z (eA Z Z Z cT Z Z) (yS Z (ze Z uk Z Z) (yS Z (zs Z Z Z Z cT Z Z Z Z) (zN (zT (zQ (zR (zM Z (yS Z (zD Z Z Z cT Z Z) (zb hr fun v2 h_v2 hr => yS Z (zC Z Z Z (by kernel_rfl) (LC.pre (Hu h_v2) Z Z Z)) (zN (zT ?_))))))))))))))))));refine zX Z (fun g2 => ?_) (fun g2 => ?_)
   ·
    refine zi g2 hr fun hr => zR (zM Z (yS Z (zD Z Z Z cT Z Z) (yS Z (mL Z dM Z Z Z Z Z) (zg hr fun q1 hr => yS Z (ab.appendX aI x1.out [y1] rfl Z Z Z km.p Z dM q1 Z) (zM Z (zN (ai (zT (zR (yS Z (ax Z Z Z Z) (zM Z (zN (zT ?_)))))))))))));obtain rfl := zJ hr;exact ⟨_, rfl, zW 7 ⟨rfl, rfl, rfl, rfl, rfl, rfl, trivial⟩ Z Z Z rfl⟩
   ·
    refine zo g2 hr fun hr => zk (ai (zT (zR (yS Z (ax Z Z Z Z) (zM Z (zN (zT ?_)))))));obtain rfl := zJ hr;exact ⟨_, rfl, zW 7 ⟨rfl, rfl, rfl, rfl, rfl, rfl, trivial⟩ Z Z Z rfl⟩
  ·
   refine zo g1 hr fun hr => zq (ao (ao (zy (zT ?_))));obtain rfl := zJ hr;have hr := congrArg some (hb_x1 _ rfl);obtain rfl := zJ hr;exact zW 7 ⟨Z, Z, trivial⟩ Z Z Z Z
 ·have hr := ho_v1;clear hb_v1;refine zT (LW.weak hw_v1 (zQ (LW.ent (bL.frz (t := 5) (env' := []) (H0 := (hM w al wh me cl 87 86)) Z Z Z Z Z trivial Z Z) (zR (zM Z (zM Z (zN (zT (zr ?_)))))))));obtain rfl := zJ hr;exact ap (.one (.tmp Z)) (⟨rfl, rfl⟩)
def uS (a : Ac) (w : Wd) (al : Vw) : Option Vw :=
 (qb a.B w al).bind fun v1 =>
 (qc a.V w al).bind fun v2 =>
 some (Vw.mk v1 v2)
theorem Hn {a : Ac} {w : Wd} {al : Vw} {wh : Int} {me : Bool} {cl : List Ac} {r_ : Vw} (hr : uS a w al = some r_) : LC Tryz.prog 87 [.p (jz a), .ptr 5 0, .ptr 4 0] (hM w al wh me cl 87 86) (Is (.p (mO r_)) (hM w al wh me cl 87 86)) := by
 refine dk Tryz.func87 Z Z Z ?_;unfold uS at hr;refine zQ (zR (yS Z (bZ Z Z Z Z Z) (yS Z (ze Z ii Z Z) (zN (zT (zQ (LW.drawLast (m := 9) (by kernel_rfl) (by kernel_rfl) (by kernel_rfl) (yE Z (zA Z Z qG) (yE Z (zD Z Z Z dC Z Z) (yE Z (ab.makeFunc Z Z Z) (zb hr fun v1 h_v1 hr => yE Z (zC Z Z Z (by kernel_rfl) (LC.pre (Fb h_v1) Z Z Z)) (yE Z (zA Z Z qH) (yE Z (zD Z Z Z eS Z Z) (yE Z (ab.makeFunc Z Z Z) (zb hr fun v2 h_v2 hr => yE Z (zC Z Z Z (by kernel_rfl) (LC.pre (Fc h_v2) Z Z Z)) (yE Z (ab.build Z oa Z Z Z) (LO.nil (yS Z (zs Z Z Z Z aS Z Z Z Z) (zN (zT (zr ?_)))))))))))))))))))));obtain rfl := zJ hr;exact i6 (env' := []) (H' := (hM w al wh me cl 87 86)) (zW 6 trivial Z Z Z Z) (.one (.cellAgg Z Z (by kernel_rfl) Z)) Z (⟨rfl, rfl⟩)
open Go.Proofs
def yj (n : Nd) (w : Vw) : Option Vw :=
 (uu n).bind fun v1 =>
 (yi w v1).bind fun v2 =>
 some v2
theorem Hl {n : Nd} {w : Vw} {r_ : Vw} (hr : yj n w = some r_) : LC Tryz.prog 67 [.p (ig n), .ptr 0 0] [.box (dm w)] (Is (.tup []) [.box (dm r_)]) := by
 refine dk Tryz.func67 Z Z Z ?_;unfold yj at hr;refine zQ (zR (yS Z (bZ Z Z Z Z Z) (zN (zT (LW.drawLast (m := 4) (by kernel_rfl) (by kernel_rfl) (by kernel_rfl) (yE Z (zD Z Z Z aS Z Z) (yE Z (zD Z Z Z cS Z Z) (zb hr fun v1 h_v1 hr => yE Z (zC Z Z Z (by kernel_rfl) (zp (IH h_v1) (.cons zv .nil))) (zb hr fun v2 h_v2 hr => yE Z (zC Z Z Z (by kernel_rfl) (zp (En h_v2) (.cons zv (.cons zv .nil)))) (LO.nil (yS Z (zs Z Z Z Z aS Z Z Z Z) (zN ?_))))))))))));obtain rfl := zJ hr;exact fH (env' := []) (H' := [.box (dm v2)]) (zW 1 trivial Z Z Z Z) .none (⟨rfl, rfl⟩)
structure dx where
 t8 : Int
 o0 : Vw
def gl (l : List Nd) (x1 : dx) : Option (dx ⊕ dx) :=
 bif decide (x1.t8 < (l.length : Int)) then
  (ix l x1.t8).bind fun y1 =>
  (yj y1 x1.o0).bind fun v2 =>
  some (.inl (dx.mk (IntKind.i64.wrap (x1.t8 + 1)) v2))
 else
  some (.inr (dx.mk x1.t8 x1.o0))
def p9 (l : List Nd) (w : Vw) : Option Vw :=
 (iter (gl l) bD (dx.mk 0 w)).bind fun v1 =>
 some v1.o0
theorem E8 {l : List Nd} {w : Vw} {r_ : Vw} (hr : p9 l w = some r_) : LC Tryz.prog 55 [.p (.slice 12 (l.map ig)), .fn 67 [] [.ptr 0 0]] [.box (dm w)] (Is (.tup []) [.box (dm r_)]) := by
 refine dk Tryz.func55 Z Z Z ?_;unfold p9 at hr;refine zQ (zR (zM Z (yS Z (dY Z Z (by kernel_rfl)) (zM Z (zN (zT ?_))))));obtain ⟨v1, hb_v1, ho_v1⟩ := zB hr;clear hr;refine LW.tail (E := []) (O := [.box (dm v1.o0)]) ?_ (fun env_v1 H_v1 hw_v1 => ?_)
 ·refine LW.block ?_;refine LW.iterB (E := fun x1 : dx => [(1, .fn 67 [] [.ptr 0 0]), (6, .p (.slice 12 (l.map ig))), (7, .p (.int .i64 (l.length : Int))), (8, (iQ x1.t8))]) (O := fun x1 => [.box (dm x1.o0)]) hb_v1 (zW 1 ⟨rfl, rfl, rfl, rfl, trivial⟩ Z Z Z Z) (fun x1 z_x1 hr hb_x1 => ?_);unfold gl at hr;refine zQ (zR (yS Z (ax Z Z Z Z) (zN (zT (zQ ?_)))));refine zX Z (fun g1 => ?_) (fun g1 => ?_)
  ·
   refine zi g1 hr fun hr => zk (zT (zQ (zl (zQ (zR (zb hr fun y1 h_y1 hr => yS Z (zx Z Z Z eE h_y1 Z) (yS Z (eA Z Z Z cS Z Z) (yS Z (ze Z ui Z Z) (yS Z (zs Z Z Z Z cS Z Z Z Z) (zN (zT (zR (zM Z (yS Z (zD Z Z Z cS Z Z) (zb hr fun v2 h_v2 hr => yS Z (zC Z Z Z (by kernel_rfl) (LC.pre (Hl h_v2) Z Z Z)) (zN (ai (zT (zR (yS Z (ax Z Z Z Z) ?_))))))))))))))))))));refine zM Z (zN (zT ?_));obtain rfl := zJ hr;exact ⟨_, rfl, zW 1 ⟨rfl, rfl, rfl, rfl, trivial⟩ Z Z Z rfl⟩
  ·
   refine zo g1 hr fun hr => zq (ao (ao (zy (zT ?_))));obtain rfl := zJ hr;have hr := congrArg some (hb_x1 _ rfl);obtain rfl := zJ hr;exact zW 1 trivial Z Z Z Z
 ·have hr := ho_v1;clear hb_v1;obtain rfl := zJ hr;exact fH hw_v1 .none ⟨rfl, rfl⟩
def rV (l : List Nd) : Option Vw :=
 (p9 l (Vw.mk [] [])).bind fun v1 =>
 some v1
theorem F0 {l : List Nd} {r_ : Vw} (hr : rV l = some r_) : aw Tryz.prog 32 [.slice 12 (l.map ig)] [mO r_] := by
 refine zh Tryz.func32 Z Z Z Z ?_;unfold rV at hr;refine zQ (zR (yS Z (ze Z ii Z Z) (zN (zT (zQ (LW.ent (bL.zsCell (i := 0) (j := 0) (m := 5) Z Z Z Z) (LW.ent (bL.zsCell (i := 0) (j := 1) (m := 4) Z Z Z Z) (zR (zM Z (yS Z (ab.makeFunc Z Z Z) (zb hr fun v1 h_v1 hr => yS Z (zC Z Z Z (by kernel_rfl) (E8 h_v1)) (zN (zT (zQ (zR (yS Z (zD Z Z Z aS Z Z) (yS Z (zs Z Z Z Z aS Z Z Z Z) (zN (zT (zr ?_))))))))))))))))))));obtain rfl := zJ hr;exact zf (.one (.cellAgg Z Z (by kernel_rfl) Z)) zv
structure HY where
 t8 : Int
 o2 : List ID
structure d7 where
 t12 : Int
 names : List (ID × Bool)
def iT (w : Vw) (x1 : d7) : Option (d7 ⊕ d7) :=
 bif decide (x1.t12 < (w.B.length : Int)) then
  (ix w.B x1.t12).bind fun y1 =>
  some (.inl (d7.mk (IntKind.i64.wrap (x1.t12 + 1)) (aO x1.names (nm y1) true)))
 else
  some (.inr (d7.mk x1.t12 x1.names))
def uI (w : Vw) : Option Bool :=
 (iter (iT w) bD (d7.mk 0 (aO [] (0, 0) true))).bind fun v1 =>
 bif qA v1.names then
  some ((v1.names.length : Int) != (IntKind.i64.wrap ((w.B.length : Int) + 1)))
 else none
theorem I7 {w : Vw} {r_ : Bool} (hr : uI w = some r_) : aw Tryz.prog 38 [mO w] [.bool r_] := by
 refine zh Tryz.func38 Z Z Z Z ?_;unfold uI at hr;refine zQ (zR (yS Z (bZ Z Z Z Z Z) (zM Z (zN (zT (zQ (zR (yS Z (ab.makeMap Z Z Z) (yS Z (ab.build Z wZ Z Z Z) ?_)))))))));refine yS Z (ab.setX (f := bF) (g := (fun v => (bQ v))) (m := ([] : List (ID × Bool))) (0, 0) true dJ (.inr Z) Z Z Z Z Z yY Z) ?_;refine zM Z (zM Z (zN (zT (zQ (zQ (zR (yS Z (zA Z Z bz) (yS Z (zD Z Z Z dC Z Z) (yS Z (dY Z Z (by kernel_rfl)) (zM Z (zN (zT ?_))))))))))));obtain ⟨v1, hb_v1, ho_v1⟩ := zB hr;clear hr;refine LW.tail (E := [(1, .ptr 0 0), (2, (bQ false)), (3, .map 1)]) (O := [.box (dm w), .map (ah bF (fun v => (bQ v)) v1.names)]) ?_ (fun env_v1 H_v1 hw_v1 => ?_)
 ·refine LW.block ?_;refine LW.iterB (E := fun x1 : d7 => [(1, .ptr 0 0), (2, (bQ false)), (3, .map 1), (10, (kB w.B)), (11, .p (.int .i64 (w.B.length : Int))), (12, (iQ x1.t12))]) (O := fun x1 => [.box (dm w), .map (ah bF (fun v => (bQ v)) x1.names)]) hb_v1 (zW 2 ⟨rfl, rfl, rfl, rfl, rfl, rfl, trivial⟩ Z Z Z (zL Z (zL (ae (fun _ => rfl) _) Z))) (fun x1 z_x1 hr hb_x1 => ?_);unfold iT at hr;refine zQ (zR (yS Z (ax Z Z Z Z) (zN (zT (zQ ?_)))));refine zX Z (fun g1 => ?_) (fun g1 => ?_)
  ·
   refine zi g1 hr fun hr => zk (zT (zQ (zl (zQ (zR (zb hr fun y1 h_y1 hr => yS Z (zx Z Z Z en h_y1 Z) (yS Z (eA Z Z Z cO Z Z) (yS Z (ze Z uj Z Z) (yS Z (zs Z Z Z Z cO Z Z Z Z) (zN (zT (zR (zM Z (yS Z (zD Z Z Z cO Z Z) (yS Z (zC Z Z Z (by kernel_rfl) (zp (G9 (b := y1)) (.cons zv .nil))) ?_)))))))))))))));refine yS Z (ab.setX (f := bF) (g := (fun v => (bQ v))) (nm y1) true dJ (.inl Z) Z Z Z Z Z yY Z) ?_;refine zN (ai (zT (zR (yS Z (ax Z Z Z Z) (zM Z (zN (zT ?_)))))));obtain rfl := zJ hr;exact ⟨_, rfl, zW 2 ⟨rfl, rfl, rfl, rfl, rfl, rfl, trivial⟩ Z Z Z (zL Z (zL (ae (fun _ => rfl) _) Z))⟩
  ·
   refine zo g1 hr fun hr => zq (ao (ao (zy (zT ?_))));obtain rfl := zJ hr;have hr := congrArg some (hb_x1 _ rfl);obtain rfl := zJ hr;exact zW 2 ⟨Z, Z, Z, trivial⟩ Z Z Z (zL Z (zL (ae (fun _ => rfl) _) Z))
 ·have hr := ho_v1;clear hb_v1;refine zT (LW.weak hw_v1 (zQ (zR (zM Z (zg hr fun q1 hr => yS Z (ab.lenMapX Z Z Z (by kernel_rfl) q1) (yS Z (zA Z Z bz) (yS Z (zD Z Z Z dC Z Z) (yS Z (dY Z Z (by kernel_rfl)) (yS Z (ax Z Z Z Z) (yS Z (ax Z Z Z Z) (zM Z (zN (zT (zr ?_))))))))))))));obtain rfl := zJ hr;exact zf (.one (.tmp Z)) zv
structure gc where
 t8 : Int
def lv (l : List Nd) (x1 : gc) : Option (gc ⊕ (gc ⊕ Int)) :=
 bif decide (x1.t8 < (l.length : Int)) then
  (ix l x1.t8).bind fun y1 =>
  (yf y1).bind fun v2 =>
  bif v2 then
   some (.inr (.inr x1.t8))
  else
   some (.inl (gc.mk (IntKind.i64.wrap (x1.t8 + 1))))
 else
  some (.inr (.inl (gc.mk x1.t8)))
def EU (l : List Nd) : Option Int :=
 (iter (lv l) bD (gc.mk 0)).bind fun b_v1 => Sum.elim (fun _ =>
  some (-1)) some b_v1
theorem JA {l : List Nd} {r_ : Int} (hr : EU l = some r_) : LC Tryz.prog 118 [.p (.slice 12 (l.map ig)), .fn 73 [] []] [] (Is (iQ r_) []) := by
 refine dk Tryz.func118 Z Z Z ?_;unfold EU at hr;refine zQ (zR (zM Z (zN (zT (zQ (zQ (zR (zM Z (yS Z (dY Z Z (by kernel_rfl)) (zM Z (zN (zT ?_))))))))))));obtain ⟨b_v1, hb_v1, ho_v1⟩ := zB hr;clear hr;refine LW.tailB (b := b_v1) (E := fun v1 => [(4, (iQ 0))]) (O := fun v1 => []) ?_ (fun v1 e_v1 env_v1 H_v1 hw_v1 => ?_)
 ·refine LW.block ?_;refine LW.iterB (E := fun x1 : gc => [(0, .p (.slice 12 (l.map ig))), (1, .fn 73 [] []), (4, (iQ 0)), (7, .p (.int .i64 (l.length : Int))), (8, (iQ x1.t8))]) (O := fun x1 => []) hb_v1 (zW 0 ⟨rfl, rfl, rfl, rfl, rfl, trivial⟩ Z Z Z Z) (fun x1 z_x1 hr hb_x1 => ?_);unfold lv at hr;refine zQ (zR (yS Z (ax Z Z Z Z) (zN (zT (zQ ?_)))));refine zX Z (fun g1 => ?_) (fun g1 => ?_)
  ·
   refine zi g1 hr fun hr => zk (zT (zQ (zl (zQ (zR (zM Z (zM Z (zN (zT (zQ (zR (zM Z (zM Z (zM Z (zb hr fun y1 h_y1 hr => yS Z (zx Z Z Z eE h_y1 Z) (yS Z (eA Z Z Z cS Z Z) (zb hr fun v2 h_v2 hr => yS Z (zC Z Z Z (by kernel_rfl) (zp (I9 h_v2) (.cons zv .nil))) (zN (zT ?_)))))))))))))))))));refine zX Z (fun g2 => ?_) (fun g2 => ?_)
   ·
    refine zi g2 hr fun hr => zQ (zR (zM Z (zM Z (zN (zT (zr (aD (am (am (aD (am (am ?_))))))))))));obtain rfl := zJ hr;have hr := congrArg some (hb_x1 _ rfl);obtain rfl := zJ hr;have hr := ff ho_v1;obtain rfl := zJ hr;exact ap (.one (.tmp Z)) (⟨rfl, rfl⟩)
   ·
    refine zo g2 hr fun hr => zk (ai (zT (zR (yS Z (ax Z Z Z Z) (zM Z (zN (zT ?_)))))));obtain rfl := zJ hr;exact ⟨_, rfl, zW 0 ⟨rfl, rfl, rfl, rfl, rfl, trivial⟩ Z Z Z rfl⟩
  ·
   refine zo g1 hr fun hr => zq (ao (ao (zy (zT ?_))));obtain rfl := zJ hr;have hr := congrArg some (hb_x1 _ rfl);obtain rfl := zJ hr;exact ⟨_, rfl, zW 0 ⟨rfl, trivial⟩ Z Z Z rfl⟩
 ·obtain rfl := e_v1;have hr := hZ ho_v1;clear hb_v1;refine zT (LW.weak hw_v1 (zQ (zR (zM Z (zN (zT (zr ?_)))))));obtain rfl := zJ hr;exact ap (.one (.tmp Z)) (⟨rfl, rfl⟩)
def EQ (l : List Nd) : Option Bool :=
 (EU l).bind fun v1 =>
 some (decide (v1 ≥ 0))
theorem Jx {l : List Nd} {r_ : Bool} (hr : EQ l = some r_) : LC Tryz.prog 63 [.p (.slice 12 (l.map ig)), .fn 73 [] []] [] (Is (bQ r_) []) := by
 refine dk Tryz.func63 Z Z Z ?_;unfold EQ at hr;refine zQ (zR (zM Z (zN (zT (zQ (zR (zM Z (zM Z (zb hr fun v1 h_v1 hr => yS Z (zC Z Z Z (by kernel_rfl) (JA h_v1)) (yS Z (ax Z Z Z Z) (zM Z (zN (zT (zr ?_))))))))))))));obtain rfl := zJ hr;exact ap (.one (.tmp Z)) (⟨rfl, rfl⟩)
def uH (l : List Nd) : Option Bool :=
 (EQ l).bind fun v1 =>
 some v1
theorem I6 {l : List Nd} {r_ : Bool} (hr : uH l = some r_) : aw Tryz.prog 37 [.slice 12 (l.map ig)] [.bool r_] := by
 refine zh Tryz.func37 Z Z Z Z ?_;unfold uH at hr;refine zQ (zR (zM Z (zN (zT (zQ (zR (zM Z (zb hr fun v1 h_v1 hr => yS Z (zC Z Z Z (by kernel_rfl) (Jx h_v1)) (zM Z (zN (zT (zr ?_))))))))))));obtain rfl := zJ hr;exact zf (.one (.tmp Z)) zv
end Go.Mg
