/- The votes of a slot that count, by what votes there are, whatever their order. Offers, one behind another. What is confirmed. A node at a tick: what it hears, counts, and stands by. A node behind a tick. A world once more. What comes at a tick: closures. Nets. Conditions: none. -/
import Derived.Test.YtbjmcafamkdokaaGreatX7
import Derived.Test.YtbjmcafamkdokaaGreatX3
import Derived.Test.YtbjmcafamkdokaaGreatX6
import Derived.Test.YtbjmcafamkdokaaGreatX4
set_option maxRecDepth 100000
set_option linter.unusedSimpArgs false
set_option linter.unusedVariables false
namespace Go.Mg
theorem og {α β : Type} [DecidableEq α] : ∀ {m : List (α × β)}, (m.map Prod.fst).Nodup → ∀ {k : α} {v : β}, (k, v) ∈ m ↔ af m k = some v
 | [], _, k, v => by simp [af]
 | (a, b) :: r, h, k, v => by
  rw [List.map_cons, List.nodup_cons] at h;have ih := og h.2 (k := k) (v := v);by_cases e : a = k
  ·subst e;simp only [af, if_true, List.mem_cons, Prod.mk.injEq, true_and];constructor
   ·rintro (h1 | h1)
    ·rw [h1]
    ·exact absurd (List.mem_map.2 ⟨_, h1, rfl⟩) h.1
   ·intro h1;exact .inl (Option.some.inj h1).symm
  ·have e' : ¬ k = a := fun h => e h.symm;simp only [af, if_neg e, List.mem_cons, Prod.mk.injEq, e', false_and, false_or];exact ih
structure py (l : List Vt) : Prop where
 was : ∀ d id, af (bB l).1 d = some id → ∃ v ∈ l, kf v = d ∧ v.Head = id
 has : ∀ v ∈ l, ∃ id, af (bB l).1 (kf v) = some id
 bad : ∀ d, (af (bB l).2 d).getD false = true ↔ ∃ v ∈ l, ∃ w ∈ l, kf v = d ∧ kf w = d ∧ v.Head ≠ w.Head
theorem Az {l : List Vt} (h : py l) (y : Vt) : py (l ++ [y]) := by
 have e1 : (bB (l ++ [y])).1 = aP (bB l).1 (kf y) y.Head := by rw [jA]; rfl
 have e2 : (bB (l ++ [y])).2 = if tF (bB l).1 y = true then aP (bB l).2 (kf y) true else (bB l).2 := by rw [jA]; rfl
 have hy : y ∈ l ++ [y] := List.mem_append_right _ (List.mem_singleton.2 rfl)
 have hdbl : tF (bB l).1 y = true ↔ ∃ v ∈ l, kf v = kf y ∧ af (bB l).1 (kf y) = some v.Head ∧ v.Head ≠ y.Head := by
  unfold tF
  cases hf : af (bB l).1 (kf y) with
  | none =>
   simp only [Bool.false_eq_true, false_iff];rintro ⟨v, -, -, h2, -⟩;cases h2
  | some id =>
   obtain ⟨v, h1, h2, h3⟩ := h.was _ _ hf;constructor
   ·intro h4;exact ⟨v, h1, h2, by rw [h3], by rw [h3]; exact of_decide_eq_true h4⟩
   ·rintro ⟨w, -, -, h5, h6⟩;rw [Option.some.inj h5];exact decide_eq_true h6
 refine ⟨fun d id hd => ?_, fun v hv => ?_, fun d => ?_⟩
 ·rw [e1, ch] at hd;split at hd
  ·rename_i e;exact ⟨y, hy, e, Option.some.inj hd⟩
  ·obtain ⟨v, h1, h2⟩ := h.was d id hd;exact ⟨v, List.mem_append_left _ h1, h2⟩
 ·rw [e1, ch];split
  ·exact ⟨_, rfl⟩
  ·rename_i hne;rcases List.mem_append.1 hv with hv | hv
   ·exact h.has v hv
   ·rw [List.mem_singleton.1 hv] at hne;exact absurd Z hne
 ·rw [e2];constructor
  ·intro hb;by_cases hd : tF (bB l).1 y = true
   ·rw [if_pos hd, ch] at hb;by_cases e : kf y = d
    ·obtain ⟨v, h1, h2, -, h4⟩ := hdbl.1 hd;exact ⟨v, List.mem_append_left _ h1, y, hy, h2.trans e, e, h4⟩
    ·rw [if_neg e] at hb;obtain ⟨v, h1, w, h2, h3⟩ := (h.bad d).1 hb;exact ⟨v, List.mem_append_left _ h1, w, List.mem_append_left _ h2, h3⟩
   ·rw [if_neg hd] at hb;obtain ⟨v, h1, w, h2, h3⟩ := (h.bad d).1 hb;exact ⟨v, List.mem_append_left _ h1, w, List.mem_append_left _ h2, h3⟩
  ·have old : (af (bB l).2 d).getD false = true → (af (if tF (bB l).1 y = true then aP (bB l).2 (kf y) true else (bB l).2) d).getD false = true := by
    intro ho;split
    ·rw [ch];split
     ·rfl
     ·exact ho
    ·exact ho
   have mix : ∀ v ∈ l, kf v = d → kf y = d → v.Head ≠ y.Head → (af (if tF (bB l).1 y = true then aP (bB l).2 (kf y) true else (bB l).2) d).getD false = true := by
    intro v hv h1 h2 h3;by_cases hd : tF (bB l).1 y = true
    ·rw [if_pos hd, ch, if_pos h2]; rfl
    ·refine old ((h.bad d).2 ?_);obtain ⟨id, hid⟩ := h.has v hv;rw [h1, ← h2] at hid;obtain ⟨u, hu, hu2, hu3⟩ := h.was _ _ hid;have : ¬ u.Head ≠ y.Head := fun hne => hd (hdbl.2 ⟨u, hu, hu2, by rw [hid, hu3], hne⟩);exact ⟨v, hv, u, hu, h1, hu2.trans h2, fun e => this fun e2 => h3 (e.trans e2)⟩
   rintro ⟨v, hv, w, hw, h1, h2, h3⟩;rcases List.mem_append.1 hv with hv | hv
   ·rcases List.mem_append.1 hw with hw | hw
    ·exact old ((h.bad d).2 ⟨v, hv, w, hw, h1, h2, h3⟩)
    ·rw [List.mem_singleton.1 hw] at h2 h3;exact mix v hv h1 h2 h3
   ·rw [List.mem_singleton.1 hv] at h1 h3;rcases List.mem_append.1 hw with hw | hw
    ·exact mix w hw h2 h1 fun e => h3 e.symm
    ·rw [List.mem_singleton.1 hw] at h3;exact absurd Z h3
theorem CI (l : List Vt) : py l := by
 have key : ∀ k, k ≤ l.length → py (l.take k) := by
  intro k
  induction k with
  | zero => exact fun _ => ⟨fun d id h => (by cases h), fun v hv => (by cases hv), fun d => ⟨fun h => (by cases h), fun ⟨v, hv, _⟩ => (by cases hv)⟩⟩
  | succ k ih =>
   intro hk;obtain ⟨y, hy, -⟩ := aF (l := l) (n := k) (by omega);rw [aY hy];exact Az (ih (by omega)) y
 have := key l.length (Nat.le_refl _)
 rwa [List.take_length] at this
theorem Eg {x y : Vt} (h1 : kf x = kf y) (h2 : x.Head = y.Head) : x = y := by
 cases x; cases y;unfold kf at h1;simp only at h1 h2;cases h1;cases h2;rfl
theorem HG {V : List Vt} {slot : Int} {x : Vt} : x ∈ FC V slot ↔ x ∈ V ∧ x.Slot = slot ∧ ∀ y ∈ V, kf y = kf x → y.Head = x.Head := by
 have hI := CI V;have hk := (n8 V).1;unfold FC;rw [(bS _).mem_iff, List.mem_filterMap];constructor
 ·rintro ⟨⟨⟨f, s⟩, id⟩, he, h2⟩;unfold fM at h2;split at h2
  ·rename_i hc;obtain ⟨hs, hb⟩ := hc;simp only at hs hb h2;subst hs;cases h2;obtain ⟨v, h3, h4, h5⟩ := hI.was _ _ ((og hk).1 he);have e : v = ⟨f, s, id⟩ := Eg h4 h5;subst e;refine ⟨h3, rfl, fun y hy h6 => ?_⟩;by_cases h7 : y.Head = id
   ·exact h7
   ·have := (hI.bad ⟨f, s⟩).2 ⟨y, hy, _, h3, h6, h4, h7⟩;rw [this] at hb;cases hb
  ·cases h2
 ·rintro ⟨h1, h2, h3⟩;obtain ⟨id, hid⟩ := hI.has x h1;obtain ⟨v, h4, h5, h6⟩ := hI.was _ _ hid;have e : id = x.Head := h6.symm.trans (h3 v h4 h5);refine ⟨(kf x, id), (og hk).2 hid, ?_⟩;unfold fM;rw [if_pos]
  ·rw [e, ← h2]; rfl
  ·refine ⟨h2, ?_⟩
   cases hb : (af (bB V).2 (kf x)).getD false with
   | false => rfl
   | true =>
    obtain ⟨u, hu, w, hw, h7, h8, h9⟩ := (hI.bad _).1 hb;exact absurd ((h3 u hu h7).trans (h3 w hw h8).symm) h9
theorem je {c : Cf} {V : List Vt} {slot : Int} {x : Vt} : x ∈ bH c V slot ↔ x ∈ V ∧ x.Slot = slot ∧ x.From ∈ fS c slot ∧ ∀ y ∈ V, kf y = kf x → y.Head = x.Head := by
 unfold bH;rw [List.mem_filter, HG];unfold vN;rw [decide_eq_true_iff];exact ⟨fun ⟨⟨a, b, d⟩, e⟩ => ⟨a, b, e, d⟩, fun ⟨a, b, e, d⟩ => ⟨⟨a, b, d⟩, e⟩⟩
theorem Dm {c : Cf} {V : List Vt} {slot : Int} : ∀ x ∈ bH c V slot, ∀ y ∈ bH c V slot, x.From = y.From → x = y := by
 intro x hx y hy e;obtain ⟨-, h2, -, h4⟩ := je.1 hx;obtain ⟨h5, h6, -, -⟩ := je.1 hy
 have hd : kf y = kf x := by unfold kf; rw [e, h2, h6]
 exact (Eg hd (h4 y h5 hd)).symm
open Go.Proofs
def uU (n : Int) : Option (List Of) :=
 bif decide (n < 0) then
  none
 else
  bif decide ((IntKind.i64.wrap (n - (IntKind.i64.wrap (0 - 0)))) > 0) then
   bif AT (IntKind.i64.wrap (n - (IntKind.i64.wrap (0 - 0)))) 104 then
    bif decide (0 ≤ 0 ∧ 0 ≤ (((List.replicate (IntKind.i64.wrap (n - (IntKind.i64.wrap (0 - 0)))).toNat (Of.mk 0 0 (Bk.mk 0 0 (0, 0) 0) (Vw.mk [] []) : Of)).map dN).length : Int)) then
     some (List.replicate (IntKind.i64.wrap (n - (IntKind.i64.wrap (0 - 0)))).toNat (Of.mk 0 0 (Bk.mk 0 0 (0, 0) 0) (Vw.mk [] []) : Of))
    else none
   else none
  else
   some []
theorem Hq {n : Int} {r_ : List Of} (hr : uU n = some r_) : LC Tryz.prog 163 [.zs, (iQ n)] [] (Is (.vec 9 0 (r_.map dN).length 0 0) [.vec 9 (r_.map dN)]) := by
 refine dp Tryz.func163 Z Z Z ?_;unfold uU at hr;refine zQ (zR (zM Z (zN (zT (zQ (zQ (zR (zM Z (yS Z (ax Z Z Z Z) (zN (zT ?_)))))))))));refine zX Z (fun g1 => ?_) (fun g1 => ?_)
 ·
  have hr := zI g1 hr;cases hr
 ·
  refine zo g1 hr fun hr => zk (zT (zQ (zQ (zR (zM Z (zM Z (yS Z (ab.capZ Z Z cz) (zM Z (yS Z (ab.lenZ Z Z (by kernel_rfl)) (yS Z (ax Z Z Z Z) (yS Z (ax Z Z Z Z) (zM Z (zN (zT (zQ (zR (zM Z (yS Z (ax Z Z Z Z) (zN (zT ?_))))))))))))))))))));refine zX Z (fun g2 => ?_) (fun g2 => ?_)
  ·
   refine zi g2 hr fun hr => zR (zM Z (zM Z (yS Z (ab.capZ Z Z cz) (yS Z (ab.sliceZ0 Z Z Z cz) (zM Z (zg hr fun q1 hr => ?_))))));refine yS Z (ab.appendMake (cs := [(iQ 0), (iQ 0), (iQ 0), (iQ 0), (uQ 0), (uQ 0), (uQ 0), .zs, .zs]) (zs := [.int .i64 0, .int .i64 0, .int .i64 0, .int .i64 0, .int .u64 0, .int .u64 0, .int .u64 0, .slice 5 [], .slice 4 []]) dN (Of.mk 0 0 (Bk.mk 0 0 (0, 0) 0) (Vw.mk [] [])) Z Z Z cz Tryz.underlying3 (fun _ => rfl) (by kernel_rfl) Z ⟨rfl, rfl, rfl, rfl, rfl, rfl, rfl, ⟨_, rfl⟩, ⟨_, rfl⟩, trivial⟩ q1 Z Z) ?_;refine zM Z (yS Z (ab.lenZ Z Z (by kernel_rfl)) (zg hr fun q2 hr => yS Z (ab.sliceVHi Z Z Z Z cz q2) (zM Z (zN (zT (zQ (zR (zM Z (zM Z (zN (zT (zr ?_))))))))))));obtain rfl := zJ hr;exact aq (.one (.tmp Z)) (⟨rfl, rfl⟩)
  ·
   refine zo g2 hr fun hr => zk (zT (zQ (LW.ent (bO.lazy (t := 0) (m := 9) Z Z Z) (zR (zM Z (zM Z (zN (zT (zr ?_)))))))));obtain rfl := zJ hr;exact aq (.one (.tmp Z)) (⟨rfl, rfl⟩)
structure dt where
 size : Int
 t11 : Int
structure du where
 newslice : Nat
 t27 : Int
 o0 : List Of
def gA (slices : List (List Of)) (x1 : dt) : Option (dt ⊕ dt) :=
 bif decide (x1.t11 < (slices.length : Int)) then
  (ix slices x1.t11).bind fun y1 =>
  bif decide ((IntKind.i64.wrap (x1.size + (y1.length : Int))) < 0) then
   none
  else
   some (.inl (dt.mk (IntKind.i64.wrap (x1.size + (y1.length : Int))) (IntKind.i64.wrap (x1.t11 + 1))))
 else
  some (.inr (dt.mk x1.size x1.t11))
def gB (slices : List (List Of)) (x2 : du) : Option (du ⊕ du) :=
 bif decide (x2.t27 < (slices.length : Int)) then
  (ix slices x2.t27).bind fun y2 =>
  bif decide (x2.newslice + y2.length ≤ x2.o0.length) then
   some (.inl (du.mk (x2.newslice + y2.length) (IntKind.i64.wrap (x2.t27 + 1)) (fb x2.o0 x2.newslice y2)))
  else none
 else
  some (.inr (du.mk x2.newslice x2.t27 x2.o0))
def uK (slices : List (List Of)) : Option (List Of) :=
 (iter (gA slices) bG (dt.mk 0 0)).bind fun v1 =>
 (uU v1.size).bind fun v2 =>
 (iter (gB slices) bG (du.mk 0 0 v2)).bind fun v3 =>
 bif Nat.ble v3.newslice v3.o0.length then
  some (v3.o0.take v3.newslice)
 else none
theorem Je {slices : List (List Of)} {r_ : (List Of)} (hr : uK slices = some r_) : aw Tryz.prog 136 [.slice 1 (slices.map (Kc 9 dN))] [.slice 9 (r_.map dN)] := by
 refine zh Tryz.func136 Z Z Z Z ?_;unfold uK at hr;refine zQ (zR (zM Z (zN (zT (zQ (zR (zM Z (zN (zT (zQ (zQ (zR (zM Z (yS Z (d7 Z Z (by kernel_rfl)) (zM Z (zN (zT ?_)))))))))))))))));obtain ⟨v1, hb_v1, ho_v1⟩ := zB hr;clear hr;refine LW.tail (E := [(0, .p (.slice 1 (slices.map (Kc 9 dN)))), (2, .zs), (3, (iQ v1.size))]) (O := []) ?_ (fun env_v1 H_v1 hw_v1 => ?_)
 ·refine LW.block ?_;refine LW.iterB (E := fun x1 : dt => [(0, .p (.slice 1 (slices.map (Kc 9 dN)))), (2, .zs), (3, (iQ x1.size)), (9, .p (.slice 1 (slices.map (Kc 9 dN)))), (10, .p (.int .i64 (slices.length : Int))), (11, (iQ x1.t11))]) (O := fun x1 => []) hb_v1 (zW 0 ⟨rfl, rfl, rfl, rfl, rfl, rfl, trivial⟩ Z Z Z Z) (fun x1 z_x1 hr hb_x1 => ?_);unfold gA at hr;refine zQ (zR (yS Z (ax Z Z Z Z) (zN (zT (zQ ?_)))));refine zX Z (fun g1 => ?_) (fun g1 => ?_)
  ·
   refine zi g1 hr fun hr => zk (zT (zQ (zl (zQ (zR (zb hr fun y1 h_y1 hr => yS Z (zx Z Z Z xK h_y1 Z) (yS Z (d6 Z Z Z bZ Z Z) (zM Z (zN (zT (zQ (zR (zM Z (zM Z (yS Z (d7 Z Z (by kernel_rfl)) (yS Z (ax Z Z Z Z) (zM Z (zN (zT (zQ (zR ?_)))))))))))))))))))));refine zM Z (yS Z (ax Z Z Z Z) (zN (zT ?_)));refine zX Z (fun g2 => ?_) (fun g2 => ?_)
   ·
    have hr := zI g2 hr;cases hr
   ·
    refine zo g2 hr fun hr => zk (ai (zT (zR (yS Z (ax Z Z Z Z) (zM Z (zN (zT ?_)))))));obtain rfl := zJ hr;exact ⟨_, rfl, zW 0 ⟨rfl, rfl, rfl, rfl, rfl, rfl, trivial⟩ Z Z Z rfl⟩
  ·
   refine zo g1 hr fun hr => zq (ap (ap (zy (zT ?_))));obtain rfl := zJ hr;have hr := congrArg some (hb_x1 _ rfl);obtain rfl := zJ hr;exact zW 0 ⟨Z, Z, Z, trivial⟩ Z Z Z Z
 ·have hr := ho_v1;clear hb_v1;refine zT (LW.weak hw_v1 (zQ (zR (zM Z (zb hr fun v2 h_v2 hr => yS Z (zC Z Z Z (by kernel_rfl) (LC.frameX (x' := .vec 9 0 (v2.map dN).length 0 0) (H' := [.vec 9 (v2.map dN)]) (Hq h_v2) (.consZ (.consC zv .nil)) Z Z Z)) (zM Z (zN (zT (zQ (zQ (zR (zM Z (yS Z (d7 Z Z (by kernel_rfl)) (zM Z (zN (zT ?_))))))))))))))));obtain ⟨v3, hb_v3, ho_v3⟩ := zB hr;clear hr;refine LW.tail (E := [(2, .zs), (6, .vec 9 0 (v3.o0.map dN).length 0 v3.newslice)]) (O := [.vec 9 (v3.o0.map dN)]) ?_ (fun env_v3 H_v3 hw_v3 => ?_)
  ·refine LW.block ?_;refine LW.iterB (E := fun x2 : du => [(2, .zs), (6, .vec 9 0 (x2.o0.map dN).length 0 x2.newslice), (25, .p (.slice 1 (slices.map (Kc 9 dN)))), (26, .p (.int .i64 (slices.length : Int))), (27, (iQ x2.t27))]) (O := fun x2 => [.vec 9 (x2.o0.map dN)]) hb_v3 (zW 1 ⟨rfl, rfl, rfl, rfl, rfl, trivial⟩ Z Z Z Z) (fun x2 z_x2 hr hb_x2 => ?_);unfold gB at hr;refine zQ (zR (yS Z (ax Z Z Z Z) (zN (zT (zQ ?_)))));refine zX Z (fun g3 => ?_) (fun g3 => ?_)
   ·
    refine zi g3 hr fun hr => zk (zT (zQ (zl (zQ (zR (zb hr fun y2 h_y2 hr => yS Z (zx Z Z Z xK h_y2 Z) (yS Z (d6 Z Z Z bZ Z Z) (zM Z (zN (zT (zR (zM Z (zM Z (zg hr fun q1 hr => ?_))))))))))))));refine yS Z (ab.appendP (f := dN) Z Z Z (fun _ => rfl) Z ku.p Z cz q1 Z) ?_;refine zM Z (zN (ai (zT (zR (yS Z (ax Z Z Z Z) (zM Z (zN (zT ?_))))))));obtain rfl := zJ hr;exact ⟨_, rfl, zW 1 ⟨rfl, rfl, rfl, rfl, rfl, trivial⟩ Z Z Z rfl⟩
   ·
    refine zo g3 hr fun hr => zq (ap (ap (zy (zT ?_))));obtain rfl := zJ hr;have hr := congrArg some (hb_x2 _ rfl);obtain rfl := zJ hr;exact zW 1 ⟨Z, Z, trivial⟩ Z Z Z Z
  ·have hr := ho_v3;clear hb_v3;refine zT (LW.weak hw_v3 (zQ (zR (zg hr fun q2 hr => zM Z (zM Z (zN (zT (zr ?_))))))));obtain rfl := zJ hr;exact zf (.one (.tmp Z)) ((Conv.vecTake Z q2))
open Go.Proofs
def Cx (c : Cf) (w : Vw) (slot : Int) : Option (List Vt × Int) :=
 (rY c w.V slot).bind fun v1 =>
 (FR c slot).bind fun v2 =>
 (FS c v2).bind fun v3 =>
 some (v1, v3)
theorem JI {c : Cf} {w : Vw} {slot : Int} {r_ : List Vt × Int} (hr : Cx c w slot = some r_) : LC Tryz.prog 59 [.p (jC c), .p (mP w), (iQ slot)] [] (Is (.agg [.fn 111 [] [.ptr 0 0, .ptr 1 0, .ptr 3 0], .fn 113 [] [.ptr 0 0, .ptr 4 0]]) [.box (bI c), .box (dq w), .box [.fn 111 [] [.ptr 0 0, .ptr 1 0, .ptr 3 0], .fn 113 [] [.ptr 0 0, .ptr 4 0]], .box [(kV r_.1)], .box [(iQ r_.2)]]) := by
 refine dp Tryz.func59 Z Z Z ?_;unfold Cx at hr;refine zQ (zR (yS Z (b6 Z Z Z Z Z) (yS Z (b6 Z Z Z Z Z) (yS Z (ze Z Et Z Z) (zN (zT (zQ (LW.ent (bO.slot Z) (LW.ent (bO.slot Z) (LW.drawW (by kernel_rfl) (by kernel_rfl) (yF Z (zd Z Z Z bA Z Z) Z ?_)))))))))));refine yF (F := []) (s := none) Z (fun H _ => zA Z Z b9) Z ?_;refine yF Z (zd Z Z Z eU Z Z) Z (zK Z (zb hr fun v1 h_v1 hr => ?_));refine yF (F := []) (s := none) Z (fun H _ => zC Z Z Z (by kernel_rfl) (zp (F2 h_v1) (.cons zv (.cons zv (.cons zv .nil))))) Z ?_;refine yF Z (zd Z Z Z bA Z Z) Z (yF Z (zd Z Z Z bA Z Z) Z (zK Z (zb hr fun v2 h_v2 hr => ?_)));refine yF (F := []) (s := none) Z (fun H _ => zC Z Z Z (by kernel_rfl) (zp (KZ h_v2) (.cons zv (.cons zv .nil)))) Z ?_;obtain ⟨v3, h_v3, hr⟩ := zB hr;refine yF (F := []) (s := none) Z (fun H _ => zC Z Z Z (by kernel_rfl) (zp (K0 h_v3) (.cons zv (.cons zv .nil)))) Z ?_;refine yF Z (bL.alloc Z LY (id := 3) Z) Z (yF Z (bL.alloc Z L9 (id := 4) Z) Z (yF Z (zt Z Z Z Z eU Z Z Z) Z (yF Z (zt Z Z Z Z bC Z Z Z) Z ?_)));refine LF.nil ⟨by kernel_rfl, ?_⟩;refine zT (zQ (zR (yS Z (ab.makeFunc Z Z Z) (yS Z (ab.makeFunc Z Z Z) (yS Z (ab.build Z G6 Z Z Z) (yS Z (zs Z Z Z Z Ee Z Z Z Z) (zN (zT (zr ?_)))))))));obtain rfl := zJ hr;exact aq (.one (.cellAgg Z Z (by kernel_rfl) Z)) (⟨rfl, rfl⟩)
theorem JO {c : Cf} {w : Vw} {slot : Int} {r_ : List Vt × Int} (hr : Cx c w slot = some r_) : u5 Tryz.prog 59 [jC c, mP w, .int .i64 slot] (.agg [.fn 111 [] [.cptr [.slice 1 (c.W.map aG), .int .u64 c.Seed, .int .i64 c.Epoch, .int .i64 c.Num, .int .i64 c.Den], .cptr [.slice 5 (w.B.map ay), .slice 4 (w.V.map aJ)], .cptr [.slice 4 (r_.1.map aJ)]], .fn 113 [] [.cptr [.slice 1 (c.W.map aG), .int .u64 c.Seed, .int .i64 c.Epoch, .int .i64 c.Num, .int .i64 c.Den], .cptr [.int .i64 r_.2]]]) :=
 u5.ofLC rfl (JI hr) (dh.agg ⟨dh.fn trivial ⟨dh.ptr rfl rfl rfl, dh.ptr rfl rfl rfl, dh.ptr rfl rfl rfl, trivial⟩, dh.fn trivial ⟨dh.ptr rfl rfl rfl, dh.ptr rfl rfl rfl, trivial⟩, trivial⟩)
def E1 (id : ID) (c : Cf) (w : Vw) (v : List Vt) : Option Int :=
 (z7 c w.B v id).bind fun v1 =>
 some v1
theorem JJ {id : ID} {c : Cf} {w : Vw} {v : List Vt} {r_ : Int} (hr : E1 id c w v = some r_) : LC Tryz.prog 111 [.p (ci id), .cptr [.slice 1 (c.W.map aG), .int .u64 c.Seed, .int .i64 c.Epoch, .int .i64 c.Num, .int .i64 c.Den], .cptr [.slice 5 (w.B.map ay), .slice 4 (w.V.map aJ)], .cptr [.slice 4 (v.map aJ)]] [] (Is (iQ r_) []) := by
 refine dp Tryz.func111 Z Z Z ?_;unfold E1 at hr;refine zQ (zR (yS Z (b6 Z Z Z Z Z) (zM Z (zN (zT (zQ (zR (yS Z (d6 Z Z Z bA Z Z) (yS Z (ab.fieldAddrC Z Z bz Z) (yS Z (d6 Z Z Z dA Z Z) (yS Z (d6 Z Z Z eU Z Z) (yS Z (zD Z Z Z aR Z Z) (zb hr fun v1 h_v1 hr => yS Z (zC Z Z Z (by kernel_rfl) (zp (IT h_v1) (.cons zv (.cons zv (.cons zv (.cons zv .nil)))))) (zM Z (zN (zT (zr ?_)))))))))))))))));obtain rfl := zJ hr;exact a8 (env' := [(5, (iQ v1))]) (H' := []) (zW 0 ⟨rfl, trivial⟩ Z Z Z Z) (.one (.tmp Z)) (⟨rfl, rfl⟩)
def tt (n : Int) (c : Cf) (al : Int) : Option Bool :=
 (rV (IntKind.i64.wrap (2 * n)) c.Den al (IntKind.i64.wrap (c.Den + (IntKind.i64.wrap (2 * c.Num))))).bind fun v1 =>
 some v1
theorem Fh {n : Int} {c : Cf} {al : Int} {r_ : Bool} (hr : tt n c al = some r_) : LC Tryz.prog 113 [(iQ n), .cptr [.slice 1 (c.W.map aG), .int .u64 c.Seed, .int .i64 c.Epoch, .int .i64 c.Num, .int .i64 c.Den], .cptr [.int .i64 al]] [] (Is (bQ r_) []) := by
 refine dp Tryz.func113 Z Z Z ?_;unfold tt at hr;refine zQ (zR (zM Z (zN (zT (zQ (zR (zM Z (yS Z (ax Z Z Z Z) (yS Z (ab.fieldAddrC Z Z ot Z) (yS Z (d6 Z Z Z bC Z Z) (yS Z (d6 Z Z Z bC Z Z) (yS Z (ab.fieldAddrC Z Z ot Z) (yS Z (d6 Z Z Z bC Z Z) (yS Z (ab.fieldAddrC Z Z tL Z) (yS Z (d6 Z Z Z bC Z Z) (yS Z (ax Z Z Z Z) (yS Z (ax Z Z Z Z) (zb hr fun v1 h_v1 hr => yS Z (zC Z Z Z (by kernel_rfl) (zp (FZ h_v1) (.cons zv (.cons zv (.cons zv (.cons zv .nil)))))) (zM Z (zN (zT (zr ?_))))))))))))))))))))));obtain rfl := zJ hr;exact aq (.one (.tmp Z)) (⟨rfl, rfl⟩)
structure lz where
 l : List ID
 v : List Vt
 al : Int
def jy (c : Cf) (w : Vw) (x1 : lz) : Option (lz ⊕ (ID × Bool)) :=
 bif decide ((x1.l.length : Int) < 2) then
  some (.inr ((0, 0), false))
 else
  (ix x1.l 0).bind fun y1 =>
  (E1 y1 c w x1.v).bind fun v2 =>
  (tt v2 c x1.al).bind fun v3 =>
  bif v3 then
   (ix x1.l 0).bind fun y2 =>
   some (.inr (y2, true))
  else
   bif HZ x1.l 1 x1.l.length then
    some (.inl (lz.mk (x1.l.drop (1 : Int).toNat) x1.v x1.al))
   else none
def sb (c : Cf) (w : Vw) (slot : Int) (head : ID) : Option (ID × Bool) :=
 (Cx c w slot).bind fun v1 =>
 bif few w.B then
  iter (jy c w) bG (lz.mk (am w.B head) v1.1 v1.2)
 else none
theorem Jf {c : Cf} {w : Vw} {slot : Int} {head : ID} {r_ : ID × Bool} (hr : sb c w slot head = some r_) : aw Tryz.prog 24 [jC c, mP w, .int .i64 slot, ci head] [ci r_.1, .bool r_.2] := by
 refine zh Tryz.func24 Z Z Z Z ?_;unfold sb at hr;refine zQ (zR (yS Z (b6 Z Z Z Z Z) (yS Z (b6 Z Z Z Z Z) (yS Z (b6 Z Z Z Z Z) (yS Z (ze Z ka Z Z) (zM Z (zN (zT ?_))))))));refine LW.iterG (step := jy c w) (N := bG) (b := r_) (E := fun x1 : lz => [(8, .ptr 3 0), (9, (bQ false)), (10, .ptr 4 0), (11, .p (.slice 2 (x1.l.map ci)))]) (O := fun x1 => [.box (bI c), .box (dq w), .box [(uQ head.1), (uQ head.2)], .box [(uQ 0), (uQ 0)], .box [.fn 111 [] [.cptr [.slice 1 (c.W.map aG), .int .u64 c.Seed, .int .i64 c.Epoch, .int .i64 c.Num, .int .i64 c.Den], .cptr [.slice 5 (w.B.map ay), .slice 4 (w.V.map aJ)], .cptr [.slice 4 (x1.v.map aJ)]], .fn 113 [] [.cptr [.slice 1 (c.W.map aG), .int .u64 c.Seed, .int .i64 c.Epoch, .int .i64 c.Num, .int .i64 c.Den], .cptr [.int .i64 x1.al]]]]) Z ?_ (fun x1 z_x1 hr hb_x1 => ?_)
 ·
  refine LW.ent (bO.slot Z) (LW.drawW (by kernel_rfl) (by kernel_rfl) (yF Z (zd Z Z Z bA Z Z) Z (yF Z (zd Z Z Z aS Z Z) Z (zK Z (zb hr fun v1 h_v1 hr => ?_)))));refine yF (F := []) (s := none) Z (fun H _ => zC Z Z Z (by kernel_rfl) (LC.free (JO h_v1) (.cons zv (.cons zv (.cons zv .nil))))) Z ?_;refine yF (F := []) (s := none) Z (fun H _ => zA Z Z bz) Z ?_;refine yF Z (zd Z Z Z dA Z Z) Z (yF Z (zd Z Z Z aR Z Z) Z (zg hr fun q1 hr => ?_));refine yF (F := []) (s := none) Z (fun H _ => zC Z Z Z (by kernel_rfl) (zp (KX (l := w.B) (id := head) (qz q1)) (.cons zv (.cons zv .nil)))) Z ?_;refine yF Z (bL.alloc Z Et (id := 4) Z) Z (yF Z (zt Z Z Z Z Ee Z Z Z) Z (zK Z ?_));refine LF.nil ⟨by kernel_rfl, ?_⟩;exact zT (⟨_, hr, zW 5 ⟨rfl, rfl, rfl, rfl, trivial⟩ Z Z Z rfl⟩)
 ·
  unfold jy at hr;refine zQ (zQ (zR (zM Z (yS Z (d7 Z Z (by kernel_rfl)) (yS Z (ax Z Z Z Z) (zN (zT ?_)))))));refine zX Z (fun g1 => ?_) (fun g1 => ?_)
  ·
   refine zi g1 hr fun hr => zQ (zR (yS Z (ab.build Z w4 Z Z Z) (yS Z (zs Z Z Z Z aR Z Z Z Z) (zM Z (zN (zT (zr (aj (vP ?_)))))))));obtain rfl := zJ hr;have hr := congrArg some (hb_x1 _ rfl);obtain rfl := zJ hr;exact zf (.two (.cellAgg Z Z (by kernel_rfl) Z) (.tmp Z)) (⟨_, rfl, (.cons zv (.cons zv .nil))⟩)
  ·
   refine zo g1 hr fun hr => zk (zT (zQ (zQ (LW.draw2 (by kernel_rfl) (by kernel_rfl) (yE Z (zA Z Z Df) (yE Z (zD Z Z Z tf Z Z) (yE Z (zA Z Z De) (yE Z (zD Z Z Z HP Z Z) (zH Z (zb hr fun y1 h_y1 hr => yE Z (zx Z Z Z rl h_y1 Z) (yE Z (d6 Z Z Z aR Z Z) (zb hr fun v2 h_v2 hr => yE Z (zC Z Z Z (by kernel_rfl) (LC.pre (JJ h_v2) Z Z Z)) (zb hr fun v3 h_v3 hr => yE Z (zC Z Z Z (by kernel_rfl) (LC.pre (Fh h_v3) Z Z Z)) (LO.nil (zT ?_)))))))))))))));refine zX Z (fun g2 => ?_) (fun g2 => ?_)
   ·
    refine zi g2 hr fun hr => zQ (zR (zM Z (zb hr fun y2 h_y2 hr => yS Z (zx Z Z Z rl h_y2 Z) (yS Z (d6 Z Z Z aR Z Z) (yS Z (zs Z Z Z Z aR Z Z Z Z) (zM Z (zN (zT (zr (aj (vP ?_)))))))))));obtain rfl := zJ hr;have hr := congrArg some (hb_x1 _ rfl);obtain rfl := zJ hr;exact zf (.two (.cellAgg Z Z (by kernel_rfl) Z) (.tmp Z)) (⟨_, rfl, (.cons zv (.cons zv .nil))⟩)
   ·
    refine zo g2 hr fun hr => zk (zT (zQ (zR (zM Z (zg hr fun q2 hr => yS Z (ab.sliceLo Z Z Z rl q2) (zM Z (zN (zT (LW.goto (Dq ?_))))))))));obtain rfl := zJ hr;exact ⟨_, rfl, zW 5 ⟨rfl, rfl, rfl, rfl, trivial⟩ Z Z Z rfl⟩
open Go.Proofs
structure dw where
 t21 : Int
 w_11 : Bool
 o5 : List Of
def i4 (x : Nd) (c : Cf) (slot : Int) (v1 : (List Of)) (x1 : dw) : Option (dw ⊕ dw) :=
 bif decide (x1.t21 < (v1.length : Int)) then
  (ix v1 x1.t21).bind fun y1 =>
  (
   bif (x.Tick.tmod 3) == 2 then
    some ((x.Tick.tmod 3) == 2)
   else
    bif y1.Slot != slot then
     some (y1.Slot != slot)
    else
     (ET c slot).bind fun v4 =>
     some (y1.From != v4)
  ).bind fun v3 =>
  bif v3 then
   some (.inl (dw.mk (IntKind.i64.wrap (x1.t21 + 1)) x1.w_11 x1.o5))
  else
   bif (x1.o5.length : Int) == 8 then
    some (.inl (dw.mk (IntKind.i64.wrap (x1.t21 + 1)) true x1.o5))
   else
    (pY y1).bind fun v5 =>
    bif room x1.o5.length [v5].length 104 then
     some (.inl (dw.mk (IntKind.i64.wrap (x1.t21 + 1)) x1.w_11 (x1.o5 ++ [v5])))
    else none
 else
  some (.inr (dw.mk x1.t21 x1.w_11 x1.o5))
def uW (l : List Of) (x : Nd) (c : Cf) (slot : Int) : Option (List Of × Bool) :=
 (uK [x.O, l]).bind fun v1 =>
 (iter (i4 x c slot v1) bG (dw.mk 0 x.Full ([] : List Of))).bind fun v2 =>
 some (v2.o5, v2.w_11)
theorem Hs {l : List Of} {x : Nd} {c : Cf} {slot : Int} {tl : List Of} {c0 : Cf} {n0 : Nd} {in0 : Vw} {r_ : List Of × Bool} (hr : uW l x c slot = some r_) : LC Tryz.prog 98 [.ptr 4 0, (kO l)] [.box (bI c0), .box (nu n0), .box (dq in0), .box nO, .box [(iQ x.No), (iQ x.Tick), (kB x.V.B), (kV x.V.V), (kB x.In.B), (kV x.In.V), (kO x.O), (uQ x.C.ID.1), (uQ x.C.ID.2), (iQ x.C.Slot), (iQ x.C.Revoked), (bQ x.Full), (kI c.W), (uQ c.Seed), (iQ c.Epoch), (iQ c.Num), (iQ c.Den), (iQ slot), (kO tl)]] (Is (.tup []) [.box (bI c0), .box (nu n0), .box (dq in0), .box nO, .box [(iQ x.No), (iQ x.Tick), (kB x.V.B), (kV x.V.V), (kB x.In.B), (kV x.In.V), (jO 5 r_.1), (uQ x.C.ID.1), (uQ x.C.ID.2), (iQ x.C.Slot), (iQ x.C.Revoked), (bQ r_.2), (kI c.W), (uQ c.Seed), (iQ c.Epoch), (iQ c.Num), (iQ c.Den), (iQ slot), (kO tl)], .vec 9 (r_.1.map dN)]) := by
 refine dp Tryz.func98 Z Z Z ?_;unfold uW at hr;refine zQ (zR (zM Z (yS Z (zn Z Z) (yS Z (zA Z Z au) (yS Z (zA Z Z cJ) (yS Z (zD Z Z Z bZ Z Z) (zM Z (yS Z (mS Z xK Z Z Z Z Z) (zb hr fun v1 h_v1 hr => yS Z (zC Z Z Z (by kernel_rfl) (zp (Je h_v1) (.cons zv .nil))) (zM Z (zN (zT (zQ (zR (zM Z (yS Z (zn Z Z) (yS Z (zA Z Z au) (yS Z (zA Z Z cJ) (yS Z (zs Z Z Z Z bZ Z Z Z Z) (zN (zT (zQ ?_))))))))))))))))))))));refine LW.ent (bO.lazyCell (i := 4) (j := 6) (m := 9) Z Z Z Z Z Z) (zR (zM Z (yS Z (d7 Z Z (by kernel_rfl)) (zM Z (zN (zT ?_))))));obtain ⟨v2, hb_v2, ho_v2⟩ := zB hr;clear hr;refine LW.tail (E := []) (O := [.box (bI c0), .box (nu n0), .box (dq in0), .box nO, .box [(iQ x.No), (iQ x.Tick), (kB x.V.B), (kV x.V.V), (kB x.In.B), (kV x.In.V), (jO 5 v2.o5), (uQ x.C.ID.1), (uQ x.C.ID.2), (iQ x.C.Slot), (iQ x.C.Revoked), (bQ v2.w_11), (kI c.W), (uQ c.Seed), (iQ c.Epoch), (iQ c.Num), (iQ c.Den), (iQ slot), (kO tl)], .vec 9 (v2.o5.map dN)]) ?_ (fun env_v2 H_v2 hw_v2 => ?_)
 ·refine LW.block ?_;refine LW.iterB (E := fun x1 : dw => [(0, .ptr 4 0), (19, (kO v1)), (20, .p (.int .i64 (v1.length : Int))), (21, (iQ x1.t21))]) (O := fun x1 => [.box (bI c0), .box (nu n0), .box (dq in0), .box nO, .box [(iQ x.No), (iQ x.Tick), (kB x.V.B), (kV x.V.V), (kB x.In.B), (kV x.In.V), (jO 5 x1.o5), (uQ x.C.ID.1), (uQ x.C.ID.2), (iQ x.C.Slot), (iQ x.C.Revoked), (bQ x1.w_11), (kI c.W), (uQ c.Seed), (iQ c.Epoch), (iQ c.Num), (iQ c.Den), (iQ slot), (kO tl)], .vec 9 (x1.o5.map dN)]) hb_v2 (zW 6 ⟨rfl, rfl, rfl, rfl, trivial⟩ Z Z Z Z) (fun x1 z_x1 hr hb_x1 => ?_);unfold i4 at hr;refine zQ (zR (yS Z (ax Z Z Z Z) (zN (zT (zQ ?_)))));refine zX Z (fun g1 => ?_) (fun g1 => ?_)
  ·
   refine zi g1 hr fun hr => zk (zT (zQ (zl (zQ (zR (zb hr fun y1 h_y1 hr => yS Z (zx Z Z Z cz h_y1 Z) (yS Z (d6 Z Z Z fZ Z Z) (yS Z (ze Z rF Z Z) (yS Z (zs Z Z Z Z fZ Z Z Z Z) (zN (zT (zl ?_))))))))))));obtain ⟨v3, hb_v3, ho_v3⟩ := zB hr;clear hr;refine LW.cut (E := [(0, .ptr 4 0), (6, .ptr 6 0), (19, (kO v1)), (20, .p (.int .i64 (v1.length : Int))), (21, (iQ x1.t21)), (38, (bQ v3))]) (O := [.box (bI c0), .box (nu n0), .box (dq in0), .box nO, .box [(iQ x.No), (iQ x.Tick), (kB x.V.B), (kV x.V.V), (kB x.In.B), (kV x.In.V), (jO 5 x1.o5), (uQ x.C.ID.1), (uQ x.C.ID.2), (iQ x.C.Slot), (iQ x.C.Revoked), (bQ x1.w_11), (kI c.W), (uQ c.Seed), (iQ c.Epoch), (iQ c.Num), (iQ c.Den), (iQ slot), (kO tl)], .vec 9 (x1.o5.map dN), .box [(iQ y1.Slot), (iQ y1.From), (iQ y1.B.Slot), (iQ y1.B.From), (uQ y1.B.Parent.1), (uQ y1.B.Parent.2), (uQ y1.B.Salt), (kB y1.V.B), (kV y1.V.V)]]) ?_ ?_
   ·have hr := hb_v3;refine zQ (zR (zM Z (yS Z (zn Z Z) (yS Z (zA Z Z au) (yS Z (zA Z Z cY) (yS Z (zD Z Z Z bC Z Z) (yS Z (ab.rem Z Z Z (by decide)) (yS Z (ax Z Z Z Z) (zM Z (zN (zT ?_)))))))))));refine zX Z (fun g2 => ?_) (fun g2 => ?_)
    ·
     refine zi g2 hr fun hr => zk (zT ?_);obtain rfl := zJ hr;exact zW 7 ⟨Z, Z, Z, Z, Z, Z, trivial⟩ Z Z Z Z
    ·
     refine zo g2 hr fun hr => zQ (LW.draw2 (by kernel_rfl) (by kernel_rfl) (yE Z (zA Z Z Da) (yE Z (zD Z Z Z bC Z Z) (zH Z (yE Z (zn Z Z) (yE Z (zA Z Z cK) (yE Z (zD Z Z Z bC Z Z) (yE Z (ax Z Z Z Z) (zH Z (LO.nil (zT ?_)))))))))));refine zX Z (fun g3 => ?_) (fun g3 => ?_)
     ·
      refine zi g3 hr fun hr => zk (zT ?_);obtain rfl := zJ hr;exact zW 7 ⟨Z, Z, Z, Z, Z, Z, trivial⟩ Z Z Z Z
     ·
      refine zo g3 hr fun hr => LW.draw2 (by kernel_rfl) (by kernel_rfl) (yE Z (zA Z Z Db) (yE Z (zD Z Z Z bC Z Z) (zH Z (yE Z (zn Z Z) (yE Z (zA Z Z gN) (yE Z (zD Z Z Z bA Z Z) (zH Z (yE Z (zn Z Z) (yE Z (zA Z Z cK) (yE Z (zD Z Z Z bC Z Z) (zb hr fun v4 h_v4 hr => yE Z (zC Z Z Z (by kernel_rfl) (zp (KY h_v4) (.cons zv (.cons zv .nil)))) (yE Z (ax Z Z Z Z) (zH Z (LO.nil (zT ?_)))))))))))))));obtain rfl := zJ hr;exact zW 7 ⟨Z, Z, Z, Z, Z, Z, trivial⟩ Z Z Z Z
   ·have hr := ho_v3;clear hb_v3;refine zX Z (fun g4 => ?_) (fun g4 => ?_)
    ·
     refine zi g4 hr fun hr => zk (ai (ai (zT (zR (yS Z (ax Z Z Z Z) (zM Z (zN (zT ?_))))))));obtain rfl := zJ hr;exact ⟨_, rfl, zW 6 ⟨rfl, rfl, rfl, rfl, trivial⟩ Z Z Z rfl⟩
    ·
     refine zo g4 hr fun hr => zQ (zR (zM Z (yS Z (zn Z Z) (yS Z (zA Z Z au) (yS Z (zA Z Z cJ) (yS Z (zD Z Z Z bZ Z Z) (yS Z (ab.lenVM Z Z Z (by kernel_rfl)) (yS Z (ax Z Z Z Z) (zM Z (zN (zT ?_)))))))))));refine zX Z (fun g5 => ?_) (fun g5 => ?_)
     ·
      refine zi g5 hr fun hr => zR (zM Z (yS Z (zn Z Z) (yS Z (zA Z Z au) (yS Z (zA Z Z kL) (yS Z (zs Z Z Z Z Bs Z Z Z Z) (zN (ai (ai (zT (zR (yS Z (ax Z Z Z Z) (zM Z (zN (zT ?_))))))))))))));obtain rfl := zJ hr;exact ⟨_, rfl, zW 6 ⟨rfl, rfl, rfl, rfl, trivial⟩ Z Z Z rfl⟩
     ·
      refine zo g5 hr fun hr => LW.drawW (by kernel_rfl) (by kernel_rfl) (zK Z (zK Z ?_));refine yF (F := []) (s := none) Z (fun H _ => zn Z Z) Z ?_;refine yF (F := []) (s := none) Z (fun H _ => zA Z Z au) Z ?_;refine yF (F := []) (s := none) Z (fun H _ => zA Z Z cJ) Z ?_;refine yF Z (zd Z Z Z bZ Z Z) Z (yF Z (zd Z Z Z fZ Z Z) Z (zb hr fun v5 h_v5 hr => ?_));refine yF (F := []) (s := none) Z (fun H _ => zC Z Z Z (by kernel_rfl) (zp (CO h_v5) (.cons zv .nil))) Z ?_;refine yF (F := []) (s := none) Z (fun H _ => mS Z cz Z Z Z Z Z) Z ?_;refine zg hr fun q1 hr => yF Z (bL.appendX dN x1.o5 [v5] rfl Z Z Z Z cz q1) Z ?_;refine yF (F := []) (s := none) Z (fun H _ => zn Z Z) Z ?_;refine yF (F := []) (s := none) Z (fun H _ => zA Z Z au) Z ?_;refine yF (F := []) (s := none) Z (fun H _ => zA Z Z cJ) Z ?_;refine yF Z (zt Z Z Z Z bZ Z Z Z) Z ?_;refine LF.nil ⟨by kernel_rfl, ?_⟩;refine ai (ai (zT (zR (yS Z (ax Z Z Z Z) (zM Z (zN (zT ?_)))))));obtain rfl := zJ hr;exact ⟨_, rfl, zW 6 ⟨rfl, rfl, rfl, rfl, trivial⟩ Z Z Z rfl⟩
  ·
   refine zo g1 hr fun hr => zq (ap (ap (zy (zT ?_))));obtain rfl := zJ hr;have hr := congrArg some (hb_x1 _ rfl);obtain rfl := zJ hr;exact zW 6 trivial Z Z Z Z
 ·have hr := ho_v2;clear hb_v2;obtain rfl := zJ hr;exact fH hw_v2 .none ⟨rfl, rfl⟩
def kC (inp : Vw) (c : Cf) (slot : Int) (v : Vw) (full : Bool) : Option (Vw × Vw × Bool) :=
 (Iv c v inp slot).bind fun v1 =>
 bif full then
  some (v1.2.1, v1.1, true)
 else
  some (v1.2.1, v1.1, v1.2.2)
theorem pF {inp : Vw} {c : Cf} {slot : Int} {v : Vw} {full : Bool} {x : Nd} {o : List Of} {tl : List Of} {c0 : Cf} {n0 : Nd} {in0 : Vw} {r_ : Vw × Vw × Bool} (hr : kC inp c slot v full = some r_) : LC Tryz.prog 137 [.ptr 4 0, .p (mP inp)] [.box (bI c0), .box (nu n0), .box (dq in0), .box nO, .box [(iQ x.No), (iQ x.Tick), (kB v.B), (kV v.V), (kB x.In.B), (kV x.In.V), (jO 5 o), (uQ x.C.ID.1), (uQ x.C.ID.2), (iQ x.C.Slot), (iQ x.C.Revoked), (bQ full), (kI c.W), (uQ c.Seed), (iQ c.Epoch), (iQ c.Num), (iQ c.Den), (iQ slot), (kO tl)], .vec 9 (o.map dN)] (Is (.p (mP r_.1)) [.box (bI c0), .box (nu n0), .box (dq in0), .box nO, .box [(iQ x.No), (iQ x.Tick), (kB r_.2.1.B), (kV r_.2.1.V), (kB x.In.B), (kV x.In.V), (jO 5 o), (uQ x.C.ID.1), (uQ x.C.ID.2), (iQ x.C.Slot), (iQ x.C.Revoked), (bQ r_.2.2), (kI c.W), (uQ c.Seed), (iQ c.Epoch), (iQ c.Num), (iQ c.Den), (iQ slot), (kO tl)], .vec 9 (o.map dN)]) := by
 refine dp Tryz.func137 Z Z Z ?_;unfold kC at hr;refine zQ (zR (yS Z (b6 Z Z Z Z Z) (yS Z (ze Z ig Z Z) (zN (zT (zQ (LW.ent (bO.slot Z) (LW.ent (bO.slot Z) (LW.drawW (by kernel_rfl) (by kernel_rfl) (zK Z ?_))))))))));refine yF (F := []) (s := none) Z (fun H _ => zn Z Z) Z ?_;refine yF (F := []) (s := none) Z (fun H _ => zA Z Z gN) Z ?_;refine yF Z (zd Z Z Z bA Z Z) Z (zK Z ?_);refine yF (F := []) (s := none) Z (fun H _ => zn Z Z) Z ?_;refine yF (F := []) (s := none) Z (fun H _ => zA Z Z au) Z ?_;refine yF (F := []) (s := none) Z (fun H _ => zA Z Z bV) Z ?_;refine yF Z (zd Z Z Z aS Z Z) Z (yF Z (zd Z Z Z aS Z Z) Z (zK Z ?_));refine yF (F := []) (s := none) Z (fun H _ => zn Z Z) Z ?_;refine yF (F := []) (s := none) Z (fun H _ => zA Z Z cK) Z ?_;refine yF Z (zd Z Z Z bC Z Z) Z (zb hr fun v1 h_v1 hr => ?_);refine yF (F := []) (s := none) Z (fun H _ => zC Z Z Z (by kernel_rfl) (zp (Mk h_v1) (.cons zv (.cons zv (.cons zv (.cons zv .nil)))))) Z ?_;refine zK Z ?_;refine yF (F := []) (s := none) Z (fun H _ => fd Z Z Z) Z ?_;refine yF (F := []) (s := none) Z (fun H _ => fd Z Z Z) Z ?_;refine yF (F := []) (s := none) Z (fun H _ => fd Z Z Z) Z ?_;refine yF Z (bL.alloc Z ig (id := 8) Z) Z (yF Z (bL.alloc Z ig (id := 9) Z) Z (yF Z (zt Z Z Z Z aS Z Z Z) Z (yF Z (zt Z Z Z Z aS Z Z Z) Z (zK Z ?_))));refine LF.nil ⟨by kernel_rfl, ?_⟩;refine zT (zQ (LW.drawW (by kernel_rfl) (by kernel_rfl) (zK Z (zK Z (yF Z (zd Z Z Z aS Z Z) Z (zK Z ?_))))));refine yF (F := []) (s := none) Z (fun H _ => zn Z Z) Z ?_;refine yF (F := []) (s := none) Z (fun H _ => zA Z Z au) Z ?_;refine yF (F := []) (s := none) Z (fun H _ => zA Z Z kL) Z ?_;refine yF Z (zd Z Z Z Bs Z Z) Z (zK Z ?_);refine LF.cases 35 Z (fun (g1 : full = true) => ?_) (fun (g1 : full = false) => ?_)
 ·
  refine zi g1 hr fun hr => LF.sk Z Z Z (gd g1 Z) Z Z ?_;refine yF (F := []) (s := none) Z (fun H _ => eF Z (bM g1 Z) Z) Z ?_;refine yF (F := []) (s := none) Z (fun H _ => zn Z Z) Z ?_;refine yF (F := []) (s := none) Z (fun H _ => zA Z Z au) Z ?_;refine yF (F := []) (s := none) Z (fun H _ => zA Z Z bV) Z ?_;refine yF Z (zt Z Z Z Z aS Z Z Z) Z ?_;refine yF (F := []) (s := none) Z (fun H _ => zn Z Z) Z ?_;refine yF (F := []) (s := none) Z (fun H _ => zA Z Z au) Z ?_;refine yF (F := []) (s := none) Z (fun H _ => zA Z Z kL) Z ?_;refine yF Z (zt Z Z Z Z Bs Z Z Z) Z ?_;refine LF.nil ⟨by kernel_rfl, ?_⟩;refine zT (zQ (zR (yS Z (zD Z Z Z aS Z Z) (yS Z (zs Z Z Z Z aS Z Z Z Z) (zN (zT (zr ?_)))))));obtain rfl := zJ hr;exact i6 (env' := []) (H' := [.box (bI c0), .box (nu n0), .box (dq in0), .box nO, .box [(iQ x.No), (iQ x.Tick), (kB v1.1.B), (kV v1.1.V), (kB x.In.B), (kV x.In.V), (jO 5 o), (uQ x.C.ID.1), (uQ x.C.ID.2), (iQ x.C.Slot), (iQ x.C.Revoked), (bQ true), (kI c.W), (uQ c.Seed), (iQ c.Epoch), (iQ c.Num), (iQ c.Den), (iQ slot), (kO tl)], .vec 9 (o.map dN)]) (zW 6 trivial Z Z Z Z) (.one (.cellAgg Z Z (by kernel_rfl) Z)) Z (⟨rfl, rfl⟩)
 ·
  have hr := zO g1 hr;refine LF.gd (F := []) (s := none) Z Z Z (gd g1 Z) Z (fun H _ => ab.move Z Z) Z ?_;refine yF (F := []) (s := none) Z (fun H _ => df Z (bM g1 Z) Z) Z ?_;refine yF (F := []) (s := none) Z (fun H _ => zn Z Z) Z ?_;refine yF (F := []) (s := none) Z (fun H _ => zA Z Z au) Z ?_;refine yF (F := []) (s := none) Z (fun H _ => zA Z Z bV) Z ?_;refine yF Z (zt Z Z Z Z aS Z Z Z) Z ?_;refine yF (F := []) (s := none) Z (fun H _ => zn Z Z) Z ?_;refine yF (F := []) (s := none) Z (fun H _ => zA Z Z au) Z ?_;refine yF (F := []) (s := none) Z (fun H _ => zA Z Z kL) Z ?_;refine yF Z (zt Z Z Z Z Bs Z Z Z) Z ?_;refine LF.nil ⟨by kernel_rfl, ?_⟩;refine zT (zQ (zR (yS Z (zD Z Z Z aS Z Z) (yS Z (zs Z Z Z Z aS Z Z Z Z) (zN (zT (zr ?_)))))));obtain rfl := zJ hr;exact i6 (env' := []) (H' := [.box (bI c0), .box (nu n0), .box (dq in0), .box nO, .box [(iQ x.No), (iQ x.Tick), (kB v1.1.B), (kV v1.1.V), (kB x.In.B), (kV x.In.V), (jO 5 o), (uQ x.C.ID.1), (uQ x.C.ID.2), (iQ x.C.Slot), (iQ x.C.Revoked), (bQ v1.2.2), (kI c.W), (uQ c.Seed), (iQ c.Epoch), (iQ c.Num), (iQ c.Den), (iQ slot), (kO tl)], .vec 9 (o.map dN)]) (zW 6 trivial Z Z Z Z) (.one (.cellAgg Z Z (by kernel_rfl) Z)) Z (⟨rfl, rfl⟩)
def tu (c : Cf) (v : Vw) (s : Int) : Option ID :=
 (iL c v s).bind fun v1 =>
 some v1
theorem Fk {c : Cf} {v : Vw} {s : Int} {x : Nd} {slot : Int} {o : List Of} {tl : List Of} {c0 : Cf} {n0 : Nd} {in0 : Vw} {r_ : ID} (hr : tu c v s = some r_) : LC Tryz.prog 138 [.ptr 4 0, (iQ s)] [.box (bI c0), .box (nu n0), .box (dq in0), .box nO, .box [(iQ x.No), (iQ x.Tick), (kB v.B), (kV v.V), (kB x.In.B), (kV x.In.V), (jO 5 o), (uQ x.C.ID.1), (uQ x.C.ID.2), (iQ x.C.Slot), (iQ x.C.Revoked), (bQ x.Full), (kI c.W), (uQ c.Seed), (iQ c.Epoch), (iQ c.Num), (iQ c.Den), (iQ slot), (kO tl)], .vec 9 (o.map dN)] (Is (.p (ci r_)) [.box (bI c0), .box (nu n0), .box (dq in0), .box nO, .box [(iQ x.No), (iQ x.Tick), (kB v.B), (kV v.V), (kB x.In.B), (kV x.In.V), (jO 5 o), (uQ x.C.ID.1), (uQ x.C.ID.2), (iQ x.C.Slot), (iQ x.C.Revoked), (bQ x.Full), (kI c.W), (uQ c.Seed), (iQ c.Epoch), (iQ c.Num), (iQ c.Den), (iQ slot), (kO tl)], .vec 9 (o.map dN)]) := by
 refine dp Tryz.func138 Z Z Z ?_;unfold tu at hr;refine zQ (zR (yS Z (ze Z ka Z Z) (zN (zT (zQ (LW.drawLast (m := 11) (by kernel_rfl) (by kernel_rfl) (by kernel_rfl) (zH Z (yE Z (zn Z Z) (yE Z (zA Z Z gN) (yE Z (zD Z Z Z bA Z Z) (zH Z (yE Z (zn Z Z) (yE Z (zA Z Z au) (yE Z (zA Z Z bV) (yE Z (zD Z Z Z aS Z Z) (zH Z (zb hr fun v1 h_v1 hr => yE Z (zC Z Z Z (by kernel_rfl) (zp (yw h_v1) (.cons zv (.cons zv (.cons zv .nil))))) (LO.nil (yS Z (zs Z Z Z Z aR Z Z Z Z) (zN (zT (zr ?_))))))))))))))))))))));obtain rfl := zJ hr;exact i6 (env' := []) (H' := [.box (bI c0), .box (nu n0), .box (dq in0), .box nO, .box [(iQ x.No), (iQ x.Tick), (kB v.B), (kV v.V), (kB x.In.B), (kV x.In.V), (jO 5 o), (uQ x.C.ID.1), (uQ x.C.ID.2), (iQ x.C.Slot), (iQ x.C.Revoked), (bQ x.Full), (kI c.W), (uQ c.Seed), (iQ c.Epoch), (iQ c.Num), (iQ c.Den), (iQ slot), (kO tl)], .vec 9 (o.map dN)]) (zW 6 trivial Z Z Z Z) (.one (.cellAgg Z Z (by kernel_rfl) Z)) Z (⟨rfl, rfl⟩)
theorem Ek {c : Cf} {v : Vw} {s : Int} {r_ : ID} (h : iL c v s = some r_) : tu c v s = some r_ := by unfold tu; rw [h]; rfl
def pD (c : Cf) (v : Vw) (s : Int) : Option ID :=
 (iL c v s).bind fun v1 =>
 some v1
theorem ve {c : Cf} {v : Vw} {s : Int} {x : Nd} {slot : Int} {o : List Of} {tl : List Of} {c0 : Cf} {n0 : Nd} {in0 : Vw} {r_ : ID} (hr : pD c v s = some r_) : LC Tryz.prog 138 [.ptr 4 0, (iQ s)] [.box (bI c0), .box (nu n0), .box (dq in0), .box nO, .box [(iQ x.No), (iQ x.Tick), (kB v.B), (kV v.V), (kB x.In.B), (kV x.In.V), (kO x.O), (uQ x.C.ID.1), (uQ x.C.ID.2), (iQ x.C.Slot), (iQ x.C.Revoked), (bQ x.Full), (kI c.W), (uQ c.Seed), (iQ c.Epoch), (iQ c.Num), (iQ c.Den), (iQ slot), (kO tl)], .vec 9 (o.map dN)] (Is (.p (ci r_)) [.box (bI c0), .box (nu n0), .box (dq in0), .box nO, .box [(iQ x.No), (iQ x.Tick), (kB v.B), (kV v.V), (kB x.In.B), (kV x.In.V), (kO x.O), (uQ x.C.ID.1), (uQ x.C.ID.2), (iQ x.C.Slot), (iQ x.C.Revoked), (bQ x.Full), (kI c.W), (uQ c.Seed), (iQ c.Epoch), (iQ c.Num), (iQ c.Den), (iQ slot), (kO tl)], .vec 9 (o.map dN)]) := by
 refine dp Tryz.func138 Z Z Z ?_;unfold pD at hr;refine zQ (zR (yS Z (ze Z ka Z Z) (zN (zT (zQ (LW.drawLast (m := 11) (by kernel_rfl) (by kernel_rfl) (by kernel_rfl) (zH Z (yE Z (zn Z Z) (yE Z (zA Z Z gN) (yE Z (zD Z Z Z bA Z Z) (zH Z (yE Z (zn Z Z) (yE Z (zA Z Z au) (yE Z (zA Z Z bV) (yE Z (zD Z Z Z aS Z Z) (zH Z (zb hr fun v1 h_v1 hr => yE Z (zC Z Z Z (by kernel_rfl) (zp (yw h_v1) (.cons zv (.cons zv (.cons zv .nil))))) (LO.nil (yS Z (zs Z Z Z Z aR Z Z Z Z) (zN (zT (zr ?_))))))))))))))))))))));obtain rfl := zJ hr;exact i6 (env' := []) (H' := [.box (bI c0), .box (nu n0), .box (dq in0), .box nO, .box [(iQ x.No), (iQ x.Tick), (kB v.B), (kV v.V), (kB x.In.B), (kV x.In.V), (kO x.O), (uQ x.C.ID.1), (uQ x.C.ID.2), (iQ x.C.Slot), (iQ x.C.Revoked), (bQ x.Full), (kI c.W), (uQ c.Seed), (iQ c.Epoch), (iQ c.Num), (iQ c.Den), (iQ slot), (kO tl)], .vec 9 (o.map dN)]) (zW 6 trivial Z Z Z Z) (.one (.cellAgg Z Z (by kernel_rfl) Z)) Z (⟨rfl, rfl⟩)
theorem tg {c : Cf} {v : Vw} {s : Int} {r_ : ID} (h : iL c v s = some r_) : pD c v s = some r_ := by unfold pD; rw [h]; rfl
def nT (x : Nd) (c : Cf) (slot : Int) (tl : List Of) : Option (Vw × Vw × Bool × List Of) :=
 (ET c slot).bind fun v1 =>
 bif x.No != v1 then
  some (x.V, x.In, x.Full, tl)
 else
  (kC x.In c slot x.V x.Full).bind fun v2 =>
  (iL c v2.2.1 (IntKind.i64.wrap (slot - 1))).bind fun v3 =>
  (pY (Of.mk slot x.No (Bk.mk slot x.No v3 0) v2.2.1)).bind fun v4 =>
  (sa (Bk.mk slot x.No v3 0)).bind fun v5 =>
  (kC v5 c slot v2.2.1 v2.2.2).bind fun v6 =>
  some (v6.2.1, v2.1, v6.2.2, [v4])
theorem Fd {x : Nd} {o : List Of} {c : Cf} {slot : Int} {tl : List Of} {c0 : Cf} {n0 : Nd} {in0 : Vw} {r_ : Vw × Vw × Bool × List Of} (hr : nT x c slot tl = some r_) : LC Tryz.prog 99 [.ptr 4 0] [.box (bI c0), .box (nu n0), .box (dq in0), .box nO, .box [(iQ x.No), (iQ x.Tick), (kB x.V.B), (kV x.V.V), (kB x.In.B), (kV x.In.V), (jO 5 o), (uQ x.C.ID.1), (uQ x.C.ID.2), (iQ x.C.Slot), (iQ x.C.Revoked), (bQ x.Full), (kI c.W), (uQ c.Seed), (iQ c.Epoch), (iQ c.Num), (iQ c.Den), (iQ slot), (kO tl)], .vec 9 (o.map dN)] (Is (.tup []) [.box (bI c0), .box (nu n0), .box (dq in0), .box nO, .box [(iQ x.No), (iQ x.Tick), (kB r_.1.B), (kV r_.1.V), (kB r_.2.1.B), (kV r_.2.1.V), (jO 5 o), (uQ x.C.ID.1), (uQ x.C.ID.2), (iQ x.C.Slot), (iQ x.C.Revoked), (bQ r_.2.2.1), (kI c.W), (uQ c.Seed), (iQ c.Epoch), (iQ c.Num), (iQ c.Den), (iQ slot), (kO r_.2.2.2)], .vec 9 (o.map dN)]) := by
 refine dp Tryz.func99 Z Z Z ?_;unfold nT at hr;refine zQ (zQ (LW.draw2 (by kernel_rfl) (by kernel_rfl) (zH Z (yE Z (zn Z Z) (yE Z (zA Z Z au) (yE Z (zA Z Z kK) (yE Z (zD Z Z Z bC Z Z) (zH Z (yE Z (zn Z Z) (yE Z (zA Z Z gN) (yE Z (zD Z Z Z bA Z Z) (zH Z (yE Z (zn Z Z) (yE Z (zA Z Z cK) (yE Z (zD Z Z Z bC Z Z) (zb hr fun v1 h_v1 hr => yE Z (zC Z Z Z (by kernel_rfl) (zp (KY h_v1) (.cons zv (.cons zv .nil)))) (yE Z (ax Z Z Z Z) (LO.nil (zT ?_)))))))))))))))))));refine zX Z (fun g1 => ?_) (fun g1 => ?_)
 ·
  refine zi g1 hr fun hr => LW.ret (aj ?_);obtain rfl := zJ hr;exact aq .none (⟨rfl, rfl⟩)
 ·
  refine zo g1 hr fun hr => zk (zT (zQ (zR (zM Z (zM Z (zM Z (yS Z (zn Z Z) (yS Z (zA Z Z au) (yS Z (zA Z Z cw) (yS Z (zD Z Z Z aS Z Z) (zb hr fun v2 h_v2 hr => yS Z (zC Z Z Z (by kernel_rfl) (pF (x := Nd.mk x.No x.Tick x.V x.In [] x.C x.Full) (o := o) (tl := tl) h_v2)) (yS Z (zn Z Z) (yS Z (zA Z Z au) (yS Z (zA Z Z cw) (yS Z (zs Z Z Z Z aS Z Z Z Z) (zN (zT (zQ (LW.ent (bO.slot Z) (LW.drawW (by kernel_rfl) (by kernel_rfl) (zK Z ?_)))))))))))))))))))));refine yF (F := []) (s := none) Z (fun H _ => zn Z Z) Z ?_;refine yF (F := []) (s := none) Z (fun H _ => zA Z Z cK) Z ?_;refine yF Z (zd Z Z Z bC Z Z) Z (zK Z ?_);refine yF (F := []) (s := none) Z (fun H _ => zn Z Z) Z ?_;refine yF (F := []) (s := none) Z (fun H _ => zA Z Z au) Z ?_;refine yF (F := []) (s := none) Z (fun H _ => zA Z Z kK) Z ?_;refine yF Z (zd Z Z Z bC Z Z) Z (zK Z (zK Z ?_));refine yF (F := []) (s := none) Z (fun H _ => zn Z Z) Z ?_;refine yF (F := []) (s := none) Z (fun H _ => zA Z Z cK) Z ?_;refine yF Z (zd Z Z Z bC Z Z) Z ?_;refine yF (F := []) (s := none) Z (fun H _ => ax Z Z Z Z) Z ?_;obtain ⟨v3, h_v3, hr⟩ := zB hr;refine yF Z (bL.preH (s := none) (fun _ => zC Z Z Z (by kernel_rfl) (LC.pre (Fk (x := Nd.mk x.No x.Tick v2.2.1 v2.1 [] x.C v2.2.2) (o := o) (tl := tl) (Ek h_v3)) Z Z Z)) Z Z Z Z) Z ?_;refine yF (F := []) (s := none) Z (fun H _ => ab.build Z IE Z Z Z) Z ?_;refine yF Z (bL.alloc Z uj (id := 6) Z) Z (yF Z (zt Z Z Z Z cN Z Z Z) Z ?_);refine LF.nil ⟨by kernel_rfl, ?_⟩;refine zT (zQ (LW.drawW (by kernel_rfl) (by kernel_rfl) (zK Z (zK Z ?_))));refine yF (F := []) (s := none) Z (fun H _ => zn Z Z) Z ?_;refine yF (F := []) (s := none) Z (fun H _ => zA Z Z cK) Z ?_;refine yF Z (zd Z Z Z bC Z Z) Z (zK Z ?_);refine yF (F := []) (s := none) Z (fun H _ => zn Z Z) Z ?_;refine yF (F := []) (s := none) Z (fun H _ => zA Z Z au) Z ?_;refine yF (F := []) (s := none) Z (fun H _ => zA Z Z kK) Z ?_;refine yF Z (zd Z Z Z bC Z Z) Z (yF Z (zd Z Z Z cN Z Z) Z (zK Z ?_));refine yF (F := []) (s := none) Z (fun H _ => zn Z Z) Z ?_;refine yF (F := []) (s := none) Z (fun H _ => zA Z Z au) Z ?_;refine yF (F := []) (s := none) Z (fun H _ => zA Z Z bV) Z ?_;refine yF Z (zd Z Z Z aS Z Z) Z ?_;refine yF (F := []) (s := none) Z (fun H _ => ab.build Z CK Z Z Z) Z ?_;obtain ⟨v4, h_v4, hr⟩ := zB hr;refine yF (F := []) (s := none) Z (fun H _ => zC Z Z Z (by kernel_rfl) (zp (CO h_v4) (.cons zv .nil))) Z ?_;refine yF (F := []) (s := none) Z (fun H _ => mS Z cz Z Z Z Z Z) Z ?_;refine yF (F := []) (s := none) Z (fun H _ => zn Z Z) Z ?_;refine yF (F := []) (s := none) Z (fun H _ => zA Z Z ng) Z ?_;refine yF Z (zt Z Z Z Z bZ Z Z Z) Z ?_;refine LF.nil ⟨by kernel_rfl, ?_⟩;refine zT (zR (zM Z (yS Z (zD Z Z Z cN Z Z) (zb hr fun v5 h_v5 hr => yS Z (zC Z Z Z (by kernel_rfl) (zp (F4 h_v5) (.cons zv .nil))) (zb hr fun v6 h_v6 hr => yS Z (zC Z Z Z (by kernel_rfl) (LC.pre (pF (x := Nd.mk x.No x.Tick v2.2.1 v2.1 [] x.C v2.2.2) (o := o) (tl := [v4]) h_v6) Z Z Z)) (zN ?_))))));obtain rfl := zJ hr;exact fH (env' := []) (H' := [.box (bI c0), .box (nu n0), .box (dq in0), .box nO, .box [(iQ x.No), (iQ x.Tick), (kB v6.2.1.B), (kV v6.2.1.V), (kB v2.1.B), (kV v2.1.V), (jO 5 o), (uQ x.C.ID.1), (uQ x.C.ID.2), (iQ x.C.Slot), (iQ x.C.Revoked), (bQ v6.2.2), (kI c.W), (uQ c.Seed), (iQ c.Epoch), (iQ c.Num), (iQ c.Den), (iQ slot), .p (.slice 9 ([v4].map dN))], .vec 9 (o.map dN)]) (zW 6 trivial Z Z Z Z) .none (⟨rfl, rfl⟩)
structure cP where
 t11 : Int
 w_2 : List Bk
 w_3 : List Vt
 w_4 : List Bk
 w_5 : List Vt
 w_11 : Bool
def fm (o : List Of) (c : Cf) (slot : Int) (x1 : cP) : Option (cP ⊕ cP) :=
 bif decide (x1.t11 < (o.length : Int)) then
  (ix o x1.t11).bind fun y1 =>
  (sa y1.B).bind fun v2 =>
  (yn y1.V v2).bind fun v3 =>
  (kC v3 c slot (Vw.mk x1.w_2 x1.w_3) x1.w_11).bind fun v4 =>
  (yn (Vw.mk x1.w_4 x1.w_5) v4.1).bind fun v5 =>
  some (.inl (cP.mk (IntKind.i64.wrap (x1.t11 + 1)) v4.2.1.B v4.2.1.V v5.B v5.V v4.2.2))
 else
  some (.inr (cP.mk x1.t11 x1.w_2 x1.w_3 x1.w_4 x1.w_5 x1.w_11))
def ly (x : Nd) (o : List Of) (c : Cf) (slot : Int) : Option (Vw × Vw × Bool) :=
 (iter (fm o c slot) bG (cP.mk 0 x.V.B x.V.V x.In.B x.In.V x.Full)).bind fun v1 =>
 (HV c slot x.No).bind fun v6 =>
 bif v6 then
  (iL c (Vw.mk v1.w_2 v1.w_3) (IntKind.i64.wrap (slot - 1))).bind fun v7 =>
  (yn (Vw.mk v1.w_4 v1.w_5) (Vw.mk [] [Vt.mk x.No slot v7])).bind fun v8 =>
  some (Vw.mk v1.w_2 v1.w_3, v8, v1.w_11)
 else
  some (Vw.mk v1.w_2 v1.w_3, Vw.mk v1.w_4 v1.w_5, v1.w_11)
theorem CT {x : Nd} {o : List Of} {c : Cf} {slot : Int} {tl : List Of} {c0 : Cf} {n0 : Nd} {in0 : Vw} {r_ : Vw × Vw × Bool} (hr : ly x o c slot = some r_) : LC Tryz.prog 100 [.ptr 4 0] [.box (bI c0), .box (nu n0), .box (dq in0), .box nO, .box [(iQ x.No), (iQ x.Tick), (kB x.V.B), (kV x.V.V), (kB x.In.B), (kV x.In.V), (jO 5 o), (uQ x.C.ID.1), (uQ x.C.ID.2), (iQ x.C.Slot), (iQ x.C.Revoked), (bQ x.Full), (kI c.W), (uQ c.Seed), (iQ c.Epoch), (iQ c.Num), (iQ c.Den), (iQ slot), (kO tl)], .vec 9 (o.map dN)] (Is (.tup []) [.box (bI c0), .box (nu n0), .box (dq in0), .box nO, .box [(iQ x.No), (iQ x.Tick), (kB r_.1.B), (kV r_.1.V), (kB r_.2.1.B), (kV r_.2.1.V), (kO ([] : List Of)), (uQ x.C.ID.1), (uQ x.C.ID.2), (iQ x.C.Slot), (iQ x.C.Revoked), (bQ r_.2.2), (kI c.W), (uQ c.Seed), (iQ c.Epoch), (iQ c.Num), (iQ c.Den), (iQ slot), (kO tl)], .vec 9 (o.map dN)]) := by
 refine dp Tryz.func100 Z Z Z ?_;unfold ly at hr;refine zQ (zQ (zR (zM Z (yS Z (zn Z Z) (yS Z (zA Z Z au) (yS Z (zA Z Z cJ) (yS Z (zD Z Z Z bZ Z Z) (yS Z (ab.lenVM Z Z Z (by kernel_rfl)) (zM Z (zN (zT ?_)))))))))));obtain ⟨v1, hb_v1, ho_v1⟩ := zB hr;clear hr;refine LW.tail (E := [(0, .ptr 4 0)]) (O := [.box (bI c0), .box (nu n0), .box (dq in0), .box nO, .box [(iQ x.No), (iQ x.Tick), (kB v1.w_2), (kV v1.w_3), (kB v1.w_4), (kV v1.w_5), (jO 5 o), (uQ x.C.ID.1), (uQ x.C.ID.2), (iQ x.C.Slot), (iQ x.C.Revoked), (bQ v1.w_11), (kI c.W), (uQ c.Seed), (iQ c.Epoch), (iQ c.Num), (iQ c.Den), (iQ slot), (kO tl)], .vec 9 (o.map dN)]) ?_ (fun env_v1 H_v1 hw_v1 => ?_)
 ·refine LW.block ?_;refine LW.iterB (E := fun x1 : cP => [(0, .ptr 4 0), (9, (jO 5 o)), (10, .p (.int .i64 (o.length : Int))), (11, (iQ x1.t11))]) (O := fun x1 => [.box (bI c0), .box (nu n0), .box (dq in0), .box nO, .box [(iQ x.No), (iQ x.Tick), (kB x1.w_2), (kV x1.w_3), (kB x1.w_4), (kV x1.w_5), (jO 5 o), (uQ x.C.ID.1), (uQ x.C.ID.2), (iQ x.C.Slot), (iQ x.C.Revoked), (bQ x1.w_11), (kI c.W), (uQ c.Seed), (iQ c.Epoch), (iQ c.Num), (iQ c.Den), (iQ slot), (kO tl)], .vec 9 (o.map dN)]) hb_v1 (zW 6 ⟨rfl, rfl, rfl, rfl, trivial⟩ Z Z Z Z) (fun x1 z_x1 hr hb_x1 => ?_);unfold fm at hr;refine zQ (zR (yS Z (ax Z Z Z Z) (zN (zT (zQ ?_)))));refine zX Z (fun g1 => ?_) (fun g1 => ?_)
  ·
   refine zi g1 hr fun hr => zk (zT (zQ (zl (zQ (zR (zb hr fun y1 h_y1 hr => yS Z (ab.indexAddrVX Z Z Z Z cz h_y1) (yS Z (ab.loadVX Z Z Z fZ h_y1 Z Z Z Z) (yS Z (ze Z rF Z Z) (yS Z (zs Z Z Z Z fZ Z Z Z Z) (zN (zT ?_)))))))))));refine LW.drawWJ (z := 4) (e := 18) (J := (fun o_ => ∃ a_ b_ c_ : LV, o_ = .box [(iQ x.No), (iQ x.Tick), a_, b_, (kB x1.w_4), (kV x1.w_5), (jO 5 o), (uQ x.C.ID.1), (uQ x.C.ID.2), (iQ x.C.Slot), (iQ x.C.Revoked), c_, (kI c.W), (uQ c.Seed), (iQ c.Epoch), (iQ c.Num), (iQ c.Den), (iQ slot), (kO tl)])) (by kernel_rfl) (by kernel_rfl) (fun o_ h_ => ⟨_, _, _, (zJ h_).symm⟩) ?_;refine iD.mv Z (iD.mv Z ?_);refine iD.st (F := []) (s := none) Z Z Z (fun H _ => ab.nilCheck Z Z) (fun _ => trivial) Z ?_;refine iD.st (F := []) (s := none) Z Z Z (fun H _ => zA Z Z au) (fun _ => trivial) Z ?_;refine iD.st (F := []) (s := none) Z Z Z (fun H _ => zA Z Z cw) (fun _ => trivial) Z ?_;refine iD.look Z Z Z (by kernel_rfl) Z (fun H_ y_ hy_ hj_ => by obtain ⟨a_, b_, c_, rfl⟩ := hj_; exact zD Z Z hy_ aS Z Z) ?_;refine iD.mv Z ?_;refine iD.st (F := []) (s := none) Z Z Z (fun H _ => zA Z Z jd) (fun _ => trivial) Z ?_;refine iD.st Z Z Z (bL.load Z Z Z aS Z Z) (fun _ => trivial) Z ?_;refine iD.st (F := []) (s := none) Z Z Z (fun H _ => zA Z Z vB) (fun _ => trivial) Z ?_;refine iD.st Z Z Z (bL.load Z Z Z cN Z Z) (fun _ => trivial) Z ?_;obtain ⟨v2, h_v2, hr⟩ := zB hr;refine iD.st (F := []) (s := none) Z Z Z (fun H _ => zC Z Z Z (by kernel_rfl) (zp (F4 h_v2) (.cons zv .nil))) (fun _ => trivial) Z ?_;obtain ⟨v3, h_v3, hr⟩ := zB hr;refine iD.st (F := []) (s := none) Z Z Z (fun H _ => zC Z Z Z (by kernel_rfl) (zp (Eu h_v3) (.cons zv (.cons zv .nil)))) (fun _ => trivial) Z ?_;obtain ⟨v4, h_v4, hr⟩ := zB hr;refine iD.st Z Z Z (bL.preH (s := some (4, .box [(iQ x.No), (iQ x.Tick), (kB v4.2.1.B), (kV v4.2.1.V), (kB x1.w_4), (kV x1.w_5), (jO 5 o), (uQ x.C.ID.1), (uQ x.C.ID.2), (iQ x.C.Slot), (iQ x.C.Revoked), (bQ v4.2.2), (kI c.W), (uQ c.Seed), (iQ c.Epoch), (iQ c.Num), (iQ c.Den), (iQ slot), (kO tl)])) (fun _ => zC Z Z Z (by kernel_rfl) (LC.pre (pF (x := Nd.mk x.No x.Tick (Vw.mk x1.w_2 x1.w_3) (Vw.mk x1.w_4 x1.w_5) [] x.C x1.w_11) (o := o) (tl := tl) h_v4) Z Z Z)) Z Z Z Z) (fun _ _ => ⟨_, _, _, rfl⟩) Z ?_;obtain ⟨v5, h_v5, hr⟩ := zB hr;refine iD.st (F := []) (s := none) Z Z Z (fun H _ => zC Z Z Z (by kernel_rfl) (zp (Eu h_v5) (.cons zv (.cons zv .nil)))) (fun _ => trivial) Z ?_;refine iD.st (F := []) (s := none) Z Z Z (fun H _ => ab.nilCheck Z Z) (fun _ => trivial) Z ?_;refine iD.st (F := []) (s := none) Z Z Z (fun H _ => zA Z Z au) (fun _ => trivial) Z ?_;refine iD.st (F := []) (s := none) Z Z Z (fun H _ => zA Z Z cw) (fun _ => trivial) Z ?_;refine iD.st Z Z Z (bL.store Z Z Z Z aS Z Z Z) (fun h => absurd h (by decide)) Z ?_;refine iD.nil ⟨by kernel_rfl, ?_⟩;refine ai (zT (zR (yS Z (ax Z Z Z Z) (zM Z (zN (zT ?_))))));obtain rfl := zJ hr;exact ⟨_, rfl, zW 6 ⟨rfl, rfl, rfl, rfl, trivial⟩ Z Z Z rfl⟩
  ·
   refine zo g1 hr fun hr => zq (ap (ap (zy (zT ?_))));obtain rfl := zJ hr;have hr := congrArg some (hb_x1 _ rfl);obtain rfl := zJ hr;exact zW 6 ⟨Z, trivial⟩ Z Z Z Z
 ·have hr := ho_v1;clear hb_v1;refine zT (LW.weak hw_v1 (zQ (zR (zM Z (yS Z (zn Z Z) (yS Z (zA Z Z au) (yS Z (zA Z Z cJ) (yS Z (zs Z Z Z Z bZ Z Z Z Z) (zN (zT (zQ (LW.ent (bO.zsCell (i := 4) (j := 6) (m := 9) Z Z Z Z) (LW.draw2 (by kernel_rfl) (by kernel_rfl) (zH Z (yE Z (zn Z Z) (yE Z (zA Z Z gN) (yE Z (zD Z Z Z bA Z Z) (zH Z (yE Z (zn Z Z) (yE Z (zA Z Z cK) (yE Z (zD Z Z Z bC Z Z) (zH Z (yE Z (zn Z Z) ?_)))))))))))))))))))))));refine yE Z (zA Z Z au) (yE Z (zA Z Z kK) (yE Z (zD Z Z Z bC Z Z) (zb hr fun v6 h_v6 hr => yE Z (zC Z Z Z (by kernel_rfl) (zp (L2 h_v6) (.cons zv (.cons zv (.cons zv .nil))))) (LO.nil (zT ?_)))));refine zX Z (fun g2 => ?_) (fun g2 => ?_)
  ·
   refine zi g2 hr fun hr => zQ (LW.ent (bO.slot Z) (LW.drawW (by kernel_rfl) (by kernel_rfl) (zK Z ?_)));refine yF (F := []) (s := none) Z (fun H _ => zn Z Z) Z ?_;refine yF (F := []) (s := none) Z (fun H _ => zA Z Z au) Z ?_;refine yF (F := []) (s := none) Z (fun H _ => zA Z Z kK) Z ?_;refine yF Z (zd Z Z Z bC Z Z) Z (zK Z ?_);refine yF (F := []) (s := none) Z (fun H _ => zn Z Z) Z ?_;refine yF (F := []) (s := none) Z (fun H _ => zA Z Z cK) Z ?_;refine yF Z (zd Z Z Z bC Z Z) Z (zK Z (zK Z ?_));refine yF (F := []) (s := none) Z (fun H _ => zn Z Z) Z ?_;refine yF (F := []) (s := none) Z (fun H _ => zA Z Z cK) Z ?_;refine yF Z (zd Z Z Z bC Z Z) Z ?_;refine yF (F := []) (s := none) Z (fun H _ => ax Z Z Z Z) Z ?_;obtain ⟨v7, h_v7, hr⟩ := zB hr;refine yF Z (bL.preH (s := none) (fun _ => zC Z Z Z (by kernel_rfl) (LC.pre (ve (x := Nd.mk x.No x.Tick (Vw.mk v1.w_2 v1.w_3) (Vw.mk v1.w_4 v1.w_5) [] x.C v1.w_11) (o := o) (tl := tl) (tg h_v7)) Z Z Z)) Z Z Z Z) Z ?_;refine yF (F := []) (s := none) Z (fun H _ => ab.build Z IF Z Z Z) Z ?_;refine yF Z (bL.alloc Z uk (id := 6) Z) Z (yF Z (zt Z Z Z Z cR Z Z Z) Z ?_);refine LF.nil ⟨by kernel_rfl, ?_⟩;refine zT (LW.drawW (by kernel_rfl) (by kernel_rfl) (zK Z (zK Z ?_)));refine yF (F := []) (s := none) Z (fun H _ => zn Z Z) Z ?_;refine yF (F := []) (s := none) Z (fun H _ => zA Z Z au) Z ?_;refine yF (F := []) (s := none) Z (fun H _ => zA Z Z cw) Z ?_;refine yF Z (zd Z Z Z aS Z Z) Z (yF Z (zd Z Z Z cR Z Z) Z ?_);refine yF (F := []) (s := none) Z (fun H _ => mS Z dQ Z Z Z Z Z) Z ?_;refine yF (F := []) (s := none) Z (fun H _ => ab.build Z oa Z Z Z) Z ?_;obtain ⟨v8, h_v8, hr⟩ := zB hr;refine yF (F := []) (s := none) Z (fun H _ => zC Z Z Z (by kernel_rfl) (zp (Eu h_v8) (.cons zv (.cons (Conv.agg (.cons Conv.zs (.cons zv .nil))) .nil)))) Z ?_;refine yF (F := []) (s := none) Z (fun H _ => zn Z Z) Z ?_;refine yF (F := []) (s := none) Z (fun H _ => zA Z Z au) Z ?_;refine yF (F := []) (s := none) Z (fun H _ => zA Z Z cw) Z ?_;refine yF Z (zt Z Z Z Z aS Z Z Z) Z ?_;refine LF.nil ⟨by kernel_rfl, ?_⟩;obtain rfl := zJ hr;exact fH (env' := []) (H' := [.box (bI c0), .box (nu n0), .box (dq in0), .box nO, .box [(iQ x.No), (iQ x.Tick), (kB v1.w_2), (kV v1.w_3), (kB v8.B), (kV v8.V), (kO ([] : List Of)), (uQ x.C.ID.1), (uQ x.C.ID.2), (iQ x.C.Slot), (iQ x.C.Revoked), (bQ v1.w_11), (kI c.W), (uQ c.Seed), (iQ c.Epoch), (iQ c.Num), (iQ c.Den), (iQ slot), (kO tl)], .vec 9 (o.map dN)]) (zW 6 trivial Z Z Z Z) .none (⟨rfl, rfl⟩)
  ·
   refine zo g2 hr fun hr => LW.skip ?_;obtain rfl := zJ hr;exact gh .none (⟨rfl, rfl⟩)
def ma (x : Nd) (c : Cf) (slot : Int) : Option (Vw × Vw × Cu × Bool) :=
 (kC x.In c slot x.V x.Full).bind fun v1 =>
 (iL c v1.2.1 slot).bind fun v2 =>
 (sb c v1.2.1 slot v2).bind fun v3 =>
 bif few v1.2.1.B then
  some (v1.2.1, v1.1, c8 x.C v1.2.1.B v2 v3.1 v3.2 slot, v1.2.2)
 else none
theorem Fi {x : Nd} {o : List Of} {c : Cf} {slot : Int} {tl : List Of} {c0 : Cf} {n0 : Nd} {in0 : Vw} {r_ : Vw × Vw × Cu × Bool} (hr : ma x c slot = some r_) : LC Tryz.prog 101 [.ptr 4 0] [.box (bI c0), .box (nu n0), .box (dq in0), .box nO, .box [(iQ x.No), (iQ x.Tick), (kB x.V.B), (kV x.V.V), (kB x.In.B), (kV x.In.V), (jO 5 o), (uQ x.C.ID.1), (uQ x.C.ID.2), (iQ x.C.Slot), (iQ x.C.Revoked), (bQ x.Full), (kI c.W), (uQ c.Seed), (iQ c.Epoch), (iQ c.Num), (iQ c.Den), (iQ slot), (kO tl)], .vec 9 (o.map dN)] (Is (.tup []) [.box (bI c0), .box (nu n0), .box (dq in0), .box nO, .box [(iQ x.No), (iQ x.Tick), (kB r_.1.B), (kV r_.1.V), (kB r_.2.1.B), (kV r_.2.1.V), (kO ([] : List Of)), (uQ r_.2.2.1.ID.1), (uQ r_.2.2.1.ID.2), (iQ r_.2.2.1.Slot), (iQ r_.2.2.1.Revoked), (bQ r_.2.2.2), (kI c.W), (uQ c.Seed), (iQ c.Epoch), (iQ c.Num), (iQ c.Den), (iQ slot), (kO tl)], .vec 9 (o.map dN)]) := by
 refine dp Tryz.func101 Z Z Z ?_;unfold ma at hr;refine zQ (zR (zM Z (zM Z (zM Z (yS Z (zn Z Z) (yS Z (zA Z Z au) (yS Z (zA Z Z cw) (yS Z (zD Z Z Z aS Z Z) (zb hr fun v1 h_v1 hr => yS Z (zC Z Z Z (by kernel_rfl) (pF (x := Nd.mk x.No x.Tick x.V x.In [] x.C x.Full) (o := o) (tl := tl) h_v1)) (yS Z (zn Z Z) (yS Z (zA Z Z au) (yS Z (zA Z Z cw) (yS Z (zs Z Z Z Z aS Z Z Z Z) (zN (zT (zQ (zR (zM Z (yS Z (zn Z Z) (yS Z (zA Z Z au) (yS Z (zA Z Z cJ) (yS Z (zs Z Z Z Z bZ Z Z Z Z) ?_))))))))))))))))))))));refine zN (zT (zQ (LW.ent (bO.zsCell (i := 4) (j := 6) (m := 9) Z Z Z Z) (zR (zM Z (zM Z (yS Z (zn Z Z) (yS Z (zA Z Z cK) (yS Z (zD Z Z Z bC Z Z) (zb hr fun v2 h_v2 hr => yS Z (zC Z Z Z (by kernel_rfl) (ve (x := Nd.mk x.No x.Tick v1.2.1 v1.1 [] x.C v1.2.2) (o := o) (tl := tl) (tg h_v2))) (yS Z (ze Z ka Z Z) (yS Z (zs Z Z Z Z aR Z Z Z Z) (zN (zT (zQ (LW.ent (bO.slot Z) (LW.drawW (by kernel_rfl) (by kernel_rfl) (zK Z ?_))))))))))))))))));refine yF (F := []) (s := none) Z (fun H _ => zn Z Z) Z ?_;refine yF (F := []) (s := none) Z (fun H _ => zA Z Z gN) Z ?_;refine yF Z (zd Z Z Z bA Z Z) Z (zK Z ?_);refine yF (F := []) (s := none) Z (fun H _ => zn Z Z) Z ?_;refine yF (F := []) (s := none) Z (fun H _ => zA Z Z au) Z ?_;refine yF (F := []) (s := none) Z (fun H _ => zA Z Z bV) Z ?_;refine yF Z (zd Z Z Z aS Z Z) Z (zK Z ?_);refine yF (F := []) (s := none) Z (fun H _ => zn Z Z) Z ?_;refine yF (F := []) (s := none) Z (fun H _ => zA Z Z cK) Z ?_;refine yF Z (zd Z Z Z bC Z Z) Z (yF Z (zd Z Z Z aR Z Z) Z (zb hr fun v3 h_v3 hr => ?_));refine yF (F := []) (s := none) Z (fun H _ => zC Z Z Z (by kernel_rfl) (zp (Jf h_v3) (.cons zv (.cons zv (.cons zv (.cons zv .nil)))))) Z ?_;refine zK Z ?_;refine yF (F := []) (s := none) Z (fun H _ => fd Z Z Z) Z ?_;refine yF (F := []) (s := none) Z (fun H _ => fd Z Z Z) Z ?_;refine yF Z (bL.alloc Z ka (id := 7) Z) Z (yF Z (zt Z Z Z Z aR Z Z Z) Z (zK Z ?_));refine LF.nil ⟨by kernel_rfl, ?_⟩;refine zT (LW.drawW (by kernel_rfl) (by kernel_rfl) (zK Z (zK Z ?_)));refine yF (F := []) (s := none) Z (fun H _ => zn Z Z) Z ?_;refine yF (F := []) (s := none) Z (fun H _ => zA Z Z au) Z ?_;refine yF (F := []) (s := none) Z (fun H _ => zA Z Z jc) Z ?_;refine yF Z (zd Z Z Z j5 Z Z) Z (zK Z ?_);refine yF (F := []) (s := none) Z (fun H _ => zn Z Z) Z ?_;refine yF (F := []) (s := none) Z (fun H _ => zA Z Z au) Z ?_;refine yF (F := []) (s := none) Z (fun H _ => zA Z Z bV) Z ?_;refine yF (F := []) (s := none) Z (fun H _ => zA Z Z bz) Z ?_;refine yF Z (zd Z Z Z dA Z Z) Z (yF Z (zd Z Z Z aR Z Z) Z (yF Z (zd Z Z Z aR Z Z) Z (zK Z (zK Z ?_))));refine yF (F := []) (s := none) Z (fun H _ => zn Z Z) Z ?_;refine yF (F := []) (s := none) Z (fun H _ => zA Z Z cK) Z ?_;refine yF Z (zd Z Z Z bC Z Z) Z (zg hr fun q1 hr => ?_);refine yF (F := []) (s := none) Z (fun H _ => zC Z Z Z (by kernel_rfl) (zp (Mb (c := x.C) (l := v1.2.1.B) (head := v2) (found := v3.1) (is := v3.2) (slot := slot) (qz q1)) (.cons zv (.cons zv (.cons zv (.cons zv (.cons zv (.cons zv .nil)))))))) Z ?_;refine yF (F := []) (s := none) Z (fun H _ => zn Z Z) Z ?_;refine yF (F := []) (s := none) Z (fun H _ => zA Z Z au) Z ?_;refine yF (F := []) (s := none) Z (fun H _ => zA Z Z jc) Z ?_;refine yF Z (zt Z Z Z Z j5 Z Z Z) Z ?_;refine LF.nil ⟨by kernel_rfl, ?_⟩;obtain rfl := zJ hr;refine fH (env' := []) (H' := [.box (bI c0), .box (nu n0), .box (dq in0), .box nO, .box [(iQ x.No), (iQ x.Tick), (kB v1.2.1.B), (kV v1.2.1.V), (kB v1.1.B), (kV v1.1.V), (kO ([] : List Of)), .p (.int .u64 (((c8 x.C v1.2.1.B v2 v3.1 v3.2 slot).ID).1)), .p (.int .u64 (((c8 x.C v1.2.1.B v2 v3.1 v3.2 slot).ID).2)), .p (.int .i64 ((c8 x.C v1.2.1.B v2 v3.1 v3.2 slot).Slot)), .p (.int .i64 ((c8 x.C v1.2.1.B v2 v3.1 v3.2 slot).Revoked)), (bQ v1.2.2), (kI c.W), (uQ c.Seed), (iQ c.Epoch), (iQ c.Num), (iQ c.Den), (iQ slot), (kO tl)], .vec 9 (o.map dN)]) (zW 6 trivial Z Z Z Z) .none ?_
 exact ⟨rfl, rfl⟩
open Go.Proofs
theorem yv {b : Bool} {p : Prop} (h1 : b = true → p) (h2 : b = false → p) : p := by cases b <;> simp_all
theorem ub {a b : Int} (h : (a == b) = true) : LV.p (.int .i64 a) = (iQ b) := by rw [eq_of_beq h]
structure dF where
 t57 : Int
 o5 : List Of
def iS (n : Nd) (x1 : dF) : Option (dF ⊕ dF) :=
 bif decide (x1.t57 < (n.O.length : Int)) then
  (ix n.O x1.t57).bind fun y1 =>
  (pY y1).bind fun v6 =>
  bif room x1.o5.length [v6].length 104 then
   some (.inl (dF.mk (IntKind.i64.wrap (x1.t57 + 1)) (x1.o5 ++ [v6])))
  else none
 else
  some (.inr (dF.mk x1.t57 x1.o5))
def iR (c : Cf) (n : Nd) (v_in : Vw) (o : List Of) : Option (Nd × (List Of)) :=
 (
  (ym c).bind fun v2 =>
  bif !v2 then
   some true
  else
   bif decide (n.Tick < 3) then
    some true
   else
    some (decide ((IntKind.i64.wrap (n.Tick.tdiv 3)) > 1048576))
 ).bind fun v1 =>
 bif v1 then
  (pW n.V).bind fun v3 =>
  (pW n.In).bind fun v4 =>
  (iter (iS n) bG (dF.mk 0 ([] : List Of))).bind fun v5 =>
  some (Nd.mk n.No n.Tick v3 v4 v5.o5 n.C n.Full, [])
 else
  (HW c v_in).bind fun v7 =>
  (yn n.In v7).bind fun v8 =>
  (uW o (Nd.mk n.No n.Tick n.V v8 n.O n.C n.Full) c (IntKind.i64.wrap (n.Tick.tdiv 3))).bind fun v9 =>
  bif (n.Tick.tmod 3) == 0 then
   (nT (Nd.mk n.No n.Tick n.V v8 [] n.C v9.2) c (IntKind.i64.wrap (n.Tick.tdiv 3)) ([] : List Of)).bind fun v10 =>
   some (Nd.mk n.No (IntKind.i64.wrap (n.Tick + 1)) v10.1 v10.2.1 v9.1 n.C v10.2.2.1, v10.2.2.2)
  else
   bif (n.Tick.tmod 3) == 1 then
    (ly (Nd.mk n.No n.Tick n.V v8 [] n.C v9.2) v9.1 c (IntKind.i64.wrap (n.Tick.tdiv 3))).bind fun v11 =>
    some (Nd.mk n.No (IntKind.i64.wrap (n.Tick + 1)) v11.1 v11.2.1 [] n.C v11.2.2, [])
   else
    bif (n.Tick.tmod 3) == 2 then
     (ma (Nd.mk n.No n.Tick n.V v8 [] n.C v9.2) c (IntKind.i64.wrap (n.Tick.tdiv 3))).bind fun v12 =>
     some (Nd.mk n.No (IntKind.i64.wrap (n.Tick + 1)) v12.1 v12.2.1 [] v12.2.2.1 v12.2.2.2, [])
    else none
theorem I9 {c : Cf} {n : Nd} {v_in : Vw} {o : List Of} {r_ : Nd × (List Of)} (hr : iR c n v_in o = some r_) : aw Tryz.prog 53 [jC c, ic n, mP v_in, .slice 9 (o.map dN)] [ic r_.1, .slice 9 (r_.2.map dN)] := by
 refine zh Tryz.func53 Z Z Z Z ?_;unfold iR at hr;refine zQ (zR (yS Z (b6 Z Z Z Z Z) (yS Z (b6 Z Z Z Z Z) (yS Z (b6 Z Z Z Z Z) (yS Z (ze Z ui Z Z) (zM Z (zN (zT (zQ (zR (yS Z (zD Z Z Z dc Z Z) (yS Z (zD Z Z Z bA Z Z) (yS Z (zA Z Z cY) (yS Z (zD Z Z Z bC Z Z) (yS Z (ab.quo Z Z Z (by decide)) (yS Z (ab.build Z G4 Z Z Z) (yS Z (b6 Z Z Z Z Z) (zM Z (zN (zT (zQ ?_)))))))))))))))))))));obtain ⟨v1, hb_v1, ho_v1⟩ := zB hr;clear hr;refine LW.cut (E := [(3, (kO o)), (4, .ptr 0 0), (5, .ptr 1 0), (6, .ptr 2 0), (8, .ptr 3 0), (9, .zs), (10, .ptr 4 0), (35, (bQ v1))]) (O := [.box (bI c), .box (nu n), .box (dq v_in), .box nO, .box [(iQ n.No), (iQ n.Tick), (kB n.V.B), (kV n.V.V), (kB n.In.B), (kV n.In.V), (kO n.O), (uQ n.C.ID.1), (uQ n.C.ID.2), (iQ n.C.Slot), (iQ n.C.Revoked), (bQ n.Full), (kI c.W), (uQ c.Seed), (iQ c.Epoch), (iQ c.Num), (iQ c.Den), .p (.int .i64 (IntKind.i64.wrap (n.Tick.tdiv 3))), .zs]]) ?_ ?_
 ·have hr := hb_v1;refine zR (yS Z (zD Z Z Z bA Z Z) (zb hr fun v2 h_v2 hr => yS Z (zC Z Z Z (by kernel_rfl) (zp (F9 h_v2) (.cons zv .nil))) (yS Z (ab.not Z Z) (zM Z ?_))));refine zc 24 Z (fun g1 => ?_) (fun g1 => ?_)
  ·
   refine zi g1 hr fun hr => yU Z (gd g1 Z) Z (yU Z (gd g1 Z) Z (yU Z (gd g1 Z) Z (yS Z (eF Z (bM g1 Z) Z) (zM Z (yU Z Z Z (yU Z Z Z (yU Z Z Z (yU Z Z Z (yU Z Z Z (yS Z (eF Z Z Z) (zN (zT ?_))))))))))));obtain rfl := zJ hr;exact zW 5 ⟨Z, Z, Z, Z, Z, Z, Z, Z, trivial⟩ Z Z Z Z
  ·
   refine zo g1 hr fun hr => yV Z (gd g1 Z) (zA Z Z cY) (yV Z (gd g1 Z) (zD Z Z Z bC Z Z) (yV Z (gd g1 Z) (ax Z Z Z Z) (yS Z (df Z (bM g1 Z) Z) (zM Z ?_))));refine zc 29 Z (fun g2 => ?_) (fun g2 => ?_)
   ·
    refine zi g2 hr fun hr => yU Z (gd g2 Z) Z (yU Z (gd g2 Z) Z (yU Z (gd g2 Z) Z (yU Z (gd g2 Z) Z (yU Z (gd g2 Z) Z (yS Z (eF Z (bM g2 Z) Z) (zN (zT ?_)))))));obtain rfl := zJ hr;exact zW 5 ⟨Z, Z, Z, Z, Z, Z, Z, Z, trivial⟩ Z Z Z Z
   ·
    refine zo g2 hr fun hr => yV Z (gd g2 Z) (zm Z Z) (yV Z (gd g2 Z) (zn Z Z) (yV Z (gd g2 Z) (zA Z Z cK) (yV Z (gd g2 Z) (zD Z Z Z bC Z Z) (yV Z (gd g2 Z) (ax Z Z Z Z) (yS Z (df Z (bM g2 Z) Z) (zN (zT ?_)))))));obtain rfl := zJ hr;exact zW 5 ⟨Z, Z, Z, Z, Z, Z, Z, Z, trivial⟩ Z Z Z Z
 ·have hr := ho_v1;clear hb_v1;refine zX Z (fun g3 => ?_) (fun g3 => ?_)
  ·
   refine zi g3 hr fun hr => zQ (LW.drawW (by kernel_rfl) (by kernel_rfl) (zK Z (zK Z ?_)));refine yF (F := []) (s := none) Z (fun H _ => zA Z Z bV) Z ?_;refine yF Z (zd Z Z Z aS Z Z) Z (zb hr fun v3 h_v3 hr => ?_);refine yF (F := []) (s := none) Z (fun H _ => zC Z Z Z (by kernel_rfl) (zp (CN h_v3) (.cons zv .nil))) Z ?_;refine yF (F := []) (s := none) Z (fun H _ => zA Z Z cw) Z ?_;refine yF Z (zd Z Z Z aS Z Z) Z (zb hr fun v4 h_v4 hr => ?_);refine yF (F := []) (s := none) Z (fun H _ => zC Z Z Z (by kernel_rfl) (zp (CN h_v4) (.cons zv .nil))) Z ?_;refine yF (F := []) (s := none) Z (fun H _ => zn Z Z) Z ?_;refine yF (F := []) (s := none) Z (fun H _ => zA Z Z au) Z ?_;refine yF (F := []) (s := none) Z (fun H _ => zA Z Z bV) Z ?_;refine yF Z (zt Z Z Z Z aS Z Z Z) Z ?_;refine yF (F := []) (s := none) Z (fun H _ => zn Z Z) Z ?_;refine yF (F := []) (s := none) Z (fun H _ => zA Z Z au) Z ?_;refine yF (F := []) (s := none) Z (fun H _ => zA Z Z cw) Z ?_;refine yF Z (zt Z Z Z Z aS Z Z Z) Z ?_;refine LF.nil ⟨by kernel_rfl, ?_⟩;refine zT (zQ (zR (zM Z (yS Z (zn Z Z) (yS Z (zA Z Z au) (yS Z (zA Z Z cJ) (yS Z (zs Z Z Z Z bZ Z Z Z Z) (zN (zT (zQ (zQ (LW.ent (bO.lazyCell (i := 4) (j := 6) (m := 9) Z Z Z Z Z Z) (zR (yS Z (zA Z Z cJ) (yS Z (zD Z Z Z bZ Z Z) (yS Z (d7 Z Z (by kernel_rfl)) (zM Z (zN (zT ?_)))))))))))))))))));obtain ⟨v5, hb_v5, ho_v5⟩ := zB hr;clear hr;refine LW.tail (E := [(3, (kO o)), (4, .ptr 0 0), (5, .ptr 1 0), (6, .ptr 2 0), (8, .ptr 3 0), (9, .zs), (10, .ptr 4 0)]) (O := [.box (bI c), .box (nu n), .box (dq v_in), .box nO, .box [(iQ n.No), (iQ n.Tick), (kB v3.B), (kV v3.V), (kB v4.B), (kV v4.V), (jO 5 v5.o5), (uQ n.C.ID.1), (uQ n.C.ID.2), (iQ n.C.Slot), (iQ n.C.Revoked), (bQ n.Full), (kI c.W), (uQ c.Seed), (iQ c.Epoch), (iQ c.Num), (iQ c.Den), .p (.int .i64 (IntKind.i64.wrap (n.Tick.tdiv 3))), .zs], .vec 9 (v5.o5.map dN)]) ?_ (fun env_v5 H_v5 hw_v5 => ?_)
   ·refine LW.block ?_;refine LW.iterB (E := fun x1 : dF => [(3, (kO o)), (4, .ptr 0 0), (5, .ptr 1 0), (6, .ptr 2 0), (8, .ptr 3 0), (9, .zs), (10, .ptr 4 0), (55, (kO n.O)), (56, .p (.int .i64 (n.O.length : Int))), (57, (iQ x1.t57))]) (O := fun x1 => [.box (bI c), .box (nu n), .box (dq v_in), .box nO, .box [(iQ n.No), (iQ n.Tick), (kB v3.B), (kV v3.V), (kB v4.B), (kV v4.V), (jO 5 x1.o5), (uQ n.C.ID.1), (uQ n.C.ID.2), (iQ n.C.Slot), (iQ n.C.Revoked), (bQ n.Full), (kI c.W), (uQ c.Seed), (iQ c.Epoch), (iQ c.Num), (iQ c.Den), .p (.int .i64 (IntKind.i64.wrap (n.Tick.tdiv 3))), .zs], .vec 9 (x1.o5.map dN)]) hb_v5 (zW 6 ⟨rfl, rfl, rfl, rfl, rfl, rfl, rfl, rfl, rfl, rfl, trivial⟩ Z Z Z Z) (fun x1 z_x1 hr hb_x1 => ?_);unfold iS at hr;refine zQ (zR (yS Z (ax Z Z Z Z) (zN (zT (zQ ?_)))));refine zX Z (fun g4 => ?_) (fun g4 => ?_)
    ·
     refine zi g4 hr fun hr => zk (zT (zQ (zl (zQ (zR (zb hr fun y1 h_y1 hr => yS Z (zx Z Z Z cz h_y1 Z) (yS Z (d6 Z Z Z fZ Z Z) (yS Z (ze Z rF Z Z) (yS Z (zs Z Z Z Z fZ Z Z Z Z) (zN (zT (LW.drawW (by kernel_rfl) (by kernel_rfl) (zK Z (zK Z ?_))))))))))))));refine yF (F := []) (s := none) Z (fun H _ => zn Z Z) Z ?_;refine yF (F := []) (s := none) Z (fun H _ => zA Z Z au) Z ?_;refine yF (F := []) (s := none) Z (fun H _ => zA Z Z cJ) Z ?_;refine yF Z (zd Z Z Z bZ Z Z) Z (yF Z (zd Z Z Z fZ Z Z) Z (zb hr fun v6 h_v6 hr => ?_));refine yF (F := []) (s := none) Z (fun H _ => zC Z Z Z (by kernel_rfl) (zp (CO h_v6) (.cons zv .nil))) Z ?_;refine yF (F := []) (s := none) Z (fun H _ => mS Z cz Z Z Z Z Z) Z ?_;refine zg hr fun q1 hr => yF Z (bL.appendX dN x1.o5 [v6] rfl Z Z Z Z cz q1) Z ?_;refine yF (F := []) (s := none) Z (fun H _ => zn Z Z) Z ?_;refine yF (F := []) (s := none) Z (fun H _ => zA Z Z au) Z ?_;refine yF (F := []) (s := none) Z (fun H _ => zA Z Z cJ) Z ?_;refine yF Z (zt Z Z Z Z bZ Z Z Z) Z ?_;refine LF.nil ⟨by kernel_rfl, ?_⟩;refine ai (zT (zR (yS Z (ax Z Z Z Z) (zM Z (zN (zT ?_))))));obtain rfl := zJ hr;exact ⟨_, rfl, zW 6 ⟨rfl, rfl, rfl, rfl, rfl, rfl, rfl, rfl, rfl, rfl, trivial⟩ Z Z Z rfl⟩
    ·
     refine zo g4 hr fun hr => zq (ap (ap (zy (zT ?_))));obtain rfl := zJ hr;have hr := congrArg some (hb_x1 _ rfl);obtain rfl := zJ hr;exact zW 6 ⟨Z, Z, Z, Z, Z, Z, Z, trivial⟩ Z Z Z Z
   ·have hr := ho_v5;clear hb_v5;refine zT (LW.weak hw_v5 (zQ (zR (zM Z (yS Z (zn Z Z) (yS Z (zA Z Z au) (yS Z (zD Z Z Z dc Z Z) (yS Z (zs Z Z Z Z dc Z Z Z Z) (zM Z (zN (zT (zr (aj ?_)))))))))))));obtain rfl := zJ hr;exact zf (.two (.cellAgg Z Z (by kernel_rfl) Z) (.tmp Z)) (⟨_, rfl, (.cons (Conv.agg (.cons zv (.cons zv (.cons zv (.cons zv (.cons zv (.cons zv (.cons (Conv.vecAll Z Z Z) (.cons zv (.cons zv (.cons zv (.cons zv (.cons zv .nil))))))))))))) (.cons Conv.zs .nil))⟩)
  ·
   refine zo g3 hr fun hr => zk (zT (zQ (LW.drawW (by kernel_rfl) (by kernel_rfl) (zK Z ?_))));refine yF (F := []) (s := none) Z (fun H _ => zA Z Z cw) Z ?_;refine yF Z (zd Z Z Z aS Z Z) Z (yF Z (zd Z Z Z bA Z Z) Z (yF Z (zd Z Z Z aS Z Z) Z (zb hr fun v7 h_v7 hr => ?_)));refine yF (F := []) (s := none) Z (fun H _ => zC Z Z Z (by kernel_rfl) (zp (L3 h_v7) (.cons zv (.cons zv .nil)))) Z ?_;obtain ⟨v8, h_v8, hr⟩ := zB hr;refine yF (F := []) (s := none) Z (fun H _ => zC Z Z Z (by kernel_rfl) (zp (Eu h_v8) (.cons zv (.cons zv .nil)))) Z ?_;refine yF (F := []) (s := none) Z (fun H _ => zn Z Z) Z ?_;refine yF (F := []) (s := none) Z (fun H _ => zA Z Z au) Z ?_;refine yF (F := []) (s := none) Z (fun H _ => zA Z Z cw) Z ?_;refine yF Z (zt Z Z Z Z aS Z Z Z) Z ?_;refine LF.nil ⟨by kernel_rfl, ?_⟩;refine zT (zQ (LW.ent (bO.zsCell (i := 4) (j := 18) (m := 9) Z Z Z Z) (zR (zM Z (zM Z (zb hr fun v9 h_v9 hr => yS Z (zC Z Z Z (by kernel_rfl) (Hs (x := Nd.mk n.No n.Tick n.V v8 n.O n.C n.Full) (tl := ([] : List Of)) h_v9)) (zN (zT (zQ (zR (yS Z (ab.build Z G5 Z Z Z) (yS Z (ze Z HT Z Z) (yS Z (zs Z Z Z Z HO Z Z Z Z) (zN (zT (zQ ?_))))))))))))))));refine yv (b := (n.Tick.tmod 3) == 0) (fun (g5 : ((n.Tick.tmod 3) == 0) = true) => ?_) (fun (g5 : ((n.Tick.tmod 3) == 0) = false) => ?_)
   ·
    refine zi g5 hr fun hr => zR (yS Z (zA Z Z cY) (yS Z (zD Z Z Z bC Z Z) (yS Z (ab.isEq (y := (iQ 0)) (ab.rem Z Z Z (by decide)) (ub g5)) (yS Z (ab.indexAddrA Z Z Z w0 (by decide) (by decide)) (yS Z (zD Z Z Z xR Z Z) (zM Z (zb hr fun v10 h_v10 hr => yS Z (zC Z Z Z (by kernel_rfl) (LC.pre (Fd (x := Nd.mk n.No n.Tick n.V v8 [] n.C v9.2) (o := v9.1) (tl := ([] : List Of)) h_v10) Z Z Z)) (zN (zT (zQ (zR (zM Z (yS Z (zn Z Z) (yS Z (zA Z Z au) (yS Z (zA Z Z cY) (yS Z (zD Z Z Z bC Z Z) (yS Z (ax Z Z Z Z) (yS Z (zn Z Z) (yS Z (zA Z Z au) (yS Z (zA Z Z cY) (yS Z (zs Z Z Z Z bC Z Z Z Z) ?_)))))))))))))))))))));refine zN (zT (zQ (LW.drawW (by kernel_rfl) (by kernel_rfl) (zK Z ?_))));refine yF (F := []) (s := none) Z (fun H _ => zn Z Z) Z ?_;refine yF (F := []) (s := none) Z (fun H _ => zA Z Z au) Z ?_;refine yF Z (zd Z Z Z dc Z Z) Z (zK Z ?_);refine yF (F := []) (s := none) Z (fun H _ => zn Z Z) Z ?_;refine yF (F := []) (s := none) Z (fun H _ => zA Z Z ng) Z ?_;refine yF Z (zd Z Z Z bZ Z Z) Z (yF Z (zt Z Z Z Z dc Z Z Z) Z (zK Z ?_));refine LF.nil ⟨by kernel_rfl, ?_⟩;refine zT (zr ?_);obtain rfl := zJ hr;exact zf (.two (.cellAgg Z Z (by kernel_rfl) Z) (.tmp Z)) (⟨_, rfl, (.cons (Conv.agg (.cons zv (.cons zv (.cons zv (.cons zv (.cons zv (.cons zv (.cons (Conv.vecAll Z Z Z) (.cons zv (.cons zv (.cons zv (.cons zv (.cons zv .nil))))))))))))) (.cons zv .nil))⟩)
   ·
    have hr := zO g5 hr;refine yv (b := (n.Tick.tmod 3) == 1) (fun (g6 : ((n.Tick.tmod 3) == 1) = true) => ?_) (fun (g6 : ((n.Tick.tmod 3) == 1) = false) => ?_)
    ·
     refine zi g6 hr fun hr => zR (yS Z (zA Z Z cY) (yS Z (zD Z Z Z bC Z Z) (yS Z (ab.isEq (y := (iQ 1)) (ab.rem Z Z Z (by decide)) (ub g6)) (yS Z (ab.indexAddrA Z Z Z w0 (by decide) (by decide)) (yS Z (zD Z Z Z xR Z Z) (zM Z (zb hr fun v11 h_v11 hr => yS Z (zC Z Z Z (by kernel_rfl) (LC.pre (CT (x := Nd.mk n.No n.Tick n.V v8 [] n.C v9.2) (o := v9.1) (tl := ([] : List Of)) h_v11) Z Z Z)) (zN (zT (zQ (zR (zM Z (yS Z (zn Z Z) (yS Z (zA Z Z au) (yS Z (zA Z Z cY) (yS Z (zD Z Z Z bC Z Z) (yS Z (ax Z Z Z Z) (yS Z (zn Z Z) (yS Z (zA Z Z au) (yS Z (zA Z Z cY) (yS Z (zs Z Z Z Z bC Z Z Z Z) ?_)))))))))))))))))))));refine zN (zT (zQ (LW.drawW (by kernel_rfl) (by kernel_rfl) (zK Z ?_))));refine yF (F := []) (s := none) Z (fun H _ => zn Z Z) Z ?_;refine yF (F := []) (s := none) Z (fun H _ => zA Z Z au) Z ?_;refine yF Z (zd Z Z Z dc Z Z) Z (zK Z ?_);refine yF (F := []) (s := none) Z (fun H _ => zn Z Z) Z ?_;refine yF (F := []) (s := none) Z (fun H _ => zA Z Z ng) Z ?_;refine yF Z (zd Z Z Z bZ Z Z) Z (yF Z (zt Z Z Z Z dc Z Z Z) Z (zK Z ?_));refine LF.nil ⟨by kernel_rfl, ?_⟩;refine zT (zr ?_);obtain rfl := zJ hr;exact zf (.two (.cellAgg Z Z (by kernel_rfl) Z) (.tmp Z)) (⟨_, rfl, (.cons zv (.cons zv .nil))⟩)
    ·
     refine zo g6 hr fun hr => zg hr fun q2 hr => zR (yS Z (zA Z Z cY) (yS Z (zD Z Z Z bC Z Z) (yS Z (ab.isEq (y := (iQ 2)) (ab.rem Z Z Z (by decide)) (ub q2)) (yS Z (ab.indexAddrA Z Z Z w0 (by decide) (by decide)) (yS Z (zD Z Z Z xR Z Z) (zM Z (zb hr fun v12 h_v12 hr => yS Z (zC Z Z Z (by kernel_rfl) (LC.pre (Fi (x := Nd.mk n.No n.Tick n.V v8 [] n.C v9.2) (o := v9.1) (tl := ([] : List Of)) h_v12) Z Z Z)) (zN (zT (zQ (zR (zM Z (yS Z (zn Z Z) (yS Z (zA Z Z au) (yS Z (zA Z Z cY) (yS Z (zD Z Z Z bC Z Z) (yS Z (ax Z Z Z Z) (yS Z (zn Z Z) (yS Z (zA Z Z au) (yS Z (zA Z Z cY) ?_))))))))))))))))))));refine yS Z (zs Z Z Z Z bC Z Z Z Z) (zN (zT (zQ (LW.drawW (by kernel_rfl) (by kernel_rfl) (zK Z ?_)))));refine yF (F := []) (s := none) Z (fun H _ => zn Z Z) Z ?_;refine yF (F := []) (s := none) Z (fun H _ => zA Z Z au) Z ?_;refine yF Z (zd Z Z Z dc Z Z) Z (zK Z ?_);refine yF (F := []) (s := none) Z (fun H _ => zn Z Z) Z ?_;refine yF (F := []) (s := none) Z (fun H _ => zA Z Z ng) Z ?_;refine yF Z (zd Z Z Z bZ Z Z) Z (yF Z (zt Z Z Z Z dc Z Z Z) Z (zK Z ?_));refine LF.nil ⟨by kernel_rfl, ?_⟩;refine zT (zr ?_);obtain rfl := zJ hr;exact zf (.two (.cellAgg Z Z (by kernel_rfl) Z) (.tmp Z)) (⟨_, rfl, (.cons zv (.cons zv .nil))⟩)
open Go.Proofs
theorem w5 {α : Type} {f : α → PV} {l : List α} (hb : room 0 l.length 8 = true) : LC Tryz.prog 46 [.p (.slice 1 (l.map f))] [] (Is (.vec 1 0 (l.map f).length 0 (l.map f).length) [.vec 1 (l.map f)]) := by
 refine dp Tryz.func46 Z Z Z ?_;refine zQ (zR (yS Z (za Z Z) (zN (zT (zQ (zQ (zR (yS Z (zm Z Z) (ao.cons Z Z Z (ab.eqNil Z Z Z fX) ?_)))))))));rintro _ _ ⟨rfl, b, rfl, hn⟩;refine zN (zT ?_);refine zX Z (fun g => ?_) (fun g => ?_)
 ·have hl : l = [] := List.map_eq_nil_iff.1 (hn g);subst hl;exact zQ (zR (yS Z (za Z Z) (zN (zT (LW.ent (bO.lazy (t := 2) (m := 1) Z Z Z) (zr (aj (aq (.one (.tmp Z)) ⟨rfl, rfl⟩))))))))
 ·refine LW.skip ?_;exact zT (zQ (zR (yS Z (ab.buildSlice0 Z fX) (yS Z (zm Z Z) (yS Z (ab.appendZX f l Z Z Z Z ku.p Z fX hb Z) (yS Z (za Z Z) (zN (zT (zr (aq (.one (.tmp Z)) ⟨rfl, rfl⟩))))))))))
theorem G9 {α : Type} {f : α → PV} {l : List α} (hb : room 0 l.length 176 = true) : LC Tryz.prog 81 [.p (.slice 12 (l.map f))] [] (Is (.vec 12 0 (l.map f).length 0 (l.map f).length) [.vec 12 (l.map f)]) := by
 refine dp Tryz.func81 Z Z Z ?_;refine zQ (zR (yS Z (za Z Z) (zN (zT (zQ (zQ (zR (yS Z (zm Z Z) (ao.cons Z Z Z (ab.eqNil Z Z Z dP) ?_)))))))));rintro _ _ ⟨rfl, b, rfl, hn⟩;refine zN (zT ?_);refine zX Z (fun g => ?_) (fun g => ?_)
 ·have hl : l = [] := List.map_eq_nil_iff.1 (hn g);subst hl;exact zQ (zR (yS Z (za Z Z) (zN (zT (LW.ent (bO.lazy (t := 2) (m := 12) Z Z Z) (zr (aj (aq (.one (.tmp Z)) ⟨rfl, rfl⟩))))))))
 ·refine LW.skip ?_;exact zT (zQ (zR (yS Z (ab.buildSlice0 Z dP) (yS Z (zm Z Z) (yS Z (ab.appendZX f l Z Z Z Z ku.p Z dP hb Z) (yS Z (za Z Z) (zN (zT (zr (aq (.one (.tmp Z)) ⟨rfl, rfl⟩))))))))))
theorem CQ {α : Type} {f : α → PV} {l : List α} (hb : room 0 l.length 104 = true) : LC Tryz.prog 94 [.p (.slice 9 (l.map f))] [] (Is (.vec 9 0 (l.map f).length 0 (l.map f).length) [.vec 9 (l.map f)]) := by
 refine dp Tryz.func94 Z Z Z ?_;refine zQ (zR (yS Z (za Z Z) (zN (zT (zQ (zQ (zR (yS Z (zm Z Z) (ao.cons Z Z Z (ab.eqNil Z Z Z cz) ?_)))))))));rintro _ _ ⟨rfl, b, rfl, hn⟩;refine zN (zT ?_);refine zX Z (fun g => ?_) (fun g => ?_)
 ·have hl : l = [] := List.map_eq_nil_iff.1 (hn g);subst hl;exact zQ (zR (yS Z (za Z Z) (zN (zT (LW.ent (bO.lazy (t := 2) (m := 9) Z Z Z) (zr (aj (aq (.one (.tmp Z)) ⟨rfl, rfl⟩))))))))
 ·refine LW.skip ?_;exact zT (zQ (zR (yS Z (ab.buildSlice0 Z cz) (yS Z (zm Z Z) (yS Z (ab.appendZX f l Z Z Z Z ku.p Z cz hb Z) (yS Z (za Z Z) (zN (zT (zr (aq (.one (.tmp Z)) ⟨rfl, rfl⟩))))))))))
def m0 (v : Vw) : Option Vw :=
 bif room 0 v.B.length 40 then
  bif room 0 v.V.length 32 then
   some v
  else none
 else none
theorem CP {v : Vw} {r_ : Vw} (hr : m0 v = some r_) : aw Tryz.prog 83 [mP v] [mP r_] := by
 refine zh Tryz.func83 Z Z Z Z ?_;unfold m0 at hr;refine zQ (zR (yS Z (b6 Z Z Z Z Z) (yS Z (ze Z ig Z Z) (zN (zT (zQ (LW.ent (bO.slot Z) (LW.ent (bO.slot Z) (LW.drawW (by kernel_rfl) (by kernel_rfl) ?_)))))))));refine yF (F := []) (s := none) Z (fun H _ => zA Z Z bz) Z ?_;refine yF Z (zd Z Z Z dA Z Z) Z (zg hr fun q1 hr => ?_);refine yF Z (bL.callV (id := 2) (qs := [(kB v.B)]) Z Z Z (by kernel_rfl) (vc q1) (fun H => (.consC zv .nil)) Z) Z ?_;refine yF (F := []) (s := none) Z (fun H _ => zA Z Z b9) Z ?_;refine yF Z (zd Z Z Z eU Z Z) Z (zg hr fun q2 hr => ?_);refine yF Z (bL.callV (id := 3) (qs := [(kV v.V)]) Z Z Z (by kernel_rfl) (vd q2) (fun H => (.consC zv .nil)) Z) Z ?_;refine yF (F := []) (s := none) Z (fun H _ => ab.build Z oa Z Z Z) Z ?_;refine yF Z (zt Z Z Z Z aS Z Z Z) Z ?_;refine LF.nil ⟨by kernel_rfl, ?_⟩;refine zT (zr ?_);obtain rfl := zJ hr;exact zf (.one (.cellAgg Z Z (by kernel_rfl) Z)) ((Conv.agg (.cons (Conv.vecAll Z Z Z) (.cons (Conv.vecAll Z Z Z) .nil))))
theorem p4 {v r_ : Vw} (h : m0 v = some r_) : v = r_ := by
 unfold m0 at h;obtain ⟨_, h⟩ := zG h;obtain ⟨_, h⟩ := zG h;exact zJ h
structure eh where
 t8 : Int
def iY (l : List Of) (x1 : eh) : Option (eh ⊕ eh) :=
 bif decide (x1.t8 < (l.length : Int)) then
  (ix l x1.t8).bind fun y1 =>
  (m0 y1.V).bind fun _ =>
  (ix l x1.t8).bind fun _ =>
  some (.inl (eh.mk (IntKind.i64.wrap (x1.t8 + 1))))
 else
  some (.inr (eh.mk x1.t8))
def oY (l : List Of) : Option (List Of) :=
 bif room 0 l.length 104 then
  (iter (iY l) bG (eh.mk 0)).bind fun _ =>
  some l
 else none
theorem F8 {l : List Of} {r_ : (List Of)} (hr : oY l = some r_) : aw Tryz.prog 82 [.slice 9 (l.map dN)] [.slice 9 (r_.map dN)] := by
 refine zh Tryz.func82 Z Z Z Z ?_;unfold oY at hr;refine zQ (zR (zM Z (zN (zT (zQ (zR (zM Z (zg hr fun q1 hr => yS Z (ab.callV (qs := [(kO l)]) Z Z Z (by kernel_rfl) (CQ q1) (.consC zv .nil) Z Z) (zM Z (zN (zT (zQ (zQ (zR (zM Z (yS Z (ab.lenVM Z Z Z (by kernel_rfl)) (zM Z (zN (zT ?_)))))))))))))))))));obtain ⟨v1, hb_v1, ho_v1⟩ := zB hr;clear hr;refine LW.tail (E := [(0, (jO 0 l)), (2, .zs)]) (O := [.vec 9 (l.map dN)]) ?_ (fun env_v1 H_v1 hw_v1 => ?_)
 ·refine LW.block ?_;refine LW.iterB (E := fun x1 : eh => [(0, (jO 0 l)), (2, .zs), (7, .p (.int .i64 (l.length : Int))), (8, (iQ x1.t8))]) (O := fun x1 => [.vec 9 (l.map dN)]) hb_v1 (zW 1 ⟨rfl, rfl, rfl, rfl, trivial⟩ Z Z Z Z) (fun x1 z_x1 hr hb_x1 => ?_);unfold iY at hr;refine zQ (zR (yS Z (ax Z Z Z Z) (zN (zT (zQ ?_)))));refine zX Z (fun g1 => ?_) (fun g1 => ?_)
  ·
   refine zi g1 hr fun hr => zk (zT (zQ (zl (zQ (zR (zM Z (zM Z (zN (zT (zR (zM Z (zM Z (zM Z (zM Z (zb hr fun y1 h_y1 hr => yS Z (ab.indexAddrVX Z Z Z Z cz h_y1) (yS Z (ab.fieldAddrV Z Z Z Z jd) (yS Z (ab.loadVX Z Z Z aS h_y1 Z Z Z Z) (zb hr fun v2 h_v2 hr => ?_))))))))))))))))));obtain rfl := p4 h_v2;refine yS Z (zC Z Z Z (by kernel_rfl) (zp (CP h_v2) (.cons zv .nil))) (zb hr fun y2 h_y2 hr => yS Z (ab.indexAddrVX Z Z Z Z cz h_y2) (yS Z (ab.fieldAddrV Z Z Z Z jd) ?_));obtain rfl := zJ (h_y1.symm.trans h_y2);refine yS Z (ab.storeVS (f := dN) (l := l) Z Z Z Z aS (fun _ => rfl) h_y2 Z Z Z Z Z) ?_;refine zN (ai (zT (zR (yS Z (ax Z Z Z Z) (zM Z (zN (zT ?_)))))));obtain rfl := zJ hr;exact ⟨_, rfl, zW 1 ⟨rfl, rfl, rfl, rfl, trivial⟩ Z Z Z rfl⟩
  ·
   refine zo g1 hr fun hr => zq (ap (ap (zy (zT ?_))));obtain rfl := zJ hr;have hr := congrArg some (hb_x1 _ rfl);obtain rfl := zJ hr;exact zW 1 ⟨Z, Z, trivial⟩ Z Z Z Z
 ·have hr := ho_v1;clear hb_v1;refine zT (LW.weak hw_v1 (zQ (zR (zM Z (zM Z (zN (zT (zr ?_))))))));obtain rfl := zJ hr;exact zf (.one (.tmp Z)) ((Conv.vecAll Z Z Z))
theorem uP {v r_ : List Of} (h : oY v = some r_) : v = r_ := by
 unfold oY at h;obtain ⟨_, h⟩ := zG h;obtain ⟨_, _, h⟩ := zB h;exact zJ h
structure eg where
 t20 : Int
def iX (w : Wd) (x1 : eg) : Option (eg ⊕ eg) :=
 bif decide (x1.t20 < (w.N.length : Int)) then
  (ix w.N x1.t20).bind fun y1 =>
  (m0 y1.V).bind fun _ =>
  (m0 y1.In).bind fun _ =>
  (oY y1.O).bind fun _ =>
  some (.inl (eg.mk (IntKind.i64.wrap (x1.t20 + 1))))
 else
  some (.inr (eg.mk x1.t20))
def oX (w : Wd) : Option Wd :=
 bif room 0 w.Bad.length 8 then
  bif room 0 w.N.length 176 then
   (oY w.O).bind fun _ =>
   (iter (iX w) bG (eg.mk 0)).bind fun _ =>
   some w
  else none
 else none
theorem F7 {w : Wd} {r_ : Wd} (hr : oX w = some r_) : aw Tryz.prog 50 [Ei w] [Ei r_] := by
 refine zh Tryz.func50 Z Z Z Z ?_;unfold oX at hr;refine zQ (zR (yS Z (b6 Z Z Z Z Z) (yS Z (ze Z j9 Z Z) (zN (zT (zQ (LW.ent (bO.slot Z) (LW.ent (bO.slot Z) (LW.drawW (by kernel_rfl) (by kernel_rfl) ?_)))))))));refine yF (F := []) (s := none) Z (fun H _ => zA Z Z kJ) Z ?_;refine yF Z (zd Z Z Z fc Z Z) Z (zg hr fun q1 hr => ?_);refine yF Z (bL.callV (id := 2) (qs := [(kI w.Bad)]) Z Z Z (by kernel_rfl) (w5 q1) (fun H => (.consC zv .nil)) Z) Z ?_;refine yF (F := []) (s := none) Z (fun H _ => zA Z Z bF) Z ?_;refine yF Z (zd Z Z Z db Z Z) Z (zg hr fun q2 hr => ?_);refine yF Z (bL.callV (id := 3) (qs := [.p (.slice 12 (w.N.map ic))]) Z Z Z (by kernel_rfl) (G9 q2) (fun H => (.consC zv .nil)) Z) Z ?_;refine yF (F := []) (s := none) Z (fun H _ => zA Z Z jb) Z ?_;refine yF Z (zd Z Z Z bZ Z Z) Z (zb hr fun v1 h_v1 hr => ?_);obtain rfl := uP h_v1;refine yF (F := []) (s := none) Z (fun H _ => zC Z Z Z (by kernel_rfl) (zp (F8 h_v1) (.cons zv .nil))) Z ?_;refine yF (F := []) (s := none) Z (fun H _ => zA Z Z kJ) Z ?_;refine yF Z (zt Z Z Z Z fc Z Z Z) Z ?_;refine yF (F := []) (s := none) Z (fun H _ => zA Z Z bF) Z ?_;refine yF Z (zt Z Z Z Z db Z Z Z) Z ?_;refine yF (F := []) (s := none) Z (fun H _ => zA Z Z jb) Z ?_;refine yF Z (zt Z Z Z Z bZ Z Z Z) Z ?_;refine LF.nil ⟨by kernel_rfl, ?_⟩;refine zT (zQ (zQ (zR (yS Z (zA Z Z bF) (yS Z (zD Z Z Z db Z Z) (yS Z (ab.lenVM Z Z Z (by kernel_rfl)) (zM Z (zN (zT ?_)))))))));obtain ⟨v2, hb_v2, ho_v2⟩ := zB hr;clear hr;refine LW.tail (E := [(1, .ptr 0 0), (2, .ptr 1 0)]) (O := [.box [(kI w.C.W), (uQ w.C.Seed), (iQ w.C.Epoch), (iQ w.C.Num), (iQ w.C.Den), (jI 2 w.Bad), (iQ w.Tick), .vec 12 3 (w.N.map ic).length 0 (w.N.map ic).length, (kO w.O)], .box ul, .vec 1 (w.Bad.map aG), .vec 12 (w.N.map ic)]) ?_ (fun env_v2 H_v2 hw_v2 => ?_)
 ·refine LW.block ?_;refine LW.iterB (E := fun x1 : eg => [(1, .ptr 0 0), (2, .ptr 1 0), (19, .p (.int .i64 (w.N.length : Int))), (20, (iQ x1.t20))]) (O := fun x1 => [.box [(kI w.C.W), (uQ w.C.Seed), (iQ w.C.Epoch), (iQ w.C.Num), (iQ w.C.Den), (jI 2 w.Bad), (iQ w.Tick), .vec 12 3 (w.N.map ic).length 0 (w.N.map ic).length, (kO w.O)], .box ul, .vec 1 (w.Bad.map aG), .vec 12 (w.N.map ic)]) hb_v2 (zW 4 ⟨rfl, rfl, rfl, rfl, trivial⟩ Z Z Z Z) (fun x1 z_x1 hr hb_x1 => ?_);unfold iX at hr;refine zQ (zR (yS Z (ax Z Z Z Z) (zN (zT (zQ ?_)))));refine zX Z (fun g1 => ?_) (fun g1 => ?_)
  ·
   refine zi g1 hr fun hr => zk (zT (zQ (zl (zQ (zR (zM Z (zM Z (zN (zT (zQ (zR (yS Z (zA Z Z bF) (yS Z (zD Z Z Z db Z Z) (zM Z (zb hr fun y1 h_y1 hr => yS Z (ab.indexAddrVX Z Z Z Z dP h_y1) (zM Z (zN (zT (LW.draw2 (by kernel_rfl) (by kernel_rfl) (zH Z (zH Z ?_)))))))))))))))))))));refine zH Z (zH Z (yE Z (ab.nilCheckV Z Z Z Z) (yE Z (ab.fieldAddrV Z Z Z Z bV) (yE Z (ab.loadVX Z Z Z aS h_y1 Z Z Z Z) (zb hr fun v3 h_v3 hr => ?_)))));obtain rfl := p4 h_v3;refine yE Z (zC Z Z Z (by kernel_rfl) (zp (CP h_v3) (.cons zv .nil))) (zH Z (yE Z (ab.nilCheckV Z Z Z Z) (yE Z (ab.fieldAddrV Z Z Z Z cw) (yE Z (ab.loadVX Z Z Z aS h_y1 Z Z Z Z) (zb hr fun v4 h_v4 hr => ?_)))));obtain rfl := p4 h_v4;refine yE Z (zC Z Z Z (by kernel_rfl) (zp (CP h_v4) (.cons zv .nil))) (zH Z (yE Z (ab.nilCheckV Z Z Z Z) (yE Z (ab.fieldAddrV Z Z Z Z cJ) (yE Z (ab.loadVX Z Z Z bZ h_y1 Z Z Z Z) (zb hr fun v5 h_v5 hr => ?_)))));obtain rfl := uP h_v5;refine yE Z (zC Z Z Z (by kernel_rfl) (zp (F8 h_v5) (.cons zv .nil))) (yE Z (ab.nilCheckV Z Z Z Z) (yE Z (ab.fieldAddrV Z Z Z Z bV) ?_));refine yE Z (ab.storeVS (f := ic) (l := w.N) Z Z Z Z aS (fun _ => rfl) h_y1 Z Z Z Z Z) ?_;refine yE Z (ab.nilCheckV Z Z Z Z) (yE Z (ab.fieldAddrV Z Z Z Z cw) ?_);refine yE Z (ab.storeVS (f := ic) (l := w.N) Z Z Z Z aS (fun _ => rfl) h_y1 Z Z Z Z Z) ?_;refine yE Z (ab.nilCheckV Z Z Z Z) (yE Z (ab.fieldAddrV Z Z Z Z cJ) ?_);refine yE Z (ab.storeVS (f := ic) (l := w.N) Z Z Z Z bZ (fun _ => rfl) h_y1 Z Z Z Z Z) ?_;refine LO.nil (ai (zT (zR (yS Z (ax Z Z Z Z) (zM Z (zN (zT ?_)))))));obtain rfl := zJ hr;exact ⟨_, rfl, zW 4 ⟨rfl, rfl, rfl, rfl, trivial⟩ Z Z Z rfl⟩
  ·
   refine zo g1 hr fun hr => zq (ap (ap (zy (zT ?_))));obtain rfl := zJ hr;have hr := congrArg some (hb_x1 _ rfl);obtain rfl := zJ hr;exact zW 4 ⟨Z, Z, trivial⟩ Z Z Z Z
 ·have hr := ho_v2;clear hb_v2;refine zT (LW.weak hw_v2 (zQ (zR (yS Z (zD Z Z Z bK Z Z) (yS Z (zs Z Z Z Z bK Z Z Z Z) (zN (zT (zr ?_))))))));obtain rfl := zJ hr;exact zf (.one (.cellAgg Z Z (by kernel_rfl) Z)) ((Conv.agg (.cons zv (.cons zv (.cons zv (.cons zv (.cons zv (.cons (Conv.vecAll Z Z Z) (.cons zv (.cons (Conv.vecAll Z Z Z) (.cons zv .nil)))))))))))
open Go.Proofs
theorem uN {w r_ : Wd} (h : oX w = some r_) : w = r_ := by
 unfold oX at h;obtain ⟨_, h⟩ := zG h;obtain ⟨_, h⟩ := zG h;obtain ⟨_, _, h⟩ := zB h;obtain ⟨_, _, h⟩ := zB h;exact zJ h
def EZ (a : Ac) (w : Wd) : Option Bool :=
 bif a.Tick == w.Tick then
  some (decide (a.To ≥ 0))
 else
  some false
theorem JG {a : Ac} {w : Wd} {r_ : Bool} (hr : EZ a w = some r_) : LC Tryz.prog 85 [.p (kq a), .ptr 0 0] [.box (fh w)] (Is (bQ r_) [.box (fh w)]) := by
 refine dp Tryz.func85 Z Z Z ?_;unfold EZ at hr;refine zQ (zR (yS Z (b6 Z Z Z Z Z) (zM Z (zN (zT (zQ (zR (yS Z (zA Z Z C8) (yS Z (zD Z Z Z bC Z Z) (yS Z (zA Z Z ja) (yS Z (zD Z Z Z bC Z Z) (yS Z (ax Z Z Z Z) (zM Z ?_)))))))))))));refine zc 9 Z (fun g1 => ?_) (fun g1 => ?_)
 ·
  refine zi g1 hr fun hr => yV Z (gd g1 Z) (zA Z Z vA) (yV Z (gd g1 Z) (zD Z Z Z bC Z Z) (yV Z (gd g1 Z) (ax Z Z Z Z) (yS Z (eF Z (bM g1 Z) Z) (zM Z (zN (zT (zr ?_)))))));obtain rfl := zJ hr;exact a8 (env' := [(3, .p (.bool (decide (a.To ≥ 0))))]) (H' := [.box (fh w)]) (zW 1 ⟨rfl, trivial⟩ Z Z Z Z) (.one (.tmp Z)) (⟨rfl, rfl⟩)
 ·
  refine zo g1 hr fun hr => yU Z (gd g1 Z) Z (yU Z (gd g1 Z) Z (yU Z (gd g1 Z) Z (yS Z (df Z (bM g1 Z) Z) (zM Z (zN (zT (zr ?_)))))));obtain rfl := zJ hr;exact a8 (env' := [(3, (bQ false))]) (H' := [.box (fh w)]) (zW 1 ⟨rfl, trivial⟩ Z Z Z Z) (.one (.tmp Z)) (⟨rfl, rfl⟩)
structure cU where
 t10 : Int
 out : List Ac
def gl (l : List Ac) (w : Wd) (x1 : cU) : Option (cU ⊕ cU) :=
 bif decide (x1.t10 < (l.length : Int)) then
  (ix l x1.t10).bind fun y1 =>
  (EZ y1 w).bind fun v2 =>
  bif v2 then
   bif room x1.out.length [y1].length 72 then
    some (.inl (cU.mk (IntKind.i64.wrap (x1.t10 + 1)) (x1.out ++ [y1])))
   else none
  else
   some (.inl (cU.mk (IntKind.i64.wrap (x1.t10 + 1)) x1.out))
 else
  some (.inr (cU.mk x1.t10 x1.out))
def p8 (l : List Ac) (w : Wd) : Option (List Ac) :=
 (iter (gl l w) bG (cU.mk 0 ([] : List Ac))).bind fun v1 =>
 some v1.out
theorem Fe {l : List Ac} {w : Wd} {r_ : (List Ac)} (hr : p8 l w = some r_) : LC Tryz.prog 84 [.p (.slice 5 (l.map kq)), .fn 85 [] [.ptr 0 0]] [.box (fh w)] (Is (.p (.slice 5 (r_.map kq))) [.box (fh w)]) := by
 refine dp Tryz.func84 Z Z Z ?_;unfold p8 at hr;refine zQ (zR (zM Z (zN (zT (zQ (zR (zM Z (zN (zT (zQ (zQ (LW.ent (bO.lazy (t := 5) (m := 5) Z Z Z) (zR (zM Z (yS Z (d7 Z Z (by kernel_rfl)) (zM Z (zN (zT ?_))))))))))))))))));obtain ⟨v1, hb_v1, ho_v1⟩ := zB hr;clear hr;refine LW.tail (E := [(4, .zs), (5, .vec 5 1 (v1.out.map kq).length 0 (v1.out.map kq).length)]) (O := [.box (fh w), .vec 5 (v1.out.map kq)]) ?_ (fun env_v1 H_v1 hw_v1 => ?_)
 ·refine LW.block ?_;refine LW.iterB (E := fun x1 : cU => [(1, .fn 85 [] [.ptr 0 0]), (4, .zs), (5, .vec 5 1 (x1.out.map kq).length 0 (x1.out.map kq).length), (8, .p (.slice 5 (l.map kq))), (9, .p (.int .i64 (l.length : Int))), (10, (iQ x1.t10))]) (O := fun x1 => [.box (fh w), .vec 5 (x1.out.map kq)]) hb_v1 (zW 2 ⟨rfl, rfl, rfl, rfl, rfl, rfl, trivial⟩ Z Z Z Z) (fun x1 z_x1 hr hb_x1 => ?_);unfold gl at hr;refine zQ (zR (yS Z (ax Z Z Z Z) (zN (zT (zQ ?_)))));refine zX Z (fun g1 => ?_) (fun g1 => ?_)
  ·
   refine zi g1 hr fun hr => zk (zT (zQ (zl (zQ (zR (zb hr fun y1 h_y1 hr => yS Z (zx Z Z Z mG h_y1 Z) (yS Z (d6 Z Z Z j4 Z Z) (yS Z (ze Z xT Z Z) (yS Z (zs Z Z Z Z j4 Z Z Z Z) (zN (zT (zQ (zR (zM Z (yS Z (zD Z Z Z j4 Z Z) (zb hr fun v2 h_v2 hr => yS Z (zC Z Z Z (by kernel_rfl) (LC.pre (JG h_v2) Z Z Z)) (zN (zT ?_))))))))))))))))));refine zX Z (fun g2 => ?_) (fun g2 => ?_)
   ·
    refine zi g2 hr fun hr => zR (zM Z (yS Z (zD Z Z Z j4 Z Z) (yS Z (mS Z mG Z Z Z Z Z) (zg hr fun q1 hr => yS Z (ab.appendX kq x1.out [y1] rfl Z Z Z ku.p Z mG q1 Z) (zM Z (zN (ai (zT (zR (yS Z (ax Z Z Z Z) (zM Z (zN (zT ?_)))))))))))));obtain rfl := zJ hr;exact ⟨_, rfl, zW 2 ⟨rfl, rfl, rfl, rfl, rfl, rfl, trivial⟩ Z Z Z rfl⟩
   ·
    refine zo g2 hr fun hr => zk (ai (zT (zR (yS Z (ax Z Z Z Z) (zM Z (zN (zT ?_)))))));obtain rfl := zJ hr;exact ⟨_, rfl, zW 2 ⟨rfl, rfl, rfl, rfl, rfl, rfl, trivial⟩ Z Z Z rfl⟩
  ·
   refine zo g1 hr fun hr => zq (ap (ap (zy (zT ?_))));obtain rfl := zJ hr;have hr := congrArg some (hb_x1 _ rfl);obtain rfl := zJ hr;exact zW 2 ⟨Z, Z, trivial⟩ Z Z Z Z
 ·have hr := ho_v1;clear hb_v1;refine zT (LW.weak hw_v1 (zQ (LW.ent (bO.frz (t := 5) (env' := []) (H0 := [.box (fh w)]) Z Z Z Z Z trivial Z Z) (zR (zM Z (zM Z (zN (zT (zr ?_)))))))));obtain rfl := zJ hr;exact aq (.one (.tmp Z)) (⟨rfl, rfl⟩)
def Al (who : Int) (w : Wd) : Option Bool :=
 (tk w.Bad who).bind fun v1 =>
 some v1
theorem Gg {who : Int} {w : Wd} {al : Vw} {wh : Int} {me : Bool} {cl : List Ac} {r_ : Bool} (hr : Al who w = some r_) : LC Tryz.prog 86 [(iQ who), .ptr 2 0] (hM w al wh me cl 87 86) (Is (bQ r_) (hM w al wh me cl 87 86)) := by
 refine dp Tryz.func86 Z Z Z ?_;unfold Al at hr;refine zQ (zR (zM Z (zN (zT (zQ (zR (yS Z (zA Z Z kJ) (yS Z (zD Z Z Z fc Z Z) (zM Z (zb hr fun v1 h_v1 hr => yS Z (zC Z Z Z (by kernel_rfl) (zp (CM h_v1) (.cons zv (.cons zv .nil)))) (zM Z (zN (zT (zr ?_))))))))))))));obtain rfl := zJ hr;exact aq (.one (.tmp Z)) (⟨rfl, rfl⟩)
def uY (x : Bk) (w : Wd) (al : Vw) : Option Bool :=
 (Al x.From w).bind fun v1 =>
 bif v1 then
  some true
 else
  (Af al.B x).bind fun v2 =>
  some v2
theorem Hu {x : Bk} {w : Wd} {al : Vw} {wh : Int} {me : Bool} {cl : List Ac} {r_ : Bool} (hr : uY x w al = some r_) : LC Tryz.prog 89 [.p (ay x), .ptr 5 0, .ptr 4 0] (hM w al wh me cl 87 86) (Is (bQ r_) (hM w al wh me cl 87 86)) := by
 refine dp Tryz.func89 Z Z Z ?_;unfold uY at hr;refine zQ (zR (yS Z (b6 Z Z Z Z Z) (zM Z (zN (zT (zQ (zR (yS Z (zD Z Z Z tf Z Z) (yS Z (zA Z Z xf) (yS Z (zD Z Z Z bC Z Z) (zb hr fun v1 h_v1 hr => yS Z (zC Z Z Z (by kernel_rfl) (LC.pre (Gg h_v1) Z Z Z)) (zM Z ?_))))))))))));refine zc 9 Z (fun g1 => ?_) (fun g1 => ?_)
 ·
  refine zi g1 hr fun hr => yU Z (gd g1 Z) Z (yU Z (gd g1 Z) Z (yU Z (gd g1 Z) Z (yU Z (gd g1 Z) Z (yU Z (gd g1 Z) Z (yS Z (eF Z (bM g1 Z) Z) (zM Z (zN (zT (zr ?_)))))))));obtain rfl := zJ hr;exact a8 (env' := [(4, (bQ true))]) (H' := (hM w al wh me cl 87 86)) (zW 6 ⟨rfl, trivial⟩ Z Z Z Z) (.one (.tmp Z)) (⟨rfl, rfl⟩)
 ·
  refine zo g1 hr fun hr => yV Z (gd g1 Z) (zA Z Z qK) (yV Z (gd g1 Z) (zA Z Z bz) (yV Z (gd g1 Z) (zD Z Z Z dA Z Z) (yV Z (gd g1 Z) (zD Z Z Z cN Z Z) (zb hr fun v2 h_v2 hr => yV Z (gd g1 Z) (zC Z Z Z (by kernel_rfl) (zp (IY h_v2) (.cons zv (.cons zv .nil)))) (yS Z (df Z (bM g1 Z) Z) (zM Z (zN (zT (zr ?_)))))))));obtain rfl := zJ hr;exact a8 (env' := [(4, (bQ v2))]) (H' := (hM w al wh me cl 87 86)) (zW 6 ⟨rfl, trivial⟩ Z Z Z Z) (.one (.tmp Z)) (⟨rfl, rfl⟩)
def uZ (x : Vt) (w : Wd) (al : Vw) : Option Bool :=
 (Al x.From w).bind fun v1 =>
 bif v1 then
  some true
 else
  (Ag al.V x).bind fun v2 =>
  some v2
theorem Hv {x : Vt} {w : Wd} {al : Vw} {wh : Int} {me : Bool} {cl : List Ac} {r_ : Bool} (hr : uZ x w al = some r_) : LC Tryz.prog 92 [.p (aJ x), .ptr 5 0, .ptr 4 0] (hM w al wh me cl 87 86) (Is (bQ r_) (hM w al wh me cl 87 86)) := by
 refine dp Tryz.func92 Z Z Z ?_;unfold uZ at hr;refine zQ (zR (yS Z (b6 Z Z Z Z Z) (zM Z (zN (zT (zQ (zR (yS Z (zD Z Z Z tf Z Z) (yS Z (zA Z Z qN) (yS Z (zD Z Z Z bC Z Z) (zb hr fun v1 h_v1 hr => yS Z (zC Z Z Z (by kernel_rfl) (LC.pre (Gg h_v1) Z Z Z)) (zM Z ?_))))))))))));refine zc 9 Z (fun g1 => ?_) (fun g1 => ?_)
 ·
  refine zi g1 hr fun hr => yU Z (gd g1 Z) Z (yU Z (gd g1 Z) Z (yU Z (gd g1 Z) Z (yU Z (gd g1 Z) Z (yU Z (gd g1 Z) Z (yS Z (eF Z (bM g1 Z) Z) (zM Z (zN (zT (zr ?_)))))))));obtain rfl := zJ hr;exact a8 (env' := [(4, (bQ true))]) (H' := (hM w al wh me cl 87 86)) (zW 6 ⟨rfl, trivial⟩ Z Z Z Z) (.one (.tmp Z)) (⟨rfl, rfl⟩)
 ·
  refine zo g1 hr fun hr => yV Z (gd g1 Z) (zA Z Z qK) (yV Z (gd g1 Z) (zA Z Z b9) (yV Z (gd g1 Z) (zD Z Z Z eU Z Z) (yV Z (gd g1 Z) (zD Z Z Z cR Z Z) (zb hr fun v2 h_v2 hr => yV Z (gd g1 Z) (zC Z Z Z (by kernel_rfl) (zp (IZ h_v2) (.cons zv (.cons zv .nil)))) (yS Z (df Z (bM g1 Z) Z) (zM Z (zN (zT (zr ?_)))))))));obtain rfl := zJ hr;exact a8 (env' := [(4, (bQ v2))]) (H' := (hM w al wh me cl 87 86)) (zW 6 ⟨rfl, trivial⟩ Z Z Z Z) (.one (.tmp Z)) (⟨rfl, rfl⟩)
structure cV where
 t10 : Int
 out : List Bk
def gm (l : List Bk) (w : Wd) (al : Vw) (x1 : cV) : Option (cV ⊕ cV) :=
 bif decide (x1.t10 < (l.length : Int)) then
  (ix l x1.t10).bind fun y1 =>
  (uY y1 w al).bind fun v2 =>
  bif v2 then
   bif room x1.out.length [y1].length 40 then
    some (.inl (cV.mk (IntKind.i64.wrap (x1.t10 + 1)) (x1.out ++ [y1])))
   else none
  else
   some (.inl (cV.mk (IntKind.i64.wrap (x1.t10 + 1)) x1.out))
 else
  some (.inr (cV.mk x1.t10 x1.out))
def p9 (l : List Bk) (w : Wd) (al : Vw) : Option (List Bk) :=
 (iter (gm l w al) bG (cV.mk 0 ([] : List Bk))).bind fun v1 =>
 some v1.out
theorem Ff {l : List Bk} {w : Wd} {al : Vw} {wh : Int} {me : Bool} {cl : List Ac} {r_ : (List Bk)} (hr : p9 l w al = some r_) : LC Tryz.prog 88 [(kB l), .fn 89 [] [.ptr 5 0, .ptr 4 0]] (hM w al wh me cl 87 86) (Is (kB r_) (hM w al wh me cl 87 86)) := by
 refine dp Tryz.func88 Z Z Z ?_;unfold p9 at hr;refine zQ (zR (zM Z (zN (zT (zQ (zR (zM Z (zN (zT (zQ (zQ (LW.ent (bO.lazy (t := 5) (m := 5) Z Z Z) (zR (zM Z (yS Z (d7 Z Z (by kernel_rfl)) (zM Z (zN (zT ?_))))))))))))))))));obtain ⟨v1, hb_v1, ho_v1⟩ := zB hr;clear hr;refine LW.tail (E := [(4, .zs), (5, (jB 6 v1.out))]) (O := [.box (fh w), .box ul, .box (fh w), .box (kS w al wh me cl 87 5 4), .box (kS w al wh me cl 87 5 4), .box [.fn 86 [] [.ptr 2 0]], .vec 5 (v1.out.map ay)]) ?_ (fun env_v1 H_v1 hw_v1 => ?_)
 ·refine LW.block ?_;refine LW.iterB (E := fun x1 : cV => [(1, .fn 89 [] [.ptr 5 0, .ptr 4 0]), (4, .zs), (5, (jB 6 x1.out)), (8, (kB l)), (9, .p (.int .i64 (l.length : Int))), (10, (iQ x1.t10))]) (O := fun x1 => [.box (fh w), .box ul, .box (fh w), .box (kS w al wh me cl 87 5 4), .box (kS w al wh me cl 87 5 4), .box [.fn 86 [] [.ptr 2 0]], .vec 5 (x1.out.map ay)]) hb_v1 (zW 7 ⟨rfl, rfl, rfl, rfl, rfl, rfl, trivial⟩ Z Z Z Z) (fun x1 z_x1 hr hb_x1 => ?_);unfold gm at hr;refine zQ (zR (yS Z (ax Z Z Z Z) (zN (zT (zQ ?_)))));refine zX Z (fun g1 => ?_) (fun g1 => ?_)
  ·
   refine zi g1 hr fun hr => zk (zT (zQ (zl (zQ (zR (zb hr fun y1 h_y1 hr => yS Z (zx Z Z Z ew h_y1 Z) (yS Z (d6 Z Z Z cN Z Z) (yS Z (ze Z uj Z Z) (yS Z (zs Z Z Z Z cN Z Z Z Z) (zN (zT (zQ (zR (zM Z (yS Z (zD Z Z Z cN Z Z) (zb hr fun v2 h_v2 hr => yS Z (zC Z Z Z (by kernel_rfl) (LC.pre (Hu h_v2) Z Z Z)) (zN (zT ?_))))))))))))))))));refine zX Z (fun g2 => ?_) (fun g2 => ?_)
   ·
    refine zi g2 hr fun hr => zR (zM Z (yS Z (zD Z Z Z cN Z Z) (yS Z (mS Z ew Z Z Z Z Z) (zg hr fun q1 hr => yS Z (ab.appendX ay x1.out [y1] rfl Z Z Z ku.p Z ew q1 Z) (zM Z (zN (ai (zT (zR (yS Z (ax Z Z Z Z) (zM Z (zN (zT ?_)))))))))))));obtain rfl := zJ hr;exact ⟨_, rfl, zW 7 ⟨rfl, rfl, rfl, rfl, rfl, rfl, trivial⟩ Z Z Z rfl⟩
   ·
    refine zo g2 hr fun hr => zk (ai (zT (zR (yS Z (ax Z Z Z Z) (zM Z (zN (zT ?_)))))));obtain rfl := zJ hr;exact ⟨_, rfl, zW 7 ⟨rfl, rfl, rfl, rfl, rfl, rfl, trivial⟩ Z Z Z rfl⟩
  ·
   refine zo g1 hr fun hr => zq (ap (ap (zy (zT ?_))));obtain rfl := zJ hr;have hr := congrArg some (hb_x1 _ rfl);obtain rfl := zJ hr;exact zW 7 ⟨Z, Z, trivial⟩ Z Z Z Z
 ·have hr := ho_v1;clear hb_v1;refine zT (LW.weak hw_v1 (zQ (LW.ent (bO.frz (t := 5) (env' := []) (H0 := (hM w al wh me cl 87 86)) Z Z Z Z Z trivial Z Z) (zR (zM Z (zM Z (zN (zT (zr ?_)))))))));obtain rfl := zJ hr;exact aq (.one (.tmp Z)) (⟨rfl, rfl⟩)
structure cW where
 t10 : Int
 out : List Vt
def gn (l : List Vt) (w : Wd) (al : Vw) (x1 : cW) : Option (cW ⊕ cW) :=
 bif decide (x1.t10 < (l.length : Int)) then
  (ix l x1.t10).bind fun y1 =>
  (uZ y1 w al).bind fun v2 =>
  bif v2 then
   bif room x1.out.length [y1].length 32 then
    some (.inl (cW.mk (IntKind.i64.wrap (x1.t10 + 1)) (x1.out ++ [y1])))
   else none
  else
   some (.inl (cW.mk (IntKind.i64.wrap (x1.t10 + 1)) x1.out))
 else
  some (.inr (cW.mk x1.t10 x1.out))
def qa (l : List Vt) (w : Wd) (al : Vw) : Option (List Vt) :=
 (iter (gn l w al) bG (cW.mk 0 ([] : List Vt))).bind fun v1 =>
 some v1.out
theorem Fg {l : List Vt} {w : Wd} {al : Vw} {wh : Int} {me : Bool} {cl : List Ac} {r_ : (List Vt)} (hr : qa l w al = some r_) : LC Tryz.prog 91 [(kV l), .fn 92 [] [.ptr 5 0, .ptr 4 0]] (hM w al wh me cl 87 86) (Is (kV r_) (hM w al wh me cl 87 86)) := by
 refine dp Tryz.func91 Z Z Z ?_;unfold qa at hr;refine zQ (zR (zM Z (zN (zT (zQ (zR (zM Z (zN (zT (zQ (zQ (LW.ent (bO.lazy (t := 5) (m := 4) Z Z Z) (zR (zM Z (yS Z (d7 Z Z (by kernel_rfl)) (zM Z (zN (zT ?_))))))))))))))))));obtain ⟨v1, hb_v1, ho_v1⟩ := zB hr;clear hr;refine LW.tail (E := [(4, .zs), (5, (jV 6 v1.out))]) (O := [.box (fh w), .box ul, .box (fh w), .box (kS w al wh me cl 87 5 4), .box (kS w al wh me cl 87 5 4), .box [.fn 86 [] [.ptr 2 0]], .vec 4 (v1.out.map aJ)]) ?_ (fun env_v1 H_v1 hw_v1 => ?_)
 ·refine LW.block ?_;refine LW.iterB (E := fun x1 : cW => [(1, .fn 92 [] [.ptr 5 0, .ptr 4 0]), (4, .zs), (5, (jV 6 x1.out)), (8, (kV l)), (9, .p (.int .i64 (l.length : Int))), (10, (iQ x1.t10))]) (O := fun x1 => [.box (fh w), .box ul, .box (fh w), .box (kS w al wh me cl 87 5 4), .box (kS w al wh me cl 87 5 4), .box [.fn 86 [] [.ptr 2 0]], .vec 4 (x1.out.map aJ)]) hb_v1 (zW 7 ⟨rfl, rfl, rfl, rfl, rfl, rfl, trivial⟩ Z Z Z Z) (fun x1 z_x1 hr hb_x1 => ?_);unfold gn at hr;refine zQ (zR (yS Z (ax Z Z Z Z) (zN (zT (zQ ?_)))));refine zX Z (fun g1 => ?_) (fun g1 => ?_)
  ·
   refine zi g1 hr fun hr => zk (zT (zQ (zl (zQ (zR (zb hr fun y1 h_y1 hr => yS Z (zx Z Z Z dQ h_y1 Z) (yS Z (d6 Z Z Z cR Z Z) (yS Z (ze Z uk Z Z) (yS Z (zs Z Z Z Z cR Z Z Z Z) (zN (zT (zQ (zR (zM Z (yS Z (zD Z Z Z cR Z Z) (zb hr fun v2 h_v2 hr => yS Z (zC Z Z Z (by kernel_rfl) (LC.pre (Hv h_v2) Z Z Z)) (zN (zT ?_))))))))))))))))));refine zX Z (fun g2 => ?_) (fun g2 => ?_)
   ·
    refine zi g2 hr fun hr => zR (zM Z (yS Z (zD Z Z Z cR Z Z) (yS Z (mS Z dQ Z Z Z Z Z) (zg hr fun q1 hr => yS Z (ab.appendX aJ x1.out [y1] rfl Z Z Z ku.p Z dQ q1 Z) (zM Z (zN (ai (zT (zR (yS Z (ax Z Z Z Z) (zM Z (zN (zT ?_)))))))))))));obtain rfl := zJ hr;exact ⟨_, rfl, zW 7 ⟨rfl, rfl, rfl, rfl, rfl, rfl, trivial⟩ Z Z Z rfl⟩
   ·
    refine zo g2 hr fun hr => zk (ai (zT (zR (yS Z (ax Z Z Z Z) (zM Z (zN (zT ?_)))))));obtain rfl := zJ hr;exact ⟨_, rfl, zW 7 ⟨rfl, rfl, rfl, rfl, rfl, rfl, trivial⟩ Z Z Z rfl⟩
  ·
   refine zo g1 hr fun hr => zq (ap (ap (zy (zT ?_))));obtain rfl := zJ hr;have hr := congrArg some (hb_x1 _ rfl);obtain rfl := zJ hr;exact zW 7 ⟨Z, Z, trivial⟩ Z Z Z Z
 ·have hr := ho_v1;clear hb_v1;refine zT (LW.weak hw_v1 (zQ (LW.ent (bO.frz (t := 5) (env' := []) (H0 := (hM w al wh me cl 87 86)) Z Z Z Z Z trivial Z Z) (zR (zM Z (zM Z (zN (zT (zr ?_)))))))));obtain rfl := zJ hr;exact aq (.one (.tmp Z)) (⟨rfl, rfl⟩)
def uT (a : Ac) (w : Wd) (al : Vw) : Option Vw :=
 (p9 a.B w al).bind fun v1 =>
 (qa a.V w al).bind fun v2 =>
 some (Vw.mk v1 v2)
theorem Ho {a : Ac} {w : Wd} {al : Vw} {wh : Int} {me : Bool} {cl : List Ac} {r_ : Vw} (hr : uT a w al = some r_) : LC Tryz.prog 87 [.p (kq a), .ptr 5 0, .ptr 4 0] (hM w al wh me cl 87 86) (Is (.p (mP r_)) (hM w al wh me cl 87 86)) := by
 refine dp Tryz.func87 Z Z Z ?_;unfold uT at hr;refine zQ (zR (yS Z (b6 Z Z Z Z Z) (yS Z (ze Z ig Z Z) (zN (zT (zQ (LW.drawLast (m := 9) (by kernel_rfl) (by kernel_rfl) (by kernel_rfl) (yE Z (zA Z Z qF) (yE Z (zD Z Z Z dA Z Z) (yE Z (ab.makeFunc Z Z Z) (zb hr fun v1 h_v1 hr => yE Z (zC Z Z Z (by kernel_rfl) (LC.pre (Ff h_v1) Z Z Z)) (yE Z (zA Z Z qG) (yE Z (zD Z Z Z eU Z Z) (yE Z (ab.makeFunc Z Z Z) (zb hr fun v2 h_v2 hr => yE Z (zC Z Z Z (by kernel_rfl) (LC.pre (Fg h_v2) Z Z Z)) (yE Z (ab.build Z oa Z Z Z) (LO.nil (yS Z (zs Z Z Z Z aS Z Z Z Z) (zN (zT (zr ?_)))))))))))))))))))));obtain rfl := zJ hr;exact i6 (env' := []) (H' := (hM w al wh me cl 87 86)) (zW 6 trivial Z Z Z Z) (.one (.cellAgg Z Z (by kernel_rfl) Z)) Z (⟨rfl, rfl⟩)
open Go.Proofs
def yo (n : Nd) (w : Vw) : Option Vw :=
 (uv n).bind fun v1 =>
 (yn w v1).bind fun v2 =>
 some v2
theorem Hm {n : Nd} {w : Vw} {r_ : Vw} (hr : yo n w = some r_) : LC Tryz.prog 67 [.p (ic n), .ptr 0 0] [.box (dq w)] (Is (.tup []) [.box (dq r_)]) := by
 refine dp Tryz.func67 Z Z Z ?_;unfold yo at hr;refine zQ (zR (yS Z (b6 Z Z Z Z Z) (zN (zT (LW.drawLast (m := 4) (by kernel_rfl) (by kernel_rfl) (by kernel_rfl) (yE Z (zD Z Z Z aS Z Z) (yE Z (zD Z Z Z dc Z Z) (zb hr fun v1 h_v1 hr => yE Z (zC Z Z Z (by kernel_rfl) (zp (IL h_v1) (.cons zv .nil))) (zb hr fun v2 h_v2 hr => yE Z (zC Z Z Z (by kernel_rfl) (zp (Eu h_v2) (.cons zv (.cons zv .nil)))) (LO.nil (yS Z (zs Z Z Z Z aS Z Z Z Z) (zN ?_))))))))))));obtain rfl := zJ hr;exact fH (env' := []) (H' := [.box (dq v2)]) (zW 1 trivial Z Z Z Z) .none (⟨rfl, rfl⟩)
structure dB where
 t8 : Int
 o0 : Vw
def gk (l : List Nd) (x1 : dB) : Option (dB ⊕ dB) :=
 bif decide (x1.t8 < (l.length : Int)) then
  (ix l x1.t8).bind fun y1 =>
  (yo y1 x1.o0).bind fun v2 =>
  some (.inl (dB.mk (IntKind.i64.wrap (x1.t8 + 1)) v2))
 else
  some (.inr (dB.mk x1.t8 x1.o0))
def p7 (l : List Nd) (w : Vw) : Option Vw :=
 (iter (gk l) bG (dB.mk 0 w)).bind fun v1 =>
 some v1.o0
theorem Fc {l : List Nd} {w : Vw} {r_ : Vw} (hr : p7 l w = some r_) : LC Tryz.prog 55 [.p (.slice 12 (l.map ic)), .fn 67 [] [.ptr 0 0]] [.box (dq w)] (Is (.tup []) [.box (dq r_)]) := by
 refine dp Tryz.func55 Z Z Z ?_;unfold p7 at hr;refine zQ (zR (zM Z (yS Z (d7 Z Z (by kernel_rfl)) (zM Z (zN (zT ?_))))));obtain ⟨v1, hb_v1, ho_v1⟩ := zB hr;clear hr;refine LW.tail (E := []) (O := [.box (dq v1.o0)]) ?_ (fun env_v1 H_v1 hw_v1 => ?_)
 ·refine LW.block ?_;refine LW.iterB (E := fun x1 : dB => [(1, .fn 67 [] [.ptr 0 0]), (6, .p (.slice 12 (l.map ic))), (7, .p (.int .i64 (l.length : Int))), (8, (iQ x1.t8))]) (O := fun x1 => [.box (dq x1.o0)]) hb_v1 (zW 1 ⟨rfl, rfl, rfl, rfl, trivial⟩ Z Z Z Z) (fun x1 z_x1 hr hb_x1 => ?_);unfold gk at hr;refine zQ (zR (yS Z (ax Z Z Z Z) (zN (zT (zQ ?_)))));refine zX Z (fun g1 => ?_) (fun g1 => ?_)
  ·
   refine zi g1 hr fun hr => zk (zT (zQ (zl (zQ (zR (zb hr fun y1 h_y1 hr => yS Z (zx Z Z Z dP h_y1 Z) (yS Z (d6 Z Z Z dc Z Z) (yS Z (ze Z ui Z Z) (yS Z (zs Z Z Z Z dc Z Z Z Z) (zN (zT (zR (zM Z (yS Z (zD Z Z Z dc Z Z) (zb hr fun v2 h_v2 hr => yS Z (zC Z Z Z (by kernel_rfl) (LC.pre (Hm h_v2) Z Z Z)) (zN (ai (zT (zR (yS Z (ax Z Z Z Z) ?_))))))))))))))))))));refine zM Z (zN (zT ?_));obtain rfl := zJ hr;exact ⟨_, rfl, zW 1 ⟨rfl, rfl, rfl, rfl, trivial⟩ Z Z Z rfl⟩
  ·
   refine zo g1 hr fun hr => zq (ap (ap (zy (zT ?_))));obtain rfl := zJ hr;have hr := congrArg some (hb_x1 _ rfl);obtain rfl := zJ hr;exact zW 1 trivial Z Z Z Z
 ·have hr := ho_v1;clear hb_v1;obtain rfl := zJ hr;exact fH hw_v1 .none ⟨rfl, rfl⟩
def rW (l : List Nd) : Option Vw :=
 (p7 l (Vw.mk [] [])).bind fun v1 =>
 some v1
theorem F0 {l : List Nd} {r_ : Vw} (hr : rW l = some r_) : aw Tryz.prog 32 [.slice 12 (l.map ic)] [mP r_] := by
 refine zh Tryz.func32 Z Z Z Z ?_;unfold rW at hr;refine zQ (zR (yS Z (ze Z ig Z Z) (zN (zT (zQ (LW.ent (bO.zsCell (i := 0) (j := 0) (m := 5) Z Z Z Z) (LW.ent (bO.zsCell (i := 0) (j := 1) (m := 4) Z Z Z Z) (zR (zM Z (yS Z (ab.makeFunc Z Z Z) (zb hr fun v1 h_v1 hr => yS Z (zC Z Z Z (by kernel_rfl) (Fc h_v1)) (zN (zT (zQ (zR (yS Z (zD Z Z Z aS Z Z) (yS Z (zs Z Z Z Z aS Z Z Z Z) (zN (zT (zr ?_))))))))))))))))))));obtain rfl := zJ hr;exact zf (.one (.cellAgg Z Z (by kernel_rfl) Z)) zv
structure HX where
 t8 : Int
 o2 : List ID
structure ec where
 t12 : Int
 names : List (ID × Bool)
def iT (w : Vw) (x1 : ec) : Option (ec ⊕ ec) :=
 bif decide (x1.t12 < (w.B.length : Int)) then
  (ix w.B x1.t12).bind fun y1 =>
  some (.inl (ec.mk (IntKind.i64.wrap (x1.t12 + 1)) (aP x1.names (nm y1) true)))
 else
  some (.inr (ec.mk x1.t12 x1.names))
def uJ (w : Vw) : Option Bool :=
 (iter (iT w) bG (ec.mk 0 (aP [] (0, 0) true))).bind fun v1 =>
 bif qy v1.names then
  some ((v1.names.length : Int) != (IntKind.i64.wrap ((w.B.length : Int) + 1)))
 else none
theorem Jb {w : Vw} {r_ : Bool} (hr : uJ w = some r_) : aw Tryz.prog 38 [mP w] [.bool r_] := by
 refine zh Tryz.func38 Z Z Z Z ?_;unfold uJ at hr;refine zQ (zR (yS Z (b6 Z Z Z Z Z) (zM Z (zN (zT (zQ (zR (yS Z (ab.makeMap Z Z Z) (yS Z (ab.build Z w4 Z Z Z) ?_)))))))));refine yS Z (ab.setX (f := ci) (g := (fun v => (bQ v))) (m := ([] : List (ID × Bool))) (0, 0) true dM (.inr Z) Z Z Z Z Z y5 Z) ?_;refine zM Z (zM Z (zN (zT (zQ (zQ (zR (yS Z (zA Z Z bz) (yS Z (zD Z Z Z dA Z Z) (yS Z (d7 Z Z (by kernel_rfl)) (zM Z (zN (zT ?_))))))))))));obtain ⟨v1, hb_v1, ho_v1⟩ := zB hr;clear hr;refine LW.tail (E := [(1, .ptr 0 0), (2, (bQ false)), (3, .map 1)]) (O := [.box (dq w), .map (ah ci (fun v => (bQ v)) v1.names)]) ?_ (fun env_v1 H_v1 hw_v1 => ?_)
 ·refine LW.block ?_;refine LW.iterB (E := fun x1 : ec => [(1, .ptr 0 0), (2, (bQ false)), (3, .map 1), (10, (kB w.B)), (11, .p (.int .i64 (w.B.length : Int))), (12, (iQ x1.t12))]) (O := fun x1 => [.box (dq w), .map (ah ci (fun v => (bQ v)) x1.names)]) hb_v1 (zW 2 ⟨rfl, rfl, rfl, rfl, rfl, rfl, trivial⟩ Z Z Z (zL Z (zL (ae (fun _ => rfl) _) Z))) (fun x1 z_x1 hr hb_x1 => ?_);unfold iT at hr;refine zQ (zR (yS Z (ax Z Z Z Z) (zN (zT (zQ ?_)))));refine zX Z (fun g1 => ?_) (fun g1 => ?_)
  ·
   refine zi g1 hr fun hr => zk (zT (zQ (zl (zQ (zR (zb hr fun y1 h_y1 hr => yS Z (zx Z Z Z ew h_y1 Z) (yS Z (d6 Z Z Z cN Z Z) (yS Z (ze Z uj Z Z) (yS Z (zs Z Z Z Z cN Z Z Z Z) (zN (zT (zR (zM Z (yS Z (zD Z Z Z cN Z Z) (yS Z (zC Z Z Z (by kernel_rfl) (zp (Ha (b := y1)) (.cons zv .nil))) ?_)))))))))))))));refine yS Z (ab.setX (f := ci) (g := (fun v => (bQ v))) (nm y1) true dM (.inl Z) Z Z Z Z Z y5 Z) ?_;refine zN (ai (zT (zR (yS Z (ax Z Z Z Z) (zM Z (zN (zT ?_)))))));obtain rfl := zJ hr;exact ⟨_, rfl, zW 2 ⟨rfl, rfl, rfl, rfl, rfl, rfl, trivial⟩ Z Z Z (zL Z (zL (ae (fun _ => rfl) _) Z))⟩
  ·
   refine zo g1 hr fun hr => zq (ap (ap (zy (zT ?_))));obtain rfl := zJ hr;have hr := congrArg some (hb_x1 _ rfl);obtain rfl := zJ hr;exact zW 2 ⟨Z, Z, Z, trivial⟩ Z Z Z (zL Z (zL (ae (fun _ => rfl) _) Z))
 ·have hr := ho_v1;clear hb_v1;refine zT (LW.weak hw_v1 (zQ (zR (zM Z (zg hr fun q1 hr => yS Z (ab.lenMapX Z Z Z (by kernel_rfl) q1) (yS Z (zA Z Z bz) (yS Z (zD Z Z Z dA Z Z) (yS Z (d7 Z Z (by kernel_rfl)) (yS Z (ax Z Z Z Z) (yS Z (ax Z Z Z Z) (zM Z (zN (zT (zr ?_))))))))))))));obtain rfl := zJ hr;exact zf (.one (.tmp Z)) zv
structure gb where
 t8 : Int
def lw (l : List Nd) (x1 : gb) : Option (gb ⊕ (gb ⊕ Int)) :=
 bif decide (x1.t8 < (l.length : Int)) then
  (ix l x1.t8).bind fun y1 =>
  (yj y1).bind fun v2 =>
  bif v2 then
   some (.inr (.inr x1.t8))
  else
   some (.inl (gb.mk (IntKind.i64.wrap (x1.t8 + 1))))
 else
  some (.inr (.inl (gb.mk x1.t8)))
def EY (l : List Nd) : Option Int :=
 (iter (lw l) bG (gb.mk 0)).bind fun b_v1 => Sum.elim (fun _ =>
  some (-1)) some b_v1
theorem JF {l : List Nd} {r_ : Int} (hr : EY l = some r_) : LC Tryz.prog 118 [.p (.slice 12 (l.map ic)), .fn 73 [] []] [] (Is (iQ r_) []) := by
 refine dp Tryz.func118 Z Z Z ?_;unfold EY at hr;refine zQ (zR (zM Z (zN (zT (zQ (zQ (zR (zM Z (yS Z (d7 Z Z (by kernel_rfl)) (zM Z (zN (zT ?_))))))))))));obtain ⟨b_v1, hb_v1, ho_v1⟩ := zB hr;clear hr;refine LW.tailB (b := b_v1) (E := fun v1 => [(4, (iQ 0))]) (O := fun v1 => []) ?_ (fun v1 e_v1 env_v1 H_v1 hw_v1 => ?_)
 ·refine LW.block ?_;refine LW.iterB (E := fun x1 : gb => [(0, .p (.slice 12 (l.map ic))), (1, .fn 73 [] []), (4, (iQ 0)), (7, .p (.int .i64 (l.length : Int))), (8, (iQ x1.t8))]) (O := fun x1 => []) hb_v1 (zW 0 ⟨rfl, rfl, rfl, rfl, rfl, trivial⟩ Z Z Z Z) (fun x1 z_x1 hr hb_x1 => ?_);unfold lw at hr;refine zQ (zR (yS Z (ax Z Z Z Z) (zN (zT (zQ ?_)))));refine zX Z (fun g1 => ?_) (fun g1 => ?_)
  ·
   refine zi g1 hr fun hr => zk (zT (zQ (zl (zQ (zR (zM Z (zM Z (zN (zT (zQ (zR (zM Z (zM Z (zM Z (zb hr fun y1 h_y1 hr => yS Z (zx Z Z Z dP h_y1 Z) (yS Z (d6 Z Z Z dc Z Z) (zb hr fun v2 h_v2 hr => yS Z (zC Z Z Z (by kernel_rfl) (zp (Jd h_v2) (.cons zv .nil))) (zN (zT ?_)))))))))))))))))));refine zX Z (fun g2 => ?_) (fun g2 => ?_)
   ·
    refine zi g2 hr fun hr => zQ (zR (zM Z (zM Z (zN (zT (zr (aA (aj (aj (aA (aj (aj ?_))))))))))));obtain rfl := zJ hr;have hr := congrArg some (hb_x1 _ rfl);obtain rfl := zJ hr;have hr := ey ho_v1;obtain rfl := zJ hr;exact aq (.one (.tmp Z)) (⟨rfl, rfl⟩)
   ·
    refine zo g2 hr fun hr => zk (ai (zT (zR (yS Z (ax Z Z Z Z) (zM Z (zN (zT ?_)))))));obtain rfl := zJ hr;exact ⟨_, rfl, zW 0 ⟨rfl, rfl, rfl, rfl, rfl, trivial⟩ Z Z Z rfl⟩
  ·
   refine zo g1 hr fun hr => zq (ap (ap (zy (zT ?_))));obtain rfl := zJ hr;have hr := congrArg some (hb_x1 _ rfl);obtain rfl := zJ hr;exact ⟨_, rfl, zW 0 ⟨rfl, trivial⟩ Z Z Z rfl⟩
 ·obtain rfl := e_v1;have hr := ga ho_v1;clear hb_v1;refine zT (LW.weak hw_v1 (zQ (zR (zM Z (zN (zT (zr ?_)))))));obtain rfl := zJ hr;exact aq (.one (.tmp Z)) (⟨rfl, rfl⟩)
def EV (l : List Nd) : Option Bool :=
 (EY l).bind fun v1 =>
 some (decide (v1 ≥ 0))
theorem JC {l : List Nd} {r_ : Bool} (hr : EV l = some r_) : LC Tryz.prog 63 [.p (.slice 12 (l.map ic)), .fn 73 [] []] [] (Is (bQ r_) []) := by
 refine dp Tryz.func63 Z Z Z ?_;unfold EV at hr;refine zQ (zR (zM Z (zN (zT (zQ (zR (zM Z (zM Z (zb hr fun v1 h_v1 hr => yS Z (zC Z Z Z (by kernel_rfl) (JF h_v1)) (yS Z (ax Z Z Z Z) (zM Z (zN (zT (zr ?_))))))))))))));obtain rfl := zJ hr;exact aq (.one (.tmp Z)) (⟨rfl, rfl⟩)
def uI (l : List Nd) : Option Bool :=
 (EV l).bind fun v1 =>
 some v1
theorem Ja {l : List Nd} {r_ : Bool} (hr : uI l = some r_) : aw Tryz.prog 37 [.slice 12 (l.map ic)] [.bool r_] := by
 refine zh Tryz.func37 Z Z Z Z ?_;unfold uI at hr;refine zQ (zR (zM Z (zN (zT (zQ (zR (zM Z (zb hr fun v1 h_v1 hr => yS Z (zC Z Z Z (by kernel_rfl) (JC h_v1)) (zM Z (zN (zT (zr ?_))))))))))));obtain rfl := zJ hr;exact zf (.one (.tmp Z)) zv
end Go.Mg
