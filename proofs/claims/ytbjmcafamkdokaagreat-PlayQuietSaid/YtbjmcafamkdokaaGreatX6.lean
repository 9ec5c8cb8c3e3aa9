/- A view that grows. More of the program's structs as plain data: acts, offers, nodes, worlds. Votes, rising by who it is: plain. The examples of the laws of trees and cursors. Plain tools for printed functions: loops by what holds at their heads. What the laws hand over, with the bounds of its numbers. Plain facts of trees: what the program's Find, Slot, Kids tell. Plain facts of a beginning of blocks. The references of layer 6 tell what the program's trees tell: plain laws. Conditions: blocks' numbers are of their kinds; not too many blocks. Plain laws of the shuffle. Plain laws of the shuffle: all places together. Laws of duties. Plain laws of duties: which confs may be, and sums of weights. Plain laws of duties: which confs may be; weights. Plain laws of duties: weights of lists; lists. Plain laws of duties: committees, proposers. Laws of duties. Laws of duties. Laws of duties: DutyAll. Laws of duties: DutyParts. Laws of duties. Laws of duties: DutyWeighs. The book of votes. The sort of votes by who it is: the shelf's structures at this program. One's own slice of votes, as the sort's row. slices.SortFunc over a slice of votes of one's own, by who it is: the shelf's contract in my terms. Votes sorted by who it is. votes.sorted. The votes of a slot. The votes of a slot that count: plain. The votes of a committee; the head by them. A node at a tick, as plain data. Nodes: what stands alone. Offers, one behind another. Conditions: none. -/
import Derived.Test.YtbjmcafamkdokaaGreatX3
import Derived.Test.YtbjmcafamkdokaaGreatX5
import Derived.Test.YtbjmcafamkdokaaGreatX4
import Derived.Shelf.SlSortCmp.WholeK
import Derived.Shelf.SlicesG.Cmp
import Derived.Test.YtbjmcafamkdokaaGreatChecked
import Derived.Shelf.SlGeneric
import Derived.Shelf.GgSortFunc.InsertionK
import Derived.Shelf.SlSortCmp.NoneTotal
set_option maxRecDepth 100000
set_option linter.unusedSimpArgs false
set_option linter.unusedVariables false
namespace Go.Mg
open Go.Proofs
def wS (n : Int) (most : Int) (full : Bool) : Option (Bool × Bool) :=
 bif full then
  some (decide (n < most), true)
 else
  some (decide (n < most), decide (n ≥ most))
theorem Di {n : Int} {most : Int} {wB : List Bk} {wV : List Vt} {sm : List (ID × Int)} {hm : List (Vt × Bool)} {upto : Int} {full : Bool} {lB : List Bk} {lV : List Vt} {n0 : Nat} {k0 : Nat} {n1 : Nat} {k1 : Nat} {r_ : Bool × Bool} (hr : wS n most full = some r_) : LC Tryz.prog 191 [.ptr 10 0, (iQ n), (iQ most)] [.dead, .dead, .dead, .box [.zs, .zs], .box [.zs, .zs], .dead, .vec 5 (wB.map ax), .vec 4 (wV.map aD), (mQ sm), (mR hm), .box [(jB 6 wB), (jV 7 wV), .map 8, .map 9, (iQ upto), (bQ full)], .dead, .dead, .dead, .vec 5 (lB.map ax), .vec 4 (lV.map aD), .box [.vec 5 14 n0 0 k0, .vec 4 15 n1 0 k1]] (Is (bQ r_.1) [.dead, .dead, .dead, .box [.zs, .zs], .box [.zs, .zs], .dead, .vec 5 (wB.map ax), .vec 4 (wV.map aD), (mQ sm), (mR hm), .box [(jB 6 wB), (jV 7 wV), .map 8, .map 9, (iQ upto), (bQ r_.2)], .dead, .dead, .dead, .vec 5 (lB.map ax), .vec 4 (lV.map aD), .box [.vec 5 14 n0 0 k0, .vec 4 15 n1 0 k1]]) := by
 refine dq Tryz.func191 Z Z Z ?_;unfold wS at hr;refine zQ<|zR<|zM Z<|zN<|zT<|zQ<|zR<|zM Z<|zM Z<|yS Z (zn Z Z)<|yS Z (zA Z Z nS)<|yS Z (zD Z Z Z vu Z Z)<|zM Z ?_;refine zc 12 Z (fun g1 => ?_)<|fun g1 => ?_
 ·
  refine zi g1 hr fun hr => yU Z (gd g1 Z) Z<|yU Z (gd g1 Z) Z<|yU Z (gd g1 Z) Z<|yS Z (cq Z (aS g1 Z) Z)<|yS Z (zn Z Z)<|yS Z (zA Z Z nS)<|yS Z (zs Z Z Z Z vu Z Z Z Z)<|zN<|zT<|zQ<|zR<|zM Z<|zM Z<|yS Z (ay Z Z Z Z)<|zM Z<|zN<|zT<|zr ?_;obtain rfl := zJ hr;exact ap (.one (.tmp Z))<|⟨rfl, rfl⟩
 ·
  refine zo g1 hr fun hr => yV Z (gd g1 Z) (zm Z Z)<|yV Z (gd g1 Z) (zm Z Z)<|yV Z (gd g1 Z) (ay Z Z Z Z)<|yS Z (bg Z (aS g1 Z) Z)<|yS Z (zn Z Z)<|yS Z (zA Z Z nS)<|yS Z (zs Z Z Z Z vu Z Z Z Z)<|zN<|zT<|zQ<|zR<|zM Z<|zM Z<|yS Z (ay Z Z Z Z)<|zM Z<|zN<|zT<|zr ?_;obtain rfl := zJ hr;exact ap (.one (.tmp Z))<|⟨rfl, rfl⟩
def ur (b : Bk) (wB : List Bk) (sm : List (ID × Int)) (upto : Int) (full : Bool) : Option (Bool × List Bk × List (ID × Int) × Bool) :=
 (
  bif (aj sm (nm b)).isSome then
   some ((aj sm (nm b)).isSome)
  else
   bif (aj sm b.Parent).isSome then
    some (decide (((aj sm b.Parent).getD 0) ≥ b.Slot))
   else
    some false
 ).bind fun v1 =>
 bif v1 then
  some (true, wB, sm, full)
 else
  (
   bif !((aj sm b.Parent).isSome) then
    some (!((aj sm b.Parent).isSome), full)
   else
    bif decide (b.Slot > upto) then
     some (decide (b.Slot > upto), full)
    else
     (wS (wB.length : Int) 60 full).bind fun v3 =>
     some (!v3.1, v3.2)
  ).bind fun v2 =>
  bif v2.1 then
   some (false, wB, sm, v2.2)
  else
   bif ci wB.length [b].length 40 then
    bif ri sm then
     some (true, wB ++ [b], aV sm (nm b) b.Slot, v2.2)
    else none
   else none
theorem Dg {b : Bk} {wB : List Bk} {wV : List Vt} {sm : List (ID × Int)} {hm : List (Vt × Bool)} {upto : Int} {full : Bool} {lB : List Bk} {lV : List Vt} {n0 : Nat} {k0 : Nat} {n1 : Nat} {k1 : Nat} {r_ : Bool × List Bk × List (ID × Int) × Bool} (hr : ur b wB sm upto full = some r_) : LC Tryz.prog 179 [.ptr 10 0, .p (ax b)] [.dead, .dead, .dead, .box [.zs, .zs], .box [.zs, .zs], .dead, .vec 5 (wB.map ax), .vec 4 (wV.map aD), (mQ sm), (mR hm), .box [(jB 6 wB), (jV 7 wV), .map 8, .map 9, (iQ upto), (bQ full)], .dead, .dead, .dead, .vec 5 (lB.map ax), .vec 4 (lV.map aD), .box [.vec 5 14 n0 0 k0, .vec 4 15 n1 0 k1]] (Is (bQ r_.1) [.dead, .dead, .dead, .box [.zs, .zs], .box [.zs, .zs], .dead, .vec 5 (r_.2.1.map ax), .vec 4 (wV.map aD), (mQ r_.2.2.1), (mR hm), .box [(jB 6 r_.2.1), (jV 7 wV), .map 8, .map 9, (iQ upto), (bQ r_.2.2.2)], .dead, .dead, .dead, .vec 5 (lB.map ax), .vec 4 (lV.map aD), .box [.vec 5 14 n0 0 k0, .vec 4 15 n1 0 k1]]) := by
 refine dq Tryz.func179 Z Z Z ?_;unfold ur at hr;refine zQ<|zR<|yS Z (bT Z Z Z Z Z)<|zM Z<|zN<|zT<|zQ<|zR<|yS Z (zD Z Z Z ce Z Z)<|yS Z (zC Z Z Z (by kernel_rfl) (zp (E7 (b := b)) (.cons zv .nil)))<|yS Z (ze Z j8 Z Z)<|yS Z (zs Z Z Z Z aU Z Z Z Z)<|zN<|zT<|zQ<|LW.draw2 (by kernel_rfl) (by kernel_rfl)<|zH Z<|yE Z (zn Z Z)<|yE Z (zA Z Z kC)<|yE Z (zD Z Z Z xZ Z Z)<|yE Z (zD Z Z Z aU Z Z) ?_;refine yE Z (ab.getX (f := cr) (g := (fun v => (iQ v))) (nm b) 0 dX Z Z Z Z jz CZ Z Z) ?_;refine zH Z<|yE Z (fB Z Z Z)<|yE Z (fB Z Z Z)<|zH Z<|zH Z<|LO.nil<|zT<|zQ<|LW.draw2 (by kernel_rfl) (by kernel_rfl)<|zH Z<|yE Z (zn Z Z)<|yE Z (zA Z Z kC)<|yE Z (zD Z Z Z xZ Z Z)<|yE Z (zA Z Z ld)<|yE Z (zD Z Z Z aU Z Z) ?_;refine yE Z (ab.getX (f := cr) (g := (fun v => (iQ v))) b.Parent 0 dX Z Z Z Z jz CZ Z Z) ?_;refine zH Z<|yE Z (fB Z Z Z)<|yE Z (fB Z Z Z)<|zH Z<|zH Z<|LO.nil<|zT<|zQ<|zl ?_;obtain ⟨v1, hb_v1, ho_v1⟩ := zB hr;clear hr;refine LW.cut (E := [(0, .ptr 10 0), (3, .ptr 17 0), (4, (bQ false)), (5, .ptr 18 0), (9, .p (.bool ((aj sm b.Parent).isSome))), (31, (bQ v1))]) (O := [.dead, .dead, .dead, .box [.zs, .zs], .box [.zs, .zs], .dead, .vec 5 (wB.map ax), .vec 4 (wV.map aD), (mQ sm), (mR hm), .box [(jB 6 wB), (jV 7 wV), .map 8, .map 9, (iQ upto), (bQ full)], .dead, .dead, .dead, .vec 5 (lB.map ax), .vec 4 (lV.map aD), .box [.vec 5 14 n0 0 k0, .vec 4 15 n1 0 k1], .box [(iQ b.Slot), (iQ b.From), (uQ b.Parent.1), (uQ b.Parent.2), (uQ b.Salt)], .box [.p (.int .u64 ((nm b).1)), .p (.int .u64 ((nm b).2))]]) ?_ ?_
 ·have hr := hb_v1;refine zQ<|zR<|zM Z<|zM Z<|zN<|zT ?_;refine zX Z (fun g1 => ?_)<|fun g1 => ?_
  ·
   refine zi g1 hr fun hr => zk<|zT ?_;obtain rfl := zJ hr;exact zW 19 ⟨Z, Z, Z, Z, Z, Z, trivial⟩ Z Z Z<|zL Z<|zL Z<|zL Z<|zL Z<|zL Z<|zL Z<|zL Z<|zL Z<|zL (ae (fun _ => rfl) _)<|zL (ae (fun _ => rfl) _)<|zL Z<|zL Z<|zL Z<|zL Z<|zL Z<|zL Z<|zL Z<|zL Z<|zL Z Z
  ·
   refine zo g1 hr fun hr => zR<|zM Z<|zM Z ?_;refine zc 34 Z (fun g2 => ?_)<|fun g2 => ?_
   ·
    refine zi g2 hr fun hr => yV Z (gd g2 Z) (zm Z Z)<|yV Z (gd g2 Z) (zA Z Z jQ)<|yV Z (gd g2 Z) (zD Z Z Z a7 Z Z)<|yV Z (gd g2 Z) (ay Z Z Z Z)<|yS Z (cq Z (aS g2 Z) Z)<|zM Z<|zN<|zT ?_;obtain rfl := zJ hr;exact zW 19 ⟨Z, Z, Z, Z, Z, Z, trivial⟩ Z Z Z<|zL Z<|zL Z<|zL Z<|zL Z<|zL Z<|zL Z<|zL Z<|zL Z<|zL (ae (fun _ => rfl) _)<|zL (ae (fun _ => rfl) _)<|zL Z<|zL Z<|zL Z<|zL Z<|zL Z<|zL Z<|zL Z<|zL Z<|zL Z Z
   ·
    refine zo g2 hr fun hr => yU Z (gd g2 Z) Z<|yU Z (gd g2 Z) Z<|yU Z (gd g2 Z) Z<|yU Z (gd g2 Z) Z<|yS Z (bg Z (aS g2 Z) Z)<|zM Z<|zN<|zT ?_;obtain rfl := zJ hr;exact zW 19 ⟨Z, Z, Z, Z, Z, Z, trivial⟩ Z Z Z<|zL Z<|zL Z<|zL Z<|zL Z<|zL Z<|zL Z<|zL Z<|zL Z<|zL (ae (fun _ => rfl) _)<|zL (ae (fun _ => rfl) _)<|zL Z<|zL Z<|zL Z<|zL Z<|zL Z<|zL Z<|zL Z<|zL Z<|zL Z Z
 ·have hr := ho_v1;clear hb_v1;refine zX Z (fun g3 => ?_)<|fun g3 => ?_
  ·
   refine zi g3 hr fun hr => zQ<|zR<|zM Z<|zN<|zT<|zr<|aq<|af ?_;obtain rfl := zJ hr;refine aQ (env' := [(4, (bQ true))]) (H' := [.dead, .dead, .dead, .box [.zs, .zs], .box [.zs, .zs], .dead, .vec 5 (wB.map ax), .vec 4 (wV.map aD), (mQ sm), (mR hm), .box [(jB 6 wB), (jV 7 wV), .map 8, .map 9, (iQ upto), (bQ full)], .dead, .dead, .dead, .vec 5 (lB.map ax), .vec 4 (lV.map aD), .box [.vec 5 14 n0 0 k0, .vec 4 15 n1 0 k1]]) (zW 17 ⟨rfl, trivial⟩ Z Z Z (zL Z (zL Z (zL Z (zL Z (zL Z (zL Z (zL Z (zL Z (zL (ae (fun _ => rfl) _) (zL (ae (fun _ => rfl) _) (zL Z (zL Z (zL Z (zL Z (zL Z (zL Z (zL Z Z)))))))))))))))))) (.one (.tmp Z)) ?_;exact ⟨rfl, rfl⟩
  ·
   have hr := zO g3 hr;obtain ⟨v2, hb_v2, ho_v2⟩ := zB hr;clear hr;refine LW.cut (E := [(0, .ptr 10 0), (3, .ptr 17 0), (4, (bQ false)), (5, .ptr 18 0), (40, (bQ v2.1))]) (O := [.dead, .dead, .dead, .box [.zs, .zs], .box [.zs, .zs], .dead, .vec 5 (wB.map ax), .vec 4 (wV.map aD), (mQ sm), (mR hm), .box [(jB 6 wB), (jV 7 wV), .map 8, .map 9, (iQ upto), (bQ v2.2)], .dead, .dead, .dead, .vec 5 (lB.map ax), .vec 4 (lV.map aD), .box [.vec 5 14 n0 0 k0, .vec 4 15 n1 0 k1], .box [(iQ b.Slot), (iQ b.From), (uQ b.Parent.1), (uQ b.Parent.2), (uQ b.Salt)], .box [.p (.int .u64 ((nm b).1)), .p (.int .u64 ((nm b).2))]]) ?_ ?_
   ·have hr := hb_v2;refine zQ<|zR<|zM Z<|yS Z (ab.not Z Z)<|zM Z<|zN<|zT ?_;refine zX Z (fun g4 => ?_)<|fun g4 => ?_
    ·
     refine zi g4 hr fun hr => zk<|zT ?_;obtain rfl := zJ hr;exact zW 19 ⟨Z, Z, Z, Z, Z, trivial⟩ Z Z Z<|zL Z<|zL Z<|zL Z<|zL Z<|zL Z<|zL Z<|zL Z<|zL Z<|zL (ae (fun _ => rfl) _)<|zL (ae (fun _ => rfl) _)<|zL Z<|zL Z<|zL Z<|zL Z<|zL Z<|zL Z<|zL Z<|zL Z<|zL Z Z
    ·
     refine zo g4 hr fun hr => zQ<|LW.draw2 (by kernel_rfl) (by kernel_rfl)<|yE Z (zA Z Z jQ)<|yE Z (zD Z Z Z a7 Z Z)<|zH Z<|yE Z (zn Z Z)<|yE Z (zA Z Z wv)<|yE Z (zD Z Z Z a7 Z Z)<|yE Z (ay Z Z Z Z)<|zH Z<|LO.nil<|zT ?_;refine zX Z (fun g5 => ?_)<|fun g5 => ?_
     ·
      refine zi g5 hr fun hr => zk<|zT ?_;obtain rfl := zJ hr;exact zW 19 ⟨Z, Z, Z, Z, Z, trivial⟩ Z Z Z<|zL Z<|zL Z<|zL Z<|zL Z<|zL Z<|zL Z<|zL Z<|zL Z<|zL (ae (fun _ => rfl) _)<|zL (ae (fun _ => rfl) _)<|zL Z<|zL Z<|zL Z<|zL Z<|zL Z<|zL Z<|zL Z<|zL Z<|zL Z Z
     ·
      refine zo g5 hr fun hr => zR<|zM Z<|zM Z<|yS Z (zn Z Z)<|yS Z (zA Z Z ea)<|yS Z (zA Z Z br)<|yS Z (zD Z Z Z dp Z Z)<|yS Z (ab.lenVM Z Z Z (by kernel_rfl))<|zb hr fun v3 h_v3 hr => ?_;refine yS Z (zC Z Z Z (by kernel_rfl) (LC.pre (Di h_v3) Z (zL Z (zL Z (zL Z (zL Z (zL Z (zL Z (zL Z (zL Z (zL (ae (fun _ => rfl) _) (zL (ae (fun _ => rfl) _) (zL Z (zL Z (zL Z (zL Z (zL Z (zL Z (zL Z Z))))))))))))))))) Z)) ?_;refine yS Z (ab.not Z Z)<|zM Z<|zN<|zT ?_;obtain rfl := zJ hr;exact zW 19 ⟨Z, Z, Z, Z, Z, trivial⟩ Z Z Z<|zL Z<|zL Z<|zL Z<|zL Z<|zL Z<|zL Z<|zL Z<|zL Z<|zL (ae (fun _ => rfl) _)<|zL (ae (fun _ => rfl) _)<|zL Z<|zL Z<|zL Z<|zL Z<|zL Z<|zL Z<|zL Z<|zL Z<|zL Z Z
   ·have hr := ho_v2;clear hb_v2;refine zX Z (fun g6 => ?_)<|fun g6 => ?_
    ·
     refine zi g6 hr fun hr => zQ<|zR<|zM Z<|zN<|zT<|zr<|aq<|af ?_;obtain rfl := zJ hr;refine aQ (env' := [(4, (bQ false))]) (H' := [.dead, .dead, .dead, .box [.zs, .zs], .box [.zs, .zs], .dead, .vec 5 (wB.map ax), .vec 4 (wV.map aD), (mQ sm), (mR hm), .box [(jB 6 wB), (jV 7 wV), .map 8, .map 9, (iQ upto), (bQ v2.2)], .dead, .dead, .dead, .vec 5 (lB.map ax), .vec 4 (lV.map aD), .box [.vec 5 14 n0 0 k0, .vec 4 15 n1 0 k1]]) (zW 17 ⟨rfl, trivial⟩ Z Z Z (zL Z (zL Z (zL Z (zL Z (zL Z (zL Z (zL Z (zL Z (zL (ae (fun _ => rfl) _) (zL (ae (fun _ => rfl) _) (zL Z (zL Z (zL Z (zL Z (zL Z (zL Z (zL Z Z)))))))))))))))))) (.one (.tmp Z)) ?_;exact ⟨rfl, rfl⟩
    ·
     refine zo g6 hr fun hr => zk<|ai<|zT<|zQ<|LW.drawW (by kernel_rfl) (by kernel_rfl)<|zK Z<|zK Z ?_;refine yF (F := []) (s := none) Z (fun H _ => zn Z Z) Z ?_;refine yF (F := []) (s := none) Z (fun H _ => zA Z Z kC) Z ?_;refine yF Z (zd Z Z Z xZ Z Z) Z<|yF Z (zd Z Z Z aU Z Z) Z<|zK Z ?_;refine yF (F := []) (s := none) Z (fun H _ => zn Z Z) Z ?_;refine yF (F := []) (s := none) Z (fun H _ => zA Z Z ea) Z ?_;refine yF (F := []) (s := none) Z (fun H _ => zA Z Z br) Z ?_;refine yF Z (zd Z Z Z dp Z Z) Z<|yF Z (zd Z Z Z ce Z Z) Z ?_;refine yF (F := []) (s := none) Z (fun H _ => nb Z dI Z Z Z Z Z) Z ?_;refine zg hr fun q1 hr => yF Z (bF.appendX ax wB [b] rfl Z Z Z Z dI q1) Z ?_;refine yF (F := []) (s := none) Z (fun H _ => zA Z Z jQ) Z ?_;refine yF Z (zd Z Z Z a7 Z Z) Z ?_;refine yF (F := []) (s := none) Z (fun H _ => zn Z Z) Z ?_;refine yF (F := []) (s := none) Z (fun H _ => zA Z Z ea) Z ?_;refine yF (F := []) (s := none) Z (fun H _ => zA Z Z br) Z ?_;refine yF Z (zt Z Z Z Z dp Z Z Z) Z<|zg hr fun q2 hr => ?_;refine yF Z (bF.mapEntryX (f := cr) (g := (fun v => (iQ v))) (nm b) 0 dX Z Z Z Z jz CZ Z q2) Z ?_;refine yF (F := []) (s := none) Z (fun H _ => fB Z Z Z) Z ?_;refine yF Z (bF.entryStoreX (f := cr) (g := (fun v => (iQ v))) (m := sm) (nm b) ((aj sm (nm b)).getD 0) b.Slot dX Z Z Z Z Z Z) Z ?_;refine LF.nil ⟨by kernel_rfl, ?_⟩;refine zT<|zQ<|zR<|zM Z<|zN<|zT<|zr ?_;obtain rfl := zJ hr;refine aQ (env' := [(4, (bQ true))]) (H' := [.dead, .dead, .dead, .box [.zs, .zs], .box [.zs, .zs], .dead, .vec 5 ((wB ++ [b]).map ax), .vec 4 (wV.map aD), .map (ah cr (fun v => (iQ v)) (aV sm (nm b) b.Slot)), (mR hm), .box [.vec 5 6 ((wB ++ [b]).map ax).length 0 ((wB ++ [b]).map ax).length, (jV 7 wV), .map 8, .map 9, (iQ upto), (bQ v2.2)], .dead, .dead, .dead, .vec 5 (lB.map ax), .vec 4 (lV.map aD), .box [.vec 5 14 n0 0 k0, .vec 4 15 n1 0 k1]]) (zW 17 ⟨rfl, trivial⟩ Z Z Z (zL Z (zL Z (zL Z (zL Z (zL Z (zL Z (zL Z (zL Z (zL (ae (fun _ => rfl) _) (zL (ae (fun _ => rfl) _) (zL Z (zL Z (zL Z (zL Z (zL Z (zL Z (zL Z Z)))))))))))))))))) (.one (.tmp Z)) ?_;exact ⟨rfl, rfl⟩
def ut (x : Vt) (wV : List Vt) (sm : List (ID × Int)) (hm : List (Vt × Bool)) (upto : Int) (full : Bool) : Option (Bool × List Vt × List (Vt × Bool) × Bool) :=
 (
  bif (aj hm x).getD false then
   some ((aj hm x).getD false)
  else
   bif (aj sm x.Head).isSome then
    some (decide (((aj sm x.Head).getD 0) > x.Slot))
   else
    some false
 ).bind fun v1 =>
 bif v1 then
  some (true, wV, hm, full)
 else
  (
   bif !((aj sm x.Head).isSome) then
    some (!((aj sm x.Head).isSome), full)
   else
    bif decide (x.Slot > upto) then
     some (decide (x.Slot > upto), full)
    else
     (wS (wV.length : Int) 240 full).bind fun v3 =>
     some (!v3.1, v3.2)
  ).bind fun v2 =>
  bif v2.1 then
   some (false, wV, hm, v2.2)
  else
   bif ci wV.length [x].length 32 then
    bif ri hm then
     some (true, wV ++ [x], aV hm x true, v2.2)
    else none
   else none
theorem Dh {x : Vt} {wB : List Bk} {wV : List Vt} {sm : List (ID × Int)} {hm : List (Vt × Bool)} {upto : Int} {full : Bool} {lB : List Bk} {lV : List Vt} {n0 : Nat} {k0 : Nat} {n1 : Nat} {k1 : Nat} {r_ : Bool × List Vt × List (Vt × Bool) × Bool} (hr : ut x wV sm hm upto full = some r_) : LC Tryz.prog 180 [.ptr 10 0, .p (aD x)] [.dead, .dead, .dead, .box [.zs, .zs], .box [.zs, .zs], .dead, .vec 5 (wB.map ax), .vec 4 (wV.map aD), (mQ sm), (mR hm), .box [(jB 6 wB), (jV 7 wV), .map 8, .map 9, (iQ upto), (bQ full)], .dead, .dead, .dead, .vec 5 (lB.map ax), .vec 4 (lV.map aD), .box [.vec 5 14 n0 0 k0, .vec 4 15 n1 0 k1]] (Is (bQ r_.1) [.dead, .dead, .dead, .box [.zs, .zs], .box [.zs, .zs], .dead, .vec 5 (wB.map ax), .vec 4 (r_.2.1.map aD), (mQ sm), (mR r_.2.2.1), .box [(jB 6 wB), (jV 7 r_.2.1), .map 8, .map 9, (iQ upto), (bQ r_.2.2.2)], .dead, .dead, .dead, .vec 5 (lB.map ax), .vec 4 (lV.map aD), .box [.vec 5 14 n0 0 k0, .vec 4 15 n1 0 k1]]) := by
 refine dq Tryz.func180 Z Z Z ?_;unfold ut at hr;refine zQ<|zR<|yS Z (bT Z Z Z Z Z)<|zM Z<|zN<|zT<|zQ<|LW.draw2 (by kernel_rfl) (by kernel_rfl)<|zH Z<|yE Z (zn Z Z)<|yE Z (zA Z Z kC)<|yE Z (zD Z Z Z xZ Z Z)<|yE Z (zA Z Z lf)<|yE Z (zD Z Z Z aU Z Z) ?_;refine yE Z (ab.getX (f := cr) (g := (fun v => (iQ v))) x.Head 0 dX Z Z Z Z jz CZ Z Z) ?_;refine zH Z<|yE Z (fB Z Z Z)<|yE Z (fB Z Z Z)<|zH Z<|zH Z<|LO.nil<|zT<|zQ<|zl ?_;obtain ⟨v1, hb_v1, ho_v1⟩ := zB hr;clear hr;refine LW.cut (E := [(0, .ptr 10 0), (3, .ptr 17 0), (4, (bQ false)), (6, .p (.bool ((aj sm x.Head).isSome))), (17, (bQ v1))]) (O := [.dead, .dead, .dead, .box [.zs, .zs], .box [.zs, .zs], .dead, .vec 5 (wB.map ax), .vec 4 (wV.map aD), (mQ sm), (mR hm), .box [(jB 6 wB), (jV 7 wV), .map 8, .map 9, (iQ upto), (bQ full)], .dead, .dead, .dead, .vec 5 (lB.map ax), .vec 4 (lV.map aD), .box [.vec 5 14 n0 0 k0, .vec 4 15 n1 0 k1], .box [(iQ x.From), (iQ x.Slot), (uQ x.Head.1), (uQ x.Head.2)]]) ?_ ?_
 ·have hr := hb_v1;refine zQ<|LW.draw2 (by kernel_rfl) (by kernel_rfl)<|zH Z<|yE Z (zn Z Z)<|yE Z (zA Z Z nR)<|yE Z (zD Z Z Z wH Z Z)<|yE Z (zD Z Z Z ch Z Z) ?_;refine yE Z (ab.getX (f := aD) (g := (fun v => (bQ v))) x false wI Z Z Z Z AX HA Z Z) ?_;refine zH Z<|LO.nil<|zT ?_;refine zX Z (fun g1 => ?_)<|fun g1 => ?_
  ·
   refine zi g1 hr fun hr => zk<|zT ?_;obtain rfl := zJ hr;exact zW 18 ⟨Z, Z, Z, Z, Z, trivial⟩ Z Z Z<|zL Z<|zL Z<|zL Z<|zL Z<|zL Z<|zL Z<|zL Z<|zL Z<|zL (ae (fun _ => rfl) _)<|zL (ae (fun _ => rfl) _)<|zL Z<|zL Z<|zL Z<|zL Z<|zL Z<|zL Z<|zL Z<|zL Z Z
  ·
   refine zo g1 hr fun hr => zR<|zM Z<|zM Z ?_;refine zc 25 Z (fun g2 => ?_)<|fun g2 => ?_
   ·
    refine zi g2 hr fun hr => yV Z (gd g2 Z) (zm Z Z)<|yV Z (gd g2 Z) (zA Z Z pb)<|yV Z (gd g2 Z) (zD Z Z Z a7 Z Z)<|yV Z (gd g2 Z) (ay Z Z Z Z)<|yS Z (cq Z (aS g2 Z) Z)<|zM Z<|zN<|zT ?_;obtain rfl := zJ hr;exact zW 18 ⟨Z, Z, Z, Z, Z, trivial⟩ Z Z Z<|zL Z<|zL Z<|zL Z<|zL Z<|zL Z<|zL Z<|zL Z<|zL Z<|zL (ae (fun _ => rfl) _)<|zL (ae (fun _ => rfl) _)<|zL Z<|zL Z<|zL Z<|zL Z<|zL Z<|zL Z<|zL Z<|zL Z Z
   ·
    refine zo g2 hr fun hr => yU Z (gd g2 Z) Z<|yU Z (gd g2 Z) Z<|yU Z (gd g2 Z) Z<|yU Z (gd g2 Z) Z<|yS Z (bg Z (aS g2 Z) Z)<|zM Z<|zN<|zT ?_;obtain rfl := zJ hr;exact zW 18 ⟨Z, Z, Z, Z, Z, trivial⟩ Z Z Z<|zL Z<|zL Z<|zL Z<|zL Z<|zL Z<|zL Z<|zL Z<|zL Z<|zL (ae (fun _ => rfl) _)<|zL (ae (fun _ => rfl) _)<|zL Z<|zL Z<|zL Z<|zL Z<|zL Z<|zL Z<|zL Z<|zL Z Z
 ·have hr := ho_v1;clear hb_v1;refine zX Z (fun g3 => ?_)<|fun g3 => ?_
  ·
   refine zi g3 hr fun hr => zQ<|zR<|zM Z<|zN<|zT<|zr<|aq<|af ?_;obtain rfl := zJ hr;refine aQ (env' := [(4, (bQ true))]) (H' := [.dead, .dead, .dead, .box [.zs, .zs], .box [.zs, .zs], .dead, .vec 5 (wB.map ax), .vec 4 (wV.map aD), (mQ sm), (mR hm), .box [(jB 6 wB), (jV 7 wV), .map 8, .map 9, (iQ upto), (bQ full)], .dead, .dead, .dead, .vec 5 (lB.map ax), .vec 4 (lV.map aD), .box [.vec 5 14 n0 0 k0, .vec 4 15 n1 0 k1]]) (zW 17 ⟨rfl, trivial⟩ Z Z Z (zL Z (zL Z (zL Z (zL Z (zL Z (zL Z (zL Z (zL Z (zL (ae (fun _ => rfl) _) (zL (ae (fun _ => rfl) _) (zL Z (zL Z (zL Z (zL Z (zL Z (zL Z (zL Z Z)))))))))))))))))) (.one (.tmp Z)) ?_;exact ⟨rfl, rfl⟩
  ·
   have hr := zO g3 hr;obtain ⟨v2, hb_v2, ho_v2⟩ := zB hr;clear hr;refine LW.cut (E := [(0, .ptr 10 0), (3, .ptr 17 0), (4, (bQ false)), (31, (bQ v2.1))]) (O := [.dead, .dead, .dead, .box [.zs, .zs], .box [.zs, .zs], .dead, .vec 5 (wB.map ax), .vec 4 (wV.map aD), (mQ sm), (mR hm), .box [(jB 6 wB), (jV 7 wV), .map 8, .map 9, (iQ upto), (bQ v2.2)], .dead, .dead, .dead, .vec 5 (lB.map ax), .vec 4 (lV.map aD), .box [.vec 5 14 n0 0 k0, .vec 4 15 n1 0 k1], .box [(iQ x.From), (iQ x.Slot), (uQ x.Head.1), (uQ x.Head.2)]]) ?_ ?_
   ·have hr := hb_v2;refine zQ<|zR<|zM Z<|yS Z (ab.not Z Z)<|zM Z<|zN<|zT ?_;refine zX Z (fun g4 => ?_)<|fun g4 => ?_
    ·
     refine zi g4 hr fun hr => zk<|zT ?_;obtain rfl := zJ hr;exact zW 18 ⟨Z, Z, Z, Z, trivial⟩ Z Z Z<|zL Z<|zL Z<|zL Z<|zL Z<|zL Z<|zL Z<|zL Z<|zL Z<|zL (ae (fun _ => rfl) _)<|zL (ae (fun _ => rfl) _)<|zL Z<|zL Z<|zL Z<|zL Z<|zL Z<|zL Z<|zL Z<|zL Z Z
    ·
     refine zo g4 hr fun hr => zQ<|LW.draw2 (by kernel_rfl) (by kernel_rfl)<|yE Z (zA Z Z pb)<|yE Z (zD Z Z Z a7 Z Z)<|zH Z<|yE Z (zn Z Z)<|yE Z (zA Z Z wv)<|yE Z (zD Z Z Z a7 Z Z)<|yE Z (ay Z Z Z Z)<|zH Z<|LO.nil<|zT ?_;refine zX Z (fun g5 => ?_)<|fun g5 => ?_
     ·
      refine zi g5 hr fun hr => zk<|zT ?_;obtain rfl := zJ hr;exact zW 18 ⟨Z, Z, Z, Z, trivial⟩ Z Z Z<|zL Z<|zL Z<|zL Z<|zL Z<|zL Z<|zL Z<|zL Z<|zL Z<|zL (ae (fun _ => rfl) _)<|zL (ae (fun _ => rfl) _)<|zL Z<|zL Z<|zL Z<|zL Z<|zL Z<|zL Z<|zL Z<|zL Z Z
     ·
      refine zo g5 hr fun hr => zR<|zM Z<|zM Z<|yS Z (zn Z Z)<|yS Z (zA Z Z ea)<|yS Z (zA Z Z bD)<|yS Z (zD Z Z Z dM Z Z)<|yS Z (ab.lenVM Z Z Z (by kernel_rfl))<|zb hr fun v3 h_v3 hr => ?_;refine yS Z (zC Z Z Z (by kernel_rfl) (LC.pre (Di h_v3) Z (zL Z (zL Z (zL Z (zL Z (zL Z (zL Z (zL Z (zL Z (zL (ae (fun _ => rfl) _) (zL (ae (fun _ => rfl) _) (zL Z (zL Z (zL Z (zL Z (zL Z (zL Z (zL Z Z))))))))))))))))) Z)) ?_;refine yS Z (ab.not Z Z)<|zM Z<|zN<|zT ?_;obtain rfl := zJ hr;exact zW 18 ⟨Z, Z, Z, Z, trivial⟩ Z Z Z<|zL Z<|zL Z<|zL Z<|zL Z<|zL Z<|zL Z<|zL Z<|zL Z<|zL (ae (fun _ => rfl) _)<|zL (ae (fun _ => rfl) _)<|zL Z<|zL Z<|zL Z<|zL Z<|zL Z<|zL Z<|zL Z<|zL Z Z
   ·have hr := ho_v2;clear hb_v2;refine zX Z (fun g6 => ?_)<|fun g6 => ?_
    ·
     refine zi g6 hr fun hr => zQ<|zR<|zM Z<|zN<|zT<|zr<|aq<|af ?_;obtain rfl := zJ hr;refine aQ (env' := [(4, (bQ false))]) (H' := [.dead, .dead, .dead, .box [.zs, .zs], .box [.zs, .zs], .dead, .vec 5 (wB.map ax), .vec 4 (wV.map aD), (mQ sm), (mR hm), .box [(jB 6 wB), (jV 7 wV), .map 8, .map 9, (iQ upto), (bQ v2.2)], .dead, .dead, .dead, .vec 5 (lB.map ax), .vec 4 (lV.map aD), .box [.vec 5 14 n0 0 k0, .vec 4 15 n1 0 k1]]) (zW 17 ⟨rfl, trivial⟩ Z Z Z (zL Z (zL Z (zL Z (zL Z (zL Z (zL Z (zL Z (zL Z (zL (ae (fun _ => rfl) _) (zL (ae (fun _ => rfl) _) (zL Z (zL Z (zL Z (zL Z (zL Z (zL Z (zL Z Z)))))))))))))))))) (.one (.tmp Z)) ?_;exact ⟨rfl, rfl⟩
    ·
     refine zo g6 hr fun hr => zk<|ai<|zT<|zQ<|LW.drawW (by kernel_rfl) (by kernel_rfl)<|zK Z<|zK Z ?_;refine yF (F := []) (s := none) Z (fun H _ => zn Z Z) Z ?_;refine yF (F := []) (s := none) Z (fun H _ => zA Z Z nR) Z ?_;refine yF Z (zd Z Z Z wH Z Z) Z<|yF Z (zd Z Z Z ch Z Z) Z<|zK Z ?_;refine yF (F := []) (s := none) Z (fun H _ => zn Z Z) Z ?_;refine yF (F := []) (s := none) Z (fun H _ => zA Z Z ea) Z ?_;refine yF (F := []) (s := none) Z (fun H _ => zA Z Z bD) Z ?_;refine yF Z (zd Z Z Z dM Z Z) Z<|yF Z (zd Z Z Z ch Z Z) Z ?_;refine yF (F := []) (s := none) Z (fun H _ => nb Z cX Z Z Z Z Z) Z ?_;refine zg hr fun q1 hr => yF Z (bF.appendX aD wV [x] rfl Z Z Z Z cX q1) Z ?_;refine yF (F := []) (s := none) Z (fun H _ => zn Z Z) Z ?_;refine yF (F := []) (s := none) Z (fun H _ => zA Z Z ea) Z ?_;refine yF (F := []) (s := none) Z (fun H _ => zA Z Z bD) Z ?_;refine yF Z (zt Z Z Z Z dM Z Z Z) Z<|zg hr fun q2 hr => ?_;refine yF Z (bF.mapEntryX (f := aD) (g := (fun v => (bQ v))) x false wI Z Z Z Z AX HA Z q2) Z ?_;refine yF (F := []) (s := none) Z (fun H _ => fB Z Z Z) Z ?_;refine yF Z (bF.entryStoreX (f := aD) (g := (fun v => (bQ v))) (m := hm) x ((aj hm x).getD false) true wI Z Z Z Z Z Z) Z ?_;refine LF.nil ⟨by kernel_rfl, ?_⟩;refine zT<|zQ<|zR<|zM Z<|zN<|zT<|zr ?_;obtain rfl := zJ hr;refine aQ (env' := [(4, (bQ true))]) (H' := [.dead, .dead, .dead, .box [.zs, .zs], .box [.zs, .zs], .dead, .vec 5 (wB.map ax), .vec 4 ((wV ++ [x]).map aD), (mQ sm), .map (ah aD (fun v => (bQ v)) (aV hm x true)), .box [(jB 6 wB), .vec 4 7 ((wV ++ [x]).map aD).length 0 ((wV ++ [x]).map aD).length, .map 8, .map 9, (iQ upto), (bQ v2.2)], .dead, .dead, .dead, .vec 5 (lB.map ax), .vec 4 (lV.map aD), .box [.vec 5 14 n0 0 k0, .vec 4 15 n1 0 k1]]) (zW 17 ⟨rfl, trivial⟩ Z Z Z (zL Z (zL Z (zL Z (zL Z (zL Z (zL Z (zL Z (zL Z (zL (ae (fun _ => rfl) _) (zL (ae (fun _ => rfl) _) (zL Z (zL Z (zL Z (zL Z (zL Z (zL Z (zL Z Z)))))))))))))))))) (.one (.tmp Z)) ?_;exact ⟨rfl, rfl⟩
structure iT where
 t8 : Int
 o6 : List Bk
 o8 : List (ID × Int)
 o10_5 : Bool
def kp (lB : List Bk) (kk : Nat) (upto : Int) (x1 : iT) : Option (iT ⊕ (iT ⊕ (Int × List Bk × List (ID × Int) × Bool))) :=
 bif decide (x1.t8 < (kk : Int)) then
  (ix (lB.take kk) x1.t8).bind fun y1 =>
  (ur y1 x1.o6 x1.o8 upto x1.o10_5).bind fun v2 =>
  bif v2.1 then
   some (.inr (.inr (x1.t8, v2.2.1, v2.2.2.1, v2.2.2.2)))
  else
   some (.inl (iT.mk (IntKind.i64.wrap (x1.t8 + 1)) v2.2.1 v2.2.2.1 v2.2.2.2))
 else
  some (.inr (.inl (iT.mk x1.t8 x1.o6 x1.o8 x1.o10_5)))
def yA (lB : List Bk) (kk : Nat) (wB : List Bk) (sm : List (ID × Int)) (upto : Int) (full : Bool) : Option (Int × List Bk × List (ID × Int) × Bool) :=
 (iter (kp lB kk upto) bE (iT.mk 0 wB sm full)).bind fun b_v1 => Sum.elim (fun v1 =>
  some ((-1), v1.o6, v1.o8, v1.o10_5)) some b_v1
theorem Gp {lB : List Bk} {kk : Nat} {wB : List Bk} {wV : List Vt} {sm : List (ID × Int)} {hm : List (Vt × Bool)} {upto : Int} {full : Bool} {lV : List Vt} {n0 : Nat} {k0 : Nat} {n1 : Nat} {k1 : Nat} {r_ : Int × List Bk × List (ID × Int) × Bool} (hr : yA lB kk wB sm upto full = some r_) : LC Tryz.prog 192 [.vec 5 14 (lB.map ax).length 0 kk, .fn 179 [.ptr 10 0] []] [.dead, .dead, .dead, .box [.zs, .zs], .box [.zs, .zs], .dead, .vec 5 (wB.map ax), .vec 4 (wV.map aD), (mQ sm), (mR hm), .box [(jB 6 wB), (jV 7 wV), .map 8, .map 9, (iQ upto), (bQ full)], .dead, .dead, .dead, .vec 5 (lB.map ax), .vec 4 (lV.map aD), .box [.vec 5 14 n0 0 k0, .vec 4 15 n1 0 k1]] (Is (iQ r_.1) [.dead, .dead, .dead, .box [.zs, .zs], .box [.zs, .zs], .dead, .vec 5 (r_.2.1.map ax), .vec 4 (wV.map aD), (mQ r_.2.2.1), (mR hm), .box [(jB 6 r_.2.1), (jV 7 wV), .map 8, .map 9, (iQ upto), (bQ r_.2.2.2)], .dead, .dead, .dead, .vec 5 (lB.map ax), .vec 4 (lV.map aD), .box [.vec 5 14 n0 0 k0, .vec 4 15 n1 0 k1]]) := by
 refine dq Tryz.func192 Z Z Z ?_;unfold yA at hr;refine zQ<|zR<|zM Z<|zN<|zT<|zQ<|zQ<|zR<|zM Z<|yS Z (ab.lenVP Z Z Z (by kernel_rfl))<|zM Z<|zN<|zT ?_;obtain ⟨b_v1, hb_v1, ho_v1⟩ := zB hr;clear hr;refine LW.tailB (b := b_v1) (E := fun v1 => [(4, (iQ 0))]) (O := fun v1 => [.dead, .dead, .dead, .box [.zs, .zs], .box [.zs, .zs], .dead, .vec 5 (v1.o6.map ax), .vec 4 (wV.map aD), (mQ v1.o8), (mR hm), .box [(jB 6 v1.o6), (jV 7 wV), .map 8, .map 9, (iQ upto), (bQ v1.o10_5)], .dead, .dead, .dead, .vec 5 (lB.map ax), .vec 4 (lV.map aD), .box [.vec 5 14 n0 0 k0, .vec 4 15 n1 0 k1]]) ?_<|fun v1 e_v1 env_v1 H_v1 hw_v1 => ?_
 ·refine LW.block ?_;refine LW.iterB (E := fun x1 : iT => [(0, .vec 5 14 (lB.map ax).length 0 kk), (1, .fn 179 [.ptr 10 0] []), (4, (iQ 0)), (7, .p (.int .i64 (kk : Int))), (8, (iQ x1.t8))]) (O := fun x1 => [.dead, .dead, .dead, .box [.zs, .zs], .box [.zs, .zs], .dead, .vec 5 (x1.o6.map ax), .vec 4 (wV.map aD), (mQ x1.o8), (mR hm), .box [(jB 6 x1.o6), (jV 7 wV), .map 8, .map 9, (iQ upto), (bQ x1.o10_5)], .dead, .dead, .dead, .vec 5 (lB.map ax), .vec 4 (lV.map aD), .box [.vec 5 14 n0 0 k0, .vec 4 15 n1 0 k1]]) hb_v1 (zW 17 ⟨rfl, rfl, rfl, rfl, rfl, trivial⟩ Z Z Z (zL Z (zL Z (zL Z (zL Z (zL Z (zL Z (zL Z (zL Z (zL (ae (fun _ => rfl) _) (zL (ae (fun _ => rfl) _) (zL Z (zL Z (zL Z (zL Z (zL Z (zL Z (zL Z Z))))))))))))))))))<|fun x1 z_x1 hr hb_x1 => ?_;unfold kp at hr;refine zQ<|zR<|yS Z (ay Z Z Z Z)<|zN<|zT<|zQ ?_;refine zX Z (fun g1 => ?_)<|fun g1 => ?_
  ·
   refine zi g1 hr fun hr => zk<|zT<|zQ<|zl<|zQ<|zR<|zM Z<|zM Z<|zN<|zT<|zQ<|zR<|zM Z<|zM Z<|zM Z<|zb hr fun y1 h_y1 hr => yS Z (ab.indexAddrVP Z Z Z Z dI h_y1)<|yS Z (ab.loadVX Z Z Z ce (fe h_y1).1 Z Z Z Z)<|zb hr fun v2 h_v2 hr => yS Z (zC Z Z Z (by kernel_rfl) (Dg h_v2))<|zN<|zT ?_;refine zX Z (fun g2 => ?_)<|fun g2 => ?_
   ·
    refine zi g2 hr fun hr => zQ<|zR<|zM Z<|zM Z<|zN<|zT<|zr<|aq<|af<|af<|aq<|af<|af ?_;obtain rfl := zJ hr;have hr := congrArg some (hb_x1 _ rfl);obtain rfl := zJ hr;have hr := cS ho_v1;obtain rfl := zJ hr;exact ap (.one (.tmp Z))<|⟨rfl, rfl⟩
   ·
    refine zo g2 hr fun hr => zk<|ai<|zT<|zR<|yS Z (ay Z Z Z Z)<|zM Z<|zN<|zT ?_;obtain rfl := zJ hr;exact ⟨_, rfl, zW 17 ⟨rfl, rfl, rfl, rfl, rfl, trivial⟩ Z Z Z (zL Z (zL Z (zL Z (zL Z (zL Z (zL Z (zL Z (zL Z (zL (ae (fun _ => rfl) _) (zL (ae (fun _ => rfl) _) (zL Z (zL Z (zL Z (zL Z (zL Z (zL Z (zL Z Z)))))))))))))))))⟩
  ·
   refine zo g1 hr fun hr => zq<|ao<|ao<|zy<|zT ?_;obtain rfl := zJ hr;have hr := congrArg some (hb_x1 _ rfl);obtain rfl := zJ hr;exact ⟨_, rfl, zW 17 ⟨rfl, trivial⟩ Z Z Z (zL Z (zL Z (zL Z (zL Z (zL Z (zL Z (zL Z (zL Z (zL (ae (fun _ => rfl) _) (zL (ae (fun _ => rfl) _) (zL Z (zL Z (zL Z (zL Z (zL Z (zL Z (zL Z Z)))))))))))))))))⟩
 ·obtain rfl := e_v1;have hr := d4 ho_v1;clear hb_v1;refine zT<|LW.weak hw_v1<|zQ<|zR<|zM Z<|zN<|zT<|zr ?_;obtain rfl := zJ hr;exact ap (.one (.tmp Z))<|⟨rfl, rfl⟩
structure gH where
 i : Int
 j : Int
 o6 : List Bk
 o8 : List (ID × Int)
 o10_5 : Bool
 o14 : List Bk
def kf (kk : Nat) (upto : Int) (x1 : gH) : Option (gH ⊕ gH) :=
 bif decide (x1.j < (kk : Int)) then
  (ix (x1.o14.take kk) x1.j).bind fun y1 =>
  (ur y1 x1.o6 x1.o8 upto x1.o10_5).bind fun v3 =>
  bif !v3.1 then
   (ix (x1.o14.take kk) x1.i).bind fun _ =>
   some (.inl (gH.mk (IntKind.i64.wrap (x1.i + 1)) (IntKind.i64.wrap (x1.j + 1)) v3.2.1 v3.2.2.1 v3.2.2.2 (x1.o14.set x1.i.toNat y1)))
  else
   some (.inl (gH.mk x1.i (IntKind.i64.wrap (x1.j + 1)) v3.2.1 v3.2.2.1 v3.2.2.2 x1.o14))
 else
  some (.inr (gH.mk x1.i x1.j x1.o6 x1.o8 x1.o10_5 x1.o14))
def yp (lB : List Bk) (kk : Nat) (wB : List Bk) (sm : List (ID × Int)) (upto : Int) (full : Bool) : Option (Nat × List Bk × List Bk × List (ID × Int) × Bool) :=
 (yA lB kk wB sm upto full).bind fun v1 =>
 bif v1.1 == (-1) then
  some (kk, lB, v1.2.1, v1.2.2.1, v1.2.2.2)
 else
  (iter (kf kk upto) bE (gH.mk v1.1 (IntKind.i64.wrap (v1.1 + 1)) v1.2.1 v1.2.2.1 v1.2.2.2 lB)).bind fun v2 =>
  bif decide (0 ≤ v2.i ∧ v2.i ≤ (kk : Int)) then
   bif decide (v2.i.toNat + (kk - v2.i.toNat) ≤ v2.o14.length) then
    bif decide (0 ≤ v2.i ∧ v2.i ≤ (kk : Int)) then
     some (v2.i.toNat, gU v2.o14 v2.i.toNat (kk - v2.i.toNat) (Bk.mk 0 0 (0, 0) 0), v2.o6, v2.o8, v2.o10_5)
    else none
   else none
  else none
theorem Gj {lB : List Bk} {kk : Nat} {wB : List Bk} {wV : List Vt} {sm : List (ID × Int)} {hm : List (Vt × Bool)} {upto : Int} {full : Bool} {lV : List Vt} {n0 : Nat} {k0 : Nat} {n1 : Nat} {k1 : Nat} {r_ : Nat × List Bk × List Bk × List (ID × Int) × Bool} (hr : yp lB kk wB sm upto full = some r_) : LC Tryz.prog 181 [.vec 5 14 (lB.map ax).length 0 kk, .fn 179 [.ptr 10 0] []] [.dead, .dead, .dead, .box [.zs, .zs], .box [.zs, .zs], .dead, .vec 5 (wB.map ax), .vec 4 (wV.map aD), (mQ sm), (mR hm), .box [(jB 6 wB), (jV 7 wV), .map 8, .map 9, (iQ upto), (bQ full)], .dead, .dead, .dead, .vec 5 (lB.map ax), .vec 4 (lV.map aD), .box [.vec 5 14 n0 0 k0, .vec 4 15 n1 0 k1]] (Is (.vec 5 14 (r_.2.1.map ax).length 0 r_.1) [.dead, .dead, .dead, .box [.zs, .zs], .box [.zs, .zs], .dead, .vec 5 (r_.2.2.1.map ax), .vec 4 (wV.map aD), (mQ r_.2.2.2.1), (mR hm), .box [(jB 6 r_.2.2.1), (jV 7 wV), .map 8, .map 9, (iQ upto), (bQ r_.2.2.2.2)], .dead, .dead, .dead, .vec 5 (r_.2.1.map ax), .vec 4 (lV.map aD), .box [.vec 5 14 n0 0 k0, .vec 4 15 n1 0 k1]]) := by
 refine dq Tryz.func181 Z Z Z ?_;unfold yp at hr;refine zQ<|zR<|zM Z<|zN<|zT<|zQ<|zR<|zM Z<|zM Z<|zb hr fun v1 h_v1 hr => yS Z (zC Z Z Z (by kernel_rfl) (Gp h_v1))<|zM Z<|zN<|zT<|zQ<|zQ<|zR<|zM Z<|yS Z (ay Z Z Z Z)<|zN<|zT ?_;refine zX Z (fun g1 => ?_)<|fun g1 => ?_
 ·
  refine zi g1 hr fun hr => zQ<|zR<|zM Z<|zM Z<|zN<|zT<|zr<|af ?_;obtain rfl := zJ hr;exact ap (.one (.tmp Z))<|⟨rfl, rfl⟩
 ·
  refine zo g1 hr fun hr => zk<|zT<|zQ<|zQ<|zR<|zM Z<|yS Z (ay Z Z Z Z)<|zM Z<|zN<|zT ?_;obtain ⟨v2, hb_v2, ho_v2⟩ := zB hr;clear hr;refine LW.tail (E := [(0, .vec 5 14 (v2.o14.map ax).length 0 kk), (4, .zs), (5, (iQ v2.i))]) (O := [.dead, .dead, .dead, .box [.zs, .zs], .box [.zs, .zs], .dead, .vec 5 (v2.o6.map ax), .vec 4 (wV.map aD), (mQ v2.o8), (mR hm), .box [(jB 6 v2.o6), (jV 7 wV), .map 8, .map 9, (iQ upto), (bQ v2.o10_5)], .dead, .dead, .dead, .vec 5 (v2.o14.map ax), .vec 4 (lV.map aD), .box [.vec 5 14 n0 0 k0, .vec 4 15 n1 0 k1]]) ?_<|fun env_v2 H_v2 hw_v2 => ?_
  ·refine LW.block ?_;refine LW.iterB (E := fun x1 : gH => [(0, .vec 5 14 (x1.o14.map ax).length 0 kk), (1, .fn 179 [.ptr 10 0] []), (4, .zs), (5, (iQ x1.i)), (6, (iQ x1.j))]) (O := fun x1 => [.dead, .dead, .dead, .box [.zs, .zs], .box [.zs, .zs], .dead, .vec 5 (x1.o6.map ax), .vec 4 (wV.map aD), (mQ x1.o8), (mR hm), .box [(jB 6 x1.o6), (jV 7 wV), .map 8, .map 9, (iQ upto), (bQ x1.o10_5)], .dead, .dead, .dead, .vec 5 (x1.o14.map ax), .vec 4 (lV.map aD), .box [.vec 5 14 n0 0 k0, .vec 4 15 n1 0 k1]]) hb_v2 (zW 17 ⟨rfl, rfl, rfl, rfl, rfl, trivial⟩ Z Z Z (zL Z (zL Z (zL Z (zL Z (zL Z (zL Z (zL Z (zL Z (zL (ae (fun _ => rfl) _) (zL (ae (fun _ => rfl) _) (zL Z (zL Z (zL Z (zL Z (zL Z (zL Z (zL Z Z))))))))))))))))))<|fun x1 z_x1 hr hb_x1 => ?_;unfold kf at hr;refine zQ<|zQ<|zR<|zM Z<|zM Z<|yS Z (ab.lenVP Z Z Z (by kernel_rfl))<|yS Z (ay Z Z Z Z)<|zN<|zT ?_;refine zX Z (fun g2 => ?_)<|fun g2 => ?_
   ·
    refine zi g2 hr fun hr => zk<|zT<|zQ<|zl<|zQ<|zR<|zM Z<|zM Z<|zb hr fun y1 h_y1 hr => yS Z (ab.indexAddrVP Z Z Z Z dI h_y1)<|yS Z (ab.loadVX Z Z Z ce (fe h_y1).1 Z Z Z Z)<|yS Z (ze Z ui Z Z)<|yS Z (zs Z Z Z Z ce Z Z Z Z)<|zN<|zT<|zQ<|zR<|zM Z<|yS Z (zD Z Z Z ce Z Z)<|zb hr fun v3 h_v3 hr => ?_;refine yS Z (zC Z Z Z (by kernel_rfl) (LC.pre (Dg h_v3) Z (zL Z (zL Z (zL Z (zL Z (zL Z (zL Z (zL Z (zL Z (zL (ae (fun _ => rfl) _) (zL (ae (fun _ => rfl) _) (zL Z (zL Z (zL Z (zL Z (zL Z (zL Z (zL Z Z))))))))))))))))) Z)) ?_;refine yS Z (ab.not Z Z)<|zN<|zT ?_;refine zX Z (fun g3 => ?_)<|fun g3 => ?_
    ·
     refine zi g3 hr fun hr => zQ<|zR<|zM Z<|zM Z<|yS Z (zD Z Z Z ce Z Z)<|zb hr fun y2 h_y2 hr => yS Z (ab.indexAddrVP Z Z Z Z dI h_y2) ?_;refine yS Z (ab.storeVP (f := ax) (l := x1.o14) y1 Z Z Z Z ce (fun _ => rfl) (fe h_y2).1 Z Z Z Z Z Z Z) ?_;refine zN<|zT<|zR<|zM Z<|yS Z (ay Z Z Z Z)<|zM Z<|zN<|ai<|zT<|zR<|zM Z<|yS Z (ay Z Z Z Z)<|zM Z<|zN<|zT ?_;obtain rfl := zJ hr;exact ⟨_, rfl, zW 17 ⟨(ES (rfl)), rfl, rfl, rfl, rfl, trivial⟩ Z Z Z (zL Z (zL Z (zL Z (zL Z (zL Z (zL Z (zL Z (zL Z (zL (ae (fun _ => rfl) _) (zL (ae (fun _ => rfl) _) (zL Z (zL Z (zL Z (zL Z (zL Z (zL Z (zL Z Z)))))))))))))))))⟩
    ·
     refine zo g3 hr fun hr => zk<|ai<|zT<|zR<|zM Z<|yS Z (ay Z Z Z Z)<|zM Z<|zN<|zT ?_;obtain rfl := zJ hr;exact ⟨_, rfl, zW 17 ⟨rfl, rfl, rfl, rfl, rfl, trivial⟩ Z Z Z (zL Z (zL Z (zL Z (zL Z (zL Z (zL Z (zL Z (zL Z (zL (ae (fun _ => rfl) _) (zL (ae (fun _ => rfl) _) (zL Z (zL Z (zL Z (zL Z (zL Z (zL Z (zL Z Z)))))))))))))))))⟩
   ·
    refine zo g2 hr fun hr => zq<|ao<|ao<|zy<|zT ?_;obtain rfl := zJ hr;have hr := congrArg some (hb_x1 _ rfl);obtain rfl := zJ hr;exact zW 17 ⟨Z, Z, Z, trivial⟩ Z Z Z<|zL Z<|zL Z<|zL Z<|zL Z<|zL Z<|zL Z<|zL Z<|zL Z<|zL (ae (fun _ => rfl) _)<|zL (ae (fun _ => rfl) _)<|zL Z<|zL Z<|zL Z<|zL Z<|zL Z<|zL Z<|zL Z Z
  ·have hr := ho_v2;clear hb_v2;refine zT<|LW.weak hw_v2<|zQ<|zR<|zM Z<|zM Z<|zg hr fun q1 hr => yS Z (ab.sliceVLo Z Z Z Z dI q1)<|zg hr fun q2 hr => ?_;refine yS Z (ab.clearVP (f := ax) (zs := [.int .i64 0, .int .i64 0, .int .u64 0, .int .u64 0, .int .u64 0]) (Bk.mk 0 0 (0, 0) 0) Z Z Z dI (fun _ => rfl) (by kernel_rfl) Z q2 Z) ?_;refine zN<|zT<|zQ<|LW.ent (bK.vlen (t := 0) (n' := ((gU v2.o14 v2.i.toNat (kk - v2.i.toNat) (Bk.mk 0 0 (0, 0) 0)).map ax).length) Z (rf q2))<|zR<|zM Z<|zM Z<|zg hr fun q3 hr => yS Z (ab.sliceVHi Z Z Z Z dI q3)<|zM Z<|zN<|zT<|zr ?_;obtain rfl := zJ hr;exact ap (.one (.tmp Z))<|⟨rfl, rfl⟩
structure iS where
 t8 : Int
 o7 : List Vt
 o9 : List (Vt × Bool)
 o10_5 : Bool
def ko (lV : List Vt) (kk : Nat) (sm : List (ID × Int)) (upto : Int) (x1 : iS) : Option (iS ⊕ (iS ⊕ (Int × List Vt × List (Vt × Bool) × Bool))) :=
 bif decide (x1.t8 < (kk : Int)) then
  (ix (lV.take kk) x1.t8).bind fun y1 =>
  (ut y1 x1.o7 sm x1.o9 upto x1.o10_5).bind fun v2 =>
  bif v2.1 then
   some (.inr (.inr (x1.t8, v2.2.1, v2.2.2.1, v2.2.2.2)))
  else
   some (.inl (iS.mk (IntKind.i64.wrap (x1.t8 + 1)) v2.2.1 v2.2.2.1 v2.2.2.2))
 else
  some (.inr (.inl (iS.mk x1.t8 x1.o7 x1.o9 x1.o10_5)))
def yy (lV : List Vt) (kk : Nat) (wV : List Vt) (sm : List (ID × Int)) (hm : List (Vt × Bool)) (upto : Int) (full : Bool) : Option (Int × List Vt × List (Vt × Bool) × Bool) :=
 (iter (ko lV kk sm upto) bE (iS.mk 0 wV hm full)).bind fun b_v1 => Sum.elim (fun v1 =>
  some ((-1), v1.o7, v1.o9, v1.o10_5)) some b_v1
theorem Gn {lV : List Vt} {kk : Nat} {wB : List Bk} {wV : List Vt} {sm : List (ID × Int)} {hm : List (Vt × Bool)} {upto : Int} {full : Bool} {lB : List Bk} {n0 : Nat} {k0 : Nat} {n1 : Nat} {k1 : Nat} {r_ : Int × List Vt × List (Vt × Bool) × Bool} (hr : yy lV kk wV sm hm upto full = some r_) : LC Tryz.prog 170 [.vec 4 15 (lV.map aD).length 0 kk, .fn 180 [.ptr 10 0] []] [.dead, .dead, .dead, .box [.zs, .zs], .box [.zs, .zs], .dead, .vec 5 (wB.map ax), .vec 4 (wV.map aD), (mQ sm), (mR hm), .box [(jB 6 wB), (jV 7 wV), .map 8, .map 9, (iQ upto), (bQ full)], .dead, .dead, .dead, .vec 5 (lB.map ax), .vec 4 (lV.map aD), .box [.vec 5 14 n0 0 k0, .vec 4 15 n1 0 k1]] (Is (iQ r_.1) [.dead, .dead, .dead, .box [.zs, .zs], .box [.zs, .zs], .dead, .vec 5 (wB.map ax), .vec 4 (r_.2.1.map aD), (mQ sm), (mR r_.2.2.1), .box [(jB 6 wB), (jV 7 r_.2.1), .map 8, .map 9, (iQ upto), (bQ r_.2.2.2)], .dead, .dead, .dead, .vec 5 (lB.map ax), .vec 4 (lV.map aD), .box [.vec 5 14 n0 0 k0, .vec 4 15 n1 0 k1]]) := by
 refine dq Tryz.func170 Z Z Z ?_;unfold yy at hr;refine zQ<|zR<|zM Z<|zN<|zT<|zQ<|zQ<|zR<|zM Z<|yS Z (ab.lenVP Z Z Z (by kernel_rfl))<|zM Z<|zN<|zT ?_;obtain ⟨b_v1, hb_v1, ho_v1⟩ := zB hr;clear hr;refine LW.tailB (b := b_v1) (E := fun v1 => [(4, (iQ 0))]) (O := fun v1 => [.dead, .dead, .dead, .box [.zs, .zs], .box [.zs, .zs], .dead, .vec 5 (wB.map ax), .vec 4 (v1.o7.map aD), (mQ sm), (mR v1.o9), .box [(jB 6 wB), (jV 7 v1.o7), .map 8, .map 9, (iQ upto), (bQ v1.o10_5)], .dead, .dead, .dead, .vec 5 (lB.map ax), .vec 4 (lV.map aD), .box [.vec 5 14 n0 0 k0, .vec 4 15 n1 0 k1]]) ?_<|fun v1 e_v1 env_v1 H_v1 hw_v1 => ?_
 ·refine LW.block ?_;refine LW.iterB (E := fun x1 : iS => [(0, .vec 4 15 (lV.map aD).length 0 kk), (1, .fn 180 [.ptr 10 0] []), (4, (iQ 0)), (7, .p (.int .i64 (kk : Int))), (8, (iQ x1.t8))]) (O := fun x1 => [.dead, .dead, .dead, .box [.zs, .zs], .box [.zs, .zs], .dead, .vec 5 (wB.map ax), .vec 4 (x1.o7.map aD), (mQ sm), (mR x1.o9), .box [(jB 6 wB), (jV 7 x1.o7), .map 8, .map 9, (iQ upto), (bQ x1.o10_5)], .dead, .dead, .dead, .vec 5 (lB.map ax), .vec 4 (lV.map aD), .box [.vec 5 14 n0 0 k0, .vec 4 15 n1 0 k1]]) hb_v1 (zW 17 ⟨rfl, rfl, rfl, rfl, rfl, trivial⟩ Z Z Z (zL Z (zL Z (zL Z (zL Z (zL Z (zL Z (zL Z (zL Z (zL (ae (fun _ => rfl) _) (zL (ae (fun _ => rfl) _) (zL Z (zL Z (zL Z (zL Z (zL Z (zL Z (zL Z Z))))))))))))))))))<|fun x1 z_x1 hr hb_x1 => ?_;unfold ko at hr;refine zQ<|zR<|yS Z (ay Z Z Z Z)<|zN<|zT<|zQ ?_;refine zX Z (fun g1 => ?_)<|fun g1 => ?_
  ·
   refine zi g1 hr fun hr => zk<|zT<|zQ<|zl<|zQ<|zR<|zM Z<|zM Z<|zN<|zT<|zQ<|zR<|zM Z<|zM Z<|zM Z<|zb hr fun y1 h_y1 hr => yS Z (ab.indexAddrVP Z Z Z Z cX h_y1)<|yS Z (ab.loadVX Z Z Z ch (fe h_y1).1 Z Z Z Z)<|zb hr fun v2 h_v2 hr => yS Z (zC Z Z Z (by kernel_rfl) (Dh h_v2))<|zN<|zT ?_;refine zX Z (fun g2 => ?_)<|fun g2 => ?_
   ·
    refine zi g2 hr fun hr => zQ<|zR<|zM Z<|zM Z<|zN<|zT<|zr<|aq<|af<|af<|aq<|af<|af ?_;obtain rfl := zJ hr;have hr := congrArg some (hb_x1 _ rfl);obtain rfl := zJ hr;have hr := cS ho_v1;obtain rfl := zJ hr;exact ap (.one (.tmp Z))<|⟨rfl, rfl⟩
   ·
    refine zo g2 hr fun hr => zk<|ai<|zT<|zR<|yS Z (ay Z Z Z Z)<|zM Z<|zN<|zT ?_;obtain rfl := zJ hr;exact ⟨_, rfl, zW 17 ⟨rfl, rfl, rfl, rfl, rfl, trivial⟩ Z Z Z (zL Z (zL Z (zL Z (zL Z (zL Z (zL Z (zL Z (zL Z (zL (ae (fun _ => rfl) _) (zL (ae (fun _ => rfl) _) (zL Z (zL Z (zL Z (zL Z (zL Z (zL Z (zL Z Z)))))))))))))))))⟩
  ·
   refine zo g1 hr fun hr => zq<|ao<|ao<|zy<|zT ?_;obtain rfl := zJ hr;have hr := congrArg some (hb_x1 _ rfl);obtain rfl := zJ hr;exact ⟨_, rfl, zW 17 ⟨rfl, trivial⟩ Z Z Z (zL Z (zL Z (zL Z (zL Z (zL Z (zL Z (zL Z (zL Z (zL (ae (fun _ => rfl) _) (zL (ae (fun _ => rfl) _) (zL Z (zL Z (zL Z (zL Z (zL Z (zL Z (zL Z Z)))))))))))))))))⟩
 ·obtain rfl := e_v1;have hr := d4 ho_v1;clear hb_v1;refine zT<|LW.weak hw_v1<|zQ<|zR<|zM Z<|zN<|zT<|zr ?_;obtain rfl := zJ hr;exact ap (.one (.tmp Z))<|⟨rfl, rfl⟩
structure gI where
 i : Int
 j : Int
 o7 : List Vt
 o9 : List (Vt × Bool)
 o10_5 : Bool
 o15 : List Vt
def kg (kk : Nat) (sm : List (ID × Int)) (upto : Int) (x1 : gI) : Option (gI ⊕ gI) :=
 bif decide (x1.j < (kk : Int)) then
  (ix (x1.o15.take kk) x1.j).bind fun y1 =>
  (ut y1 x1.o7 sm x1.o9 upto x1.o10_5).bind fun v3 =>
  bif !v3.1 then
   (ix (x1.o15.take kk) x1.i).bind fun _ =>
   some (.inl (gI.mk (IntKind.i64.wrap (x1.i + 1)) (IntKind.i64.wrap (x1.j + 1)) v3.2.1 v3.2.2.1 v3.2.2.2 (x1.o15.set x1.i.toNat y1)))
  else
   some (.inl (gI.mk x1.i (IntKind.i64.wrap (x1.j + 1)) v3.2.1 v3.2.2.1 v3.2.2.2 x1.o15))
 else
  some (.inr (gI.mk x1.i x1.j x1.o7 x1.o9 x1.o10_5 x1.o15))
def yq (lV : List Vt) (kk : Nat) (wV : List Vt) (sm : List (ID × Int)) (hm : List (Vt × Bool)) (upto : Int) (full : Bool) : Option (Nat × List Vt × List Vt × List (Vt × Bool) × Bool) :=
 (yy lV kk wV sm hm upto full).bind fun v1 =>
 bif v1.1 == (-1) then
  some (kk, lV, v1.2.1, v1.2.2.1, v1.2.2.2)
 else
  (iter (kg kk sm upto) bE (gI.mk v1.1 (IntKind.i64.wrap (v1.1 + 1)) v1.2.1 v1.2.2.1 v1.2.2.2 lV)).bind fun v2 =>
  bif decide (0 ≤ v2.i ∧ v2.i ≤ (kk : Int)) then
   bif decide (v2.i.toNat + (kk - v2.i.toNat) ≤ v2.o15.length) then
    bif decide (0 ≤ v2.i ∧ v2.i ≤ (kk : Int)) then
     some (v2.i.toNat, gU v2.o15 v2.i.toNat (kk - v2.i.toNat) (Vt.mk 0 0 (0, 0)), v2.o7, v2.o9, v2.o10_5)
    else none
   else none
  else none
theorem Gk {lV : List Vt} {kk : Nat} {wB : List Bk} {wV : List Vt} {sm : List (ID × Int)} {hm : List (Vt × Bool)} {upto : Int} {full : Bool} {lB : List Bk} {n0 : Nat} {k0 : Nat} {n1 : Nat} {k1 : Nat} {r_ : Nat × List Vt × List Vt × List (Vt × Bool) × Bool} (hr : yq lV kk wV sm hm upto full = some r_) : LC Tryz.prog 150 [.vec 4 15 (lV.map aD).length 0 kk, .fn 180 [.ptr 10 0] []] [.dead, .dead, .dead, .box [.zs, .zs], .box [.zs, .zs], .dead, .vec 5 (wB.map ax), .vec 4 (wV.map aD), (mQ sm), (mR hm), .box [(jB 6 wB), (jV 7 wV), .map 8, .map 9, (iQ upto), (bQ full)], .dead, .dead, .dead, .vec 5 (lB.map ax), .vec 4 (lV.map aD), .box [.vec 5 14 n0 0 k0, .vec 4 15 n1 0 k1]] (Is (.vec 4 15 (r_.2.1.map aD).length 0 r_.1) [.dead, .dead, .dead, .box [.zs, .zs], .box [.zs, .zs], .dead, .vec 5 (wB.map ax), .vec 4 (r_.2.2.1.map aD), (mQ sm), (mR r_.2.2.2.1), .box [(jB 6 wB), (jV 7 r_.2.2.1), .map 8, .map 9, (iQ upto), (bQ r_.2.2.2.2)], .dead, .dead, .dead, .vec 5 (lB.map ax), .vec 4 (r_.2.1.map aD), .box [.vec 5 14 n0 0 k0, .vec 4 15 n1 0 k1]]) := by
 refine dq Tryz.func150 Z Z Z ?_;unfold yq at hr;refine zQ<|zR<|zM Z<|zN<|zT<|zQ<|zR<|zM Z<|zM Z<|zb hr fun v1 h_v1 hr => yS Z (zC Z Z Z (by kernel_rfl) (Gn h_v1))<|zM Z<|zN<|zT<|zQ<|zQ<|zR<|zM Z<|yS Z (ay Z Z Z Z)<|zN<|zT ?_;refine zX Z (fun g1 => ?_)<|fun g1 => ?_
 ·
  refine zi g1 hr fun hr => zQ<|zR<|zM Z<|zM Z<|zN<|zT<|zr<|af ?_;obtain rfl := zJ hr;exact ap (.one (.tmp Z))<|⟨rfl, rfl⟩
 ·
  refine zo g1 hr fun hr => zk<|zT<|zQ<|zQ<|zR<|zM Z<|yS Z (ay Z Z Z Z)<|zM Z<|zN<|zT ?_;obtain ⟨v2, hb_v2, ho_v2⟩ := zB hr;clear hr;refine LW.tail (E := [(0, .vec 4 15 (v2.o15.map aD).length 0 kk), (4, .zs), (5, (iQ v2.i))]) (O := [.dead, .dead, .dead, .box [.zs, .zs], .box [.zs, .zs], .dead, .vec 5 (wB.map ax), .vec 4 (v2.o7.map aD), (mQ sm), (mR v2.o9), .box [(jB 6 wB), (jV 7 v2.o7), .map 8, .map 9, (iQ upto), (bQ v2.o10_5)], .dead, .dead, .dead, .vec 5 (lB.map ax), .vec 4 (v2.o15.map aD), .box [.vec 5 14 n0 0 k0, .vec 4 15 n1 0 k1]]) ?_<|fun env_v2 H_v2 hw_v2 => ?_
  ·refine LW.block ?_;refine LW.iterB (E := fun x1 : gI => [(0, .vec 4 15 (x1.o15.map aD).length 0 kk), (1, .fn 180 [.ptr 10 0] []), (4, .zs), (5, (iQ x1.i)), (6, (iQ x1.j))]) (O := fun x1 => [.dead, .dead, .dead, .box [.zs, .zs], .box [.zs, .zs], .dead, .vec 5 (wB.map ax), .vec 4 (x1.o7.map aD), (mQ sm), (mR x1.o9), .box [(jB 6 wB), (jV 7 x1.o7), .map 8, .map 9, (iQ upto), (bQ x1.o10_5)], .dead, .dead, .dead, .vec 5 (lB.map ax), .vec 4 (x1.o15.map aD), .box [.vec 5 14 n0 0 k0, .vec 4 15 n1 0 k1]]) hb_v2 (zW 17 ⟨rfl, rfl, rfl, rfl, rfl, trivial⟩ Z Z Z (zL Z (zL Z (zL Z (zL Z (zL Z (zL Z (zL Z (zL Z (zL (ae (fun _ => rfl) _) (zL (ae (fun _ => rfl) _) (zL Z (zL Z (zL Z (zL Z (zL Z (zL Z (zL Z Z))))))))))))))))))<|fun x1 z_x1 hr hb_x1 => ?_;unfold kg at hr;refine zQ<|zQ<|zR<|zM Z<|zM Z<|yS Z (ab.lenVP Z Z Z (by kernel_rfl))<|yS Z (ay Z Z Z Z)<|zN<|zT ?_;refine zX Z (fun g2 => ?_)<|fun g2 => ?_
   ·
    refine zi g2 hr fun hr => zk<|zT<|zQ<|zl<|zQ<|zR<|zM Z<|zM Z<|zb hr fun y1 h_y1 hr => yS Z (ab.indexAddrVP Z Z Z Z cX h_y1)<|yS Z (ab.loadVX Z Z Z ch (fe h_y1).1 Z Z Z Z)<|yS Z (ze Z rL Z Z)<|yS Z (zs Z Z Z Z ch Z Z Z Z)<|zN<|zT<|zQ<|zR<|zM Z<|yS Z (zD Z Z Z ch Z Z)<|zb hr fun v3 h_v3 hr => ?_;refine yS Z (zC Z Z Z (by kernel_rfl) (LC.pre (Dh h_v3) Z (zL Z (zL Z (zL Z (zL Z (zL Z (zL Z (zL Z (zL Z (zL (ae (fun _ => rfl) _) (zL (ae (fun _ => rfl) _) (zL Z (zL Z (zL Z (zL Z (zL Z (zL Z (zL Z Z))))))))))))))))) Z)) ?_;refine yS Z (ab.not Z Z)<|zN<|zT ?_;refine zX Z (fun g3 => ?_)<|fun g3 => ?_
    ·
     refine zi g3 hr fun hr => zQ<|zR<|zM Z<|zM Z<|yS Z (zD Z Z Z ch Z Z)<|zb hr fun y2 h_y2 hr => yS Z (ab.indexAddrVP Z Z Z Z cX h_y2) ?_;refine yS Z (ab.storeVP (f := aD) (l := x1.o15) y1 Z Z Z Z ch (fun _ => rfl) (fe h_y2).1 Z Z Z Z Z Z Z) ?_;refine zN<|zT<|zR<|zM Z<|yS Z (ay Z Z Z Z)<|zM Z<|zN<|ai<|zT<|zR<|zM Z<|yS Z (ay Z Z Z Z)<|zM Z<|zN<|zT ?_;obtain rfl := zJ hr;exact ⟨_, rfl, zW 17 ⟨(ES (rfl)), rfl, rfl, rfl, rfl, trivial⟩ Z Z Z (zL Z (zL Z (zL Z (zL Z (zL Z (zL Z (zL Z (zL Z (zL (ae (fun _ => rfl) _) (zL (ae (fun _ => rfl) _) (zL Z (zL Z (zL Z (zL Z (zL Z (zL Z (zL Z Z)))))))))))))))))⟩
    ·
     refine zo g3 hr fun hr => zk<|ai<|zT<|zR<|zM Z<|yS Z (ay Z Z Z Z)<|zM Z<|zN<|zT ?_;obtain rfl := zJ hr;exact ⟨_, rfl, zW 17 ⟨rfl, rfl, rfl, rfl, rfl, trivial⟩ Z Z Z (zL Z (zL Z (zL Z (zL Z (zL Z (zL Z (zL Z (zL Z (zL (ae (fun _ => rfl) _) (zL (ae (fun _ => rfl) _) (zL Z (zL Z (zL Z (zL Z (zL Z (zL Z (zL Z Z)))))))))))))))))⟩
   ·
    refine zo g2 hr fun hr => zq<|ao<|ao<|zy<|zT ?_;obtain rfl := zJ hr;have hr := congrArg some (hb_x1 _ rfl);obtain rfl := zJ hr;exact zW 17 ⟨Z, Z, Z, trivial⟩ Z Z Z<|zL Z<|zL Z<|zL Z<|zL Z<|zL Z<|zL Z<|zL Z<|zL Z<|zL (ae (fun _ => rfl) _)<|zL (ae (fun _ => rfl) _)<|zL Z<|zL Z<|zL Z<|zL Z<|zL Z<|zL Z<|zL Z Z
  ·have hr := ho_v2;clear hb_v2;refine zT<|LW.weak hw_v2<|zQ<|zR<|zM Z<|zM Z<|zg hr fun q1 hr => yS Z (ab.sliceVLo Z Z Z Z cX q1)<|zg hr fun q2 hr => ?_;refine yS Z (ab.clearVP (f := aD) (zs := [.int .i64 0, .int .i64 0, .int .u64 0, .int .u64 0]) (Vt.mk 0 0 (0, 0)) Z Z Z cX (fun _ => rfl) (by kernel_rfl) Z q2 Z) ?_;refine zN<|zT<|zQ<|LW.ent (bK.vlen (t := 0) (n' := ((gU v2.o15 v2.i.toNat (kk - v2.i.toNat) (Vt.mk 0 0 (0, 0))).map aD).length) Z (rf q2))<|zR<|zM Z<|zM Z<|zg hr fun q3 hr => yS Z (ab.sliceVHi Z Z Z Z cX q3)<|zM Z<|zN<|zT<|zr ?_;obtain rfl := zJ hr;exact ap (.one (.tmp Z))<|⟨rfl, rfl⟩
structure Ac where
 Tick : Int
 To : Int
 Offer : Bool
 B : List Bk
 V : List Vt
def nk (a : Ac) : PV := .agg [.int .i64 a.Tick, .int .i64 a.To, .bool a.Offer, .slice 5 (a.B.map ax), .slice 4 (a.V.map aD)]
structure Of where
 Slot : Int
 From : Int
 B : Bk
 V : Vw
def dh (o : Of) : PV := .agg [.int .i64 o.Slot, .int .i64 o.From, .int .i64 o.B.Slot, .int .i64 o.B.From, .int .u64 o.B.Parent.1, .int .u64 o.B.Parent.2, .int .u64 o.B.Salt, .slice 5 (o.V.B.map ax), .slice 4 (o.V.V.map aD)]
structure Nd where
 No : Int
 Tick : Int
 V : Vw
 In : Vw
 O : List Of
 C : Cu
 Full : Bool
def gV (n : Nd) : PV := .agg [.int .i64 n.No, .int .i64 n.Tick, .slice 5 (n.V.B.map ax), .slice 4 (n.V.V.map aD), .slice 5 (n.In.B.map ax), .slice 4 (n.In.V.map aD), .slice 9 (n.O.map dh), .int .u64 n.C.ID.1, .int .u64 n.C.ID.2, .int .i64 n.C.Slot, .int .i64 n.C.Revoked, .bool n.Full]
structure Wd where
 C : Cf
 Bad : List Int
 Tick : Int
 N : List Nd
 O : List Of
def x5 (w : Wd) : PV := .agg [.slice 1 (w.C.W.map aB), .int .u64 w.C.Seed, .int .i64 w.C.Epoch, .int .i64 w.C.Num, .int .i64 w.C.Den, .slice 1 (w.Bad.map aB), .int .i64 w.Tick, .slice 12 (w.N.map gV), .slice 9 (w.O.map dh)]
structure Du where
 frm : Int
 slot : Int
 deriving DecidableEq
def p4 (d : Du) : PV := .agg [.int .i64 d.frm, .int .i64 d.slot]
theorem wd : eF p4 2 true := ⟨fun a b => by
 obtain ⟨x, y⟩ := a;obtain ⟨z, w⟩ := b;simp only [p4, gr, oN, Bool.and_true, Du.mk.injEq, Option.some.injEq]
 by_cases h1 : x = z <;> by_cases h2 : y = w <;> simp [h1, h2], fun _ => rfl⟩
abbrev kO (l : List Of) : LV := .p (.slice 9 (l.map dh))
abbrev jO (i : Nat) (l : List Of) : LV := .vec 9 i (l.map dh).length 0 (l.map dh).length
abbrev mn : List LV := [iQ 0, iQ 0, .zs, .zs, .zs, .zs, .zs, uQ 0, uQ 0, iQ 0, iQ 0, bQ false]
abbrev l4 (n : Nd) : List LV := [.p (.int .i64 n.No), .p (.int .i64 n.Tick), .p (.slice 5 (n.V.B.map ax)), .p (.slice 4 (n.V.V.map aD)), .p (.slice 5 (n.In.B.map ax)), .p (.slice 4 (n.In.V.map aD)), .p (.slice 9 (n.O.map dh)), .p (.int .u64 n.C.ID.1), .p (.int .u64 n.C.ID.2), .p (.int .i64 n.C.Slot), .p (.int .i64 n.C.Revoked), .p (.bool n.Full)]
abbrev gB (w : Wd) : List LV := [.p (.slice 1 (w.C.W.map aB)), .p (.int .u64 w.C.Seed), .p (.int .i64 w.C.Epoch), .p (.int .i64 w.C.Num), .p (.int .i64 w.C.Den), .p (.slice 1 (w.Bad.map aB)), .p (.int .i64 w.Tick), .p (.slice 12 (w.N.map gV)), .p (.slice 9 (w.O.map dh))]
abbrev rM : List LV := [.zs, .p (.int .u64 0), .p (.int .i64 0), .p (.int .i64 0), .p (.int .i64 0), .zs, .p (.int .i64 0), .zs, .zs]
abbrev jU (w : Wd) (a : Vw) (h : Int) (m : Bool) (l : List Ac) (f i j : Nat) : List LV := [.p (.slice 1 (w.C.W.map aB)), .p (.int .u64 w.C.Seed), .p (.int .i64 w.C.Epoch), .p (.int .i64 w.C.Num), .p (.int .i64 w.C.Den), .p (.slice 1 (w.Bad.map aB)), .p (.int .i64 w.Tick), .p (.slice 12 (w.N.map gV)), .p (.slice 9 (w.O.map dh)), .p (.slice 5 (a.B.map ax)), .p (.slice 4 (a.V.map aD)), .p (.int .i64 h), .p (.bool m), .fn f [] [.ptr i 0, .ptr j 0], .p (.int .i64 (IntKind.i64.wrap (w.Tick.tdiv 3))), .p (.slice 5 (l.map nk))]
abbrev hM (w : Wd) (a : Vw) (h : Int) (m : Bool) (l : List Ac) (f g : Nat) : List aa := [.box (gB w), .box rM, .box (gB w), .box (jU w a h m l f 5 4), .box (jU w a h m l f 5 4), .box [.fn g [] [.ptr 2 0]]]
def uY (v : Vt) : List Vt → List Vt
 | [] => [v]
 | x :: r => if v.From < x.From then v :: x :: r else x :: uY v r
def fx : List Vt → List Vt
 | [] => []
 | v :: r => uY v (fx r)
def lK (l : List Vt) : Prop := l.Pairwise fun a b => a.From ≤ b.From
theorem mH (v : Vt) : ∀ l : List Vt, (uY v l).Perm (v :: l)
 | [] => .refl _
 | x :: r => by
  unfold uY;split
  ·exact .refl _
  ·exact ((mH v r).cons x).trans (.swap v x r)
theorem bW : ∀ l : List Vt, (fx l).Perm l
 | [] => .refl _
 | v :: r => (mH v (fx r)).trans ((bW r).cons v)
theorem qG {v : Vt} : ∀ {l : List Vt}, lK l → lK (uY v l)
 | [], _ => by simp [uY, lK]
 | x :: r, h => by
  have h2 := List.pairwise_cons.1 h;unfold uY;split
  ·rename_i hl
   exact List.pairwise_cons.2 ⟨fun y hy => by
    rcases List.mem_cons.1 hy with e | hy
    ·subst e; omega
    ·have := h2.1 y hy; omega, h⟩
  ·rename_i hl;refine List.pairwise_cons.2 ⟨fun y hy => ?_, qG h2.2⟩;rcases List.mem_cons.1 ((mH v r).mem_iff.1 hy) with e | hy
   ·subst e; omega
   ·exact h2.1 y hy
theorem jg : ∀ l : List Vt, lK (fx l)
 | [] => .nil
 | _ :: r => qG (jg r)
theorem pt : ∀ {a b : List Vt}, a.Perm b → lK a → lK b → (∀ x ∈ a, ∀ y ∈ a, x.From = y.From → x = y) → a = b
 | [], b, h, _, _, _ => (List.Perm.nil_eq h)
 | x :: r, b, h, ha, hb, hd => by
  cases b with
  | nil => exact absurd h.length_eq (by simp)
  | cons y s =>
   have ha2 := List.pairwise_cons.1 ha;have hb2 := List.pairwise_cons.1 hb;have hy : y ∈ x :: r := h.mem_iff.2 (.head _);have hx : x ∈ y :: s := h.mem_iff.1 (.head _)
   have e : x = y := by
    refine hd x (.head _) y hy ?_
    have h1 : x.From ≤ y.From := by
     rcases List.mem_cons.1 hy with e | hy
     ·rw [e]; omega
     ·exact ha2.1 y hy
    have h2 : y.From ≤ x.From := by
     rcases List.mem_cons.1 hx with e | hx
     ·rw [e]; omega
     ·exact hb2.1 x hx
    omega
   subst e;rw [pt (List.Perm.cons_inv h) ha2.2 hb2.2 fun p hp q hq => hd p (.tail _ hp) q (.tail _ hq)]
theorem xR {a b : List Vt} (h : a.Perm b) (hd : ∀ x ∈ a, ∀ y ∈ a, x.From = y.From → x = y) : fx a = fx b :=
 pt ((bW a).trans (h.trans (bW b).symm)) (jg a) (jg b) fun x hx y hy => hd x ((bW a).mem_iff.1 hx) y ((bW a).mem_iff.1 hy)
theorem Ba {a b : List Vt} (h : a.Perm b) (hb : lK b) (hd : ∀ x ∈ a, ∀ y ∈ a, x.From = y.From → x = y) : fx a = b :=
 pt ((bW a).trans h) (jg a) hb fun x hx y hy => hd x ((bW a).mem_iff.1 hx) y ((bW a).mem_iff.1 hy)
def vj (l : List Vt) : Bool := decide (l.length ≤ 1000000 ∧ ∀ x ∈ l, ∀ y ∈ l, x.From = y.From → x = y)
open Go.Proofs
theorem ob {α β : Type} {x : α} {f : α → Option β} : (some x).bind f = f x := by
 have h : ∀ o : Option α, o = some x → o.bind f = f x := by intro o e; subst e; rfl
 exact h _ Z
theorem ct {α : Sort _} {x y : α} : (bif true then x else y) = x := by
 have h : ∀ b : Bool, b = true → (bif b then x else y) = x := by intro o e; subst e; rfl
 exact h _ Z
theorem cf {α : Sort _} {x y : α} : (bif false then x else y) = y := by
 have h : ∀ b : Bool, b = false → (bif b then x else y) = y := by intro o e; subst e; rfl
 exact h _ Z
theorem sl {α β γ : Type} {f : α → γ} {g : β → γ} {x : α} : Sum.elim f g (.inl x) = f x := by
 have h : ∀ s : α ⊕ β, s = .inl x → Sum.elim f g s = f x := by intro o e; subst e; rfl
 exact h _ Z
theorem sr {α β γ : Type} {f : α → γ} {g : β → γ} {x : β} : Sum.elim f g (.inr x) = g x := by
 have h : ∀ s : α ⊕ β, s = .inr x → Sum.elim f g s = g x := by intro o e; subst e; rfl
 exact h _ Z
theorem df {α β : Type} {step : α → Option (α ⊕ β)} (Inv : α → Prop) (m : α → Nat) (Post : β → Prop)
  (h : ∀ x, Inv x → (∃ y, step x = some (.inl y) ∧ Inv y ∧ m y < m x) ∨ ∃ b, step x = some (.inr b) ∧ Post b) : ∀ {n : Nat} {x : α}, Inv x → m x < n → ∃ b, iter step n x = some b ∧ Post b := by
 intro n
 induction n with
 | zero => intro x _ hn; omega
 | succ n ih =>
  intro x hx hn;unfold iter;rcases h x hx with ⟨y, h1, h2, h3⟩ | ⟨b, h1, h2⟩
  ·rw [h1]; exact ih h2 (by omega)
  ·rw [h1]; exact ⟨b, rfl, h2⟩
theorem aC {α : Type} {l : List α} {n : Nat} {y : α} (h : l[n]? = some y) : ix l (n : Int) = some y := by
 unfold ix; rw [if_pos (by omega)]; simpa using h
theorem aA {α : Type} {l : List α} {n : Nat} (h : n < l.length) : ∃ y, l[n]? = some y ∧ y ∈ l := ⟨l[n], List.getElem?_eq_getElem h, List.getElem_mem h⟩
theorem ak {n : Nat} (h : n < 4000000000) : IntKind.i64.wrap ((n : Int) + 1) = ((n + 1 : Nat) : Int) := by
 rw [eA (by omega) (by omega)]; omega
theorem aK {a b c : Nat} (h : a + b ≤ 1000000) (hc : c ≤ 1000) : ci a b c = true := by
 have : (a + b) * (c + 1) ≤ 1000000 * 1001 := Nat.mul_le_mul h (by omega);exact decide_eq_true (by omega)
theorem ec {n : Nat} (h : n < 4000000000000000000) : n < bE := by unfold bE; omega
theorem Gz (a : ID) : ((a.1 == 0) && ((a.2 == 0) && true)) = decide (a = (0, 0)) := CF a (0, 0)
theorem wy {α : Type} {f : α → PV} {O : α → Prop} {T : TS} (hf : ∀ p, nO T p → ∃ a, p = f a ∧ O a) : ∀ {xs : List PV}, (∀ x ∈ xs, nO T x) → ∃ l : List α, xs = l.map f ∧ ∀ a ∈ l, O a
 | [], _ => ⟨[], rfl, fun a h => by simp at h⟩
 | x :: xs, h => by
  obtain ⟨a, rfl, ha⟩ := hf x (h x (.head _));obtain ⟨l, rfl, hl⟩ := wy hf fun y hy => h y (.tail _ hy)
  exact ⟨a :: l, rfl, fun b hb => by
   cases hb with
   | head => exact ha
   | tail _ hb => exact hl b hb⟩
theorem lT {α : Type} {f : α → PV} {O : α → Prop} {T : TS} {m : Nat} (hf : ∀ p, nO T p → ∃ a, p = f a ∧ O a) {p : PV} (h : nO (.slice m T) p) : ∃ l : List α, p = .slice m (l.map f) ∧ ∀ a ∈ l, O a := by
 cases h with
 | slice h =>
  obtain ⟨l, rfl, hl⟩ := wy hf h;exact ⟨l, rfl, hl⟩
def Fb (b : Bk) : Prop := aP .i64 b.Slot ∧ aP .i64 b.From ∧ aP .u64 b.Parent.1 ∧ aP .u64 b.Parent.2 ∧ aP .u64 b.Salt
def Fp (v : Vt) : Prop := aP .i64 v.From ∧ aP .i64 v.Slot ∧ aP .u64 v.Head.1 ∧ aP .u64 v.Head.2
def HR (c : Cf) : Prop := (∀ w ∈ c.W, aP .i64 w) ∧ aP .u64 c.Seed ∧ aP .i64 c.Epoch ∧ aP .i64 c.Num ∧ aP .i64 c.Den
theorem GI {p : PV} (h : nO (.agg [.int .i64, .int .i64, .int .u64, .int .u64, .int .u64]) p) : ∃ c : Bk, p = ax c ∧ Fb c := by
 cases h with | agg h =>
 cases h with | cons a h => cases h with | cons b h => cases h with | cons c h => cases h with | cons d h => cases h with | cons e h =>
  cases h; cases a; cases b; cases c; cases d; cases e;exact ⟨⟨_, _, (_, _), _⟩, rfl, by assumption, by assumption, by assumption, by assumption, by assumption⟩
theorem GL {p : PV} (h : nO (.agg [.int .i64, .int .i64, .int .u64, .int .u64]) p) : ∃ c : Vt, p = aD c ∧ Fp c := by
 cases h with | agg h =>
 cases h with | cons a h => cases h with | cons b h => cases h with | cons c h => cases h with | cons d h =>
  cases h; cases a; cases b; cases c; cases d;exact ⟨⟨_, _, (_, _)⟩, rfl, by assumption, by assumption, by assumption, by assumption⟩
theorem EJ {k : IntKind} {f : Int → PV} (hf : ∀ n, f n = .int k n) {p : PV} (h : nO (.int k) p) : ∃ n, p = f n ∧ aP k n := by
 cases h with | int h => exact ⟨_, (hf _).symm, h⟩
theorem EK {p : PV} (h : nO (.slice 1 (.int .i64)) p) : ∃ l : List Int, p = .slice 1 (l.map aB) ∧ ∀ a ∈ l, aP .i64 a := lT (fun _ h => EJ (fun _ => rfl) h) h
theorem GJ {p : PV} (h : nO (.agg [.slice 1 (.int .i64), .int .u64, .int .i64, .int .i64, .int .i64]) p) : ∃ c : Cf, p = kz c ∧ HR c := by
 cases h with | agg h =>
 cases h with | cons a h => cases h with | cons b h => cases h with | cons c h => cases h with | cons d h => cases h with | cons e h =>
  cases h;obtain ⟨w, rfl, hw⟩ := EK a;cases b; cases c; cases d; cases e;exact ⟨⟨w, _, _, _, _⟩, rfl, hw, by assumption, by assumption, by assumption, by assumption⟩
theorem EF {l : List Bk} (h : l.length ≤ 1000) : few l = true := decide_eq_true h
section
variable {l : List Bk}
def mE (l : List Bk) (id : ID) : Int := match places l with
 | none => -1
 | some m => (aj m id).getD (-1)
def gR (l : List Bk) (id : ID) : Int × Bool := match places l with
 | none => (0, false)
 | some m => match aj m id with
  | none => (0, false)
  | some i => (bV l i, true)
def cE (l : List Bk) (id : ID) : List ID := match places l with
 | none => []
 | some _ => (l.filter fun b => decide (b.Parent = id)).map nm
theorem yW : EZ l = some (places l).isSome := by
 unfold EZ;cases h : places l <;> rfl
theorem tC {m : List (ID × Int)} (h : places l = some m) {id : ID} {i : Int} (hf : aj m id = some i) : (i = -1 ∧ id = (0, 0)) ∨ ∃ b, 0 ≤ i ∧ i < l.length ∧ l[i.toNat]? = some b ∧ nm b = id ∧ bV l i = b.Slot := by
 rcases (bJ h).known _ _ hf with h1 | ⟨b, p, h0, h1, h2, h3, -⟩
 ·exact .inl h1
 ·exact .inr ⟨b, h0, h1, h2, h3, by simp [bV, h2, show ¬ i = -1 by omega]⟩
theorem ta {n : Nat} {y : Bk} (hy : l[n]? = some y) (id : ID) : ((l.take (n + 1)).filter fun b => decide (b.Parent = id)).map nm = ((l.take n).filter fun b => decide (b.Parent = id)).map nm ++ if y.Parent = id then [nm y] else [] := by
 rw [List.take_add_one, hy, List.filter_append, List.map_append];by_cases h : y.Parent = id <;> simp [h]
theorem xu {n : Nat} {y : Bk} {out : List ID} {id : ID} {v : ID} (hl : l.length ≤ 1000) (hn : n < l.length) (hy : l[n]? = some y) (ho : out.length ≤ n) (hv : nm y = v) :
  mr l id ⟨n, out⟩ = some (.inl ⟨IntKind.i64.wrap ((n : Int) + 1), out ++ if y.Parent = id then [v] else []⟩) := by
 simp only [mr];rw [decide_eq_true (show (n : Int) < (l.length : Int) by omega), aC hy];simp only [ct, ob, hv, CF];rw [aK (by simp; omega) (by omega)];by_cases h : y.Parent = id
 ·rw [decide_eq_true h, if_pos h]; rfl
 ·rw [decide_eq_false h, if_neg h, List.append_nil]; rfl
theorem DP (hl : l.length ≤ 1000) (id : ID) : Fd l id = some (cE l id) := by
 simp only [Fd, yW, ob];unfold cE
 cases h : places l with
 | none => rfl
 | some m =>
 simp only [Option.isSome_some, Bool.not_true, cf]
 have key := df (step := mr l id) (fun x => ∃ n : Nat, x.t13 = n ∧ n ≤ l.length ∧ x.out = ((l.take n).filter fun b => decide (b.Parent = id)).map nm)
  (fun x => l.length - x.t13.toNat) (fun b => b.out = (l.filter fun b => decide (b.Parent = id)).map nm) (by
   rintro ⟨i, out⟩ ⟨n, rfl, hn, ho⟩;simp only at ho ⊢;by_cases hlt : n < l.length
   case neg =>
    right;refine ⟨⟨n, out⟩, ?_, ?_⟩
    ·simp only [mr]; rw [decide_eq_false (by omega)]; rfl
    ·rw [ho, List.take_of_length_le (by omega)]
   obtain ⟨y, hy, -⟩ := aA hlt;left
   have hol : out.length ≤ n := by
    rw [ho, List.length_map];exact Nat.le_trans (List.length_filter_le _ _) (by simp; omega)
   refine ⟨_, xu hl hlt hy hol rfl, ⟨n + 1, ak (n := n) (by omega), by omega, ?_⟩, ?_⟩
   ·rw [ta hy, ← ho]
   ·simp only [ak (show n < 4000000000 by omega)]; omega) (x := ⟨0, []⟩) ⟨0, rfl, Nat.zero_le _, by simp⟩ (n := bE) (ec (by simp only; omega))
 obtain ⟨b, hb, hpost⟩ := key;simp only [hb, ob, hpost]
end
def nU (l : List Bk) : Nat → List (ID × Int)
 | 0 => [((0, 0), -1)]
 | n + 1 => match l[n]? with
  | some b => nU l n ++ [(nm b, (n : Int))]
  | none => nU l n
theorem rq {a : List ID} {x id : ID} : aR (a ++ [x]) id = if 0 ≤ aR a id then aR a id else if x = id then a.length else -1 := by
 rcases lj (l := a) (v := id) with ⟨h1, h2⟩ | ⟨i, h1, h2, h3⟩
 ·rw [if_neg (by omega)];by_cases hx : x = id
  ·subst hx;rw [if_pos rfl];refine li (i := a.length) (by simp) fun j hj e => h2 ?_;rw [List.getElem?_append_left hj] at e;exact List.mem_of_getElem? e
  ·rw [if_neg hx];refine lS fun j hj e => ?_;have := List.mem_of_getElem? e;simp only [List.mem_append, List.mem_singleton] at this;rcases this with h | h
   ·exact h2 h
   ·exact hx h.symm
 ·rw [h1, if_pos (by omega)];have hi := (List.getElem?_eq_some_iff.1 h2).1;refine li (by rw [List.getElem?_append_left hi]; exact h2) fun j hj => ?_;rw [List.getElem?_append_left (by omega)]; exact h3 j hj
theorem tH {l : List Bk} (id : ID) : ∀ n, n ≤ l.length → aj (nU l n) id = if id = (0, 0) then some (-1) else if 0 ≤ aR ((l.take n).map nm) id then some (aR ((l.take n).map nm) id) else none
 | 0, _ => by
  have : aR ((l.take 0).map nm) id = -1 := by simp [aR]
  simp only [nU, aj, this];by_cases h : id = (0, 0)
  ·subst h; simp
  ·rw [if_neg (fun e => h e.symm), if_neg h, if_neg (by omega)]
 | n + 1, hn => by
  obtain ⟨b, hb, -⟩ := aA (l := l) (n := n) (by omega);have ih := tH (l := l) id n (by omega);simp only [nU, hb];rw [eI, ih, List.take_add_one, hb];simp only [Option.toList, List.map_append, List.map_cons, List.map_nil];rw [rq];by_cases h : id = (0, 0)
  ·rw [if_pos h, if_pos h]; rfl
  ·rw [if_neg h, if_neg h];by_cases h2 : 0 ≤ aR ((l.take n).map nm) id
   ·rw [if_pos h2, if_pos h2, if_pos h2]; rfl
   ·rw [if_neg h2, if_neg h2];by_cases h3 : nm b = id
    ·rw [if_pos h3, if_pos h3, if_pos (by omega)];simp; omega
    ·rw [if_neg h3, if_neg h3, if_neg (by omega)]; rfl
theorem AO {l : List Bk} {n : Nat} {id : ID} (h : 0 ≤ aR ((l.take n).map nm) id) : ∃ (j : Nat) (b : Bk), aR ((l.take n).map nm) id = j ∧ j < n ∧ l[j]? = some b ∧ nm b = id := by
 rcases lj (l := (l.take n).map nm) (v := id) with ⟨h1, h2⟩ | ⟨i, h1, h2, h3⟩
 ·omega
 ·have hi := (List.getElem?_eq_some_iff.1 h2).1;simp only [List.length_map, List.length_take] at hi;rw [List.getElem?_map, List.getElem?_take_of_lt (by omega)] at h2
  cases hb : l[i]? with
  | none => rw [hb] at h2; simp at h2
  | some b => rw [hb] at h2; simp at h2; exact ⟨i, b, h1, by omega, hb, h2⟩
theorem vc {l : List Bk} : ∀ (r n : Nat), l.length - n = r → n ≤ l.length → ∀ m, dZ l (l.drop n) n (nU l n) = some m → m = nU l l.length := by
 intro r
 induction r with
 | zero =>
  intro n hr hn m h
  have : n = l.length := by omega
  subst this;rw [List.drop_length] at h;cases h; rfl
 | succ r ih =>
  intro n hr hn m h;obtain ⟨y, hy, -⟩ := aA (l := l) (n := n) (by omega);rw [ey hy] at h;split at h
  ·cases h
  ·split at h
   ·cases h
   ·split at h
    ·cases h
    ·refine ih (n + 1) (by omega) (by omega) m ?_
     have e : nU l (n + 1) = nU l n ++ [(nm y, (n : Int))] := by simp only [nU, hy]
     rw [e]; exact h
theorem xH {l : List Bk} {m : List (ID × Int)} (h : places l = some m) : m = nU l l.length := vc l.length 0 (by omega) (Nat.zero_le _) m h
def Pl (n i : Int) : Prop := 1 ≤ n ∧ n ≤ 1000 ∧ 0 ≤ i ∧ i < n
instance (n i : Int) : Decidable (Pl n i) := inferInstanceAs (Decidable (_ ∧ _))
def rt (seed n i : Int) : Nat → Int
 | 0 => i
 | k + 1 => pK seed n k (rt seed n i k)
def Bh (seed n i : Int) : Int := rt seed n i 10
theorem BG (n i : Int) : x7 n i = some (decide (Pl n i)) := by
 unfold x7;by_cases h1 : n > 0
 ·rw [decide_eq_true h1, ct];by_cases h2 : n ≤ 1000
  ·rw [decide_eq_true h2, ct];by_cases h3 : i ≥ 0
   ·rw [decide_eq_true h3, ct];congr 1;exact decide_eq_decide.2 ⟨fun h => ⟨by omega, h2, h3, h⟩, fun h => h.2.2.2⟩
   ·rw [decide_eq_false h3, cf, decide_eq_false (fun h => h3 h.2.2.1)]
  ·rw [decide_eq_false h2, cf, decide_eq_false (fun h => h2 h.2.1)]
 ·rw [decide_eq_false h1, cf, decide_eq_false (fun h => h1 (by have := h.1; omega))]
theorem xV {n i r : Int} (h : Pl n i) (h0 : 0 ≤ r) (h1 : r < 10) : pL n r = true :=
 decide_eq_true ⟨by have := h.1; omega, by have := h.1; have := h.2.1; rw [pS (by omega) (by omega)]; omega, h0, h1⟩
theorem BH {seed n i : Int} {d : Dk} (h : Pl n i) (hk0 : 0 ≤ d.k) (hk1 : d.k ≤ 100000) : ∃ d', x8 seed n i d = some (Bh seed n i, d') ∧ d'.k = d.k + 10 := by
 have key := @df _ _ (nL seed n) (fun x => ∃ j : Nat, j ≤ 10 ∧ x.t6 = j ∧ x.i = rt seed n i j ∧ x.d.k = d.k + j) (fun x => 11 - x.t6.toNat) (fun b => b.i = Bh seed n i ∧ b.d.k = d.k + 10) (by
  rintro ⟨a, t, dd⟩ ⟨j, hj, rfl, ha, hd⟩;simp only at ha hd;subst ha;by_cases hlt : j < 10
  ·left
   refine ⟨_, by
    simp only [nL]
    rw [decide_eq_true (show (j : Int) < 10 by omega), ct, xV h (by omega) (by omega), ct], ⟨j + 1, by omega, ak (n := j) (by omega), rfl, ?_⟩, ?_⟩
   ·show IntKind.i64.wrap (dd.k + 1) = _;rw [hd, eA (by omega) (by omega)]; omega
   ·simp only [ak (show j < 4000000000 by omega)]; omega
  ·right
   obtain rfl : j = 10 := by omega
   exact ⟨_, rfl, rfl, hd⟩)
 obtain ⟨b, hb, h1, h2⟩ := key (n := bE) (x := ⟨i, 0, d⟩) ⟨0, by omega, rfl, rfl, by simp⟩ (ec (by omega));refine ⟨b.d, ?_, h2⟩;unfold x8;rw [hb, ob, h1]
def gO (seed n : Int) (k : Nat) : List Int := (List.range k).map fun j : Nat => Bh seed n j
def qN (seed n : Int) : List Int := if 1 ≤ n ∧ n ≤ 1000 then gO seed n n.toNat else []
theorem mP (seed n : Int) (k : Nat) : (gO seed n k).length = k := by simp [gO]
theorem vb (seed n : Int) (k : Nat) : gO seed n (k + 1) = gO seed n k ++ [Bh seed n k] := by simp [gO, List.range_succ]
theorem xF {seed n : Int} {k j : Nat} (h : j < k) : (gO seed n k)[j]? = some (Bh seed n j) := by simp [gO, h]
theorem CR {A : List Int} {m : Nat} {v z : Int} : (A ++ List.replicate (m + 1) z).set A.length v = (A ++ [v]) ++ List.replicate m z := by
 rw [List.set_append_right _ _ (Nat.le_refl _), Nat.sub_self, List.replicate_succ];simp
theorem DQ (seed n : Int) : Fe seed n = some (qN seed n) := by
 unfold Fe qN;rw [BG, ob];by_cases h : 1 ≤ n ∧ n ≤ 1000
 ·obtain ⟨h1, h2⟩ := h;have hp : Pl n 0 := ⟨h1, h2, by omega, by omega⟩;rw [decide_eq_true hp, if_pos ⟨h1, h2⟩, Bool.not_true, cf, show xA n 8 = true from decide_eq_true ⟨by omega, by omega, by omega⟩, ct]
  have key := @df _ _ (oq seed n) (fun x => ∃ j : Nat, j ≤ n.toNat ∧ x.t19 = j ∧ x.d.k = 10 * (j : Int) ∧ x.l = gO seed n j ++ List.replicate (n.toNat - j) 0) (fun x => n.toNat + 1 - x.t19.toNat) (fun b => b.l = gO seed n n.toNat ∧ b.d.k = 10 * n) (by
   rintro ⟨t, d, l⟩ ⟨j, hj, rfl, hd, hl⟩;simp only at hd hl;subst hl;by_cases hlt : j < n.toNat
   ·left;have hpl : Pl n (j : Int) := ⟨h1, h2, by omega, by omega⟩;obtain ⟨d', e, hk⟩ := BH (seed := seed) (d := d) hpl (by omega) (by omega)
    have hix : ix (gO seed n j ++ List.replicate (n.toNat - j) 0) (j : Int) = some 0 := aC (by
     rw [List.getElem?_append_right (by rw [mP]; omega), mP, Nat.sub_self, show n.toNat - j = (n.toNat - j - 1) + 1 by omega, List.replicate_succ]; rfl)
    refine ⟨_, by
     simp only [oq]
     rw [decide_eq_true (show (j : Int) < ((List.replicate n.toNat (0 : Int)).length : Int) by rw [List.length_replicate]; omega), ct, e, ob, hix, ob],
     ⟨j + 1, by omega, ak (n := j) (by omega), by show d'.k = _; omega, ?_⟩, ?_⟩
    ·show List.set (gO seed n j ++ List.replicate (n.toNat - j) 0) (j : Int).toNat (Bh seed n j) = _;rw [show n.toNat - j = (n.toNat - (j + 1)) + 1 by omega, vb];have := CR (A := gO seed n j) (m := n.toNat - (j + 1)) (v := Bh seed n j) (z := 0);rw [mP] at this;exact this
    ·simp only [ak (show j < 4000000000 by omega)]; omega
   ·right
    obtain rfl : j = n.toNat := by omega
    refine ⟨_, by
     simp only [oq]
     rw [decide_eq_false (show ¬ ((n.toNat : Nat) : Int) < ((List.replicate n.toNat (0 : Int)).length : Int) by rw [List.length_replicate]; omega), cf], ?_, ?_⟩
    ·simp
    ·simp only; omega)
  obtain ⟨b, hb, h3, h4⟩ := key (n := bE) (x := ⟨0, IE, List.replicate n.toNat 0⟩) ⟨0, by omega, rfl, rfl, by simp [gO]⟩ (ec (by omega));rw [hb, ob, h3, decide_eq_false (show ¬ b.d.k < n by omega), cf]
 ·rw [decide_eq_false (fun hp : Pl n 0 => h ⟨hp.1, hp.2.1⟩), if_neg h]; rfl
theorem HV {a b : Int} (h : a = b) : (a == b) = true := by simp [h]
theorem A5 {seed n : Int} (h1 : 1 ≤ n) (h2 : n ≤ 1000) {j : Nat} (hj : (j : Int) < n) : ix (qN seed n) (j : Int) = some (Bh seed n j) := by
 unfold qN;rw [if_pos ⟨h1, h2⟩];exact aC<|xF (by omega)
open Go.Proofs
theorem az {S R : Type} {step : S → Option (S ⊕ R)} {n : Nat} (g : Nat → S) (r : R) (hs : ∀ j, j < n → step (g j) = some (.inl (g (j + 1)))) (he : step (g n) = some (.inr r)) (hn : n < 4000000000000000000) :
  iter step bE (g 0) = some r := by
 have key : ∀ (d k f : Nat), k + d = n → d < f → iter step f (g k) = some r := by
  intro d
  induction d with
  | zero =>
   intro k f hk hf;obtain ⟨f, rfl⟩ : ∃ q, f = q + 1 := ⟨f - 1, by omega⟩
   obtain rfl : k = n := by omega
   unfold iter;rw [he]
  | succ d ih =>
   intro k f hk hf;obtain ⟨f, rfl⟩ : ∃ q, f = q + 1 := ⟨f - 1, by omega⟩;unfold iter;rw [hs k (by omega)];exact ih (k + 1) f (by omega) (by omega)
 exact key n 0 bE (by omega)<|ec hn
def mL (x : Int) : List Int → Int
 | [] => x
 | y :: r => mL (if y < x then y else x) r
def mK (x : Int) : List Int → Int
 | [] => x
 | y :: r => mK (if y > x then y else x) r
theorem AT (x : Int) (a : List Int) (y : Int) : mL x (a ++ [y]) = if y < mL x a then y else mL x a := by
 induction a generalizing x with
 | nil => rfl
 | cons z r ih => exact ih _
theorem AP (x : Int) (a : List Int) (y : Int) : mK x (a ++ [y]) = if y > mK x a then y else mK x a := by
 induction a generalizing x with
 | nil => rfl
 | cons z r ih => exact ih _
theorem CO {k x : Int} {l : List Int} : mL x l < k ↔ x < k ∨ ∃ y ∈ l, y < k := by
 induction l generalizing x with
 | nil => simp [mL]
 | cons z r ih =>
  simp only [mL, ih, List.mem_cons, exists_eq_or_imp];split
  ·constructor
   ·rintro (h | h)
    ·exact .inr<|.inl h
    ·exact .inr<|.inr h
   ·rintro (h | h | h)
    ·exact .inl (by omega)
    ·exact .inl h
    ·exact .inr h
  ·constructor
   ·rintro (h | h)
    ·exact .inl h
    ·exact .inr<|.inr h
   ·rintro (h | h | h)
    ·exact .inl h
    ·exact .inl (by omega)
    ·exact .inr h
theorem CN {k x : Int} {l : List Int} : mK x l > k ↔ x > k ∨ ∃ y ∈ l, y > k := by
 induction l generalizing x with
 | nil => simp [mK]
 | cons z r ih =>
  simp only [mK, ih, List.mem_cons, exists_eq_or_imp];split
  ·constructor
   ·rintro (h | h)
    ·exact .inr<|.inl h
    ·exact .inr<|.inr h
   ·rintro (h | h | h)
    ·exact .inl (by omega)
    ·exact .inl h
    ·exact .inr h
  ·constructor
   ·rintro (h | h)
    ·exact .inl h
    ·exact .inr<|.inr h
   ·rintro (h | h | h)
    ·exact .inl h
    ·exact .inl (by omega)
    ·exact .inr h
theorem fh {l : List Int} {j : Nat} {y : Int} (h : l[j]? = some y) : l.take (j + 1) = l.take j ++ [y] := by rw [List.take_add_one, h]; rfl
theorem BI {x : Int} {r : List Int} (h : r.length ≤ 1000) : yd (x :: r) = some (mL x r) := by
 unfold yd;rw [decide_eq_false (show ¬ (((x :: r).length : Nat) : Int) < 1 by simp; omega), cf, show ix (x :: r) 0 = some x from rfl, ob]
 have e := az (step := lE (x :: r)) (n := r.length) (fun j => ⟨mL x (r.take j), ((j + 1 : Nat) : Int)⟩) ⟨mL x r, ((r.length + 1 : Nat) : Int)⟩ (fun j hj => by
  obtain ⟨y, hy, -⟩ := aA hj
  have hy' : (x :: r)[j + 1]? = some y := by simpa using hy
  simp only [lE]
  rw [decide_eq_true (show ((j + 1 : Nat) : Int) < (((x :: r).length : Nat) : Int) by simp; omega), ct, aC hy', ob, ak (n := j + 1) (by omega), fh hy, AT]) (by
  simp only [lE]
  rw [decide_eq_false (show ¬ ((r.length + 1 : Nat) : Int) < (((x :: r).length : Nat) : Int) by simp), cf, List.take_length]) (by omega)
 have e0 : (⟨mL x (r.take 0), ((0 + 1 : Nat) : Int)⟩ : gF) = ⟨x, 1⟩ := rfl;rw [e0] at e;rw [e, ob]
theorem BJ {x : Int} {r : List Int} (h : r.length ≤ 1000) : ye (x :: r) = some (mK x r) := by
 unfold ye;rw [decide_eq_false (show ¬ (((x :: r).length : Nat) : Int) < 1 by simp; omega), cf, show ix (x :: r) 0 = some x from rfl, ob]
 have e := az (step := lF (x :: r)) (n := r.length) (fun j => ⟨mK x (r.take j), ((j + 1 : Nat) : Int)⟩) ⟨mK x r, ((r.length + 1 : Nat) : Int)⟩ (fun j hj => by
  obtain ⟨y, hy, -⟩ := aA hj
  have hy' : (x :: r)[j + 1]? = some y := by simpa using hy
  simp only [lF]
  rw [decide_eq_true (show ((j + 1 : Nat) : Int) < (((x :: r).length : Nat) : Int) by simp; omega), ct, aC hy', ob, ak (n := j + 1) (by omega), fh hy, AP]) (by
  simp only [lF]
  rw [decide_eq_false (show ¬ ((r.length + 1 : Nat) : Int) < (((x :: r).length : Nat) : Int) by simp), cf, List.take_length]) (by omega)
 have e0 : (⟨mK x (r.take 0), ((0 + 1 : Nat) : Int)⟩ : gG) = ⟨x, 1⟩ := rfl;rw [e0] at e;rw [e, ob]
def dj (c : Cf) : Prop := 1 ≤ c.W.length ∧ c.W.length ≤ 12 ∧ (∀ w ∈ c.W, 0 ≤ w ∧ w ≤ 1099511627776) ∧ 1 ≤ c.Epoch ∧ c.Epoch ≤ 8 ∧ 0 ≤ c.Num ∧ c.Num ≤ c.Den ∧ 1 ≤ c.Den ∧ c.Den ≤ 1000
instance (c : Cf) : Decidable (dj c) := inferInstanceAs (Decidable (_ ∧ _))
def hY (p : Nat → Bool) (W : List Int) : Nat → Int
 | 0 => 0
 | k + 1 => hY p W k + (bif p k then (W[k]?).getD 0 else 0)
theorem n4 {p : Nat → Bool} {W : List Int} (h : ∀ w ∈ W, 0 ≤ w ∧ w ≤ 1099511627776) : ∀ k, 0 ≤ hY p W k ∧ hY p W k ≤ 1099511627776 * k
 | 0 => by simp [hY]
 | k + 1 => by
  have ih := n4 (p := p) h k;unfold hY
  cases p k with
  | false => simp only [cond_false]; omega
  | true =>
   simp only [cond_true]
   cases hk : W[k]? with
   | none => simp only [Option.getD_none]; omega
   | some w =>
    have := h w (List.mem_of_getElem? hk);simp only [Option.getD_some]; omega
theorem EX {p : Nat → Bool} {W : List Int} {k : Nat} {w : Int} (hp : p k = true) (hw : W[k]? = some w) : hY p W (k + 1) = hY p W k + w := by
 rw [hY, hp, hw]; rfl
theorem EW {p : Nat → Bool} {W : List Int} {k : Nat} (hp : p k = false) : hY p W (k + 1) = hY p W k := by
 rw [hY, hp]; simp
theorem AS (c : Cf) : (bif decide (c.Epoch > 0) then bif decide (c.Epoch ≤ 8) then bif decide (c.Num ≥ 0) then bif decide (c.Num ≤ c.Den) then bif decide (c.Den > 0) then some (decide (c.Den ≤ 1000)) else some false else some false else some false else some false else some false) =
  some (decide (1 ≤ c.Epoch ∧ c.Epoch ≤ 8 ∧ 0 ≤ c.Num ∧ c.Num ≤ c.Den ∧ 1 ≤ c.Den ∧ c.Den ≤ 1000)) := by
 by_cases h1 : c.Epoch > 0
 ·rw [decide_eq_true h1, ct];by_cases h2 : c.Epoch ≤ 8
  ·rw [decide_eq_true h2, ct];by_cases h3 : c.Num ≥ 0
   ·rw [decide_eq_true h3, ct];by_cases h4 : c.Num ≤ c.Den
    ·rw [decide_eq_true h4, ct];by_cases h5 : c.Den > 0
     ·rw [decide_eq_true h5, ct];congr 1;exact decide_eq_decide.2 ⟨fun h => ⟨h1, h2, h3, h4, h5, h⟩, fun h => h.2.2.2.2.2⟩
     ·rw [decide_eq_false h5, cf, decide_eq_false (fun h => h5 h.2.2.2.2.1)]
    ·rw [decide_eq_false h4, cf, decide_eq_false (fun h => h4 h.2.2.2.1)]
   ·rw [decide_eq_false h3, cf, decide_eq_false (fun h => h3 h.2.2.1)]
  ·rw [decide_eq_false h2, cf, decide_eq_false (fun h => h2 h.2.1)]
 ·rw [decide_eq_false h1, cf, decide_eq_false (fun h => h1 h.1)]
theorem kS (c : Cf) : wY c = some (decide (dj c)) := by
 unfold wY;have hno : ∀ h : ¬ dj c, decide (dj c) = false := fun h => decide_eq_false h;by_cases h0 : c.W.length = 0
 ·rw [show ((c.W.length : Int) == 0) = true by simp [h0], ct, ob, ct, decide_eq_false (fun h : dj c => by have := h.1; omega)]
 ·rw [show ((c.W.length : Int) == 0) = false by simpa using h0, cf];by_cases h12 : c.W.length > 12
  ·rw [decide_eq_true (show (c.W.length : Int) > 12 by omega), ct, ob, ct, decide_eq_false (fun h : dj c => by have := h.2.1; omega)]
  ·rw [decide_eq_false (show ¬ (c.W.length : Int) > 12 by omega), cf]
   obtain ⟨x, r, hW⟩ : ∃ x r, c.W = x :: r := by
    cases hc : c.W with
    | nil => rw [hc] at h0; simp at h0
    | cons x r => exact ⟨x, r, rfl⟩
   have hr : r.length ≤ 1000 := by rw [hW] at h12; simp at h12; omega
   have hall : (∀ w ∈ c.W, 0 ≤ w ∧ w ≤ 1099511627776) ↔ ¬ mL x r < 0 ∧ ¬ mK x r > 1099511627776 := by
    rw [CO, CN, hW];constructor
    ·intro h;refine ⟨?_, ?_⟩
     ·rintro (h1 | ⟨y, hy, h1⟩)
      ·have := (h x (.head _)).1; omega
      ·have := (h y (.tail _ hy)).1; omega
     ·rintro (h1 | ⟨y, hy, h1⟩)
      ·have := (h x (.head _)).2; omega
      ·have := (h y (.tail _ hy)).2; omega
    ·rintro ⟨h1, h2⟩ w hw;refine ⟨?_, ?_⟩
     ·refine Classical.byContradiction fun hc => h1 ?_
      cases hw with
      | head => exact .inl (by omega)
      | tail _ hw => exact .inr ⟨w, hw, by omega⟩
     ·refine Classical.byContradiction fun hc => h2 ?_
      cases hw with
      | head => exact .inl (by omega)
      | tail _ hw => exact .inr ⟨w, hw, by omega⟩
   have hlen : 1 ≤ c.W.length ∧ c.W.length ≤ 12 := ⟨by omega, by omega⟩;have e9 := BI (x := x) hr;have e10 := BJ (x := x) hr;rw [← hW] at e9 e10;rw [e9, ob];by_cases hm : mL x r < 0
   ·rw [decide_eq_true hm, ct, ob, ct, decide_eq_false (fun h : dj c => (hall.1 h.2.2.1).1 hm)]
   ·rw [decide_eq_false hm, cf, e10, ob, ob];by_cases hx : mK x r > 1099511627776
    ·rw [decide_eq_true hx, ct, decide_eq_false (fun h : dj c => (hall.1 h.2.2.1).2 hx)]
    ·rw [decide_eq_false hx, cf, AS];congr 1;exact decide_eq_decide.2 ⟨fun h => ⟨hlen.1, hlen.2, hall.2 ⟨hm, hx⟩, h⟩, fun h => h.2.2.2⟩
def okW (c : Cf) : Prop := c.W.length ≤ 12 ∧ ∀ w ∈ c.W, 0 ≤ w ∧ w ≤ 1099511627776
theorem dj.okW {c : Cf} (h : dj c) : okW c := ⟨h.2.1, h.2.2.1⟩
theorem Bz {p : Nat → Bool} {W : List Int} (h : ∀ w ∈ W, 0 ≤ w ∧ w ≤ 1099511627776) {k : Nat} (hk : k ≤ 12) : IntKind.i64.wrap (hY p W k) = hY p W k := by
 have := n4 (p := p) h k;exact eA (by omega) (by omega)
theorem yv {c : Cf} {m : List (Int × Bool)} (h : okW c) : sb c m 0 = some (hY (fun j => (aj m (j : Int)).getD false) c.W c.W.length) := by
 unfold sb
 have e := az (step := jD c m) (n := c.W.length) (fun j => ⟨(j : Int), hY (fun j => (aj m (j : Int)).getD false) c.W j⟩) ⟨(c.W.length : Int), hY (fun j => (aj m (j : Int)).getD false) c.W c.W.length⟩ (fun j hj => by
  obtain ⟨y, hy, hm⟩ := aA hj;have h12 := h.1;simp only [jD, BL];rw [decide_eq_true (show (j : Int) < (c.W.length : Int) by omega), ct, ob]
  cases hb : (aj m (j : Int)).getD false with
  | true => rw [ct, aC hy, ob, ak (n := j) (by omega), ← EX (p := fun j => (aj m (j : Int)).getD false) hb hy, Bz h.2 (by omega)]
  | false => rw [cf, ak (n := j) (by omega), EW (p := fun j => (aj m (j : Int)).getD false) hb]) (by
  simp only [jD]
  rw [decide_eq_false (show ¬ (c.W.length : Int) < (c.W.length : Int) by omega), cf]) (by have := h.1; omega)
 exact (congrArg (fun z => Option.bind z fun v1 => some v1.o4_0) e).trans ob
def vz (c : Cf) (l : List Int) : Int := if dj c then hY (fun j => decide ((j : Int) ∈ l)) c.W c.W.length else 0
theorem pU {p q : Nat → Bool} {W : List Int} (h : ∀ j, p j = q j) : ∀ k, hY p W k = hY q W k
 | 0 => rfl
 | k + 1 => by rw [hY, hY, pU h k, h k]
theorem uO {m : List (Int × Bool)} {k q : Int} {v : Bool} : aj (aV m k v) q = if k = q then some v else aj m q := by
 induction m with
 | nil => simp [aV, aj]
 | cons p r ih =>
  obtain ⟨a, b⟩ := p;unfold aV;by_cases h : a = k
  ·rw [if_pos h];subst h;by_cases h2 : a = q
   ·simp [aj, h2]
   ·simp [aj, h2]
  ·rw [if_neg h];simp only [aj];rw [ih];by_cases h2 : a = q
   ·rw [if_pos h2, if_pos h2, if_neg (fun e => h (by rw [h2, e]))]
   ·rw [if_neg h2, if_neg h2]
def jS : List Int → List (Int × Bool) → List (Int × Bool)
 | [], m => m
 | x :: r, m => jS r (aV m x true)
theorem xt (a : List Int) (x : Int) : ∀ m, jS (a ++ [x]) m = aV (jS a m) x true := by
 induction a with
 | nil => intro m; rfl
 | cons y r ih => intro m; exact ih _
theorem pi (q : Int) : ∀ (l : List Int) (m : List (Int × Bool)), aj (jS l m) q = if q ∈ l then some true else aj m q
 | [], m => by simp [jS]
 | x :: r, m => by
  unfold jS;rw [pi q r, uO];by_cases h : q ∈ r
  ·simp [h]
  ·by_cases h2 : x = q
   ·simp [h2]
   ·simp [h, h2, Ne.symm h2]
theorem yX {c : Cf} {l : List Int} (hl : l.length ≤ 100000) : E0 c l = some (vz c l) := by
 unfold E0
 have e := az (step := mt l) (n := l.length) (fun j => eT.mk (j : Int) (jS (l.take j) [])) (eT.mk (l.length : Int) (jS l [])) (fun j hj => by
  obtain ⟨y, hy, hm⟩ := aA hj
  have e1 : mt l (eT.mk (j : Int) (jS (l.take j) [])) = some (.inl (eT.mk (IntKind.i64.wrap ((j : Int) + 1)) (aV (jS (l.take j) []) y true))) := by
   unfold mt;rw [decide_eq_true (show (j : Int) < (l.length : Int) by omega), ct, aC hy, ob]
  rw [e1, ak (n := j) (by omega), fh hy, xt]) (by
  unfold mt
  rw [decide_eq_false (show ¬ (l.length : Int) < (l.length : Int) by omega), cf, List.take_length]) (by omega)
 have e0 : eT.mk (((0 : Nat) : Int)) (jS (l.take 0) []) = eT.mk 0 [] := rfl;rw [e0] at e;rw [e, ob];unfold vG vz;rw [kS, ob];by_cases h : dj c
 ·rw [decide_eq_true h, if_pos h, Bool.not_true, cf, yv h.okW, ob, ob];congr 1;refine pU (fun j => ?_) _;rw [pi];by_cases hj : (j : Int) ∈ l <;> simp [hj, aj]
 ·rw [decide_eq_false h, if_neg h]; rfl
theorem lG {l : List Int} {n : Int} (hl : l.length ≤ 100000) : rZ l n = some (decide (n ∈ l)) := by
 unfold rZ BY
 have key := @df _ _ (km l n) (fun x => ∃ j : Nat, j ≤ l.length ∧ x.t8 = j ∧ n ∉ l.take j) (fun x => l.length + 1 - x.t8.toNat)
  (fun b => (∃ i : Nat, b = .inr (i : Int) ∧ n ∈ l) ∨ ∃ x, b = .inl x ∧ n ∉ l) (by
   rintro ⟨t⟩ ⟨j, hj, rfl, hw⟩;by_cases hlt : j < l.length
   ·obtain ⟨y, hy, hm⟩ := aA hlt;by_cases h1 : n = y
    ·right
     refine ⟨.inr (j : Int), by
      simp only [km]
      rw [decide_eq_true (show (j : Int) < (l.length : Int) by omega), ct, aC hy, ob, HV h1, ct], .inl ⟨j, rfl, h1 ▸ hm⟩⟩
    ·left
     refine ⟨⟨IntKind.i64.wrap ((j : Int) + 1)⟩, by
      simp only [km]
      rw [decide_eq_true (show (j : Int) < (l.length : Int) by omega), ct, aC hy, ob, show (n == y) = false by simpa using h1, cf], ⟨j + 1, by omega, ak (n := j) (by omega), ?_⟩, ?_⟩
     ·rw [fh hy];intro h;rcases List.mem_append.1 h with h | h
      ·exact hw h
      ·exact h1<|List.mem_singleton.1 h
     ·simp only [ak (show j < 4000000000 by omega)]; omega
   ·right
    obtain rfl : j = l.length := by omega
    refine ⟨.inl ⟨((l.length : Nat) : Int)⟩, by
     simp only [km]
     rw [decide_eq_false (show ¬ ((l.length : Nat) : Int) < (l.length : Int) by omega), cf], .inr ⟨_, rfl, ?_⟩⟩
    rw [List.take_length] at hw
    exact hw)
 obtain ⟨b, hb, ⟨i, rfl, h⟩ | ⟨x, rfl, h⟩⟩ := key (n := bE) (x := ⟨0⟩) ⟨0, by omega, rfl, by simp⟩ (ec (by show l.length + 1 - 0 < _; omega))
 ·rw [hb, ob, sr, ob, decide_eq_true h, decide_eq_true (show (i : Int) ≥ 0 by omega)]
 ·rw [hb, ob, sl, ob, decide_eq_false h]; rfl
def jt (p : Nat → Bool) : Nat → List Int
 | 0 => []
 | k + 1 => bif p k then jt p k ++ [(k : Int)] else jt p k
theorem mS (p : Nat → Bool) : ∀ k, (jt p k).length ≤ k
 | 0 => by simp [jt]
 | k + 1 => by
  have := mS p k;unfold jt;cases p k <;> simp <;> omega
def C0 (c : Cf) (slot : Int) : Prop := dj c ∧ 0 < slot ∧ slot ≤ 1048576
instance (c : Cf) (slot : Int) : Decidable (C0 c slot) := inferInstanceAs (Decidable (_ ∧ _))
theorem vE (c : Cf) (slot : Int) : wM c slot = some (decide (C0 c slot)) := by
 unfold wM;rw [kS, ob];by_cases h : dj c
 ·rw [decide_eq_true h, ct];by_cases h1 : slot > 0
  ·rw [decide_eq_true h1, ct];congr 1;exact decide_eq_decide.2 ⟨fun h2 => ⟨h, h1, h2⟩, fun h2 => h2.2.2⟩
  ·rw [decide_eq_false h1, cf, decide_eq_false (fun h2 : C0 c slot => h1 h2.2.1)]
 ·rw [decide_eq_false h, cf, decide_eq_false (fun h2 : C0 c slot => h h2.1)]
def m0 (c : Cf) (slot : Int) : Int := step c.Seed (IntKind.u64.wrap (IntKind.i64.wrap (slot.tdiv c.Epoch)))
def Do (c : Cf) (slot : Int) (j : Nat) : Bool := (Bh (m0 c slot) (c.W.length : Int) (j : Int)).tmod c.Epoch == slot.tmod c.Epoch
def oL (c : Cf) (slot : Int) : List Int := if C0 c slot then jt (Do c slot) c.W.length else []
theorem uK (c : Cf) (slot : Int) : (oL c slot).length ≤ 12 := by
 unfold oL;split
 ·next h => have := mS (Do c slot) c.W.length; have := h.1.2.1; omega
 ·simp
theorem sW {c : Cf} (h : dj c) : decide (c.Epoch ≠ 0) = true := decide_eq_true (by have := h.2.2.2.1; omega)
theorem yf {c : Cf} {slot : Int} (h : dj c) : rY c slot (qN (m0 c slot) (c.W.length : Int)) = some (jt (Do c slot) c.W.length) := by
 have h1 := h.1;have h2 := h.2.1
 have e := az (step := jC c slot (qN (m0 c slot) (c.W.length : Int))) (n := c.W.length) (fun j => cY.mk (j : Int) (jt (Do c slot) j)) (cY.mk (c.W.length : Int) (jt (Do c slot) c.W.length)) (fun j hj => by
  have hl := mS (Do c slot) j;unfold jC BK;simp only;rw [decide_eq_true (show (j : Int) < (c.W.length : Int) by omega), ct, A5 (by omega) (by omega) (by omega), ob, sW h, ct, ct, ob]
  cases hb : Do c slot j with
  | true =>
   rw [show ((Bh (m0 c slot) (c.W.length : Int) (j : Int)).tmod c.Epoch == slot.tmod c.Epoch) = true from hb, ct, aK (by simp only [List.length_singleton]; omega) (by omega), ct, ak (n := j) (by omega), jt, hb, ct]
  | false =>
   rw [show ((Bh (m0 c slot) (c.W.length : Int) (j : Int)).tmod c.Epoch == slot.tmod c.Epoch) = false from hb, cf, ak (n := j) (by omega), jt, hb, cf]) (by
  unfold jC
  rw [decide_eq_false (show ¬ (c.W.length : Int) < (c.W.length : Int) by omega), cf]) (by omega)
 have e0 : cY.mk (((0 : Nat) : Int)) (jt (Do c slot) 0) = cY.mk 0 [] := rfl;rw [e0] at e;unfold rY vL vM;rw [e, ob, ob, ob]
theorem uw (c : Cf) (slot : Int) : DR c slot = some (oL c slot) := by
 unfold DR oL;rw [vE, ob];by_cases h : C0 c slot
 ·rw [decide_eq_true h, if_pos h, Bool.not_true, cf, sW h.1, ct, DQ, ob];have := yf (slot := slot) h.1;unfold m0 at this;rw [this, ob]
 ·rw [decide_eq_false h, if_neg h]; rfl
theorem yY (c : Cf) (slot who : Int) : E1 c slot who = some (decide (who ∈ oL c slot)) := by
 have := uK c slot;unfold E1;rw [uw, ob, lG (by omega), ob]
def pW (c : Cf) (slot : Int) : Int := if C0 c slot then IntKind.i64.wrap ((step (step c.Seed 4294967296) (IntKind.u64.wrap slot)).tmod (IntKind.u64.wrap (c.W.length : Int))) else -1
theorem EM {c : Cf} (h : dj c) : decide (IntKind.u64.wrap (c.W.length : Int) ≠ 0) = true := decide_eq_true (by have := h.1; have := h.2.1; rw [pS (by omega) (by omega)]; omega)
theorem q6 (c : Cf) (slot : Int) : B9 c slot = some (pW c slot) := by
 unfold B9 pW;rw [vE, ob];by_cases h : C0 c slot
 ·rw [decide_eq_true h, if_pos h, Bool.not_true, cf, EM h.1, ct]
 ·rw [decide_eq_false h, if_neg h]; rfl
def c0 : Cf := ⟨[5], 0, 1, 0, 4⟩
open Go.Proofs
theorem DD (c : Cf) (l : List Int) : 0 ≤ vz c l ∧ vz c l ≤ 13194139533312 := by
 unfold vz;split
 ·next h =>
  have := n4 (p := fun j => decide ((j : Int) ∈ l)) h.okW.2 c.W.length;have := h.2.1;omega
 ·omega
open Go.Proofs
open Go.Proofs
structure c9 where
 t14 : Int
 o1 : List (Du × ID)
 o2 : List (Du × Bool)
def iv (l : List Vt) (x1 : c9) : Option (c9 ⊕ c9) :=
 bif decide (x1.t14 < (l.length : Int)) then
  (ix l x1.t14).bind fun y1 =>
  bif (aj x1.o1 (Du.mk y1.From y1.Slot)).isSome then
   bif !(((((aj x1.o1 (Du.mk y1.From y1.Slot)).getD (0, 0)).1) == y1.Head.1) && (((((aj x1.o1 (Du.mk y1.From y1.Slot)).getD (0, 0)).2) == y1.Head.2) && true)) then
    some (.inl (c9.mk (IntKind.i64.wrap (x1.t14 + 1)) (aV x1.o1 (Du.mk y1.From y1.Slot) y1.Head) (aV x1.o2 (Du.mk y1.From y1.Slot) true)))
   else
    some (.inl (c9.mk (IntKind.i64.wrap (x1.t14 + 1)) (aV x1.o1 (Du.mk y1.From y1.Slot) y1.Head) x1.o2))
  else
   some (.inl (c9.mk (IntKind.i64.wrap (x1.t14 + 1)) (aV x1.o1 (Du.mk y1.From y1.Slot) y1.Head) x1.o2))
 else
  some (.inr (c9.mk x1.t14 x1.o1 x1.o2))
def sy (l : List Vt) : Option (List (Du × ID) × List (Du × Bool)) :=
 (iter (iv l) bE (c9.mk 0 ([] : List (Du × ID)) ([] : List (Du × Bool)))).bind fun v1 =>
 some (v1.o1, v1.o2)
theorem Er {l : List Vt} {r_ : List (Du × ID) × List (Du × Bool)} (hr : sy l = some r_) : LC Tryz.prog 167 [(kV l)] [] (Is (.agg [.map 1, .map 2]) [.box [.map 1, .map 2], .map (ah p4 (fun v => .p (cr v)) r_.1), .map (ah p4 (fun v => (bQ v)) r_.2), .box [.map 1, .map 2]]) := by
 refine dq Tryz.func167 Z Z Z ?_;unfold sy at hr;refine zQ<|zR<|yS Z (ze Z vB Z Z)<|zN<|zT<|zQ<|zR<|yS Z (ab.makeMap Z Z Z)<|yS Z (ab.makeMap Z Z Z)<|yS Z (ab.build Z D8 Z Z Z)<|yS Z (ze Z vB Z Z)<|yS Z (zs Z Z Z Z rI Z Z Z Z)<|zN<|zT<|zQ<|zQ<|zR<|zM Z<|yS Z (cB Z Z (by kernel_rfl))<|zM Z<|zN<|zT ?_;obtain ⟨v1, hb_v1, ho_v1⟩ := zB hr;clear hr;refine LW.tail (E := [(2, .ptr 0 0), (3, .ptr 3 0)]) (O := [.box [.nilmap, .nilmap], .map (ah p4 (fun v => .p (cr v)) v1.o1), .map (ah p4 (fun v => (bQ v)) v1.o2), .box [.map 1, .map 2]]) ?_<|fun env_v1 H_v1 hw_v1 => ?_
 ·refine LW.block ?_;refine LW.iterB (E := fun x1 : c9 => [(2, .ptr 0 0), (3, .ptr 3 0), (12, (kV l)), (13, .p (.int .i64 (l.length : Int))), (14, (iQ x1.t14))]) (O := fun x1 => [.box [.nilmap, .nilmap], .map (ah p4 (fun v => .p (cr v)) x1.o1), .map (ah p4 (fun v => (bQ v)) x1.o2), .box [.map 1, .map 2]]) hb_v1 (zW 4 ⟨rfl, rfl, rfl, rfl, rfl, trivial⟩ Z Z Z (zL Z (zL (ae (fun _ => rfl) _) (zL (ae (fun _ => rfl) _) (zL Z Z)))))<|fun x1 z_x1 hr hb_x1 => ?_;unfold iv at hr;refine zQ<|zR<|yS Z (ay Z Z Z Z)<|zN<|zT<|zQ ?_;refine zX Z (fun g1 => ?_)<|fun g1 => ?_
  ·
   refine zi g1 hr fun hr => zk<|zT<|zQ<|zl<|zQ<|zR<|zb hr fun y1 h_y1 hr => yS Z (zx Z Z Z cX h_y1 Z)<|yS Z (cR Z Z Z ch Z Z)<|yS Z (ze Z rL Z Z)<|yS Z (zs Z Z Z Z ch Z Z Z Z)<|zN<|zT<|zQ<|zR<|yS Z (zA Z Z oZ)<|yS Z (zD Z Z Z a7 Z Z)<|yS Z (zA Z Z pb)<|yS Z (zD Z Z Z a7 Z Z)<|yS Z (ab.build Z Ah Z Z Z)<|yS Z (ze Z BE Z Z)<|yS Z (zs Z Z Z Z lz Z Z Z Z)<|zN ?_;refine zT<|zQ<|zR<|yS Z (zA Z Z oU)<|yS Z (zD Z Z Z vr Z Z)<|yS Z (zD Z Z Z lz Z Z) ?_;refine yS Z (ab.getX (f := p4) (g := (fun v => .p (cr v))) (Du.mk y1.From y1.Slot) (0, 0) wd Z Z Z Z AV IM Z Z) ?_;refine zM Z<|yS Z (fB Z Z Z)<|yS Z (fB Z Z Z)<|yS Z (ze Z j8 Z Z)<|yS Z (zs Z Z Z Z aU Z Z Z Z)<|zM Z<|zN<|zT<|zQ<|zR<|yS Z (zA Z Z oU)<|yS Z (zD Z Z Z vr Z Z)<|yS Z (zD Z Z Z lz Z Z)<|yS Z (zA Z Z lf)<|yS Z (zD Z Z Z aU Z Z) ?_;refine yS Z (ab.setX (f := p4) (g := (fun v => .p (cr v))) (Du.mk y1.From y1.Slot) y1.Head wd (.inl Z) Z Z Z Z Z AV Z) ?_;refine zN<|zT<|zQ<|zR<|zM Z<|zM Z ?_;refine zc 36 Z (fun g2 => ?_)<|fun g2 => ?_
   ·
    refine zi g2 hr fun hr => yV Z (gd g2 Z) (zD Z Z Z aU Z Z)<|yV Z (gd g2 Z) (zA Z Z lf)<|yV Z (gd g2 Z) (zD Z Z Z aU Z Z)<|yV Z (gd g2 Z) (ab.neqAgg Z Z Z Z Z sX)<|yS Z (cq Z (aS g2 Z) Z)<|zN<|zT ?_;refine zX Z (fun g3 => ?_)<|fun g3 => ?_
    ·
     refine zi g3 hr fun hr => zR<|yS Z (zA Z Z ti)<|yS Z (zD Z Z Z Bq Z Z)<|yS Z (zD Z Z Z lz Z Z) ?_;refine yS Z (ab.setX (f := p4) (g := (fun v => (bQ v))) (Du.mk y1.From y1.Slot) true wd (.inl Z) Z Z Z Z Z AW Z) ?_;refine zN<|ai<|zT<|zR<|yS Z (ay Z Z Z Z)<|zM Z<|zN<|zT ?_;obtain rfl := zJ hr;exact ⟨_, rfl, zW 4 ⟨rfl, rfl, rfl, rfl, rfl, trivial⟩ Z Z Z (zL Z (zL (ae (fun _ => rfl) _) (zL (ae (fun _ => rfl) _) (zL Z Z))))⟩
    ·
     refine zo g3 hr fun hr => zk<|ai<|zT<|zR<|yS Z (ay Z Z Z Z)<|zM Z<|zN<|zT ?_;obtain rfl := zJ hr;exact ⟨_, rfl, zW 4 ⟨rfl, rfl, rfl, rfl, rfl, trivial⟩ Z Z Z (zL Z (zL (ae (fun _ => rfl) _) (zL (ae (fun _ => rfl) _) (zL Z Z))))⟩
   ·
    refine zo g2 hr fun hr => yU Z (gd g2 Z) Z<|yU Z (gd g2 Z) Z<|yU Z (gd g2 Z) Z<|yU Z (gd g2 Z) Z<|yS Z (bg Z (aS g2 Z) Z)<|zN<|zT<|LW.condF Z<|zk<|ai<|zT<|zR<|yS Z (ay Z Z Z Z)<|zM Z<|zN<|zT ?_;obtain rfl := zJ hr;exact ⟨_, rfl, zW 4 ⟨rfl, rfl, rfl, rfl, rfl, trivial⟩ Z Z Z (zL Z (zL (ae (fun _ => rfl) _) (zL (ae (fun _ => rfl) _) (zL Z Z))))⟩
  ·
   refine zo g1 hr fun hr => zq<|ao<|ao<|zy<|zT ?_;obtain rfl := zJ hr;have hr := congrArg some (hb_x1 _ rfl);obtain rfl := zJ hr;exact zW 4 ⟨Z, Z, trivial⟩ Z Z Z<|zL Z<|zL (ae (fun _ => rfl) _)<|zL (ae (fun _ => rfl) _)<|zL Z Z
 ·have hr := ho_v1;clear hb_v1;refine zT<|LW.weak hw_v1<|zQ<|zR<|yS Z (zD Z Z Z rI Z Z)<|yS Z (zs Z Z Z Z rI Z Z Z Z)<|zN<|zT<|zr ?_;obtain rfl := zJ hr;exact ap (.one (.cellAgg Z Z (by kernel_rfl) Z))<|⟨rfl, rfl⟩
end Go.Mg
namespace Go.Proofs
def Tryz.sortVt_ren : Go.Shelf.Ren := ⟨fun | 6 => 183 | 15 => 197 | 14 => 196 | 28 => 210 | 29 => 211 | 20 => 202 | 21 => 203 | 22 => 204 | 23 => 205 | 24 => 206 | 25 => 207 | 26 => 208 | 27 => 209 | 46 => 216 | 47 => 217 | 48 => 218 | 49 => 219 | 50 => 220 | 57 => 225 | n => n, fun | 22 => 42 | 24 => 54 | 25 => 255 | 3 => 3 | 39 => 223 | 0 => 0 | 53 => 190 | 55 => 23 | 4 => 4 | 46 => 269 | 45 => 268 | 50 => 80 | 5 => 5 | 9 => 9 | 66 => 280 | 70 => 284 | 76 => 289 | 77 => 103 | n => n, fun | n => n⟩
theorem Tryz.sortVt : SlLaysF0.n6 Tryz.prog Tryz.sortVt_ren where
 mixed := by kernel_rfl
 f6 := ⟨ "slices.SortFunc[[]marigold/api.Vote,marigold/api.Vote]", by decide, Tryz.func183.trans (congrArg some (by kernel_rfl))⟩
 f14 := ⟨ "slices.pdqsortCmpFunc[marigold/api.Vote]", by decide, Tryz.func196.trans (congrArg some (by kernel_rfl))⟩
 f15 := Tryz.func197.trans (congrArg some (by kernel_rfl))
 f20 := ⟨ "slices.insertionSortCmpFunc[marigold/api.Vote]", by decide, Tryz.func202.trans (congrArg some (by kernel_rfl))⟩
 f21 := ⟨ "slices.heapSortCmpFunc[marigold/api.Vote]", by decide, Tryz.func203.trans (congrArg some (by kernel_rfl))⟩
 f22 := ⟨ "slices.breakPatternsCmpFunc[marigold/api.Vote]", by decide, Tryz.func204.trans (congrArg some (by kernel_rfl))⟩
 f23 := ⟨ "slices.choosePivotCmpFunc[marigold/api.Vote]", by decide, Tryz.func205.trans (congrArg some (by kernel_rfl))⟩
 f24 := ⟨ "slices.reverseRangeCmpFunc[marigold/api.Vote]", by decide, Tryz.func206.trans (congrArg some (by kernel_rfl))⟩
 f25 := ⟨ "slices.partialInsertionSortCmpFunc[marigold/api.Vote]", by decide, Tryz.func207.trans (congrArg some (by kernel_rfl))⟩
 f26 := ⟨ "slices.partitionEqualCmpFunc[marigold/api.Vote]", by decide, Tryz.func208.trans (congrArg some (by kernel_rfl))⟩
 f27 := ⟨ "slices.partitionCmpFunc[marigold/api.Vote]", by decide, Tryz.func209.trans (congrArg some (by kernel_rfl))⟩
 f28 := Tryz.func210.trans (congrArg some (by kernel_rfl))
 f29 := Tryz.func211.trans (congrArg some (by kernel_rfl))
 f46 := ⟨ "slices.siftDownCmpFunc[marigold/api.Vote]", by decide, Tryz.func216.trans (congrArg some (by kernel_rfl))⟩
 f47 := Tryz.func217.trans (congrArg some (by kernel_rfl))
 f48 := Tryz.func218.trans (congrArg some (by kernel_rfl))
 f49 := ⟨ "slices.medianAdjacentCmpFunc[marigold/api.Vote]", by decide, Tryz.func219.trans (congrArg some (by kernel_rfl))⟩
 f50 := ⟨ "slices.medianCmpFunc[marigold/api.Vote]", by decide, Tryz.func220.trans (congrArg some (by kernel_rfl))⟩
 f57 := ⟨ "slices.order2CmpFunc[marigold/api.Vote]", by decide, Tryz.func225.trans (congrArg some (by kernel_rfl))⟩
 t0 := Tryz.underlying0
 a0 := Tryz.isAgg0
 z0 := Tryz.sizeOf0
 v0 := Tryz.zeroValue0
 t3 := Tryz.underlying3
 a3 := Tryz.isAgg3
 z3 := Tryz.sizeOf3
 v3 := Tryz.zeroValue3
 t4 := Tryz.underlying4
 a4 := Tryz.isAgg4
 z4 := Tryz.sizeOf4
 v4 := Tryz.zeroValue4
 t5 := Tryz.underlying5
 a5 := Tryz.isAgg5
 z5 := Tryz.sizeOf5
 v5 := Tryz.zeroValue5
 t9 := Tryz.underlying9
 a9 := Tryz.isAgg9
 z9 := Tryz.sizeOf9
 v9 := Tryz.zeroValue9
 t22 := Tryz.underlying42
 a22 := Tryz.isAgg42
 z22 := Tryz.sizeOf42
 v22 := Tryz.zeroValue42
 t25 := Tryz.underlying255
 a25 := Tryz.isAgg255
 z25 := Tryz.sizeOf255
 v25 := Tryz.zeroValue255
 t39 := Tryz.underlying223
 a39 := Tryz.isAgg223
 z39 := Tryz.sizeOf223
 v39 := Tryz.zeroValue223
 t45 := Tryz.underlying268
 a45 := Tryz.isAgg268
 z45 := Tryz.sizeOf268
 v45 := Tryz.zeroValue268
 t46 := Tryz.underlying269
 a46 := Tryz.isAgg269
 z46 := Tryz.sizeOf269
 v46 := Tryz.zeroValue269
 t50 := Tryz.underlying80
 a50 := Tryz.isAgg80
 z50 := Tryz.sizeOf80
 v50 := Tryz.zeroValue80
 t53 := Tryz.underlying190
 a53 := Tryz.isAgg190
 z53 := Tryz.sizeOf190
 v53 := Tryz.zeroValue190
 t55 := Tryz.underlying23
 a55 := Tryz.isAgg23
 z55 := Tryz.sizeOf23
 v55 := Tryz.zeroValue23
 t66 := Tryz.underlying280
 a66 := Tryz.isAgg280
 z66 := Tryz.sizeOf280
 v66 := Tryz.zeroValue280
 t70 := Tryz.underlying284
 a70 := Tryz.isAgg284
 z70 := Tryz.sizeOf284
 v70 := Tryz.zeroValue284
 t76 := Tryz.underlying289
 a76 := Tryz.isAgg289
 z76 := Tryz.sizeOf289
 v76 := Tryz.zeroValue289
 t77 := Tryz.underlying103
 a77 := Tryz.isAgg103
 z77 := Tryz.sizeOf103
 v77 := Tryz.zeroValue103
def Tryz.cmpVt_ren : Go.Shelf.Ren := ⟨fun | 5 => 185 | 7 => 198 | n => n, fun | 22 => 3 | 3 => 3 | 4 => 4 | n => n, fun | n => n⟩
theorem Tryz.cmpVt : SlLaysC2.n5 Tryz.prog Tryz.cmpVt_ren where
 mixed := by kernel_rfl
 f5 := ⟨ "cmp.Compare[int]", by decide, Tryz.func185.trans (congrArg some (by kernel_rfl))⟩
 f7 := ⟨ "cmp.isNaN[int]", by decide, Tryz.func198.trans (congrArg some (by kernel_rfl))⟩
 t3 := Tryz.underlying3
 a3 := Tryz.isAgg3
 z3 := Tryz.sizeOf3
 v3 := Tryz.zeroValue3
 t4 := Tryz.underlying4
 a4 := Tryz.isAgg4
 z4 := Tryz.sizeOf4
 v4 := Tryz.zeroValue4
 t22 := Tryz.underlying3
 a22 := Tryz.isAgg3
 z22 := Tryz.sizeOf3
 v22 := Tryz.zeroValue3
end Go.Proofs
namespace Go.Mg
open Go.Shelf Go.Sort Go.Proofs
instance : Inhabited Vt := ⟨⟨0, 0, (0, 0)⟩⟩
def iy (v : Vt) : List Value := [.int .i64 v.From, .int .i64 v.Slot, .int .u64 v.Head.1, .int .u64 v.Head.2]
def xk (v : Vt) : List PV := [.int .i64 v.From, .int .i64 v.Slot, .int .u64 v.Head.1, .int .u64 v.Head.2]
theorem lb : ∀ l : List Vt, flat (l.map aD) = l.flatMap xk
 | [] => rfl
 | v :: r => by rw [List.map_cons, cd, lb r, List.flatMap_cons]; rfl
theorem la {α β : Type} {f : α → List β} {k : Nat} (hf : ∀ x, (f x).length = k) : ∀ (l : List α) (q r : Nat) (x : α), l[q]? = some x → r < k → (l.flatMap f)[q * k + r]? = (f x)[r]?
 | [], q, r, x, h, _ => by simp at h
 | y :: s, 0, r, x, h, hr => by
  simp at h; subst h;rw [List.flatMap_cons, Nat.zero_mul, Nat.zero_add, List.getElem?_append_left (by rw [hf]; exact hr)]
 | y :: s, q + 1, r, x, h, hr => by
  rw [List.flatMap_cons, List.getElem?_append_right (by rw [hf, Nat.succ_mul]; omega), hf, show (q + 1) * k + r - k = q * k + r by rw [Nat.succ_mul]; omega];exact la hf s q r x (by simpa using h) hr
theorem xY {μ : List a8} {I : Nat → Prop} {w : World} {H : List aa} {id : Nat} {l : List Vt} {B : a8} (hs : St μ I w H) (hne : l ≠ []) (hH : H[id]? = some (.vec 4 (l.map aD))) (hid : μ[id]? = some B) :
  ∃ b vs e, B = ⟨some b, l.length⟩ ∧ w.heap[b]? = some (.cells vs e (0, 0)) ∧ 4 * l.length ≤ vs.size ∧ (∀ q v, l[q]? = some v → (aP .i64 v.From ∧ aP .i64 v.Slot ∧ aP .u64 v.Head.1 ∧ aP .u64 v.Head.2) ∧ ∀ r, r < 4 → vs[4 * q + r]? = (iy v)[r]?) := by
 have hob := hs.objs id _ _ hH hid;generalize hx : l.map aD = xs at hob
 cases hob with
 | vecE => exact absurd (List.map_eq_nil_iff.1 hx) hne
 | @vec _ _ b vs e hb hl hne' hm h =>
  subst hx;rw [List.length_map] at hl;refine ⟨b, vs, e, by rw [List.length_map], hb, hl, fun q v hq => ?_⟩;have hql := (List.getElem?_eq_some_iff.1 hq).1
  have key : ∀ r p, r < 4 → (xk v)[r]? = some p → ∃ u, vs[4 * q + r]? = some u ∧ dC I w p u := fun r p hr hp => by
   have hi := la (f := xk) (k := 4) (fun _ => rfl) l q r v hq hr;rw [← lb, Nat.mul_comm] at hi;have hv : vs[4 * q + r]? = some (vs[4 * q + r]'(by omega)) := Array.getElem?_eq_getElem (by omega);exact ⟨_, hv, h _ p _ (hi.trans hp) hv⟩
  obtain ⟨u0, h0, r0⟩ := key 0 (.int .i64 v.From) (by omega) rfl;obtain ⟨u1, h1, r1⟩ := key 1 (.int .i64 v.Slot) (by omega) rfl;obtain ⟨u2, h2, r2⟩ := key 2 (.int .u64 v.Head.1) (by omega) rfl;obtain ⟨u3, h3, r3⟩ := key 3 (.int .u64 v.Head.2) (by omega) rfl;cases r0; cases r1; cases r2; cases r3;refine ⟨⟨by assumption, by assumption, by assumption, by assumption⟩, fun r hr => ?_⟩
  match r, hr with
  | 0, _ => rw [h0]; rfl
  | 1, _ => rw [h1]; rfl
  | 2, _ => rw [h2]; rfl
  | 3, _ => rw [h3]; rfl
theorem GG {l : List Vt} {j : Nat} (hj : j < 4 * l.length) : ∃ v, l[j / 4]? = some v ∧ j % 4 < 4 ∧ j = 4 * (j / 4) + j % 4 := by
 have h : j / 4 < l.length := by omega
 exact ⟨l[j / 4], List.getElem?_eq_getElem h, by omega, by omega⟩
theorem tb {l : List Vt} {j : Nat} (hj : j < 4 * l.length) {v : Vt} (hv : l[j / 4]? = some v) : (flatK iy 4 l.toArray)[j]! = (iy v)[j % 4]! := by
 rw [get_flatK _ _ _ _ (by simp; omega)]
 have h : (l.toArray)[j / 4]! = v := by
  rw [getElem!_def];simp [hv]
 rw [h]
theorem rp {w : World} {l : List Vt} {b : Nat} {vs : Array Value} {e : TypeId} (hb : w.heap[b]? = some (.cells vs e (0, 0))) (hc : ∀ q v, l[q]? = some v → ∀ r, r < 4 → vs[4 * q + r]? = (iy v)[r]?) : HoldsK iy 4 w b 0 l.toArray := by
 intro j hj;rw [size_flatK] at hj
 have hj' : j < 4 * l.length := by simp at hj; omega
 obtain ⟨v, hv, hr, he⟩ := GG hj';have h1 := hc _ v hv _ hr;rw [← he] at h1
 have h2 : (iy v)[j % 4]? = some ((iy v)[j % 4]!) := by
  rw [getElem!_def];have : j % 4 < (iy v).length := hr;rw [List.getElem?_eq_getElem this]
 rw [h2] at h1;constructor
 ·rw [tb hj' hv, Nat.zero_add];simp [World.cell?, hb, h1]
 ·simp [World.frozen?, hb]
theorem tS {F vs : Array Value} {i : Nat} (hF : F.size ≤ vs.size) (hi : i < F.size) : (putCells (fun x => x) 0 F vs)[i]? = some (F[i]!) := by
 unfold putCells;rw [Array.getElem?_mapIdx, Array.getElem?_eq_getElem (by omega)];simp [hi]
theorem sV : ∀ d : List Vt, (d.flatMap xk).length = 4 * d.length
 | [] => rfl
 | x :: r => by rw [List.flatMap_cons, List.length_append, sV r, List.length_cons]; simp [xk]; omega
theorem xS {μ : List a8} {I : Nat → Prop} {w : World} {H : List aa} {id b n : Nat} {l d : List Vt} {vs : Array Value} {e : TypeId} {os : Array Obj} (hs : St μ I w H) (hid : μ[id]? = some ⟨some b, l.length⟩) (hb : w.heap[b]? = some (.cells vs e (0, 0))) (hsz : 4 * l.length ≤ vs.size)
  (hd : d.length = l.length) (hne : d ≠ []) (hk : ∀ v ∈ d, aP .i64 v.From ∧ aP .i64 v.Slot ∧ aP .u64 v.Head.1 ∧ aP .u64 v.Head.2) :
  St μ I (sortWorldK iy 4 w b 0 n d.toArray os) (H.set id (.vec 4 (d.map aD))) ∧ bx μ.length μ I w μ I (sortWorldK iy 4 w b 0 n d.toArray os) := by
 have hbl : b < w.heap.size := (Array.getElem?_eq_some_iff.1 hb).1
 have hFs : (flatK iy 4 d.toArray).size = 4 * d.length := by rw [size_flatK]; simp; omega
 have hsize : (sortWorldK iy 4 w b 0 n d.toArray os).heap.size = w.heap.size + os.size := by
  simp [sortWorldK, grow, putRowK, putRow, mapBlock, Go.Sort.ahead]
 have hoth : ∀ c, c < w.heap.size → c ≠ b → (sortWorldK iy 4 w b 0 n d.toArray os).heap[c]? = w.heap[c]? := fun c hc hcb => by
  simp only [sortWorldK, grow, putRowK, putRow, mapBlock, Go.Sort.ahead];rw [Array.getElem?_append_left (by simpa using hc), Array.getElem?_modify];rw [if_neg (fun e => hcb e.symm)]
 have hself : (sortWorldK iy 4 w b 0 n d.toArray os).heap[b]? = some (.cells (putCells (fun x => x) 0 (flatK iy 4 d.toArray) vs) e (0, 0)) := by
  simp only [sortWorldK, grow, putRowK, putRow, mapBlock, Go.Sort.ahead];rw [Array.getElem?_append_left (by simpa using hbl), Array.getElem?_modify];rw [if_pos rfl, hb];rfl
 have hF : (flatK iy 4 d.toArray).size ≤ vs.size := by omega
 refine hs.writeG hid hoth (by omega) Z Z Z (fun c e' f hc => ?_) fun hE => ?_
 ·rw [hb] at hc; cases hc;exact ⟨_, hself, by simp [putCells]⟩
 ·rw [← hd]
  have hlen : d.length = (d.map aD).length := by rw [List.length_map]
  rw [hlen];refine .vec hself (by rw [List.length_map]; simp [putCells]; omega) (fun h => hne (List.map_eq_nil_iff.1 h)) (fun x hx => ?_) fun i c u hc hu => ?_
  ·obtain ⟨v, -, rfl⟩ := List.mem_map.1 hx;exact ⟨rfl, fun c hc => by simp [aD, PV.cells] at hc; rcases hc with rfl | rfl | rfl | rfl <;> trivial⟩
  ·rw [lb] at hc
   have hi : i < 4 * d.length := by
    have h1 := (List.getElem?_eq_some_iff.1 hc).1;have h2 := sV d;omega
   obtain ⟨v, hv, hr, he⟩ := GG hi;have h3 := la (f := xk) (k := 4) (fun _ => rfl) d _ _ v hv hr;rw [Nat.mul_comm, ← he, hc] at h3;rw [tS hF (by omega), tb hi hv] at hu;obtain ⟨k1, k2, k3, k4⟩ := hk v (List.mem_of_getElem? hv);cases hu;generalize i % 4 = r at hr h3 ⊢
   match r, hr with
   | 0, _ => cases h3; exact .int k1
   | 1, _ => cases h3; exact .int k2
   | 2, _ => cases h3; exact .int k3
   | 3, _ => cases h3; exact .int k4
open Go.Shelf Go.Sort Go.Proofs
theorem xG {l : List Vt} {d : Array Vt} (h : PermIn 0 l.toArray.size l.toArray d) : d.toList.Perm l := by
 have h1 := h.2.2;have e1 : l.toArray.extract 0 l.toArray.size = l.toArray := Array.extract_size
 have e2 : d.extract 0 l.toArray.size = d := by rw [← h.1]; exact Array.extract_size
 rw [e1, e2] at h1;simpa using h1
theorem xL {d : Array Vt} {n : Nat} {lt : Vt → Vt → Bool} (hlt : ∀ x y, lt x y = decide (x.From < y.From)) (hn : d.size = n) (h : SortedIn lt 0 n d) : lK d.toList := by
 unfold lK;rw [List.pairwise_iff_getElem];intro i j hi hj hij;have := h i j (Nat.zero_le _) hij (by simpa [hn] using hj);rw [hlt] at this
 have h1 : d[j]! = d.toList[j] := by rw [getElem!_pos d j (by simpa using hj)]; simp
 have h2 : d[i]! = d.toList[i] := by rw [getElem!_pos d i (by simpa using hi)]; simp
 rw [h1, h2] at this;have := of_decide_eq_false this;omega
theorem LC.sortVotes {P : Program} {F g : FuncId} {H : List aa} {id : Nat} {l : List Vt} {lt : Vt → Vt → Bool} (hlt : ∀ x y, lt x y = decide (x.From < y.From))
  (hN : ∀ (p : Option Addr) (cap : Nat) (fv : Value) (w : World), Calls P F #[.slice p 0 cap, fv] w fun e w' => e = .returned (.tuple #[]) ∧ w' = w)
  (hS : ∀ (blk off cap : Nat) (d : Array Vt) (w : World), HoldsK iy 4 w blk off d → blk < w.heap.size → d.size < 4611686018427387904 → Calls P F #[.slice (some ⟨blk, off, none⟩) d.size cap, .func (.func g) #[] #[]] w fun e w' =>
   e = .returned (.tuple #[]) ∧ ∃ d' n os, PermIn 0 d.size d d' ∧ SortedIn lt 0 d.size d' ∧ w' = sortWorldK iy 4 w blk off n d' os)
  (hH : aI H id = some (.vec 4 (l.map aD))) (hd : ∀ x ∈ l, ∀ y ∈ l, x.From = y.From → x = y) (hlen : l.length ≤ 1000000) :
  LC P F [.vec 4 id (l.map aD).length 0 (l.map aD).length, .fn g [] []] H (Is (.tup []) (H.set id (.vec 4 ((fx l).map aD)))) := by
 intro args w μ I hs ha;rw [aF] at hH;obtain ⟨al⟩ := args
 match al, ha with
 | [v1, v2], ha =>
  obtain ⟨h1, h2, -⟩ := ha
  have hv2 : v2 = .func (.func g) #[] #[] := by
   cases h2 with
   | @fn _ _ _ fs cs hl hl' _ _ =>
    rw [Array.eq_empty_of_size_eq_zero hl, Array.eq_empty_of_size_eq_zero hl']
  subst hv2
  cases h1 with
  | @vec _ _ _ _ _ B _ hid h1 hn hf =>
  by_cases hne : l = []
  ·subst hne;have hob := hs.objs id _ _ hH hid
   have hB : B = ⟨none, 0⟩ := by
    cases hob with
    | vecE => rfl
    | vec _ _ hne' _ _ => exact absurd rfl hne'
   subst hB;rcases hf rfl with ⟨-, ⟨a, rfl⟩, -⟩ | ⟨b, cap, hb, -⟩
   ·refine (hN a 0 _ w).mono fun e w' he => ?_;obtain ⟨rfl, rfl⟩ := he;refine ⟨.tup [], _, _, μ, I, rfl, ⟨rfl, rfl⟩, ?_, .tup Z (fun i c v hc => by simp at hc), .refl _ _ _ _ (Nat.le_refl _)⟩;have hil := (List.getElem?_eq_some_iff.1 hH).1
    have : H.set id (.vec 4 ((fx []).map aD)) = H := by
     apply List.ext_getElem?;intro i;rw [List.getElem?_set];split
     ·rename_i e; subst e; first | exact hH.symm | (rw [if_pos hil]; exact hH.symm)
     ·rfl
    rw [this]; exact hs
   ·cases hb
  ·obtain ⟨b, vs, e, rfl, hb, hsz, hcells⟩ := xY hs hne hH hid;have hll : (l.map aD).length = l.length := List.length_map _;have hl0 : l.length ≠ 0 := fun h => hne (List.length_eq_zero_iff.1 h);rcases hf hll with ⟨h0, -⟩ | ⟨b', cap, hb', rfl, hc1, hc2, -⟩
   ·omega
   ·cases hb';have hbl : b < w.heap.size := (Array.getElem?_eq_some_iff.1 hb).1
    have hmax : l.length < 4611686018427387904 := by omega
    have hcall := hS b 0 cap l.toArray w (rp hb fun q v hq => (hcells q v hq).2) hbl (by simpa using hmax)
    have es : l.toArray.size = (l.map aD).length := by simp
    rw [es] at hcall;refine hcall.mono fun ex w' he => ?_;obtain ⟨rfl, d', n, os, hp, hso, rfl⟩ := he;rw [← es] at hp hso;have hperm := xG hp;have hds : d'.toList = fx l := (Ba hperm.symm (xL hlt hp.1 hso) hd).symm
    have hd' : d' = (fx l).toArray := by rw [← hds]
    subst hd';have hsl : (fx l).length = l.length := (bW l).length_eq
    obtain ⟨s1, s2⟩ := xS (n := n) (os := os) (d := fx l) hs hid hb hsz hsl (fun h => hl0 (by rw [← hsl, h]; rfl)) fun v hv => by
     obtain ⟨q, hq⟩ := List.getElem?_of_mem ((bW l).mem_iff.1 hv);exact (hcells q v hq).1
    exact ⟨.tup [], _, _, μ, I, rfl, ⟨rfl, rfl⟩, s1, .tup Z (fun i c v hc => by simp at hc), s2⟩
end Go.Mg
namespace Go.Proofs
open Go.Shelf Go.RowKit Go.Lib Go.Sort Go.Mg
set_option maxHeartbeats 1000000 in
theorem Tryz.closV (x y : Vt) (W : World) : Calls Tryz.prog 184 #[.agg #[.int .i64 x.From, .int .i64 x.Slot, .int .u64 x.Head.1, .int .u64 x.Head.2], .agg #[.int .i64 y.From, .int .i64 y.Slot, .int .u64 y.Head.1, .int .u64 y.Head.2]] W fun e w' => e = .returned (.int .i64 (Lib.compareInt x.From y.From)) ∧ ∃ q os', w' = grow (W.drewN q) os' := by
 have hcon := fun W' => AnyG.cmp_Compare_int Tryz.cmpVt x.From y.From W';change ∀ W', Calls Tryz.prog 185 _ _ _ at hcon;generalize Lib.compareInt x.From y.From = r at hcon ⊢
 go_enter Tryz.func184, Tryz.ntmps184
 go_wp2_with (go_at_call 185; refine (hcon _).mono ?_; rintro e w' ⟨rfl, rfl⟩)
 go_ret
 exact ⟨rfl, 0, _, by rw [alloc_eq_grow, alloc_eq_grow, grow_grow]; rfl⟩
theorem Tryz.ltV (x y : Vt) : ltOf (fun x y : Vt => Lib.compareInt x.From y.From) x y = decide (x.From < y.From) := by
 unfold ltOf Lib.compareInt;by_cases h1 : x.From < y.From
 ·simp [h1]
 ·by_cases h2 : y.From < x.From <;> simp [h1, h2]
theorem Tryz.swoV : SWO (ltOf fun x y : Vt => Lib.compareInt x.From y.From) where
 irrefl x := by rw [Tryz.ltV]; simp
 trans x y z h1 h2 := by rw [Tryz.ltV] at *; simp at *; omega
 ntrans x y z h1 h2 := by rw [Tryz.ltV] at *; simp at *; omega
theorem Tryz.sortV_call {H H' : List aa} {id : Nat} {l : List Vt} (hH : aI H id = some (.vec 4 (l.map aD))) (hk : vj l = true) (hH' : aN H id (.vec 4 ((fx l).map aD)) = some H') :
  LC Tryz.prog 183 [.vec 4 id (l.map aD).length 0 (l.map aD).length, .fn 184 [] []] H (Is (.tup []) H') := by
 obtain ⟨e3, -⟩ := aM hH';subst e3;have hk := of_decide_eq_true hk;refine LC.sortVotes Tryz.ltV (fun p cap fv w => AnyF.slices_SortFunc_none Tryz.sortVt p cap fv w) (fun blk off cap d w hH hb hs => ?_) hH hk.2 hk.1;exact AnyQ.slices_SortFunc Tryz.sortVt 4 Tryz.isAgg54 Tryz.sizeOf54 iy (fun _ => rfl) (fun x v hv => by simp [iy] at hv; rcases hv with rfl | rfl | rfl | rfl <;> rfl) (fun x y => Lib.compareInt x.From y.From) Tryz.swoV 184 #[] blk off cap d w (enters_of Tryz.func184 (by kernel_rfl) Z) (fun _ _ _ _ x y => Tryz.closV x y _) hH hb hs
end Go.Proofs
namespace Go.Mg
open Go.Proofs
def nM (l : List Vt) : Option (List Vt) :=
 bif vj l then
  some (fx l)
 else none
theorem Ap {l : List Vt} {r_ : List Vt} (hr : nM l = some r_) : LC Tryz.prog 168 [(jV 0 l)] [.vec 4 (l.map aD)] (Is (jV 0 r_) [.vec 4 (r_.map aD)]) := by
 refine dq Tryz.func168 Z Z Z ?_;unfold nM at hr;refine zQ<|zR<|zM Z<|zN<|zT<|zQ<|zR<|zM Z<|zg hr fun q1 hr => yS Z (zC Z Z Z (by kernel_rfl) (Tryz.sortV_call Z q1 Z))<|zN<|zT<|zQ<|zR<|zM Z<|zM Z<|zN<|zT<|zr ?_;obtain rfl := zJ hr;exact ap (.one (.tmp Z)) (⟨congrArg (fun n => LV.vec 4 0 n 0 n) (show (l.map aD).length = ((fx l).map aD).length by rw [List.length_map, List.length_map, (bW l).length_eq]), rfl⟩)
open Go.Proofs
structure eV where
 out : List Vt
def jG (slot : Int) (b : List (Du × ID) × List (Du × Bool)) (j_ : Nat) (d_ : eV) : Option eV :=
 (b.1[j_]?).bind fun y1 =>
 (
  bif ((y1.1.frm == y1.1.frm) && ((y1.1.slot == slot) && true)) then
   some (!((aj b.2 y1.1).getD false))
  else
   some false
 ).bind fun v1 =>
 bif v1 then
  bif ci d_.out.length [Vt.mk y1.1.frm slot y1.2].length 32 then
   some (eV.mk (d_.out ++ [Vt.mk y1.1.frm slot y1.2]))
  else none
 else
  some (eV.mk d_.out)
def HL (slot : Int) (b : List (Du × ID) × List (Du × Bool)) (ord_ : List Nat) : Option (List Vt) :=
 (fr (jG slot b) ord_ (eV.mk ([] : List Vt))).bind fun d_ =>
 (nM d_.out).bind fun v2 =>
 some v2
theorem IB {l : List Vt} {slot : Int} {b : List (Du × ID) × List (Du × Bool)} {r_ : List Vt} (hb : sy l = some b) (hr : ∀ ord_ : List Nat, ord_.Perm (List.range b.1.length) → HL slot b ord_ = some r_) : LC Tryz.prog 148 [(kV l), (iQ slot)] [] (Is (jV 0 r_) [.vec 4 (r_.map aD)]) := by
 refine dq Tryz.func148 Z Z Z ?_;unfold HL at hr;refine zQ<|zR<|zM Z<|zN<|zT<|zQ<|zR<|zM Z<|zN<|zT<|zQ<|zR<|zM Z<|yS Z (zC Z Z Z (by kernel_rfl) (Er hb))<|yS Z (ze Z vB Z Z)<|yS Z (zs Z Z Z Z rI Z Z Z Z)<|zN<|zT<|zQ<|zQ<|zR<|yS Z (zA Z Z oU)<|yS Z (zD Z Z Z vr Z Z) ?_;refine yS Z (ab.rangeMap (es := (ah p4 (fun v => .p (cr v)) b.1)) Z Z Z (mI _) (by kernel_rfl) Z Z) ?_;refine zN<|zT<|LW.ent (bK.lazy (t := 5) (m := 4) Z Z Z) ?_;refine LW.mapTail (D := eV) (G := fun d_ s_ => q9 (jG slot b) b.1.length (eV.mk ([] : List Vt)) s_ d_ ∧ s_.Perm (List.range b.1.length)) (fun d_ s_ => [(4, .zs), (5, (jV 6 d_.out))]) (fun d_ s_ => [.box [.map 1, .map 2], .map (ah p4 (fun v => .p (cr v)) b.1), .map (ah p4 (fun v => (bQ v)) b.2), .box [.map 1, .map 2], .box [.map 1, .map 2], .iter (.map 1) b.1.length s_, .vec 4 (d_.out.map aD)]) ?_<|fun d_ s_ hG env_m H_m hw_m => ?_
 ·refine LW.block ?_;have hall : ∀ ord : List Nat, ord.Perm (List.range b.1.length) → ∃ z, fr (jG slot b) ord (eV.mk ([] : List Vt)) = some z := fun ord ho => (zB (hr ord ho)).imp fun z h => h.1;refine LW.mapLoop (step := (jG slot b)) (n := b.1.length) (d0 := eV.mk ([] : List Vt)) (fun d_ s_ => [(1, (iQ slot)), (4, .zs), (5, (jV 6 d_.out)), (6, .ptr 4 0), (13, .ptr 5 0)]) (fun d_ s_ => [.box [.map 1, .map 2], .map (ah p4 (fun v => .p (cr v)) b.1), .map (ah p4 (fun v => (bQ v)) b.2), .box [.map 1, .map 2], .box [.map 1, .map 2], .iter (.map 1) b.1.length s_, .vec 4 (d_.out.map aD)]) hall (zW 7 ⟨rfl, rfl, rfl, rfl, rfl, trivial⟩ Z Z Z (zL Z (zL (ae (fun _ => rfl) _) (zL (ae (fun _ => rfl) _) (zL Z (zL Z (zL Z (zL Z Z))))))))<|fun d_ s_ hS => ?_;refine zQ<|zR ?_;refine am.cons Z Z Z (ab.nextMap (es := (ah p4 (fun v => .p (cr v)) b.1)) Z Z Z Z (mI _)) ?_;rintro x_ H_ (⟨ha_, rfl, rfl⟩ | ⟨j_, hj_, hs_, rfl, rfl⟩)
  ·
   exact yS Z (fB Z Z Z)<|zN<|zT<|zQ<|LW.condF Z<|zq<|ao<|ao<|zy<|zT<|⟨d_, s_, hS.all ha_, zW 7 ⟨rfl, rfl, trivial⟩ Z Z Z (zL Z (zL (ae (fun _ => rfl) _) (zL (ae (fun _ => rfl) _) (zL Z (zL Z (zL Z (zL Z Z)))))))⟩
  ·
   obtain ⟨e_, hr0, -⟩ := hS.next hall hj_ hs_;have hr := hr0;unfold jG at hr;refine yS Z (fB Z Z Z)<|zN<|zT<|zQ<|LW.condT Z<|zk<|zT<|zl<|zQ<|zR<|zb hr fun y1 h_y1 hr => ?_;refine yS Z (ab.entryMap (es := (ah p4 (fun v => .p (cr v)) b.1)) Z Z Z Z (mI _) (Au h_y1)) ?_;refine yS Z (fB Z Z Z)<|yS Z (fB Z Z Z)<|yS Z (ze Z BE Z Z)<|yS Z (ze Z j8 Z Z)<|yS Z (zs Z Z Z Z lz Z Z Z Z)<|yS Z (zs Z Z Z Z aU Z Z Z Z)<|zN<|zT ?_;obtain ⟨v1, hb_v1, ho_v1⟩ := zB hr;clear hr;refine LW.cut (E := [(1, (iQ slot)), (4, .zs), (5, (jV 6 d_.out)), (6, .ptr 4 0), (7, .ptr 7 0), (8, .ptr 8 0), (13, .ptr 5 0), (31, (bQ v1))]) (O := [.box [.map 1, .map 2], .map (ah p4 (fun v => .p (cr v)) b.1), .map (ah p4 (fun v => (bQ v)) b.2), .box [.map 1, .map 2], .box [.map 1, .map 2], .iter (.map 1) b.1.length (s_ ++ [j_]), .vec 4 (d_.out.map aD), .box [(iQ y1.1.frm), (iQ y1.1.slot)], .box [(uQ y1.2.1), (uQ y1.2.2)]]) ?_ ?_
   ·have hr := hb_v1;refine zR<|yS Z (zD Z Z Z lz Z Z)<|yS Z (zA Z Z tj)<|yS Z (zD Z Z Z a7 Z Z)<|zM Z<|yS Z (ab.build Z Ah Z Z Z)<|yS Z (ab.eqlAgg Z Z Z Z Z CH)<|zM Z ?_;refine zc 25 Z (fun g1 => ?_)<|fun g1 => ?_
    ·
     refine zi g1 hr fun hr => yV Z (gd g1 Z) (zA Z Z ti)<|yV Z (gd g1 Z) (zD Z Z Z Bq Z Z)<|yV Z (gd g1 Z) (zD Z Z Z lz Z Z) ?_;refine yV Z (gd g1 Z) (ab.getX (f := p4) (g := (fun v => (bQ v))) y1.1 false wd Z Z Z Z AW HA Z Z) ?_;refine yV Z (gd g1 Z) (ab.not Z Z)<|yS Z (cq Z (aS g1 Z) Z)<|zN<|zT ?_;obtain rfl := zJ hr;exact zW 9 ⟨Z, Z, Z, Z, Z, Z, Z, Z, trivial⟩ Z Z Z<|zL Z<|zL (ae (fun _ => rfl) _)<|zL (ae (fun _ => rfl) _)<|zL Z<|zL Z<|zL Z<|zL Z<|zL Z<|zL Z Z
    ·
     refine zo g1 hr fun hr => yU Z (gd g1 Z) Z<|yU Z (gd g1 Z) Z<|yU Z (gd g1 Z) Z<|yU Z (gd g1 Z) Z<|yU Z (gd g1 Z) Z<|yS Z (bg Z (aS g1 Z) Z)<|zN<|zT ?_;obtain rfl := zJ hr;exact zW 9 ⟨Z, Z, Z, Z, Z, Z, Z, Z, trivial⟩ Z Z Z<|zL Z<|zL (ae (fun _ => rfl) _)<|zL (ae (fun _ => rfl) _)<|zL Z<|zL Z<|zL Z<|zL Z<|zL Z<|zL Z Z
   ·have hr := ho_v1;clear hb_v1;refine zX Z (fun g2 => ?_)<|fun g2 => ?_
    ·
     refine zi g2 hr fun hr => zR<|zM Z<|yS Z (zA Z Z tj)<|yS Z (zD Z Z Z a7 Z Z)<|zM Z<|yS Z (zD Z Z Z aU Z Z)<|yS Z (ab.build Z Fv Z Z Z)<|yS Z (nb Z cX Z Z Z Z Z)<|zg hr fun q1 hr => yS Z (ab.appendX aD d_.out [Vt.mk y1.1.frm slot y1.2] rfl Z Z Z kx.p Z cX q1 Z)<|zM Z<|zN<|ai<|zT ?_;obtain rfl := zJ hr;exact ⟨j_, _, hj_, hs_, hr0, zW 7 ⟨rfl, rfl, rfl, rfl, rfl, trivial⟩ Z Z Z (zL Z (zL (ae (fun _ => rfl) _) (zL (ae (fun _ => rfl) _) (zL Z (zL Z (zL Z (zL Z Z)))))))⟩
    ·
     refine zo g2 hr fun hr => zk<|ai<|zT ?_;obtain rfl := zJ hr;exact ⟨j_, _, hj_, hs_, hr0, zW 7 ⟨rfl, rfl, rfl, rfl, rfl, trivial⟩ Z Z Z (zL Z (zL (ae (fun _ => rfl) _) (zL (ae (fun _ => rfl) _) (zL Z (zL Z (zL Z (zL Z Z)))))))⟩
 ·have hr := Fr (hr s_ hG.2) hG.1.came;refine zT<|LW.weak hw_m<|zQ<|LW.ent (bK.last (t := 5) (j := 0) (Hj := []) Z Z Z Z Z Z Z)<|zR<|zM Z<|zb hr fun v2 h_v2 hr => yS Z (zC Z Z Z (by kernel_rfl) (Ap h_v2))<|zM Z<|zN<|zT<|zr ?_;obtain rfl := zJ hr;exact ap (.one (.tmp Z))<|⟨rfl, rfl⟩
open Go.Proofs
theorem pj {α β : Type} [DecidableEq α] (k : α) (v : β) : ∀ m : List (α × β), (aV m k v).map Prod.fst = if k ∈ m.map Prod.fst then m.map Prod.fst else m.map Prod.fst ++ [k]
 | [] => by simp [aV]
 | (x, y) :: r => by
  have ih := pj k v r;by_cases h : x = k
  ·subst h; simp [aV]
  ·have h' : ¬ k = x := fun e => h e.symm;simp only [aV, if_neg h, List.map_cons, ih, List.mem_cons, h', false_or];split <;> rfl
theorem u4 {α β : Type} [DecidableEq α] {m : List (α × β)} (k : α) (v : β) (h : (m.map Prod.fst).Nodup) : ((aV m k v).map Prod.fst).Nodup := by
 rw [pj];split
 ·exact h
 ·rename_i hk;exact List.nodup_append.2 ⟨h, by simp, fun a ha b hb => by rw [List.mem_singleton] at hb; subst hb; exact fun e => hk (e ▸ ha)⟩
theorem AM {α β : Type} [DecidableEq α] (m : List (α × β)) (k : α) (v : β) : (aV m k v).length ≤ m.length + 1 := by
 have h := congrArg List.length (pj k v m);split at h <;> simp at h <;> omega
def HO (v : Vt) : Du := ⟨v.From, v.Slot⟩
def Gy (h : List (Du × ID)) (v : Vt) : Bool := match aj h (HO v) with
 | some w => decide (w ≠ v.Head)
 | none => false
def Ae (b : List (Du × ID) × List (Du × Bool)) (v : Vt) : List (Du × ID) × List (Du × Bool) := (aV b.1 (HO v) v.Head, if Gy b.1 v = true then aV b.2 (HO v) true else b.2)
def eo (l : List Vt) : List (Du × ID) × List (Du × Bool) := l.foldl Ae ([], [])
theorem oG (l : List Vt) (v : Vt) : eo (l ++ [v]) = Ae (eo l) v := by unfold eo; rw [List.foldl_append]; rfl
theorem zu {l : List Vt} (hl : l.length ≤ 100000) : sy l = some (eo l) := by
 have e := az (step := iv l) (n := l.length) (fun k => c9.mk (k : Int) (eo (l.take k)).1 (eo (l.take k)).2) (c9.mk (l.length : Int) (eo l).1 (eo l).2) (fun k hk => by
  obtain ⟨y, hy, -⟩ := aA hk
  have et : l.take (k + 1) = l.take k ++ [y] := by rw [List.take_add_one, hy]; rfl
  unfold iv;simp only;rw [decide_eq_true (show (k : Int) < (l.length : Int) by omega), ct, aC hy, ob, et, oG, ak (n := k) (by omega)];generalize eo (l.take k) = b;unfold Ae Gy HO
  cases hf : aj b.1 (Du.mk y.From y.Slot) with
  | none => simp only [Option.isSome_none, cf]; rfl
  | some w =>
   simp only [Option.isSome_some, ct, Option.getD_some, CF];by_cases hw : w = y.Head
   ·rw [decide_eq_true hw, Bool.not_true, cf]; simp [hw]
   ·rw [decide_eq_false hw, Bool.not_false, ct]; simp [hw]) (by
  unfold iv;simp only
  rw [decide_eq_false (show ¬ (l.length : Int) < (l.length : Int) by omega), cf, List.take_length]) (by omega)
 have e' : iter (iv l) bE (c9.mk 0 [] []) = _ := e;unfold sy;rw [e', ob]
theorem qt (l : List Vt) : ((eo l).1.map Prod.fst).Nodup ∧ (eo l).1.length ≤ l.length := by
 have key : ∀ k, k ≤ l.length → ((eo (l.take k)).1.map Prod.fst).Nodup ∧ (eo (l.take k)).1.length ≤ k := by
  intro k
  induction k with
  | zero => intro _; simp [eo]
  | succ k ih =>
   intro hk;obtain ⟨y, hy, -⟩ := aA (l := l) (n := k) (by omega)
   have et : l.take (k + 1) = l.take k ++ [y] := by rw [List.take_add_one, hy]; rfl
   obtain ⟨h1, h2⟩ := ih (by omega);rw [et, oG];exact ⟨u4 _ _ h1, Nat.le_trans (AM _ _ _) (by omega)⟩
 have := key l.length (Nat.le_refl _)
 rwa [List.take_length] at this
def gq (d : List (Du × Bool)) (slot : Int) (e : Du × ID) : Option Vt := if e.1.slot = slot ∧ (aj d e.1).getD false = false then some ⟨e.1.frm, slot, e.2⟩ else none
def lW (b : List (Du × ID) × List (Du × Bool)) (slot : Int) (j : Nat) : Option Vt := (b.1[j]?).bind (gq b.2 slot)
theorem sG {slot : Int} {b : List (Du × ID) × List (Du × Bool)} : ∀ (ord : List Nat) (out : List Vt), (∀ j ∈ ord, j < b.1.length) → out.length + ord.length ≤ 100000 → fr (jG slot b) ord (eV.mk out) = some (eV.mk (out ++ ord.filterMap (lW b slot)))
 | [], out, _, _ => by simp [fr]
 | j :: r, out, hj, hl => by
  obtain ⟨e, he, -⟩ := aA (hj j (.head _))
  have hl2 : out.length + r.length + 1 ≤ 100000 := by simp only [List.length_cons] at hl; omega
  have hs : jG slot b j (eV.mk out) = some (eV.mk (out ++ (gq b.2 slot e).toList)) := by
   unfold jG;rw [he, ob];unfold gq;simp only;rw [beq_self_eq_true, Bool.true_and, Bool.and_true];by_cases h1 : e.1.slot = slot
   ·rw [beq_iff_eq.2 h1, ct, ob]
    cases h2 : (aj b.2 e.1).getD false with
    | false =>
     rw [Bool.not_false, ct, aK (by simp only [List.length_singleton]; omega) (by omega), ct, if_pos ⟨h1, rfl⟩]; rfl
    | true => rw [Bool.not_true, cf, if_neg (by simp)]; simp
   ·rw [beq_eq_false_iff_ne.2 h1, cf, ob, cf, if_neg (fun h => h1 h.1)]; simp
  have hlen : (gq b.2 slot e).toList.length ≤ 1 := by cases gq b.2 slot e <;> simp
  unfold fr;rw [hs];simp only;rw [sG r _ (fun i hi => hj i (.tail _ hi)) (by rw [List.length_append]; omega)]
  have hk : lW b slot j = gq b.2 slot e := by unfold lW; rw [he]; rfl
  rw [List.filterMap_cons, hk];cases gq b.2 slot e <;> simp
theorem vd (b : List (Du × ID) × List (Du × Bool)) (slot : Int) : (List.range b.1.length).filterMap (lW b slot) = b.1.filterMap (gq b.2 slot) := by
 have key : ∀ k, k ≤ b.1.length → (List.range k).filterMap (lW b slot) = (b.1.take k).filterMap (gq b.2 slot) := by
  intro k
  induction k with
  | zero => intro _; rfl
  | succ k ih =>
   intro hk;obtain ⟨y, hy, -⟩ := aA (l := b.1) (n := k) (by omega)
   have et : b.1.take (k + 1) = b.1.take k ++ [y] := by rw [List.take_add_one, hy]; rfl
   rw [List.range_succ, List.filterMap_append, ih (by omega), et, List.filterMap_append];congr 1
   have hk2 : lW b slot k = gq b.2 slot y := by unfold lW; rw [hy]; rfl
   rw [List.filterMap_cons, List.filterMap_cons, hk2];rfl
 have := key b.1.length (Nat.le_refl _)
 rwa [List.take_length] at this
def EP (l : List Vt) (slot : Int) : List Vt := fx ((eo l).1.filterMap (gq (eo l).2 slot))
theorem tA {m : List (Du × ID)} {d : List (Du × Bool)} {slot : Int} (h : (m.map Prod.fst).Nodup) : ∀ x ∈ m.filterMap (gq d slot), ∀ y ∈ m.filterMap (gq d slot), x.From = y.From → x = y := by
 have hmem : ∀ x ∈ m.filterMap (gq d slot), (⟨x.From, slot⟩, x.Head) ∈ m ∧ x.Slot = slot := by
  intro x hx;obtain ⟨e, he, hk⟩ := List.mem_filterMap.1 hx;unfold gq at hk;split at hk
  ·rename_i hc;cases hk;obtain ⟨⟨f, s⟩, id⟩ := e;simp only at hc;obtain ⟨rfl, -⟩ := hc;exact ⟨he, rfl⟩
  ·cases hk
 intro x hx y hy hf;obtain ⟨h1, h2⟩ := hmem x hx;obtain ⟨h3, h4⟩ := hmem y hy;rw [← hf] at h3
 have hh : x.Head = y.Head := by
  obtain ⟨i, hi⟩ := List.getElem?_of_mem h1;obtain ⟨j, hj⟩ := List.getElem?_of_mem h3
  have hi' : (m.map Prod.fst)[i]? = some ⟨x.From, slot⟩ := by rw [List.getElem?_map, hi]; rfl
  have hj' : (m.map Prod.fst)[j]? = some ⟨x.From, slot⟩ := by rw [List.getElem?_map, hj]; rfl
  have := (List.getElem?_inj (List.getElem?_eq_some_iff.1 hi').1 h).1 (hi'.trans hj'.symm);subst this;rw [hi] at hj;exact congrArg Prod.snd<|Option.some.inj hj
 cases x; cases y;simp only at hf h2 h4 hh;subst hf h2 hh;rw [h4]
theorem D0 {l : List Vt} (hl : l.length ≤ 90000) (slot : Int) : ∀ ord : List Nat, ord.Perm (List.range (eo l).1.length) → HL slot (eo l) ord = some (EP l slot) := by
 intro ord ho;obtain ⟨h1, h2⟩ := qt l;have hlen := ho.length_eq;rw [List.length_range] at hlen;unfold HL EP;have hp := ho.filterMap (lW (eo l) slot);rw [vd] at hp;have hk : vj (ord.filterMap (lW (eo l) slot)) = true := decide_eq_true ⟨Nat.le_trans (List.length_filterMap_le _ _) (by omega), fun x hx y hy => tA h1 x (hp.mem_iff.1 hx) y (hp.mem_iff.1 hy)⟩;rw [sG ord [] (fun j hj => List.mem_range.1 (ho.mem_iff.1 hj)) (by simp; omega), ob, List.nil_append];simp only;unfold nM;rw [hk, ct, xR hp.symm (tA h1)];rfl
def Ce (v : List Vt) (slot : Int) : Option (List Vt) := bif Nat.ble v.length 90000 then some (EP v slot) else none
theorem Gv {v : List Vt} {slot : Int} {r_ : List Vt} (hr : Ce v slot = some r_) : LC Tryz.prog 148 [.p (.slice 4 (v.map aD)), .p (.int .i64 slot)] [] (Is (.vec 4 0 (r_.map aD).length 0 (r_.map aD).length) [.vec 4 (r_.map aD)]) := by
 unfold Ce at hr;obtain ⟨q, hr⟩ := ww hr;obtain rfl := Option.some.inj hr;have hl := Nat.le_of_ble_eq_true q;exact IB (zu (by omega))<|D0 hl slot
open Go.Proofs
structure dN where
 t8 : Int
def hZ (s : List Int) (v : Int) (x1 : dN) : Option (dN ⊕ (dN ⊕ Int)) :=
 bif decide (x1.t8 < (s.length : Int)) then
  (ix s x1.t8).bind fun y1 =>
  bif v == y1 then
   some (.inr (.inr x1.t8))
  else
   some (.inl (dN.mk (IntKind.i64.wrap (x1.t8 + 1))))
 else
  some (.inr (.inl (dN.mk x1.t8)))
def vF (s : List Int) (v : Int) : Option Int :=
 (iter (hZ s v) bE (dN.mk 0)).bind fun b_v1 => Sum.elim (fun _ =>
  some (-1)) some b_v1
theorem FF {s : List Int} {v : Int} {r_ : Int} (hr : vF s v = some r_) : aw Tryz.prog 186 [.slice 1 (s.map aB), .int .i64 v] [.int .i64 r_] := by
 refine zh Tryz.func186 Z Z Z Z ?_;unfold vF at hr;refine zQ<|zR<|zM Z<|zN<|zT<|zQ<|zQ<|zR<|zM Z<|yS Z (cB Z Z (by kernel_rfl))<|zM Z<|zN<|zT ?_;obtain ⟨b_v1, hb_v1, ho_v1⟩ := zB hr;clear hr;refine LW.tailB (b := b_v1) (E := fun v1 => [(4, (iQ 0))]) (O := fun v1 => []) ?_<|fun v1 e_v1 env_v1 H_v1 hw_v1 => ?_
 ·refine LW.block ?_;refine LW.iterB (E := fun x1 : dN => [(0, (kI s)), (1, (iQ v)), (4, (iQ 0)), (7, .p (.int .i64 (s.length : Int))), (8, (iQ x1.t8))]) (O := fun x1 => []) hb_v1 (zW 0 ⟨rfl, rfl, rfl, rfl, rfl, trivial⟩ Z Z Z Z)<|fun x1 z_x1 hr hb_x1 => ?_;unfold hZ at hr;refine zQ<|zR<|yS Z (ay Z Z Z Z)<|zN<|zT<|zQ ?_;refine zX Z (fun g1 => ?_)<|fun g1 => ?_
  ·
   refine zi g1 hr fun hr => zk<|zT<|zQ<|zl<|zQ<|zR<|zM Z<|zM Z<|zN<|zT<|zQ<|zR<|zM Z<|zM Z<|zM Z<|zb hr fun y1 h_y1 hr => yS Z (zx Z Z Z ET h_y1 Z)<|yS Z (cR Z Z Z a7 Z Z)<|yS Z (ay Z Z Z Z)<|zN<|zT ?_;refine zX Z (fun g2 => ?_)<|fun g2 => ?_
   ·
    refine zi g2 hr fun hr => zQ<|zR<|zM Z<|zM Z<|zN<|zT<|zr<|aq<|af<|af<|aq<|af<|af ?_;obtain rfl := zJ hr;have hr := congrArg some (hb_x1 _ rfl);obtain rfl := zJ hr;have hr := cS ho_v1;obtain rfl := zJ hr;exact zf (.one (.tmp Z)) zv
   ·
    refine zo g2 hr fun hr => zk<|ai<|zT<|zR<|yS Z (ay Z Z Z Z)<|zM Z<|zN<|zT ?_;obtain rfl := zJ hr;exact ⟨_, rfl, zW 0 ⟨rfl, rfl, rfl, rfl, rfl, trivial⟩ Z Z Z rfl⟩
  ·
   refine zo g1 hr fun hr => zq<|ao<|ao<|zy<|zT ?_;obtain rfl := zJ hr;have hr := congrArg some (hb_x1 _ rfl);obtain rfl := zJ hr;exact ⟨_, rfl, zW 0 ⟨rfl, trivial⟩ Z Z Z rfl⟩
 ·obtain rfl := e_v1;have hr := d4 ho_v1;clear hb_v1;refine zT<|LW.weak hw_v1<|zQ<|zR<|zM Z<|zN<|zT<|zr ?_;obtain rfl := zJ hr;exact zf (.one (.tmp Z)) zv
def rX (s : List Int) (v : Int) : Option Bool :=
 (vF s v).bind fun v1 =>
 some (decide (v1 ≥ 0))
theorem FE {s : List Int} {v : Int} {r_ : Bool} (hr : rX s v = some r_) : aw Tryz.prog 169 [.slice 1 (s.map aB), .int .i64 v] [.bool r_] := by
 refine zh Tryz.func169 Z Z Z Z ?_;unfold rX at hr;refine zQ<|zR<|zM Z<|zN<|zT<|zQ<|zR<|zM Z<|zM Z<|zb hr fun v1 h_v1 hr => yS Z (zC Z Z Z (by kernel_rfl) (zp (FF h_v1) (.cons zv (.cons zv .nil))))<|yS Z (ay Z Z Z Z)<|zM Z<|zN<|zT<|zr ?_;obtain rfl := zJ hr;exact zf (.one (.tmp Z)) zv
def p8 (b : List Int) (v : Vt) : Option Bool :=
 (rX b v.From).bind fun v1 =>
 some (!v1)
theorem C6 {b : List Int} {v : Vt} {r_ : Bool} (hr : p8 b v = some r_) : aw Tryz.prog 149 [.slice 1 (b.map aB), aD v] [.bool r_] := by
 refine zh Tryz.func149 Z Z Z Z ?_;unfold p8 at hr;refine zQ<|zR<|yS Z (bT Z Z Z Z Z)<|zM Z<|zN<|zT<|zQ<|zR<|zM Z<|yS Z (zA Z Z oZ)<|yS Z (zD Z Z Z a7 Z Z)<|zb hr fun v1 h_v1 hr => yS Z (zC Z Z Z (by kernel_rfl) (zp (FE h_v1) (.cons zv (.cons zv .nil))))<|yS Z (ab.not Z Z)<|zM Z<|zN<|zT<|zr ?_;obtain rfl := zJ hr;exact zf (.one (.tmp Z)) zv
structure fW where
 t8 : Int
def ib (lV : List Vt) (kk : Nat) (cm : List Int) (x1 : fW) : Option (fW ⊕ (fW ⊕ Int)) :=
 bif decide (x1.t8 < (kk : Int)) then
  (ix (lV.take kk) x1.t8).bind fun y1 =>
  (p8 cm y1).bind fun v2 =>
  bif v2 then
   some (.inr (.inr x1.t8))
  else
   some (.inl (fW.mk (IntKind.i64.wrap (x1.t8 + 1))))
 else
  some (.inr (.inl (fW.mk x1.t8)))
def sd (lV : List Vt) (kk : Nat) (cm : List Int) : Option Int :=
 (iter (ib lV kk cm) bE (fW.mk 0)).bind fun b_v1 => Sum.elim (fun _ =>
  some (-1)) some b_v1
theorem En {c : Cf} {lV : List Vt} {kk : Nat} {cm : List Int} {r_ : Int} (hr : sd lV kk cm = some r_) : LC Tryz.prog 170 [.vec 4 1 (lV.map aD).length 0 kk, .fn 149 [(kI cm)] []] [.box (bN c), .vec 4 (lV.map aD)] (Is (iQ r_) [.box (bN c), .vec 4 (lV.map aD)]) := by
 refine dq Tryz.func170 Z Z Z ?_;unfold sd at hr;refine zQ<|zR<|zM Z<|zN<|zT<|zQ<|zQ<|zR<|zM Z<|yS Z (ab.lenVP Z Z Z (by kernel_rfl))<|zM Z<|zN<|zT ?_;obtain ⟨b_v1, hb_v1, ho_v1⟩ := zB hr;clear hr;refine LW.tailB (b := b_v1) (E := fun v1 => [(4, (iQ 0))]) (O := fun v1 => [.box (bN c), .vec 4 (lV.map aD)]) ?_<|fun v1 e_v1 env_v1 H_v1 hw_v1 => ?_
 ·refine LW.block ?_;refine LW.iterB (E := fun x1 : fW => [(0, .vec 4 1 (lV.map aD).length 0 kk), (1, .fn 149 [(kI cm)] []), (4, (iQ 0)), (7, .p (.int .i64 (kk : Int))), (8, (iQ x1.t8))]) (O := fun x1 => [.box (bN c), .vec 4 (lV.map aD)]) hb_v1 (zW 2 ⟨rfl, rfl, rfl, rfl, rfl, trivial⟩ Z Z Z Z)<|fun x1 z_x1 hr hb_x1 => ?_;unfold ib at hr;refine zQ<|zR<|yS Z (ay Z Z Z Z)<|zN<|zT<|zQ ?_;refine zX Z (fun g1 => ?_)<|fun g1 => ?_
  ·
   refine zi g1 hr fun hr => zk<|zT<|zQ<|zl<|zQ<|zR<|zM Z<|zM Z<|zN<|zT<|zQ<|zR<|zM Z<|zM Z<|zM Z<|zb hr fun y1 h_y1 hr => yS Z (ab.indexAddrVP Z Z Z Z cX h_y1)<|yS Z (ab.loadVX Z Z Z ch (fe h_y1).1 Z Z Z Z)<|zb hr fun v2 h_v2 hr => yS Z (zC Z Z Z (by kernel_rfl) (zp (C6 h_v2) (.cons zv (.cons zv .nil))))<|zN<|zT ?_;refine zX Z (fun g2 => ?_)<|fun g2 => ?_
   ·
    refine zi g2 hr fun hr => zQ<|zR<|zM Z<|zM Z<|zN<|zT<|zr<|aq<|af<|af<|aq<|af<|af ?_;obtain rfl := zJ hr;have hr := congrArg some (hb_x1 _ rfl);obtain rfl := zJ hr;have hr := cS ho_v1;obtain rfl := zJ hr;exact ap (.one (.tmp Z))<|⟨rfl, rfl⟩
   ·
    refine zo g2 hr fun hr => zk<|ai<|zT<|zR<|yS Z (ay Z Z Z Z)<|zM Z<|zN<|zT ?_;obtain rfl := zJ hr;exact ⟨_, rfl, zW 2 ⟨rfl, rfl, rfl, rfl, rfl, trivial⟩ Z Z Z rfl⟩
  ·
   refine zo g1 hr fun hr => zq<|ao<|ao<|zy<|zT ?_;obtain rfl := zJ hr;have hr := congrArg some (hb_x1 _ rfl);obtain rfl := zJ hr;exact ⟨_, rfl, zW 2 ⟨rfl, trivial⟩ Z Z Z rfl⟩
 ·obtain rfl := e_v1;have hr := d4 ho_v1;clear hb_v1;refine zT<|LW.weak hw_v1<|zQ<|zR<|zM Z<|zN<|zT<|zr ?_;obtain rfl := zJ hr;exact ap (.one (.tmp Z))<|⟨rfl, rfl⟩
structure fj where
 i : Int
 j : Int
 o1 : List Vt
def ia (kk : Nat) (cm : List Int) (x1 : fj) : Option (fj ⊕ fj) :=
 bif decide (x1.j < (kk : Int)) then
  (ix (x1.o1.take kk) x1.j).bind fun y1 =>
  (p8 cm y1).bind fun v3 =>
  bif !v3 then
   (ix (x1.o1.take kk) x1.i).bind fun _ =>
   some (.inl (fj.mk (IntKind.i64.wrap (x1.i + 1)) (IntKind.i64.wrap (x1.j + 1)) (x1.o1.set x1.i.toNat y1)))
  else
   some (.inl (fj.mk x1.i (IntKind.i64.wrap (x1.j + 1)) x1.o1))
 else
  some (.inr (fj.mk x1.i x1.j x1.o1))
def sa (lV : List Vt) (kk : Nat) (cm : List Int) : Option (Nat × List Vt) :=
 (sd lV kk cm).bind fun v1 =>
 bif v1 == (-1) then
  some (kk, lV)
 else
  (iter (ia kk cm) bE (fj.mk v1 (IntKind.i64.wrap (v1 + 1)) lV)).bind fun v2 =>
  bif decide (0 ≤ v2.i ∧ v2.i ≤ (kk : Int)) then
   bif decide (v2.i.toNat + (kk - v2.i.toNat) ≤ v2.o1.length) then
    bif decide (0 ≤ v2.i ∧ v2.i ≤ (kk : Int)) then
     some (v2.i.toNat, gU v2.o1 v2.i.toNat (kk - v2.i.toNat) (Vt.mk 0 0 (0, 0)))
    else none
   else none
  else none
theorem Ej {c : Cf} {lV : List Vt} {kk : Nat} {cm : List Int} {r_ : Nat × List Vt} (hr : sa lV kk cm = some r_) : LC Tryz.prog 150 [.vec 4 1 (lV.map aD).length 0 kk, .fn 149 [(kI cm)] []] [.box (bN c), .vec 4 (lV.map aD)] (Is (.vec 4 1 (r_.2.map aD).length 0 r_.1) [.box (bN c), .vec 4 (r_.2.map aD)]) := by
 refine dq Tryz.func150 Z Z Z ?_;unfold sa at hr;refine zQ<|zR<|zM Z<|zN<|zT<|zQ<|zR<|zM Z<|zM Z<|zb hr fun v1 h_v1 hr => yS Z (zC Z Z Z (by kernel_rfl) (En h_v1))<|zM Z<|zN<|zT<|zQ<|zQ<|zR<|zM Z<|yS Z (ay Z Z Z Z)<|zN<|zT ?_;refine zX Z (fun g1 => ?_)<|fun g1 => ?_
 ·
  refine zi g1 hr fun hr => zQ<|zR<|zM Z<|zM Z<|zN<|zT<|zr<|af ?_;obtain rfl := zJ hr;exact ap (.one (.tmp Z))<|⟨rfl, rfl⟩
 ·
  refine zo g1 hr fun hr => zk<|zT<|zQ<|zQ<|zR<|zM Z<|yS Z (ay Z Z Z Z)<|zM Z<|zN<|zT ?_;obtain ⟨v2, hb_v2, ho_v2⟩ := zB hr;clear hr;refine LW.tail (E := [(0, .vec 4 1 (v2.o1.map aD).length 0 kk), (4, .zs), (5, (iQ v2.i))]) (O := [.box (bN c), .vec 4 (v2.o1.map aD)]) ?_<|fun env_v2 H_v2 hw_v2 => ?_
  ·refine LW.block ?_;refine LW.iterB (E := fun x1 : fj => [(0, .vec 4 1 (x1.o1.map aD).length 0 kk), (1, .fn 149 [(kI cm)] []), (4, .zs), (5, (iQ x1.i)), (6, (iQ x1.j))]) (O := fun x1 => [.box (bN c), .vec 4 (x1.o1.map aD)]) hb_v2 (zW 2 ⟨rfl, rfl, rfl, rfl, rfl, trivial⟩ Z Z Z Z)<|fun x1 z_x1 hr hb_x1 => ?_;unfold ia at hr;refine zQ<|zQ<|zR<|zM Z<|zM Z<|yS Z (ab.lenVP Z Z Z (by kernel_rfl))<|yS Z (ay Z Z Z Z)<|zN<|zT ?_;refine zX Z (fun g2 => ?_)<|fun g2 => ?_
   ·
    refine zi g2 hr fun hr => zk<|zT<|zQ<|zl<|zQ<|zR<|zM Z<|zM Z<|zb hr fun y1 h_y1 hr => yS Z (ab.indexAddrVP Z Z Z Z cX h_y1)<|yS Z (ab.loadVX Z Z Z ch (fe h_y1).1 Z Z Z Z)<|yS Z (ze Z rL Z Z)<|yS Z (zs Z Z Z Z ch Z Z Z Z)<|zN<|zT<|zQ<|zR<|zM Z<|yS Z (zD Z Z Z ch Z Z)<|zb hr fun v3 h_v3 hr => yS Z (zC Z Z Z (by kernel_rfl) (zp (C6 h_v3) (.cons zv (.cons zv .nil))))<|yS Z (ab.not Z Z)<|zN ?_;refine zT ?_;refine zX Z (fun g3 => ?_)<|fun g3 => ?_
    ·
     refine zi g3 hr fun hr => zQ<|zR<|zM Z<|zM Z<|yS Z (zD Z Z Z ch Z Z)<|zb hr fun y2 h_y2 hr => yS Z (ab.indexAddrVP Z Z Z Z cX h_y2) ?_;refine yS Z (ab.storeVP (f := aD) (l := x1.o1) y1 Z Z Z Z ch (fun _ => rfl) (fe h_y2).1 Z Z Z Z Z Z Z) ?_;refine zN<|zT<|zR<|zM Z<|yS Z (ay Z Z Z Z)<|zM Z<|zN<|ai<|zT<|zR<|zM Z<|yS Z (ay Z Z Z Z)<|zM Z<|zN<|zT ?_;obtain rfl := zJ hr;exact ⟨_, rfl, zW 2 ⟨(ES (rfl)), rfl, rfl, rfl, rfl, trivial⟩ Z Z Z rfl⟩
    ·
     refine zo g3 hr fun hr => zk<|ai<|zT<|zR<|zM Z<|yS Z (ay Z Z Z Z)<|zM Z<|zN<|zT ?_;obtain rfl := zJ hr;exact ⟨_, rfl, zW 2 ⟨rfl, rfl, rfl, rfl, rfl, trivial⟩ Z Z Z rfl⟩
   ·
    refine zo g2 hr fun hr => zq<|ao<|ao<|zy<|zT ?_;obtain rfl := zJ hr;have hr := congrArg some (hb_x1 _ rfl);obtain rfl := zJ hr;exact zW 2 ⟨Z, Z, Z, trivial⟩ Z Z Z Z
  ·have hr := ho_v2;clear hb_v2;refine zT<|LW.weak hw_v2<|zQ<|zR<|zM Z<|zM Z<|zg hr fun q1 hr => yS Z (ab.sliceVLo Z Z Z Z cX q1)<|zg hr fun q2 hr => ?_;refine yS Z (ab.clearVP (f := aD) (zs := [.int .i64 0, .int .i64 0, .int .u64 0, .int .u64 0]) (Vt.mk 0 0 (0, 0)) Z Z Z cX (fun _ => rfl) (by kernel_rfl) Z q2 Z) ?_;refine zN<|zT<|zQ<|LW.ent (bK.vlen (t := 0) (n' := ((gU v2.o1 v2.i.toNat (kk - v2.i.toNat) (Vt.mk 0 0 (0, 0))).map aD).length) Z (rf q2))<|zR<|zM Z<|zM Z<|zg hr fun q3 hr => yS Z (ab.sliceVHi Z Z Z Z cX q3)<|zM Z<|zN<|zT<|zr ?_;obtain rfl := zJ hr;exact ap (.one (.tmp Z))<|⟨rfl, rfl⟩
def p7 (c : Cf) (v : List Vt) (slot : Int) : Option (List Vt) :=
 (Ce v slot).bind fun v1 =>
 (DR c slot).bind fun v2 =>
 (sa v1 ((v1.map aD).length) v2).bind fun v3 =>
 bif Nat.ble v3.1 v3.2.length then
  some (v3.2.take v3.1)
 else none
theorem C5 {c : Cf} {v : List Vt} {slot : Int} {r_ : (List Vt)} (hr : p7 c v slot = some r_) : aw Tryz.prog 110 [kz c, .slice 4 (v.map aD), .int .i64 slot] [.slice 4 (r_.map aD)] := by
 refine zh Tryz.func110 Z Z Z Z ?_;unfold p7 at hr;refine zQ<|zR<|yS Z (bT Z Z Z Z Z)<|zM Z<|zN<|zT<|zQ<|zR<|zM Z<|zM Z<|zb hr fun v1 h_v1 hr => yS Z (ab.callV (qs := [(kV v), (iQ slot)]) Z Z Z (by kernel_rfl) (Gv h_v1) (.consC zv (.consC zv .nil)) Z Z)<|zM Z<|zN<|zT<|zQ<|zR<|yS Z (zD Z Z Z bY Z Z)<|zM Z<|zb hr fun v2 h_v2 hr => yS Z (zC Z Z Z (by kernel_rfl) (zp (Iy h_v2) (.cons zv (.cons zv .nil))))<|yS Z (ab.makeFunc Z Z Z)<|zM Z<|zN ?_;refine zT<|zQ<|zR<|zM Z<|zM Z<|yS Z (ab.lenVM Z Z Z (by kernel_rfl))<|zM Z<|yS Z (ab.lenVM Z Z Z (by kernel_rfl))<|yS Z (ab.sliceV3 Z Z Z Z Z cX)<|zM Z<|zb hr fun v3 h_v3 hr => zg hr fun q1 hr => yS Z (zC Z Z Z (by kernel_rfl) (Ej h_v3))<|zM Z<|zN<|zT<|zQ<|zR<|zM Z<|zM Z<|zN<|zT<|zr ?_;obtain rfl := zJ hr;exact zf (.one (.tmp Z))<|(Conv.vecTake Z q1)
def jA (c : Cf) (w : Vw) (slot : Int) : Option ID :=
 (p7 c w.V slot).bind fun v1 =>
 (Fg c w.B v1).bind fun v2 =>
 some v2
theorem C4 {c : Cf} {w : Vw} {slot : Int} {r_ : ID} (hr : jA c w slot = some r_) : aw Tryz.prog 61 [kz c, kQ w, .int .i64 slot] [cr r_] := by
 refine zh Tryz.func61 Z Z Z Z ?_;unfold jA at hr;refine zQ<|zR<|yS Z (bT Z Z Z Z Z)<|yS Z (bT Z Z Z Z Z)<|yS Z (ze Z j8 Z Z)<|zN<|zT<|zQ<|LW.drawLast (m := 9) (by kernel_rfl) (by kernel_rfl) (by kernel_rfl)<|yE Z (zD Z Z Z bY Z Z)<|yE Z (zA Z Z br)<|yE Z (zD Z Z Z dp Z Z)<|yE Z (zD Z Z Z bY Z Z)<|yE Z (zA Z Z bD)<|yE Z (zD Z Z Z dM Z Z)<|zH Z<|zb hr fun v1 h_v1 hr => yE Z (zC Z Z Z (by kernel_rfl) (zp (C5 h_v1) (.cons zv (.cons zv (.cons zv .nil)))))<|zb hr fun v2 h_v2 hr => yE Z (zC Z Z Z (by kernel_rfl) (zp (I8 h_v2) (.cons zv (.cons zv (.cons zv .nil)))))<|LO.nil<|yS Z (zs Z Z Z Z aU Z Z Z Z)<|zN<|zT ?_;refine LW.ret ?_;obtain rfl := zJ hr;exact zf (.one (.cellAgg Z Z (by kernel_rfl) Z)) zv
structure Wk where
 Node : Nd
 c : Cf
 slot : Int
 told : List Of
open Go.Proofs
def rS (n : Nd) : Option Vw :=
 (zj n.V n.In).bind fun v1 =>
 some v1
theorem Fz {n : Nd} {r_ : Vw} (hr : rS n = some r_) : aw Tryz.prog 40 [gV n] [kQ r_] := by
 refine zh Tryz.func40 Z Z Z Z ?_;unfold rS at hr;refine zQ<|zR<|yS Z (bT Z Z Z Z Z)<|yS Z (ze Z iO Z Z)<|zN<|zT<|zQ<|zR<|yS Z (zA Z Z bP)<|yS Z (zD Z Z Z aJ Z Z)<|yS Z (zA Z Z bC)<|yS Z (zD Z Z Z aJ Z Z)<|zb hr fun v1 h_v1 hr => yS Z (zC Z Z Z (by kernel_rfl) (zp (Eg h_v1) (.cons zv (.cons zv .nil))))<|yS Z (zs Z Z Z Z aJ Z Z Z Z)<|zN<|zT<|zr ?_;obtain rfl := zJ hr;exact zf (.one (.cellAgg Z Z (by kernel_rfl) Z)) zv
def vU (no : Int) : Option Nd :=
 some (Nd.mk no 3 (Vw.mk [] []) (Vw.mk [] []) [] (Cu.mk (0, 0) 0 0) false)
theorem FY {no : Int} {r_ : Nd} (hr : vU no = some r_) : aw Tryz.prog 49 [.int .i64 no] [gV r_] := by
 refine zh Tryz.func49 Z Z Z Z ?_;unfold vU at hr;refine zQ<|zR<|yS Z (ze Z ne Z Z)<|zN<|zT<|zQ<|zR<|zM Z<|yS Z (ab.build Z uG Z Z Z)<|yS Z (zs Z Z Z Z bX Z Z Z Z)<|zN<|zT<|zr ?_;obtain rfl := zJ hr;exact zf (.one (.cellAgg Z Z (by kernel_rfl) Z))<|(Conv.agg (.cons zv (.cons zv (.cons Conv.zs (.cons Conv.zs (.cons Conv.zs (.cons Conv.zs (.cons Conv.zs (.cons zv (.cons zv (.cons zv (.cons zv (.cons zv .nil)))))))))))))
def n9 (v : Vw) : Option Vw :=
 bif ci 0 v.B.length 40 then
  bif ci 0 v.V.length 32 then
   some v
  else none
 else none
theorem Ai {v : Vw} {r_ : Vw} (hr : n9 v = some r_) : aw Tryz.prog 95 [kQ v] [kQ r_] := by
 refine zh Tryz.func95 Z Z Z Z ?_;unfold n9 at hr;refine zQ<|zR<|yS Z (bT Z Z Z Z Z)<|yS Z (ze Z iO Z Z)<|zN<|zT<|zQ<|LW.ent (bK.slot Z)<|LW.ent (bK.slot Z)<|LW.drawW (by kernel_rfl) (by kernel_rfl) ?_;refine yF (F := []) (s := none) Z (fun H _ => zA Z Z br) Z ?_;refine yF Z (zd Z Z Z dp Z Z) Z<|zg hr fun q1 hr => ?_;refine yF Z (bF.callV (id := 2) (qs := [(kB v.B)]) Z Z Z (by kernel_rfl) (sO q1) (fun H => (.consC zv .nil)) Z) Z ?_;refine yF (F := []) (s := none) Z (fun H _ => zA Z Z bD) Z ?_;refine yF Z (zd Z Z Z dM Z Z) Z<|zg hr fun q2 hr => ?_;refine yF Z (bF.callV (id := 3) (qs := [(kV v.V)]) Z Z Z (by kernel_rfl) (sP q2) (fun H => (.consC zv .nil)) Z) Z ?_;refine yF (F := []) (s := none) Z (fun H _ => ab.build Z oH Z Z Z) Z ?_;refine yF Z (zt Z Z Z Z aJ Z Z Z) Z ?_;refine LF.nil ⟨by kernel_rfl, ?_⟩;refine zT<|zr ?_;obtain rfl := zJ hr;exact zf (.one (.cellAgg Z Z (by kernel_rfl) Z))<|(Conv.agg (.cons (Conv.vecAll Z Z Z) (.cons (Conv.vecAll Z Z Z) .nil)))
def oc (o : Of) : Option Of :=
 (n9 o.V).bind fun v1 =>
 some (Of.mk o.Slot o.From o.B v1)
theorem Aj {o : Of} {r_ : Of} (hr : oc o = some r_) : aw Tryz.prog 96 [dh o] [dh r_] := by
 refine zh Tryz.func96 Z Z Z Z ?_;unfold oc at hr;refine zQ<|zR<|yS Z (bT Z Z Z Z Z)<|yS Z (ze Z nf Z Z)<|zN<|zT<|zQ<|zR<|yS Z (zA Z Z eM)<|yS Z (zD Z Z Z aJ Z Z)<|zb hr fun v1 h_v1 hr => yS Z (zC Z Z Z (by kernel_rfl) (zp (Ai h_v1) (.cons zv .nil)))<|yS Z (zA Z Z eM)<|yS Z (zs Z Z Z Z aJ Z Z Z Z)<|zN<|zT<|zQ<|zR<|yS Z (zD Z Z Z dL Z Z)<|yS Z (zs Z Z Z Z dL Z Z Z Z)<|zN<|zT<|zr ?_;obtain rfl := zJ hr;exact zf (.one (.cellAgg Z Z (by kernel_rfl) Z)) zv
def qa (b : Bk) : Option Vw :=
 some (Vw.mk [b] [])
theorem C9 {b : Bk} {r_ : Vw} (hr : qa b = some r_) : aw Tryz.prog 139 [ax b] [kQ r_] := by
 refine zh Tryz.func139 Z Z Z Z ?_;unfold qa at hr;refine zQ<|zR<|yS Z (bT Z Z Z Z Z)<|yS Z (ze Z iO Z Z)<|zN<|zT<|zQ<|zR<|yS Z (zD Z Z Z ce Z Z)<|yS Z (nb Z dI Z Z Z Z Z)<|yS Z (ab.build Z oH Z Z Z)<|yS Z (zs Z Z Z Z aJ Z Z Z Z)<|zN<|zT<|zr ?_;obtain rfl := zJ hr;exact zf (.one (.cellAgg Z Z (by kernel_rfl) Z))<|(Conv.agg (.cons zv (.cons Conv.zs .nil)))
open Go.Proofs
def sB (n : Int) : Option (List Of) :=
 bif decide (n < 0) then
  none
 else
  bif decide ((IntKind.i64.wrap (n - (IntKind.i64.wrap (0 - 0)))) > 0) then
   bif xA (IntKind.i64.wrap (n - (IntKind.i64.wrap (0 - 0)))) 104 then
    bif decide (0 ≤ 0 ∧ 0 ≤ (((List.replicate (IntKind.i64.wrap (n - (IntKind.i64.wrap (0 - 0)))).toNat (Of.mk 0 0 (Bk.mk 0 0 (0, 0) 0) (Vw.mk [] []) : Of)).map dh).length : Int)) then
     some (List.replicate (IntKind.i64.wrap (n - (IntKind.i64.wrap (0 - 0)))).toNat (Of.mk 0 0 (Bk.mk 0 0 (0, 0) 0) (Vw.mk [] []) : Of))
    else none
   else none
  else
   some []
theorem Et {n : Int} {r_ : List Of} (hr : sB n = some r_) : LC Tryz.prog 163 [.zs, (iQ n)] [] (Is (.vec 9 0 (r_.map dh).length 0 0) [.vec 9 (r_.map dh)]) := by
 refine dq Tryz.func163 Z Z Z ?_;unfold sB at hr;refine zQ<|zR<|zM Z<|zN<|zT<|zQ<|zQ<|zR<|zM Z<|yS Z (ay Z Z Z Z)<|zN<|zT ?_;refine zX Z (fun g1 => ?_)<|fun g1 => ?_
 ·
  have hr := zI g1 hr;cases hr
 ·
  refine zo g1 hr fun hr => zk<|zT<|zQ<|zQ<|zR<|zM Z<|zM Z<|yS Z (ab.capZ Z Z bv)<|zM Z<|yS Z (ab.lenZ Z Z (by kernel_rfl))<|yS Z (ay Z Z Z Z)<|yS Z (ay Z Z Z Z)<|zM Z<|zN<|zT<|zQ<|zR<|zM Z<|yS Z (ay Z Z Z Z)<|zN<|zT ?_;refine zX Z (fun g2 => ?_)<|fun g2 => ?_
  ·
   refine zi g2 hr fun hr => zR<|zM Z<|zM Z<|yS Z (ab.capZ Z Z bv)<|yS Z (ab.sliceZ0 Z Z Z bv)<|zM Z<|zg hr fun q1 hr => ?_;refine yS Z (ab.appendMake (cs := [(iQ 0), (iQ 0), (iQ 0), (iQ 0), (uQ 0), (uQ 0), (uQ 0), .zs, .zs]) (zs := [.int .i64 0, .int .i64 0, .int .i64 0, .int .i64 0, .int .u64 0, .int .u64 0, .int .u64 0, .slice 5 [], .slice 4 []]) dh (Of.mk 0 0 (Bk.mk 0 0 (0, 0) 0) (Vw.mk [] [])) Z Z Z bv Tryz.underlying3 (fun _ => rfl) (by kernel_rfl) Z ⟨rfl, rfl, rfl, rfl, rfl, rfl, rfl, ⟨_, rfl⟩, ⟨_, rfl⟩, trivial⟩ q1 Z Z) ?_;refine zM Z<|yS Z (ab.lenZ Z Z (by kernel_rfl))<|zg hr fun q2 hr => yS Z (ab.sliceVHi Z Z Z Z bv q2)<|zM Z<|zN<|zT<|zQ<|zR<|zM Z<|zM Z<|zN<|zT<|zr ?_;obtain rfl := zJ hr;exact ap (.one (.tmp Z))<|⟨rfl, rfl⟩
  ·
   refine zo g2 hr fun hr => zk<|zT<|zQ<|LW.ent (bK.lazy (t := 0) (m := 9) Z Z Z)<|zR<|zM Z<|zM Z<|zN<|zT<|zr ?_;obtain rfl := zJ hr;exact ap (.one (.tmp Z))<|⟨rfl, rfl⟩
structure cZ where
 size : Int
 t11 : Int
structure c8 where
 newslice : Nat
 t27 : Int
 o0 : List Of
def fX (slices : List (List Of)) (x1 : cZ) : Option (cZ ⊕ cZ) :=
 bif decide (x1.t11 < (slices.length : Int)) then
  (ix slices x1.t11).bind fun y1 =>
  bif decide ((IntKind.i64.wrap (x1.size + (y1.length : Int))) < 0) then
   none
  else
   some (.inl (cZ.mk (IntKind.i64.wrap (x1.size + (y1.length : Int))) (IntKind.i64.wrap (x1.t11 + 1))))
 else
  some (.inr (cZ.mk x1.size x1.t11))
def fY (slices : List (List Of)) (x2 : c8) : Option (c8 ⊕ c8) :=
 bif decide (x2.t27 < (slices.length : Int)) then
  (ix slices x2.t27).bind fun y2 =>
  bif decide (x2.newslice + y2.length ≤ x2.o0.length) then
   some (.inl (c8.mk (x2.newslice + y2.length) (IntKind.i64.wrap (x2.t27 + 1)) (eQ x2.o0 x2.newslice y2)))
  else none
 else
  some (.inr (c8.mk x2.newslice x2.t27 x2.o0))
def sh (slices : List (List Of)) : Option (List Of) :=
 (iter (fX slices) bE (cZ.mk 0 0)).bind fun v1 =>
 (sB v1.size).bind fun v2 =>
 (iter (fY slices) bE (c8.mk 0 0 v2)).bind fun v3 =>
 bif Nat.ble v3.newslice v3.o0.length then
  some (v3.o0.take v3.newslice)
 else none
theorem F0 {slices : List (List Of)} {r_ : (List Of)} (hr : sh slices = some r_) : aw Tryz.prog 136 [.slice 1 (slices.map (GY 9 dh))] [.slice 9 (r_.map dh)] := by
 refine zh Tryz.func136 Z Z Z Z ?_;unfold sh at hr;refine zQ<|zR<|zM Z<|zN<|zT<|zQ<|zR<|zM Z<|zN<|zT<|zQ<|zQ<|zR<|zM Z<|yS Z (cB Z Z (by kernel_rfl))<|zM Z<|zN<|zT ?_;obtain ⟨v1, hb_v1, ho_v1⟩ := zB hr;clear hr;refine LW.tail (E := [(0, .p (.slice 1 (slices.map (GY 9 dh)))), (2, .zs), (3, (iQ v1.size))]) (O := []) ?_<|fun env_v1 H_v1 hw_v1 => ?_
 ·refine LW.block ?_;refine LW.iterB (E := fun x1 : cZ => [(0, .p (.slice 1 (slices.map (GY 9 dh)))), (2, .zs), (3, (iQ x1.size)), (9, .p (.slice 1 (slices.map (GY 9 dh)))), (10, .p (.int .i64 (slices.length : Int))), (11, (iQ x1.t11))]) (O := fun x1 => []) hb_v1 (zW 0 ⟨rfl, rfl, rfl, rfl, rfl, rfl, trivial⟩ Z Z Z Z)<|fun x1 z_x1 hr hb_x1 => ?_;unfold fX at hr;refine zQ<|zR<|yS Z (ay Z Z Z Z)<|zN<|zT<|zQ ?_;refine zX Z (fun g1 => ?_)<|fun g1 => ?_
  ·
   refine zi g1 hr fun hr => zk<|zT<|zQ<|zl<|zQ<|zR<|zb hr fun y1 h_y1 hr => yS Z (zx Z Z Z vk h_y1 Z)<|yS Z (cR Z Z Z bl Z Z)<|zM Z<|zN<|zT<|zQ<|zR<|zM Z<|zM Z<|yS Z (cB Z Z (by kernel_rfl))<|yS Z (ay Z Z Z Z)<|zM Z<|zN<|zT<|zQ<|zR ?_;refine zM Z<|yS Z (ay Z Z Z Z)<|zN<|zT ?_;refine zX Z (fun g2 => ?_)<|fun g2 => ?_
   ·
    have hr := zI g2 hr;cases hr
   ·
    refine zo g2 hr fun hr => zk<|ai<|zT<|zR<|yS Z (ay Z Z Z Z)<|zM Z<|zN<|zT ?_;obtain rfl := zJ hr;exact ⟨_, rfl, zW 0 ⟨rfl, rfl, rfl, rfl, rfl, rfl, trivial⟩ Z Z Z rfl⟩
  ·
   refine zo g1 hr fun hr => zq<|ao<|ao<|zy<|zT ?_;obtain rfl := zJ hr;have hr := congrArg some (hb_x1 _ rfl);obtain rfl := zJ hr;exact zW 0 ⟨Z, Z, Z, trivial⟩ Z Z Z Z
 ·have hr := ho_v1;clear hb_v1;refine zT<|LW.weak hw_v1<|zQ<|zR<|zM Z<|zb hr fun v2 h_v2 hr => yS Z (zC Z Z Z (by kernel_rfl) (LC.frameX (x' := .vec 9 0 (v2.map dh).length 0 0) (H' := [.vec 9 (v2.map dh)]) (Et h_v2) (.consZ (.consC zv .nil)) Z Z Z))<|zM Z<|zN<|zT<|zQ<|zQ<|zR<|zM Z<|yS Z (cB Z Z (by kernel_rfl))<|zM Z<|zN<|zT ?_;obtain ⟨v3, hb_v3, ho_v3⟩ := zB hr;clear hr;refine LW.tail (E := [(2, .zs), (6, .vec 9 0 (v3.o0.map dh).length 0 v3.newslice)]) (O := [.vec 9 (v3.o0.map dh)]) ?_<|fun env_v3 H_v3 hw_v3 => ?_
  ·refine LW.block ?_;refine LW.iterB (E := fun x2 : c8 => [(2, .zs), (6, .vec 9 0 (x2.o0.map dh).length 0 x2.newslice), (25, .p (.slice 1 (slices.map (GY 9 dh)))), (26, .p (.int .i64 (slices.length : Int))), (27, (iQ x2.t27))]) (O := fun x2 => [.vec 9 (x2.o0.map dh)]) hb_v3 (zW 1 ⟨rfl, rfl, rfl, rfl, rfl, trivial⟩ Z Z Z Z)<|fun x2 z_x2 hr hb_x2 => ?_;unfold fY at hr;refine zQ<|zR<|yS Z (ay Z Z Z Z)<|zN<|zT<|zQ ?_;refine zX Z (fun g3 => ?_)<|fun g3 => ?_
   ·
    refine zi g3 hr fun hr => zk<|zT<|zQ<|zl<|zQ<|zR<|zb hr fun y2 h_y2 hr => yS Z (zx Z Z Z vk h_y2 Z)<|yS Z (cR Z Z Z bl Z Z)<|zM Z<|zN<|zT<|zR<|zM Z<|zM Z<|zg hr fun q1 hr => ?_;refine yS Z (ab.appendP (f := dh) Z Z Z (fun _ => rfl) Z kx.p Z bv q1 Z) ?_;refine zM Z<|zN<|ai<|zT<|zR<|yS Z (ay Z Z Z Z)<|zM Z<|zN<|zT ?_;obtain rfl := zJ hr;exact ⟨_, rfl, zW 1 ⟨rfl, rfl, rfl, rfl, rfl, trivial⟩ Z Z Z rfl⟩
   ·
    refine zo g3 hr fun hr => zq<|ao<|ao<|zy<|zT ?_;obtain rfl := zJ hr;have hr := congrArg some (hb_x2 _ rfl);obtain rfl := zJ hr;exact zW 1 ⟨Z, Z, trivial⟩ Z Z Z Z
  ·have hr := ho_v3;clear hb_v3;refine zT<|LW.weak hw_v3<|zQ<|zR<|zg hr fun q2 hr => zM Z<|zM Z<|zN<|zT<|zr ?_;obtain rfl := zJ hr;exact zf (.one (.tmp Z))<|(Conv.vecTake Z q2)
end Go.Mg
