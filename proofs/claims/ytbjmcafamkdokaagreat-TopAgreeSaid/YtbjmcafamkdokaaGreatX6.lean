/- A view that grows. More of the program's structs as plain data: acts, offers, nodes, worlds. Votes, rising by who it is: plain. The examples of the laws of trees and cursors. Plain tools for printed functions: loops by what holds at their heads. What the laws hand over, with the bounds of its numbers. Plain facts of trees: what the program's Find, Slot, Kids tell. Plain facts of a beginning of blocks. The references of layer 6 tell what the program's trees tell: plain laws. Conditions: blocks' numbers are of their kinds; not too many blocks. Plain laws of the shuffle. Plain laws of the shuffle: all places together. Laws of duties. Plain laws of duties: which confs may be, and sums of weights. Plain laws of duties: which confs may be; weights. Plain laws of duties: weights of lists; lists. Plain laws of duties: committees, proposers. Laws of duties. Laws of duties. Laws of duties: DutyAll. Laws of duties: DutyParts. Laws of duties. Laws of duties: DutyWeighs. The book of votes. The sort of votes by who it is: the shelf's structures at this program. One's own slice of votes, as the sort's row. slices.SortFunc over a slice of votes of one's own, by who it is: the shelf's contract in my terms. Votes sorted by who it is. votes.sorted. The votes of a slot. The votes of a slot that count: plain. The votes of a committee; the head by them. A node at a tick, as plain data. Nodes: what stands alone. Plain laws of weights on blocks, and of the head: the program's side. Conditions: none. -/
import Derived.Test.YtbjmcafamkdokaaGreatX3
import Derived.Test.YtbjmcafamkdokaaGreatX5
import Derived.Test.YtbjmcafamkdokaaGreatX4
import Derived.Shelf.SlSortCmp.WholeK
import Derived.Shelf.SlicesG.Cmp
import Derived.Test.YtbjmcafamkdokaaGreatChecked
import Derived.Shelf.SlGeneric
import Derived.Shelf.GgSortFunc.InsertionK
import Derived.Shelf.SlSortCmp.NoneTotal
set_option maxRecDepth 100000
set_option linter.unusedSimpArgs false
set_option linter.unusedVariables false
namespace Go.Mg
open Go.Proofs
def yK (n : Int) (most : Int) (full : Bool) : Option (Bool × Bool) :=
 bif full then
  some (decide (n < most), true)
 else
  some (decide (n < most), decide (n ≥ most))
theorem Fx {n : Int} {most : Int} {wB : List Bk} {wV : List Vt} {sm : List (ID × Int)} {hm : List (Vt × Bool)} {upto : Int} {full : Bool} {lB : List Bk} {lV : List Vt} {n0 : Nat} {k0 : Nat} {n1 : Nat} {k1 : Nat} {r_ : Bool × Bool} (hr : yK n most full = some r_) : LC Tryz.prog 191 [.ptr 10 0, (iQ n), (iQ most)] [.dead, .dead, .dead, .box [.zs, .zs], .box [.zs, .zs], .dead, .vec 5 (wB.map ax), .vec 4 (wV.map aI), (mQ sm), (mR hm), .box [(jB 6 wB), (jV 7 wV), .map 8, .map 9, (iQ upto), (bQ full)], .dead, .dead, .dead, .vec 5 (lB.map ax), .vec 4 (lV.map aI), .box [.vec 5 14 n0 0 k0, .vec 4 15 n1 0 k1]] (Is (bQ r_.1) [.dead, .dead, .dead, .box [.zs, .zs], .box [.zs, .zs], .dead, .vec 5 (wB.map ax), .vec 4 (wV.map aI), (mQ sm), (mR hm), .box [(jB 6 wB), (jV 7 wV), .map 8, .map 9, (iQ upto), (bQ r_.2)], .dead, .dead, .dead, .vec 5 (lB.map ax), .vec 4 (lV.map aI), .box [.vec 5 14 n0 0 k0, .vec 4 15 n1 0 k1]]) := by
 refine dc Tryz.func191 Z Z Z ?_;unfold yK at hr;refine zQ<|zR<|zM Z<|zN<|zT<|zQ<|zR<|zM Z<|zM Z<|yS Z (zn Z Z)<|yS Z (zA Z Z pw)<|yS Z (zD Z Z Z AQ Z Z)<|zM Z ?_;refine zc 12 Z (fun g1 => ?_)<|fun g1 => ?_
 ·
  refine zi g1 hr fun hr => yU Z (gd g1 Z) Z<|yU Z (gd g1 Z) Z<|yU Z (gd g1 Z) Z<|yS Z (eP Z (bL g1 Z) Z)<|yS Z (zn Z Z)<|yS Z (zA Z Z pw)<|yS Z (zs Z Z Z Z AQ Z Z Z Z)<|zN<|zT<|zQ<|zR<|zM Z<|zM Z<|yS Z (aw Z Z Z Z)<|zM Z<|zN<|zT<|zr ?_;obtain rfl := zJ hr;exact ap (.one (.tmp Z))<|⟨rfl, rfl⟩
 ·
  refine zo g1 hr fun hr => yV Z (gd g1 Z) (zm Z Z)<|yV Z (gd g1 Z) (zm Z Z)<|yV Z (gd g1 Z) (aw Z Z Z Z)<|yS Z (db Z (bL g1 Z) Z)<|yS Z (zn Z Z)<|yS Z (zA Z Z pw)<|yS Z (zs Z Z Z Z AQ Z Z Z Z)<|zN<|zT<|zQ<|zR<|zM Z<|zM Z<|yS Z (aw Z Z Z Z)<|zM Z<|zN<|zT<|zr ?_;obtain rfl := zJ hr;exact ap (.one (.tmp Z))<|⟨rfl, rfl⟩
def wi (b : Bk) (wB : List Bk) (sm : List (ID × Int)) (upto : Int) (full : Bool) : Option (Bool × List Bk × List (ID × Int) × Bool) :=
 (
  bif (ah sm (nm b)).isSome then
   some ((ah sm (nm b)).isSome)
  else
   bif (ah sm b.Parent).isSome then
    some (decide (((ah sm b.Parent).getD 0) ≥ b.Slot))
   else
    some false
 ).bind fun v1 =>
 bif v1 then
  some (true, wB, sm, full)
 else
  (
   bif !((ah sm b.Parent).isSome) then
    some (!((ah sm b.Parent).isSome), full)
   else
    bif decide (b.Slot > upto) then
     some (decide (b.Slot > upto), full)
    else
     (yK (wB.length : Int) 60 full).bind fun v3 =>
     some (!v3.1, v3.2)
  ).bind fun v2 =>
  bif v2.1 then
   some (false, wB, sm, v2.2)
  else
   bif room wB.length [b].length 40 then
    bif qe sm then
     some (true, wB ++ [b], aN sm (nm b) b.Slot, v2.2)
    else none
   else none
theorem Fv {b : Bk} {wB : List Bk} {wV : List Vt} {sm : List (ID × Int)} {hm : List (Vt × Bool)} {upto : Int} {full : Bool} {lB : List Bk} {lV : List Vt} {n0 : Nat} {k0 : Nat} {n1 : Nat} {k1 : Nat} {r_ : Bool × List Bk × List (ID × Int) × Bool} (hr : wi b wB sm upto full = some r_) : LC Tryz.prog 179 [.ptr 10 0, .p (ax b)] [.dead, .dead, .dead, .box [.zs, .zs], .box [.zs, .zs], .dead, .vec 5 (wB.map ax), .vec 4 (wV.map aI), (mQ sm), (mR hm), .box [(jB 6 wB), (jV 7 wV), .map 8, .map 9, (iQ upto), (bQ full)], .dead, .dead, .dead, .vec 5 (lB.map ax), .vec 4 (lV.map aI), .box [.vec 5 14 n0 0 k0, .vec 4 15 n1 0 k1]] (Is (bQ r_.1) [.dead, .dead, .dead, .box [.zs, .zs], .box [.zs, .zs], .dead, .vec 5 (r_.2.1.map ax), .vec 4 (wV.map aI), (mQ r_.2.2.1), (mR hm), .box [(jB 6 r_.2.1), (jV 7 wV), .map 8, .map 9, (iQ upto), (bQ r_.2.2.2)], .dead, .dead, .dead, .vec 5 (lB.map ax), .vec 4 (lV.map aI), .box [.vec 5 14 n0 0 k0, .vec 4 15 n1 0 k1]]) := by
 refine dc Tryz.func179 Z Z Z ?_;unfold wi at hr;refine zQ<|zR<|yS Z (bV Z Z Z Z Z)<|zM Z<|zN<|zT<|zQ<|zR<|yS Z (zD Z Z Z cH Z Z)<|yS Z (zC Z Z Z (by kernel_rfl) (zp (Fr (b := b)) (.cons zv .nil)))<|yS Z (ze Z jo Z Z)<|yS Z (zs Z Z Z Z aR Z Z Z Z)<|zN<|zT<|zQ<|LW.draw2 (by kernel_rfl) (by kernel_rfl)<|zH Z<|yE Z (zn Z Z)<|yE Z (zA Z Z lp)<|yE Z (zD Z Z Z AN Z Z)<|yE Z (zD Z Z Z aR Z Z) ?_;refine yE Z (ab.getX (f := bH) (g := (fun v => (iQ v))) (nm b) 0 dO Z Z Z Z kf E8 Z Z) ?_;refine zH Z<|yE Z (fA Z Z Z)<|yE Z (fA Z Z Z)<|zH Z<|zH Z<|LO.nil<|zT<|zQ<|LW.draw2 (by kernel_rfl) (by kernel_rfl)<|zH Z<|yE Z (zn Z Z)<|yE Z (zA Z Z lp)<|yE Z (zD Z Z Z AN Z Z)<|yE Z (zA Z Z l6)<|yE Z (zD Z Z Z aR Z Z) ?_;refine yE Z (ab.getX (f := bH) (g := (fun v => (iQ v))) b.Parent 0 dO Z Z Z Z kf E8 Z Z) ?_;refine zH Z<|yE Z (fA Z Z Z)<|yE Z (fA Z Z Z)<|zH Z<|zH Z<|LO.nil<|zT<|zQ<|zl ?_;obtain ⟨v1, hb_v1, ho_v1⟩ := zB hr;clear hr;refine LW.cut (E := [(0, .ptr 10 0), (3, .ptr 17 0), (4, (bQ false)), (5, .ptr 18 0), (9, .p (.bool ((ah sm b.Parent).isSome))), (31, (bQ v1))]) (O := [.dead, .dead, .dead, .box [.zs, .zs], .box [.zs, .zs], .dead, .vec 5 (wB.map ax), .vec 4 (wV.map aI), (mQ sm), (mR hm), .box [(jB 6 wB), (jV 7 wV), .map 8, .map 9, (iQ upto), (bQ full)], .dead, .dead, .dead, .vec 5 (lB.map ax), .vec 4 (lV.map aI), .box [.vec 5 14 n0 0 k0, .vec 4 15 n1 0 k1], .box [(iQ b.Slot), (iQ b.From), (uQ b.Parent.1), (uQ b.Parent.2), (uQ b.Salt)], .box [.p (.int .u64 ((nm b).1)), .p (.int .u64 ((nm b).2))]]) ?_ ?_
 ·have hr := hb_v1;refine zQ<|zR<|zM Z<|zM Z<|zN<|zT ?_;refine zX Z (fun g1 => ?_)<|fun g1 => ?_
  ·
   refine zi g1 hr fun hr => zk<|zT ?_;obtain rfl := zJ hr;exact zW 19 ⟨Z, Z, Z, Z, Z, Z, trivial⟩ Z Z Z<|zL Z<|zL Z<|zL Z<|zL Z<|zL Z<|zL Z<|zL Z<|zL Z<|zL (ae (fun _ => rfl) _)<|zL (ae (fun _ => rfl) _)<|zL Z<|zL Z<|zL Z<|zL Z<|zL Z<|zL Z<|zL Z<|zL Z<|zL Z Z
  ·
   refine zo g1 hr fun hr => zR<|zM Z<|zM Z ?_;refine zc 34 Z (fun g2 => ?_)<|fun g2 => ?_
   ·
    refine zi g2 hr fun hr => yV Z (gd g2 Z) (zm Z Z)<|yV Z (gd g2 Z) (zA Z Z kA)<|yV Z (gd g2 Z) (zD Z Z Z bC Z Z)<|yV Z (gd g2 Z) (aw Z Z Z Z)<|yS Z (eP Z (bL g2 Z) Z)<|zM Z<|zN<|zT ?_;obtain rfl := zJ hr;exact zW 19 ⟨Z, Z, Z, Z, Z, Z, trivial⟩ Z Z Z<|zL Z<|zL Z<|zL Z<|zL Z<|zL Z<|zL Z<|zL Z<|zL Z<|zL (ae (fun _ => rfl) _)<|zL (ae (fun _ => rfl) _)<|zL Z<|zL Z<|zL Z<|zL Z<|zL Z<|zL Z<|zL Z<|zL Z<|zL Z Z
   ·
    refine zo g2 hr fun hr => yU Z (gd g2 Z) Z<|yU Z (gd g2 Z) Z<|yU Z (gd g2 Z) Z<|yU Z (gd g2 Z) Z<|yS Z (db Z (bL g2 Z) Z)<|zM Z<|zN<|zT ?_;obtain rfl := zJ hr;exact zW 19 ⟨Z, Z, Z, Z, Z, Z, trivial⟩ Z Z Z<|zL Z<|zL Z<|zL Z<|zL Z<|zL Z<|zL Z<|zL Z<|zL Z<|zL (ae (fun _ => rfl) _)<|zL (ae (fun _ => rfl) _)<|zL Z<|zL Z<|zL Z<|zL Z<|zL Z<|zL Z<|zL Z<|zL Z<|zL Z Z
 ·have hr := ho_v1;clear hb_v1;refine zX Z (fun g3 => ?_)<|fun g3 => ?_
  ·
   refine zi g3 hr fun hr => zQ<|zR<|zM Z<|zN<|zT<|zr<|ay<|aj ?_;obtain rfl := zJ hr;refine ba (env' := [(4, (bQ true))]) (H' := [.dead, .dead, .dead, .box [.zs, .zs], .box [.zs, .zs], .dead, .vec 5 (wB.map ax), .vec 4 (wV.map aI), (mQ sm), (mR hm), .box [(jB 6 wB), (jV 7 wV), .map 8, .map 9, (iQ upto), (bQ full)], .dead, .dead, .dead, .vec 5 (lB.map ax), .vec 4 (lV.map aI), .box [.vec 5 14 n0 0 k0, .vec 4 15 n1 0 k1]]) (zW 17 ⟨rfl, trivial⟩ Z Z Z (zL Z (zL Z (zL Z (zL Z (zL Z (zL Z (zL Z (zL Z (zL (ae (fun _ => rfl) _) (zL (ae (fun _ => rfl) _) (zL Z (zL Z (zL Z (zL Z (zL Z (zL Z (zL Z Z)))))))))))))))))) (.one (.tmp Z)) ?_;exact ⟨rfl, rfl⟩
  ·
   have hr := zO g3 hr;obtain ⟨v2, hb_v2, ho_v2⟩ := zB hr;clear hr;refine LW.cut (E := [(0, .ptr 10 0), (3, .ptr 17 0), (4, (bQ false)), (5, .ptr 18 0), (40, (bQ v2.1))]) (O := [.dead, .dead, .dead, .box [.zs, .zs], .box [.zs, .zs], .dead, .vec 5 (wB.map ax), .vec 4 (wV.map aI), (mQ sm), (mR hm), .box [(jB 6 wB), (jV 7 wV), .map 8, .map 9, (iQ upto), (bQ v2.2)], .dead, .dead, .dead, .vec 5 (lB.map ax), .vec 4 (lV.map aI), .box [.vec 5 14 n0 0 k0, .vec 4 15 n1 0 k1], .box [(iQ b.Slot), (iQ b.From), (uQ b.Parent.1), (uQ b.Parent.2), (uQ b.Salt)], .box [.p (.int .u64 ((nm b).1)), .p (.int .u64 ((nm b).2))]]) ?_ ?_
   ·have hr := hb_v2;refine zQ<|zR<|zM Z<|yS Z (ab.not Z Z)<|zM Z<|zN<|zT ?_;refine zX Z (fun g4 => ?_)<|fun g4 => ?_
    ·
     refine zi g4 hr fun hr => zk<|zT ?_;obtain rfl := zJ hr;exact zW 19 ⟨Z, Z, Z, Z, Z, trivial⟩ Z Z Z<|zL Z<|zL Z<|zL Z<|zL Z<|zL Z<|zL Z<|zL Z<|zL Z<|zL (ae (fun _ => rfl) _)<|zL (ae (fun _ => rfl) _)<|zL Z<|zL Z<|zL Z<|zL Z<|zL Z<|zL Z<|zL Z<|zL Z<|zL Z Z
    ·
     refine zo g4 hr fun hr => zQ<|LW.draw2 (by kernel_rfl) (by kernel_rfl)<|yE Z (zA Z Z kA)<|yE Z (zD Z Z Z bC Z Z)<|zH Z<|yE Z (zn Z Z)<|yE Z (zA Z Z ye)<|yE Z (zD Z Z Z bC Z Z)<|yE Z (aw Z Z Z Z)<|zH Z<|LO.nil<|zT ?_;refine zX Z (fun g5 => ?_)<|fun g5 => ?_
     ·
      refine zi g5 hr fun hr => zk<|zT ?_;obtain rfl := zJ hr;exact zW 19 ⟨Z, Z, Z, Z, Z, trivial⟩ Z Z Z<|zL Z<|zL Z<|zL Z<|zL Z<|zL Z<|zL Z<|zL Z<|zL Z<|zL (ae (fun _ => rfl) _)<|zL (ae (fun _ => rfl) _)<|zL Z<|zL Z<|zL Z<|zL Z<|zL Z<|zL Z<|zL Z<|zL Z<|zL Z Z
     ·
      refine zo g5 hr fun hr => zR<|zM Z<|zM Z<|yS Z (zn Z Z)<|yS Z (zA Z Z eJ)<|yS Z (zA Z Z bD)<|yS Z (zD Z Z Z dE Z Z)<|yS Z (ab.lenVM Z Z Z (by kernel_rfl))<|zb hr fun v3 h_v3 hr => ?_;refine yS Z (zC Z Z Z (by kernel_rfl) (LC.pre (Fx h_v3) Z (zL Z (zL Z (zL Z (zL Z (zL Z (zL Z (zL Z (zL Z (zL (ae (fun _ => rfl) _) (zL (ae (fun _ => rfl) _) (zL Z (zL Z (zL Z (zL Z (zL Z (zL Z (zL Z Z))))))))))))))))) Z)) ?_;refine yS Z (ab.not Z Z)<|zM Z<|zN<|zT ?_;obtain rfl := zJ hr;exact zW 19 ⟨Z, Z, Z, Z, Z, trivial⟩ Z Z Z<|zL Z<|zL Z<|zL Z<|zL Z<|zL Z<|zL Z<|zL Z<|zL Z<|zL (ae (fun _ => rfl) _)<|zL (ae (fun _ => rfl) _)<|zL Z<|zL Z<|zL Z<|zL Z<|zL Z<|zL Z<|zL Z<|zL Z<|zL Z Z
   ·have hr := ho_v2;clear hb_v2;refine zX Z (fun g6 => ?_)<|fun g6 => ?_
    ·
     refine zi g6 hr fun hr => zQ<|zR<|zM Z<|zN<|zT<|zr<|ay<|aj ?_;obtain rfl := zJ hr;refine ba (env' := [(4, (bQ false))]) (H' := [.dead, .dead, .dead, .box [.zs, .zs], .box [.zs, .zs], .dead, .vec 5 (wB.map ax), .vec 4 (wV.map aI), (mQ sm), (mR hm), .box [(jB 6 wB), (jV 7 wV), .map 8, .map 9, (iQ upto), (bQ v2.2)], .dead, .dead, .dead, .vec 5 (lB.map ax), .vec 4 (lV.map aI), .box [.vec 5 14 n0 0 k0, .vec 4 15 n1 0 k1]]) (zW 17 ⟨rfl, trivial⟩ Z Z Z (zL Z (zL Z (zL Z (zL Z (zL Z (zL Z (zL Z (zL Z (zL (ae (fun _ => rfl) _) (zL (ae (fun _ => rfl) _) (zL Z (zL Z (zL Z (zL Z (zL Z (zL Z (zL Z Z)))))))))))))))))) (.one (.tmp Z)) ?_;exact ⟨rfl, rfl⟩
    ·
     refine zo g6 hr fun hr => zk<|ai<|zT<|zQ<|LW.drawW (by kernel_rfl) (by kernel_rfl)<|zK Z<|zK Z ?_;refine yF (F := []) (s := none) Z (fun H _ => zn Z Z) Z ?_;refine yF (F := []) (s := none) Z (fun H _ => zA Z Z lp) Z ?_;refine yF Z (zd Z Z Z AN Z Z) Z<|yF Z (zd Z Z Z aR Z Z) Z<|zK Z ?_;refine yF (F := []) (s := none) Z (fun H _ => zn Z Z) Z ?_;refine yF (F := []) (s := none) Z (fun H _ => zA Z Z eJ) Z ?_;refine yF (F := []) (s := none) Z (fun H _ => zA Z Z bD) Z ?_;refine yF Z (zd Z Z Z dE Z Z) Z<|yF Z (zd Z Z Z cH Z Z) Z ?_;refine yF (F := []) (s := none) Z (fun H _ => mD Z eB Z Z Z Z Z) Z ?_;refine zg hr fun q1 hr => yF Z (bJ.appendX ax wB [b] rfl Z Z Z Z eB q1) Z ?_;refine yF (F := []) (s := none) Z (fun H _ => zA Z Z kA) Z ?_;refine yF Z (zd Z Z Z bC Z Z) Z ?_;refine yF (F := []) (s := none) Z (fun H _ => zn Z Z) Z ?_;refine yF (F := []) (s := none) Z (fun H _ => zA Z Z eJ) Z ?_;refine yF (F := []) (s := none) Z (fun H _ => zA Z Z bD) Z ?_;refine yF Z (zt Z Z Z Z dE Z Z Z) Z<|zg hr fun q2 hr => ?_;refine yF Z (bJ.mapEntryX (f := bH) (g := (fun v => (iQ v))) (nm b) 0 dO Z Z Z Z kf E8 Z q2) Z ?_;refine yF (F := []) (s := none) Z (fun H _ => fA Z Z Z) Z ?_;refine yF Z (bJ.entryStoreX (f := bH) (g := (fun v => (iQ v))) (m := sm) (nm b) ((ah sm (nm b)).getD 0) b.Slot dO Z Z Z Z Z Z) Z ?_;refine LF.nil ⟨by kernel_rfl, ?_⟩;refine zT<|zQ<|zR<|zM Z<|zN<|zT<|zr ?_;obtain rfl := zJ hr;refine ba (env' := [(4, (bQ true))]) (H' := [.dead, .dead, .dead, .box [.zs, .zs], .box [.zs, .zs], .dead, .vec 5 ((wB ++ [b]).map ax), .vec 4 (wV.map aI), .map (af bH (fun v => (iQ v)) (aN sm (nm b) b.Slot)), (mR hm), .box [.vec 5 6 ((wB ++ [b]).map ax).length 0 ((wB ++ [b]).map ax).length, (jV 7 wV), .map 8, .map 9, (iQ upto), (bQ v2.2)], .dead, .dead, .dead, .vec 5 (lB.map ax), .vec 4 (lV.map aI), .box [.vec 5 14 n0 0 k0, .vec 4 15 n1 0 k1]]) (zW 17 ⟨rfl, trivial⟩ Z Z Z (zL Z (zL Z (zL Z (zL Z (zL Z (zL Z (zL Z (zL Z (zL (ae (fun _ => rfl) _) (zL (ae (fun _ => rfl) _) (zL Z (zL Z (zL Z (zL Z (zL Z (zL Z (zL Z Z)))))))))))))))))) (.one (.tmp Z)) ?_;exact ⟨rfl, rfl⟩
def wj (x : Vt) (wV : List Vt) (sm : List (ID × Int)) (hm : List (Vt × Bool)) (upto : Int) (full : Bool) : Option (Bool × List Vt × List (Vt × Bool) × Bool) :=
 (
  bif (ah hm x).getD false then
   some ((ah hm x).getD false)
  else
   bif (ah sm x.Head).isSome then
    some (decide (((ah sm x.Head).getD 0) > x.Slot))
   else
    some false
 ).bind fun v1 =>
 bif v1 then
  some (true, wV, hm, full)
 else
  (
   bif !((ah sm x.Head).isSome) then
    some (!((ah sm x.Head).isSome), full)
   else
    bif decide (x.Slot > upto) then
     some (decide (x.Slot > upto), full)
    else
     (yK (wV.length : Int) 240 full).bind fun v3 =>
     some (!v3.1, v3.2)
  ).bind fun v2 =>
  bif v2.1 then
   some (false, wV, hm, v2.2)
  else
   bif room wV.length [x].length 32 then
    bif qe hm then
     some (true, wV ++ [x], aN hm x true, v2.2)
    else none
   else none
theorem Fw {x : Vt} {wB : List Bk} {wV : List Vt} {sm : List (ID × Int)} {hm : List (Vt × Bool)} {upto : Int} {full : Bool} {lB : List Bk} {lV : List Vt} {n0 : Nat} {k0 : Nat} {n1 : Nat} {k1 : Nat} {r_ : Bool × List Vt × List (Vt × Bool) × Bool} (hr : wj x wV sm hm upto full = some r_) : LC Tryz.prog 180 [.ptr 10 0, .p (aI x)] [.dead, .dead, .dead, .box [.zs, .zs], .box [.zs, .zs], .dead, .vec 5 (wB.map ax), .vec 4 (wV.map aI), (mQ sm), (mR hm), .box [(jB 6 wB), (jV 7 wV), .map 8, .map 9, (iQ upto), (bQ full)], .dead, .dead, .dead, .vec 5 (lB.map ax), .vec 4 (lV.map aI), .box [.vec 5 14 n0 0 k0, .vec 4 15 n1 0 k1]] (Is (bQ r_.1) [.dead, .dead, .dead, .box [.zs, .zs], .box [.zs, .zs], .dead, .vec 5 (wB.map ax), .vec 4 (r_.2.1.map aI), (mQ sm), (mR r_.2.2.1), .box [(jB 6 wB), (jV 7 r_.2.1), .map 8, .map 9, (iQ upto), (bQ r_.2.2.2)], .dead, .dead, .dead, .vec 5 (lB.map ax), .vec 4 (lV.map aI), .box [.vec 5 14 n0 0 k0, .vec 4 15 n1 0 k1]]) := by
 refine dc Tryz.func180 Z Z Z ?_;unfold wj at hr;refine zQ<|zR<|yS Z (bV Z Z Z Z Z)<|zM Z<|zN<|zT<|zQ<|LW.draw2 (by kernel_rfl) (by kernel_rfl)<|zH Z<|yE Z (zn Z Z)<|yE Z (zA Z Z lp)<|yE Z (zD Z Z Z AN Z Z)<|yE Z (zA Z Z l7)<|yE Z (zD Z Z Z aR Z Z) ?_;refine yE Z (ab.getX (f := bH) (g := (fun v => (iQ v))) x.Head 0 dO Z Z Z Z kf E8 Z Z) ?_;refine zH Z<|yE Z (fA Z Z Z)<|yE Z (fA Z Z Z)<|zH Z<|zH Z<|LO.nil<|zT<|zQ<|zl ?_;obtain ⟨v1, hb_v1, ho_v1⟩ := zB hr;clear hr;refine LW.cut (E := [(0, .ptr 10 0), (3, .ptr 17 0), (4, (bQ false)), (6, .p (.bool ((ah sm x.Head).isSome))), (17, (bQ v1))]) (O := [.dead, .dead, .dead, .box [.zs, .zs], .box [.zs, .zs], .dead, .vec 5 (wB.map ax), .vec 4 (wV.map aI), (mQ sm), (mR hm), .box [(jB 6 wB), (jV 7 wV), .map 8, .map 9, (iQ upto), (bQ full)], .dead, .dead, .dead, .vec 5 (lB.map ax), .vec 4 (lV.map aI), .box [.vec 5 14 n0 0 k0, .vec 4 15 n1 0 k1], .box [(iQ x.From), (iQ x.Slot), (uQ x.Head.1), (uQ x.Head.2)]]) ?_ ?_
 ·have hr := hb_v1;refine zQ<|LW.draw2 (by kernel_rfl) (by kernel_rfl)<|zH Z<|yE Z (zn Z Z)<|yE Z (zA Z Z pu)<|yE Z (zD Z Z Z yx Z Z)<|yE Z (zD Z Z Z cB Z Z) ?_;refine yE Z (ab.getX (f := aI) (g := (fun v => (bQ v))) x false yy Z Z Z Z C5 JZ Z Z) ?_;refine zH Z<|LO.nil<|zT ?_;refine zX Z (fun g1 => ?_)<|fun g1 => ?_
  ·
   refine zi g1 hr fun hr => zk<|zT ?_;obtain rfl := zJ hr;exact zW 18 ⟨Z, Z, Z, Z, Z, trivial⟩ Z Z Z<|zL Z<|zL Z<|zL Z<|zL Z<|zL Z<|zL Z<|zL Z<|zL Z<|zL (ae (fun _ => rfl) _)<|zL (ae (fun _ => rfl) _)<|zL Z<|zL Z<|zL Z<|zL Z<|zL Z<|zL Z<|zL Z<|zL Z Z
  ·
   refine zo g1 hr fun hr => zR<|zM Z<|zM Z ?_;refine zc 25 Z (fun g2 => ?_)<|fun g2 => ?_
   ·
    refine zi g2 hr fun hr => yV Z (gd g2 Z) (zm Z Z)<|yV Z (gd g2 Z) (zA Z Z qA)<|yV Z (gd g2 Z) (zD Z Z Z bC Z Z)<|yV Z (gd g2 Z) (aw Z Z Z Z)<|yS Z (eP Z (bL g2 Z) Z)<|zM Z<|zN<|zT ?_;obtain rfl := zJ hr;exact zW 18 ⟨Z, Z, Z, Z, Z, trivial⟩ Z Z Z<|zL Z<|zL Z<|zL Z<|zL Z<|zL Z<|zL Z<|zL Z<|zL Z<|zL (ae (fun _ => rfl) _)<|zL (ae (fun _ => rfl) _)<|zL Z<|zL Z<|zL Z<|zL Z<|zL Z<|zL Z<|zL Z<|zL Z Z
   ·
    refine zo g2 hr fun hr => yU Z (gd g2 Z) Z<|yU Z (gd g2 Z) Z<|yU Z (gd g2 Z) Z<|yU Z (gd g2 Z) Z<|yS Z (db Z (bL g2 Z) Z)<|zM Z<|zN<|zT ?_;obtain rfl := zJ hr;exact zW 18 ⟨Z, Z, Z, Z, Z, trivial⟩ Z Z Z<|zL Z<|zL Z<|zL Z<|zL Z<|zL Z<|zL Z<|zL Z<|zL Z<|zL (ae (fun _ => rfl) _)<|zL (ae (fun _ => rfl) _)<|zL Z<|zL Z<|zL Z<|zL Z<|zL Z<|zL Z<|zL Z<|zL Z Z
 ·have hr := ho_v1;clear hb_v1;refine zX Z (fun g3 => ?_)<|fun g3 => ?_
  ·
   refine zi g3 hr fun hr => zQ<|zR<|zM Z<|zN<|zT<|zr<|ay<|aj ?_;obtain rfl := zJ hr;refine ba (env' := [(4, (bQ true))]) (H' := [.dead, .dead, .dead, .box [.zs, .zs], .box [.zs, .zs], .dead, .vec 5 (wB.map ax), .vec 4 (wV.map aI), (mQ sm), (mR hm), .box [(jB 6 wB), (jV 7 wV), .map 8, .map 9, (iQ upto), (bQ full)], .dead, .dead, .dead, .vec 5 (lB.map ax), .vec 4 (lV.map aI), .box [.vec 5 14 n0 0 k0, .vec 4 15 n1 0 k1]]) (zW 17 ⟨rfl, trivial⟩ Z Z Z (zL Z (zL Z (zL Z (zL Z (zL Z (zL Z (zL Z (zL Z (zL (ae (fun _ => rfl) _) (zL (ae (fun _ => rfl) _) (zL Z (zL Z (zL Z (zL Z (zL Z (zL Z (zL Z Z)))))))))))))))))) (.one (.tmp Z)) ?_;exact ⟨rfl, rfl⟩
  ·
   have hr := zO g3 hr;obtain ⟨v2, hb_v2, ho_v2⟩ := zB hr;clear hr;refine LW.cut (E := [(0, .ptr 10 0), (3, .ptr 17 0), (4, (bQ false)), (31, (bQ v2.1))]) (O := [.dead, .dead, .dead, .box [.zs, .zs], .box [.zs, .zs], .dead, .vec 5 (wB.map ax), .vec 4 (wV.map aI), (mQ sm), (mR hm), .box [(jB 6 wB), (jV 7 wV), .map 8, .map 9, (iQ upto), (bQ v2.2)], .dead, .dead, .dead, .vec 5 (lB.map ax), .vec 4 (lV.map aI), .box [.vec 5 14 n0 0 k0, .vec 4 15 n1 0 k1], .box [(iQ x.From), (iQ x.Slot), (uQ x.Head.1), (uQ x.Head.2)]]) ?_ ?_
   ·have hr := hb_v2;refine zQ<|zR<|zM Z<|yS Z (ab.not Z Z)<|zM Z<|zN<|zT ?_;refine zX Z (fun g4 => ?_)<|fun g4 => ?_
    ·
     refine zi g4 hr fun hr => zk<|zT ?_;obtain rfl := zJ hr;exact zW 18 ⟨Z, Z, Z, Z, trivial⟩ Z Z Z<|zL Z<|zL Z<|zL Z<|zL Z<|zL Z<|zL Z<|zL Z<|zL Z<|zL (ae (fun _ => rfl) _)<|zL (ae (fun _ => rfl) _)<|zL Z<|zL Z<|zL Z<|zL Z<|zL Z<|zL Z<|zL Z<|zL Z Z
    ·
     refine zo g4 hr fun hr => zQ<|LW.draw2 (by kernel_rfl) (by kernel_rfl)<|yE Z (zA Z Z qA)<|yE Z (zD Z Z Z bC Z Z)<|zH Z<|yE Z (zn Z Z)<|yE Z (zA Z Z ye)<|yE Z (zD Z Z Z bC Z Z)<|yE Z (aw Z Z Z Z)<|zH Z<|LO.nil<|zT ?_;refine zX Z (fun g5 => ?_)<|fun g5 => ?_
     ·
      refine zi g5 hr fun hr => zk<|zT ?_;obtain rfl := zJ hr;exact zW 18 ⟨Z, Z, Z, Z, trivial⟩ Z Z Z<|zL Z<|zL Z<|zL Z<|zL Z<|zL Z<|zL Z<|zL Z<|zL Z<|zL (ae (fun _ => rfl) _)<|zL (ae (fun _ => rfl) _)<|zL Z<|zL Z<|zL Z<|zL Z<|zL Z<|zL Z<|zL Z<|zL Z Z
     ·
      refine zo g5 hr fun hr => zR<|zM Z<|zM Z<|yS Z (zn Z Z)<|yS Z (zA Z Z eJ)<|yS Z (zA Z Z bP)<|yS Z (zD Z Z Z eC Z Z)<|yS Z (ab.lenVM Z Z Z (by kernel_rfl))<|zb hr fun v3 h_v3 hr => ?_;refine yS Z (zC Z Z Z (by kernel_rfl) (LC.pre (Fx h_v3) Z (zL Z (zL Z (zL Z (zL Z (zL Z (zL Z (zL Z (zL Z (zL (ae (fun _ => rfl) _) (zL (ae (fun _ => rfl) _) (zL Z (zL Z (zL Z (zL Z (zL Z (zL Z (zL Z Z))))))))))))))))) Z)) ?_;refine yS Z (ab.not Z Z)<|zM Z<|zN<|zT ?_;obtain rfl := zJ hr;exact zW 18 ⟨Z, Z, Z, Z, trivial⟩ Z Z Z<|zL Z<|zL Z<|zL Z<|zL Z<|zL Z<|zL Z<|zL Z<|zL Z<|zL (ae (fun _ => rfl) _)<|zL (ae (fun _ => rfl) _)<|zL Z<|zL Z<|zL Z<|zL Z<|zL Z<|zL Z<|zL Z<|zL Z Z
   ·have hr := ho_v2;clear hb_v2;refine zX Z (fun g6 => ?_)<|fun g6 => ?_
    ·
     refine zi g6 hr fun hr => zQ<|zR<|zM Z<|zN<|zT<|zr<|ay<|aj ?_;obtain rfl := zJ hr;refine ba (env' := [(4, (bQ false))]) (H' := [.dead, .dead, .dead, .box [.zs, .zs], .box [.zs, .zs], .dead, .vec 5 (wB.map ax), .vec 4 (wV.map aI), (mQ sm), (mR hm), .box [(jB 6 wB), (jV 7 wV), .map 8, .map 9, (iQ upto), (bQ v2.2)], .dead, .dead, .dead, .vec 5 (lB.map ax), .vec 4 (lV.map aI), .box [.vec 5 14 n0 0 k0, .vec 4 15 n1 0 k1]]) (zW 17 ⟨rfl, trivial⟩ Z Z Z (zL Z (zL Z (zL Z (zL Z (zL Z (zL Z (zL Z (zL Z (zL (ae (fun _ => rfl) _) (zL (ae (fun _ => rfl) _) (zL Z (zL Z (zL Z (zL Z (zL Z (zL Z (zL Z Z)))))))))))))))))) (.one (.tmp Z)) ?_;exact ⟨rfl, rfl⟩
    ·
     refine zo g6 hr fun hr => zk<|ai<|zT<|zQ<|LW.drawW (by kernel_rfl) (by kernel_rfl)<|zK Z<|zK Z ?_;refine yF (F := []) (s := none) Z (fun H _ => zn Z Z) Z ?_;refine yF (F := []) (s := none) Z (fun H _ => zA Z Z pu) Z ?_;refine yF Z (zd Z Z Z yx Z Z) Z<|yF Z (zd Z Z Z cB Z Z) Z<|zK Z ?_;refine yF (F := []) (s := none) Z (fun H _ => zn Z Z) Z ?_;refine yF (F := []) (s := none) Z (fun H _ => zA Z Z eJ) Z ?_;refine yF (F := []) (s := none) Z (fun H _ => zA Z Z bP) Z ?_;refine yF Z (zd Z Z Z eC Z Z) Z<|yF Z (zd Z Z Z cB Z Z) Z ?_;refine yF (F := []) (s := none) Z (fun H _ => mD Z dF Z Z Z Z Z) Z ?_;refine zg hr fun q1 hr => yF Z (bJ.appendX aI wV [x] rfl Z Z Z Z dF q1) Z ?_;refine yF (F := []) (s := none) Z (fun H _ => zn Z Z) Z ?_;refine yF (F := []) (s := none) Z (fun H _ => zA Z Z eJ) Z ?_;refine yF (F := []) (s := none) Z (fun H _ => zA Z Z bP) Z ?_;refine yF Z (zt Z Z Z Z eC Z Z Z) Z<|zg hr fun q2 hr => ?_;refine yF Z (bJ.mapEntryX (f := aI) (g := (fun v => (bQ v))) x false yy Z Z Z Z C5 JZ Z q2) Z ?_;refine yF (F := []) (s := none) Z (fun H _ => fA Z Z Z) Z ?_;refine yF Z (bJ.entryStoreX (f := aI) (g := (fun v => (bQ v))) (m := hm) x ((ah hm x).getD false) true yy Z Z Z Z Z Z) Z ?_;refine LF.nil ⟨by kernel_rfl, ?_⟩;refine zT<|zQ<|zR<|zM Z<|zN<|zT<|zr ?_;obtain rfl := zJ hr;refine ba (env' := [(4, (bQ true))]) (H' := [.dead, .dead, .dead, .box [.zs, .zs], .box [.zs, .zs], .dead, .vec 5 (wB.map ax), .vec 4 ((wV ++ [x]).map aI), (mQ sm), .map (af aI (fun v => (bQ v)) (aN hm x true)), .box [(jB 6 wB), .vec 4 7 ((wV ++ [x]).map aI).length 0 ((wV ++ [x]).map aI).length, .map 8, .map 9, (iQ upto), (bQ v2.2)], .dead, .dead, .dead, .vec 5 (lB.map ax), .vec 4 (lV.map aI), .box [.vec 5 14 n0 0 k0, .vec 4 15 n1 0 k1]]) (zW 17 ⟨rfl, trivial⟩ Z Z Z (zL Z (zL Z (zL Z (zL Z (zL Z (zL Z (zL Z (zL Z (zL (ae (fun _ => rfl) _) (zL (ae (fun _ => rfl) _) (zL Z (zL Z (zL Z (zL Z (zL Z (zL Z (zL Z Z)))))))))))))))))) (.one (.tmp Z)) ?_;exact ⟨rfl, rfl⟩
structure js where
 t8 : Int
 o6 : List Bk
 o8 : List (ID × Int)
 o10_5 : Bool
def lc (lB : List Bk) (kk : Nat) (upto : Int) (x1 : js) : Option (js ⊕ (js ⊕ (Int × List Bk × List (ID × Int) × Bool))) :=
 bif decide (x1.t8 < (kk : Int)) then
  (ix (lB.take kk) x1.t8).bind fun y1 =>
  (wi y1 x1.o6 x1.o8 upto x1.o10_5).bind fun v2 =>
  bif v2.1 then
   some (.inr (.inr (x1.t8, v2.2.1, v2.2.2.1, v2.2.2.2)))
  else
   some (.inl (js.mk (IntKind.i64.wrap (x1.t8 + 1)) v2.2.1 v2.2.2.1 v2.2.2.2))
 else
  some (.inr (.inl (js.mk x1.t8 x1.o6 x1.o8 x1.o10_5)))
def Bq (lB : List Bk) (kk : Nat) (wB : List Bk) (sm : List (ID × Int)) (upto : Int) (full : Bool) : Option (Int × List Bk × List (ID × Int) × Bool) :=
 (iter (lc lB kk upto) bG (js.mk 0 wB sm full)).bind fun b_v1 => Sum.elim (fun v1 =>
  some ((-1), v1.o6, v1.o8, v1.o10_5)) some b_v1
theorem IQ {lB : List Bk} {kk : Nat} {wB : List Bk} {wV : List Vt} {sm : List (ID × Int)} {hm : List (Vt × Bool)} {upto : Int} {full : Bool} {lV : List Vt} {n0 : Nat} {k0 : Nat} {n1 : Nat} {k1 : Nat} {r_ : Int × List Bk × List (ID × Int) × Bool} (hr : Bq lB kk wB sm upto full = some r_) : LC Tryz.prog 192 [.vec 5 14 (lB.map ax).length 0 kk, .fn 179 [.ptr 10 0] []] [.dead, .dead, .dead, .box [.zs, .zs], .box [.zs, .zs], .dead, .vec 5 (wB.map ax), .vec 4 (wV.map aI), (mQ sm), (mR hm), .box [(jB 6 wB), (jV 7 wV), .map 8, .map 9, (iQ upto), (bQ full)], .dead, .dead, .dead, .vec 5 (lB.map ax), .vec 4 (lV.map aI), .box [.vec 5 14 n0 0 k0, .vec 4 15 n1 0 k1]] (Is (iQ r_.1) [.dead, .dead, .dead, .box [.zs, .zs], .box [.zs, .zs], .dead, .vec 5 (r_.2.1.map ax), .vec 4 (wV.map aI), (mQ r_.2.2.1), (mR hm), .box [(jB 6 r_.2.1), (jV 7 wV), .map 8, .map 9, (iQ upto), (bQ r_.2.2.2)], .dead, .dead, .dead, .vec 5 (lB.map ax), .vec 4 (lV.map aI), .box [.vec 5 14 n0 0 k0, .vec 4 15 n1 0 k1]]) := by
 refine dc Tryz.func192 Z Z Z ?_;unfold Bq at hr;refine zQ<|zR<|zM Z<|zN<|zT<|zQ<|zQ<|zR<|zM Z<|yS Z (ab.lenVP Z Z Z (by kernel_rfl))<|zM Z<|zN<|zT ?_;obtain ⟨b_v1, hb_v1, ho_v1⟩ := zB hr;clear hr;refine LW.tailB (b := b_v1) (E := fun v1 => [(4, (iQ 0))]) (O := fun v1 => [.dead, .dead, .dead, .box [.zs, .zs], .box [.zs, .zs], .dead, .vec 5 (v1.o6.map ax), .vec 4 (wV.map aI), (mQ v1.o8), (mR hm), .box [(jB 6 v1.o6), (jV 7 wV), .map 8, .map 9, (iQ upto), (bQ v1.o10_5)], .dead, .dead, .dead, .vec 5 (lB.map ax), .vec 4 (lV.map aI), .box [.vec 5 14 n0 0 k0, .vec 4 15 n1 0 k1]]) ?_<|fun v1 e_v1 env_v1 H_v1 hw_v1 => ?_
 ·refine LW.block ?_;refine LW.iterB (E := fun x1 : js => [(0, .vec 5 14 (lB.map ax).length 0 kk), (1, .fn 179 [.ptr 10 0] []), (4, (iQ 0)), (7, .p (.int .i64 (kk : Int))), (8, (iQ x1.t8))]) (O := fun x1 => [.dead, .dead, .dead, .box [.zs, .zs], .box [.zs, .zs], .dead, .vec 5 (x1.o6.map ax), .vec 4 (wV.map aI), (mQ x1.o8), (mR hm), .box [(jB 6 x1.o6), (jV 7 wV), .map 8, .map 9, (iQ upto), (bQ x1.o10_5)], .dead, .dead, .dead, .vec 5 (lB.map ax), .vec 4 (lV.map aI), .box [.vec 5 14 n0 0 k0, .vec 4 15 n1 0 k1]]) hb_v1 (zW 17 ⟨rfl, rfl, rfl, rfl, rfl, trivial⟩ Z Z Z (zL Z (zL Z (zL Z (zL Z (zL Z (zL Z (zL Z (zL Z (zL (ae (fun _ => rfl) _) (zL (ae (fun _ => rfl) _) (zL Z (zL Z (zL Z (zL Z (zL Z (zL Z (zL Z Z))))))))))))))))))<|fun x1 z_x1 hr hb_x1 => ?_;unfold lc at hr;refine zQ<|zR<|yS Z (aw Z Z Z Z)<|zN<|zT<|zQ ?_;refine zX Z (fun g1 => ?_)<|fun g1 => ?_
  ·
   refine zi g1 hr fun hr => zk<|zT<|zQ<|zl<|zQ<|zR<|zM Z<|zM Z<|zN<|zT<|zQ<|zR<|zM Z<|zM Z<|zM Z<|zb hr fun y1 h_y1 hr => yS Z (ab.indexAddrVP Z Z Z Z eB h_y1)<|yS Z (ab.loadVX Z Z Z cH (fE h_y1).1 Z Z Z Z)<|zb hr fun v2 h_v2 hr => yS Z (zC Z Z Z (by kernel_rfl) (Fv h_v2))<|zN<|zT ?_;refine zX Z (fun g2 => ?_)<|fun g2 => ?_
   ·
    refine zi g2 hr fun hr => zQ<|zR<|zM Z<|zM Z<|zN<|zT<|zr<|ay<|aj<|aj<|ay<|aj<|aj ?_;obtain rfl := zJ hr;have hr := congrArg some (hb_x1 _ rfl);obtain rfl := zJ hr;have hr := d8 ho_v1;obtain rfl := zJ hr;exact ap (.one (.tmp Z))<|⟨rfl, rfl⟩
   ·
    refine zo g2 hr fun hr => zk<|ai<|zT<|zR<|yS Z (aw Z Z Z Z)<|zM Z<|zN<|zT ?_;obtain rfl := zJ hr;exact ⟨_, rfl, zW 17 ⟨rfl, rfl, rfl, rfl, rfl, trivial⟩ Z Z Z (zL Z (zL Z (zL Z (zL Z (zL Z (zL Z (zL Z (zL Z (zL (ae (fun _ => rfl) _) (zL (ae (fun _ => rfl) _) (zL Z (zL Z (zL Z (zL Z (zL Z (zL Z (zL Z Z)))))))))))))))))⟩
  ·
   refine zo g1 hr fun hr => zq<|ao<|ao<|zy<|zT ?_;obtain rfl := zJ hr;have hr := congrArg some (hb_x1 _ rfl);obtain rfl := zJ hr;exact ⟨_, rfl, zW 17 ⟨rfl, trivial⟩ Z Z Z (zL Z (zL Z (zL Z (zL Z (zL Z (zL Z (zL Z (zL Z (zL (ae (fun _ => rfl) _) (zL (ae (fun _ => rfl) _) (zL Z (zL Z (zL Z (zL Z (zL Z (zL Z (zL Z Z)))))))))))))))))⟩
 ·obtain rfl := e_v1;have hr := gb ho_v1;clear hb_v1;refine zT<|LW.weak hw_v1<|zQ<|zR<|zM Z<|zN<|zT<|zr ?_;obtain rfl := zJ hr;exact ap (.one (.tmp Z))<|⟨rfl, rfl⟩
structure ig where
 i : Int
 j : Int
 o6 : List Bk
 o8 : List (ID × Int)
 o10_5 : Bool
 o14 : List Bk
def k6 (kk : Nat) (upto : Int) (x1 : ig) : Option (ig ⊕ ig) :=
 bif decide (x1.j < (kk : Int)) then
  (ix (x1.o14.take kk) x1.j).bind fun y1 =>
  (wi y1 x1.o6 x1.o8 upto x1.o10_5).bind fun v3 =>
  bif !v3.1 then
   (ix (x1.o14.take kk) x1.i).bind fun _ =>
   some (.inl (ig.mk (IntKind.i64.wrap (x1.i + 1)) (IntKind.i64.wrap (x1.j + 1)) v3.2.1 v3.2.2.1 v3.2.2.2 (x1.o14.set x1.i.toNat y1)))
  else
   some (.inl (ig.mk x1.i (IntKind.i64.wrap (x1.j + 1)) v3.2.1 v3.2.2.1 v3.2.2.2 x1.o14))
 else
  some (.inr (ig.mk x1.i x1.j x1.o6 x1.o8 x1.o10_5 x1.o14))
def Be (lB : List Bk) (kk : Nat) (wB : List Bk) (sm : List (ID × Int)) (upto : Int) (full : Bool) : Option (Nat × List Bk × List Bk × List (ID × Int) × Bool) :=
 (Bq lB kk wB sm upto full).bind fun v1 =>
 bif v1.1 == (-1) then
  some (kk, lB, v1.2.1, v1.2.2.1, v1.2.2.2)
 else
  (iter (k6 kk upto) bG (ig.mk v1.1 (IntKind.i64.wrap (v1.1 + 1)) v1.2.1 v1.2.2.1 v1.2.2.2 lB)).bind fun v2 =>
  bif decide (0 ≤ v2.i ∧ v2.i ≤ (kk : Int)) then
   bif decide (v2.i.toNat + (kk - v2.i.toNat) ≤ v2.o14.length) then
    bif decide (0 ≤ v2.i ∧ v2.i ≤ (kk : Int)) then
     some (v2.i.toNat, iD v2.o14 v2.i.toNat (kk - v2.i.toNat) (Bk.mk 0 0 (0, 0) 0), v2.o6, v2.o8, v2.o10_5)
    else none
   else none
  else none
theorem IL {lB : List Bk} {kk : Nat} {wB : List Bk} {wV : List Vt} {sm : List (ID × Int)} {hm : List (Vt × Bool)} {upto : Int} {full : Bool} {lV : List Vt} {n0 : Nat} {k0 : Nat} {n1 : Nat} {k1 : Nat} {r_ : Nat × List Bk × List Bk × List (ID × Int) × Bool} (hr : Be lB kk wB sm upto full = some r_) : LC Tryz.prog 181 [.vec 5 14 (lB.map ax).length 0 kk, .fn 179 [.ptr 10 0] []] [.dead, .dead, .dead, .box [.zs, .zs], .box [.zs, .zs], .dead, .vec 5 (wB.map ax), .vec 4 (wV.map aI), (mQ sm), (mR hm), .box [(jB 6 wB), (jV 7 wV), .map 8, .map 9, (iQ upto), (bQ full)], .dead, .dead, .dead, .vec 5 (lB.map ax), .vec 4 (lV.map aI), .box [.vec 5 14 n0 0 k0, .vec 4 15 n1 0 k1]] (Is (.vec 5 14 (r_.2.1.map ax).length 0 r_.1) [.dead, .dead, .dead, .box [.zs, .zs], .box [.zs, .zs], .dead, .vec 5 (r_.2.2.1.map ax), .vec 4 (wV.map aI), (mQ r_.2.2.2.1), (mR hm), .box [(jB 6 r_.2.2.1), (jV 7 wV), .map 8, .map 9, (iQ upto), (bQ r_.2.2.2.2)], .dead, .dead, .dead, .vec 5 (r_.2.1.map ax), .vec 4 (lV.map aI), .box [.vec 5 14 n0 0 k0, .vec 4 15 n1 0 k1]]) := by
 refine dc Tryz.func181 Z Z Z ?_;unfold Be at hr;refine zQ<|zR<|zM Z<|zN<|zT<|zQ<|zR<|zM Z<|zM Z<|zb hr fun v1 h_v1 hr => yS Z (zC Z Z Z (by kernel_rfl) (IQ h_v1))<|zM Z<|zN<|zT<|zQ<|zQ<|zR<|zM Z<|yS Z (aw Z Z Z Z)<|zN<|zT ?_;refine zX Z (fun g1 => ?_)<|fun g1 => ?_
 ·
  refine zi g1 hr fun hr => zQ<|zR<|zM Z<|zM Z<|zN<|zT<|zr<|aj ?_;obtain rfl := zJ hr;exact ap (.one (.tmp Z))<|⟨rfl, rfl⟩
 ·
  refine zo g1 hr fun hr => zk<|zT<|zQ<|zQ<|zR<|zM Z<|yS Z (aw Z Z Z Z)<|zM Z<|zN<|zT ?_;obtain ⟨v2, hb_v2, ho_v2⟩ := zB hr;clear hr;refine LW.tail (E := [(0, .vec 5 14 (v2.o14.map ax).length 0 kk), (4, .zs), (5, (iQ v2.i))]) (O := [.dead, .dead, .dead, .box [.zs, .zs], .box [.zs, .zs], .dead, .vec 5 (v2.o6.map ax), .vec 4 (wV.map aI), (mQ v2.o8), (mR hm), .box [(jB 6 v2.o6), (jV 7 wV), .map 8, .map 9, (iQ upto), (bQ v2.o10_5)], .dead, .dead, .dead, .vec 5 (v2.o14.map ax), .vec 4 (lV.map aI), .box [.vec 5 14 n0 0 k0, .vec 4 15 n1 0 k1]]) ?_<|fun env_v2 H_v2 hw_v2 => ?_
  ·refine LW.block ?_;refine LW.iterB (E := fun x1 : ig => [(0, .vec 5 14 (x1.o14.map ax).length 0 kk), (1, .fn 179 [.ptr 10 0] []), (4, .zs), (5, (iQ x1.i)), (6, (iQ x1.j))]) (O := fun x1 => [.dead, .dead, .dead, .box [.zs, .zs], .box [.zs, .zs], .dead, .vec 5 (x1.o6.map ax), .vec 4 (wV.map aI), (mQ x1.o8), (mR hm), .box [(jB 6 x1.o6), (jV 7 wV), .map 8, .map 9, (iQ upto), (bQ x1.o10_5)], .dead, .dead, .dead, .vec 5 (x1.o14.map ax), .vec 4 (lV.map aI), .box [.vec 5 14 n0 0 k0, .vec 4 15 n1 0 k1]]) hb_v2 (zW 17 ⟨rfl, rfl, rfl, rfl, rfl, trivial⟩ Z Z Z (zL Z (zL Z (zL Z (zL Z (zL Z (zL Z (zL Z (zL Z (zL (ae (fun _ => rfl) _) (zL (ae (fun _ => rfl) _) (zL Z (zL Z (zL Z (zL Z (zL Z (zL Z (zL Z Z))))))))))))))))))<|fun x1 z_x1 hr hb_x1 => ?_;unfold k6 at hr;refine zQ<|zQ<|zR<|zM Z<|zM Z<|yS Z (ab.lenVP Z Z Z (by kernel_rfl))<|yS Z (aw Z Z Z Z)<|zN<|zT ?_;refine zX Z (fun g2 => ?_)<|fun g2 => ?_
   ·
    refine zi g2 hr fun hr => zk<|zT<|zQ<|zl<|zQ<|zR<|zM Z<|zM Z<|zb hr fun y1 h_y1 hr => yS Z (ab.indexAddrVP Z Z Z Z eB h_y1)<|yS Z (ab.loadVX Z Z Z cH (fE h_y1).1 Z Z Z Z)<|yS Z (ze Z tK Z Z)<|yS Z (zs Z Z Z Z cH Z Z Z Z)<|zN<|zT<|zQ<|zR<|zM Z<|yS Z (zD Z Z Z cH Z Z)<|zb hr fun v3 h_v3 hr => ?_;refine yS Z (zC Z Z Z (by kernel_rfl) (LC.pre (Fv h_v3) Z (zL Z (zL Z (zL Z (zL Z (zL Z (zL Z (zL Z (zL Z (zL (ae (fun _ => rfl) _) (zL (ae (fun _ => rfl) _) (zL Z (zL Z (zL Z (zL Z (zL Z (zL Z (zL Z Z))))))))))))))))) Z)) ?_;refine yS Z (ab.not Z Z)<|zN<|zT ?_;refine zX Z (fun g3 => ?_)<|fun g3 => ?_
    ·
     refine zi g3 hr fun hr => zQ<|zR<|zM Z<|zM Z<|yS Z (zD Z Z Z cH Z Z)<|zb hr fun y2 h_y2 hr => yS Z (ab.indexAddrVP Z Z Z Z eB h_y2) ?_;refine yS Z (ab.storeVP (f := ax) (l := x1.o14) y1 Z Z Z Z cH (fun _ => rfl) (fE h_y2).1 Z Z Z Z Z Z Z) ?_;refine zN<|zT<|zR<|zM Z<|yS Z (aw Z Z Z Z)<|zM Z<|zN<|ai<|zT<|zR<|zM Z<|yS Z (aw Z Z Z Z)<|zM Z<|zN<|zT ?_;obtain rfl := zJ hr;exact ⟨_, rfl, zW 17 ⟨(G4 (rfl)), rfl, rfl, rfl, rfl, trivial⟩ Z Z Z (zL Z (zL Z (zL Z (zL Z (zL Z (zL Z (zL Z (zL Z (zL (ae (fun _ => rfl) _) (zL (ae (fun _ => rfl) _) (zL Z (zL Z (zL Z (zL Z (zL Z (zL Z (zL Z Z)))))))))))))))))⟩
    ·
     refine zo g3 hr fun hr => zk<|ai<|zT<|zR<|zM Z<|yS Z (aw Z Z Z Z)<|zM Z<|zN<|zT ?_;obtain rfl := zJ hr;exact ⟨_, rfl, zW 17 ⟨rfl, rfl, rfl, rfl, rfl, trivial⟩ Z Z Z (zL Z (zL Z (zL Z (zL Z (zL Z (zL Z (zL Z (zL Z (zL (ae (fun _ => rfl) _) (zL (ae (fun _ => rfl) _) (zL Z (zL Z (zL Z (zL Z (zL Z (zL Z (zL Z Z)))))))))))))))))⟩
   ·
    refine zo g2 hr fun hr => zq<|ao<|ao<|zy<|zT ?_;obtain rfl := zJ hr;have hr := congrArg some (hb_x1 _ rfl);obtain rfl := zJ hr;exact zW 17 ⟨Z, Z, Z, trivial⟩ Z Z Z<|zL Z<|zL Z<|zL Z<|zL Z<|zL Z<|zL Z<|zL Z<|zL Z<|zL (ae (fun _ => rfl) _)<|zL (ae (fun _ => rfl) _)<|zL Z<|zL Z<|zL Z<|zL Z<|zL Z<|zL Z<|zL Z Z
  ·have hr := ho_v2;clear hb_v2;refine zT<|LW.weak hw_v2<|zQ<|zR<|zM Z<|zM Z<|zg hr fun q1 hr => yS Z (ab.sliceVLo Z Z Z Z eB q1)<|zg hr fun q2 hr => ?_;refine yS Z (ab.clearVP (f := ax) (zs := [.int .i64 0, .int .i64 0, .int .u64 0, .int .u64 0, .int .u64 0]) (Bk.mk 0 0 (0, 0) 0) Z Z Z eB (fun _ => rfl) (by kernel_rfl) Z q2 Z) ?_;refine zN<|zT<|zQ<|LW.ent (bM.vlen (t := 0) (n' := ((iD v2.o14 v2.i.toNat (kk - v2.i.toNat) (Bk.mk 0 0 (0, 0) 0)).map ax).length) Z (tb q2))<|zR<|zM Z<|zM Z<|zg hr fun q3 hr => yS Z (ab.sliceVHi Z Z Z Z eB q3)<|zM Z<|zN<|zT<|zr ?_;obtain rfl := zJ hr;exact ap (.one (.tmp Z))<|⟨rfl, rfl⟩
structure jr where
 t8 : Int
 o7 : List Vt
 o9 : List (Vt × Bool)
 o10_5 : Bool
def lb (lV : List Vt) (kk : Nat) (sm : List (ID × Int)) (upto : Int) (x1 : jr) : Option (jr ⊕ (jr ⊕ (Int × List Vt × List (Vt × Bool) × Bool))) :=
 bif decide (x1.t8 < (kk : Int)) then
  (ix (lV.take kk) x1.t8).bind fun y1 =>
  (wj y1 x1.o7 sm x1.o9 upto x1.o10_5).bind fun v2 =>
  bif v2.1 then
   some (.inr (.inr (x1.t8, v2.2.1, v2.2.2.1, v2.2.2.2)))
  else
   some (.inl (jr.mk (IntKind.i64.wrap (x1.t8 + 1)) v2.2.1 v2.2.2.1 v2.2.2.2))
 else
  some (.inr (.inl (jr.mk x1.t8 x1.o7 x1.o9 x1.o10_5)))
def Bo (lV : List Vt) (kk : Nat) (wV : List Vt) (sm : List (ID × Int)) (hm : List (Vt × Bool)) (upto : Int) (full : Bool) : Option (Int × List Vt × List (Vt × Bool) × Bool) :=
 (iter (lb lV kk sm upto) bG (jr.mk 0 wV hm full)).bind fun b_v1 => Sum.elim (fun v1 =>
  some ((-1), v1.o7, v1.o9, v1.o10_5)) some b_v1
theorem IP {lV : List Vt} {kk : Nat} {wB : List Bk} {wV : List Vt} {sm : List (ID × Int)} {hm : List (Vt × Bool)} {upto : Int} {full : Bool} {lB : List Bk} {n0 : Nat} {k0 : Nat} {n1 : Nat} {k1 : Nat} {r_ : Int × List Vt × List (Vt × Bool) × Bool} (hr : Bo lV kk wV sm hm upto full = some r_) : LC Tryz.prog 170 [.vec 4 15 (lV.map aI).length 0 kk, .fn 180 [.ptr 10 0] []] [.dead, .dead, .dead, .box [.zs, .zs], .box [.zs, .zs], .dead, .vec 5 (wB.map ax), .vec 4 (wV.map aI), (mQ sm), (mR hm), .box [(jB 6 wB), (jV 7 wV), .map 8, .map 9, (iQ upto), (bQ full)], .dead, .dead, .dead, .vec 5 (lB.map ax), .vec 4 (lV.map aI), .box [.vec 5 14 n0 0 k0, .vec 4 15 n1 0 k1]] (Is (iQ r_.1) [.dead, .dead, .dead, .box [.zs, .zs], .box [.zs, .zs], .dead, .vec 5 (wB.map ax), .vec 4 (r_.2.1.map aI), (mQ sm), (mR r_.2.2.1), .box [(jB 6 wB), (jV 7 r_.2.1), .map 8, .map 9, (iQ upto), (bQ r_.2.2.2)], .dead, .dead, .dead, .vec 5 (lB.map ax), .vec 4 (lV.map aI), .box [.vec 5 14 n0 0 k0, .vec 4 15 n1 0 k1]]) := by
 refine dc Tryz.func170 Z Z Z ?_;unfold Bo at hr;refine zQ<|zR<|zM Z<|zN<|zT<|zQ<|zQ<|zR<|zM Z<|yS Z (ab.lenVP Z Z Z (by kernel_rfl))<|zM Z<|zN<|zT ?_;obtain ⟨b_v1, hb_v1, ho_v1⟩ := zB hr;clear hr;refine LW.tailB (b := b_v1) (E := fun v1 => [(4, (iQ 0))]) (O := fun v1 => [.dead, .dead, .dead, .box [.zs, .zs], .box [.zs, .zs], .dead, .vec 5 (wB.map ax), .vec 4 (v1.o7.map aI), (mQ sm), (mR v1.o9), .box [(jB 6 wB), (jV 7 v1.o7), .map 8, .map 9, (iQ upto), (bQ v1.o10_5)], .dead, .dead, .dead, .vec 5 (lB.map ax), .vec 4 (lV.map aI), .box [.vec 5 14 n0 0 k0, .vec 4 15 n1 0 k1]]) ?_<|fun v1 e_v1 env_v1 H_v1 hw_v1 => ?_
 ·refine LW.block ?_;refine LW.iterB (E := fun x1 : jr => [(0, .vec 4 15 (lV.map aI).length 0 kk), (1, .fn 180 [.ptr 10 0] []), (4, (iQ 0)), (7, .p (.int .i64 (kk : Int))), (8, (iQ x1.t8))]) (O := fun x1 => [.dead, .dead, .dead, .box [.zs, .zs], .box [.zs, .zs], .dead, .vec 5 (wB.map ax), .vec 4 (x1.o7.map aI), (mQ sm), (mR x1.o9), .box [(jB 6 wB), (jV 7 x1.o7), .map 8, .map 9, (iQ upto), (bQ x1.o10_5)], .dead, .dead, .dead, .vec 5 (lB.map ax), .vec 4 (lV.map aI), .box [.vec 5 14 n0 0 k0, .vec 4 15 n1 0 k1]]) hb_v1 (zW 17 ⟨rfl, rfl, rfl, rfl, rfl, trivial⟩ Z Z Z (zL Z (zL Z (zL Z (zL Z (zL Z (zL Z (zL Z (zL Z (zL (ae (fun _ => rfl) _) (zL (ae (fun _ => rfl) _) (zL Z (zL Z (zL Z (zL Z (zL Z (zL Z (zL Z Z))))))))))))))))))<|fun x1 z_x1 hr hb_x1 => ?_;unfold lb at hr;refine zQ<|zR<|yS Z (aw Z Z Z Z)<|zN<|zT<|zQ ?_;refine zX Z (fun g1 => ?_)<|fun g1 => ?_
  ·
   refine zi g1 hr fun hr => zk<|zT<|zQ<|zl<|zQ<|zR<|zM Z<|zM Z<|zN<|zT<|zQ<|zR<|zM Z<|zM Z<|zM Z<|zb hr fun y1 h_y1 hr => yS Z (ab.indexAddrVP Z Z Z Z dF h_y1)<|yS Z (ab.loadVX Z Z Z cB (fE h_y1).1 Z Z Z Z)<|zb hr fun v2 h_v2 hr => yS Z (zC Z Z Z (by kernel_rfl) (Fw h_v2))<|zN<|zT ?_;refine zX Z (fun g2 => ?_)<|fun g2 => ?_
   ·
    refine zi g2 hr fun hr => zQ<|zR<|zM Z<|zM Z<|zN<|zT<|zr<|ay<|aj<|aj<|ay<|aj<|aj ?_;obtain rfl := zJ hr;have hr := congrArg some (hb_x1 _ rfl);obtain rfl := zJ hr;have hr := d8 ho_v1;obtain rfl := zJ hr;exact ap (.one (.tmp Z))<|⟨rfl, rfl⟩
   ·
    refine zo g2 hr fun hr => zk<|ai<|zT<|zR<|yS Z (aw Z Z Z Z)<|zM Z<|zN<|zT ?_;obtain rfl := zJ hr;exact ⟨_, rfl, zW 17 ⟨rfl, rfl, rfl, rfl, rfl, trivial⟩ Z Z Z (zL Z (zL Z (zL Z (zL Z (zL Z (zL Z (zL Z (zL Z (zL (ae (fun _ => rfl) _) (zL (ae (fun _ => rfl) _) (zL Z (zL Z (zL Z (zL Z (zL Z (zL Z (zL Z Z)))))))))))))))))⟩
  ·
   refine zo g1 hr fun hr => zq<|ao<|ao<|zy<|zT ?_;obtain rfl := zJ hr;have hr := congrArg some (hb_x1 _ rfl);obtain rfl := zJ hr;exact ⟨_, rfl, zW 17 ⟨rfl, trivial⟩ Z Z Z (zL Z (zL Z (zL Z (zL Z (zL Z (zL Z (zL Z (zL Z (zL (ae (fun _ => rfl) _) (zL (ae (fun _ => rfl) _) (zL Z (zL Z (zL Z (zL Z (zL Z (zL Z (zL Z Z)))))))))))))))))⟩
 ·obtain rfl := e_v1;have hr := gb ho_v1;clear hb_v1;refine zT<|LW.weak hw_v1<|zQ<|zR<|zM Z<|zN<|zT<|zr ?_;obtain rfl := zJ hr;exact ap (.one (.tmp Z))<|⟨rfl, rfl⟩
structure ii where
 i : Int
 j : Int
 o7 : List Vt
 o9 : List (Vt × Bool)
 o10_5 : Bool
 o15 : List Vt
def k7 (kk : Nat) (sm : List (ID × Int)) (upto : Int) (x1 : ii) : Option (ii ⊕ ii) :=
 bif decide (x1.j < (kk : Int)) then
  (ix (x1.o15.take kk) x1.j).bind fun y1 =>
  (wj y1 x1.o7 sm x1.o9 upto x1.o10_5).bind fun v3 =>
  bif !v3.1 then
   (ix (x1.o15.take kk) x1.i).bind fun _ =>
   some (.inl (ii.mk (IntKind.i64.wrap (x1.i + 1)) (IntKind.i64.wrap (x1.j + 1)) v3.2.1 v3.2.2.1 v3.2.2.2 (x1.o15.set x1.i.toNat y1)))
  else
   some (.inl (ii.mk x1.i (IntKind.i64.wrap (x1.j + 1)) v3.2.1 v3.2.2.1 v3.2.2.2 x1.o15))
 else
  some (.inr (ii.mk x1.i x1.j x1.o7 x1.o9 x1.o10_5 x1.o15))
def Bf (lV : List Vt) (kk : Nat) (wV : List Vt) (sm : List (ID × Int)) (hm : List (Vt × Bool)) (upto : Int) (full : Bool) : Option (Nat × List Vt × List Vt × List (Vt × Bool) × Bool) :=
 (Bo lV kk wV sm hm upto full).bind fun v1 =>
 bif v1.1 == (-1) then
  some (kk, lV, v1.2.1, v1.2.2.1, v1.2.2.2)
 else
  (iter (k7 kk sm upto) bG (ii.mk v1.1 (IntKind.i64.wrap (v1.1 + 1)) v1.2.1 v1.2.2.1 v1.2.2.2 lV)).bind fun v2 =>
  bif decide (0 ≤ v2.i ∧ v2.i ≤ (kk : Int)) then
   bif decide (v2.i.toNat + (kk - v2.i.toNat) ≤ v2.o15.length) then
    bif decide (0 ≤ v2.i ∧ v2.i ≤ (kk : Int)) then
     some (v2.i.toNat, iD v2.o15 v2.i.toNat (kk - v2.i.toNat) (Vt.mk 0 0 (0, 0)), v2.o7, v2.o9, v2.o10_5)
    else none
   else none
  else none
theorem IM {lV : List Vt} {kk : Nat} {wB : List Bk} {wV : List Vt} {sm : List (ID × Int)} {hm : List (Vt × Bool)} {upto : Int} {full : Bool} {lB : List Bk} {n0 : Nat} {k0 : Nat} {n1 : Nat} {k1 : Nat} {r_ : Nat × List Vt × List Vt × List (Vt × Bool) × Bool} (hr : Bf lV kk wV sm hm upto full = some r_) : LC Tryz.prog 150 [.vec 4 15 (lV.map aI).length 0 kk, .fn 180 [.ptr 10 0] []] [.dead, .dead, .dead, .box [.zs, .zs], .box [.zs, .zs], .dead, .vec 5 (wB.map ax), .vec 4 (wV.map aI), (mQ sm), (mR hm), .box [(jB 6 wB), (jV 7 wV), .map 8, .map 9, (iQ upto), (bQ full)], .dead, .dead, .dead, .vec 5 (lB.map ax), .vec 4 (lV.map aI), .box [.vec 5 14 n0 0 k0, .vec 4 15 n1 0 k1]] (Is (.vec 4 15 (r_.2.1.map aI).length 0 r_.1) [.dead, .dead, .dead, .box [.zs, .zs], .box [.zs, .zs], .dead, .vec 5 (wB.map ax), .vec 4 (r_.2.2.1.map aI), (mQ sm), (mR r_.2.2.2.1), .box [(jB 6 wB), (jV 7 r_.2.2.1), .map 8, .map 9, (iQ upto), (bQ r_.2.2.2.2)], .dead, .dead, .dead, .vec 5 (lB.map ax), .vec 4 (r_.2.1.map aI), .box [.vec 5 14 n0 0 k0, .vec 4 15 n1 0 k1]]) := by
 refine dc Tryz.func150 Z Z Z ?_;unfold Bf at hr;refine zQ<|zR<|zM Z<|zN<|zT<|zQ<|zR<|zM Z<|zM Z<|zb hr fun v1 h_v1 hr => yS Z (zC Z Z Z (by kernel_rfl) (IP h_v1))<|zM Z<|zN<|zT<|zQ<|zQ<|zR<|zM Z<|yS Z (aw Z Z Z Z)<|zN<|zT ?_;refine zX Z (fun g1 => ?_)<|fun g1 => ?_
 ·
  refine zi g1 hr fun hr => zQ<|zR<|zM Z<|zM Z<|zN<|zT<|zr<|aj ?_;obtain rfl := zJ hr;exact ap (.one (.tmp Z))<|⟨rfl, rfl⟩
 ·
  refine zo g1 hr fun hr => zk<|zT<|zQ<|zQ<|zR<|zM Z<|yS Z (aw Z Z Z Z)<|zM Z<|zN<|zT ?_;obtain ⟨v2, hb_v2, ho_v2⟩ := zB hr;clear hr;refine LW.tail (E := [(0, .vec 4 15 (v2.o15.map aI).length 0 kk), (4, .zs), (5, (iQ v2.i))]) (O := [.dead, .dead, .dead, .box [.zs, .zs], .box [.zs, .zs], .dead, .vec 5 (wB.map ax), .vec 4 (v2.o7.map aI), (mQ sm), (mR v2.o9), .box [(jB 6 wB), (jV 7 v2.o7), .map 8, .map 9, (iQ upto), (bQ v2.o10_5)], .dead, .dead, .dead, .vec 5 (lB.map ax), .vec 4 (v2.o15.map aI), .box [.vec 5 14 n0 0 k0, .vec 4 15 n1 0 k1]]) ?_<|fun env_v2 H_v2 hw_v2 => ?_
  ·refine LW.block ?_;refine LW.iterB (E := fun x1 : ii => [(0, .vec 4 15 (x1.o15.map aI).length 0 kk), (1, .fn 180 [.ptr 10 0] []), (4, .zs), (5, (iQ x1.i)), (6, (iQ x1.j))]) (O := fun x1 => [.dead, .dead, .dead, .box [.zs, .zs], .box [.zs, .zs], .dead, .vec 5 (wB.map ax), .vec 4 (x1.o7.map aI), (mQ sm), (mR x1.o9), .box [(jB 6 wB), (jV 7 x1.o7), .map 8, .map 9, (iQ upto), (bQ x1.o10_5)], .dead, .dead, .dead, .vec 5 (lB.map ax), .vec 4 (x1.o15.map aI), .box [.vec 5 14 n0 0 k0, .vec 4 15 n1 0 k1]]) hb_v2 (zW 17 ⟨rfl, rfl, rfl, rfl, rfl, trivial⟩ Z Z Z (zL Z (zL Z (zL Z (zL Z (zL Z (zL Z (zL Z (zL Z (zL (ae (fun _ => rfl) _) (zL (ae (fun _ => rfl) _) (zL Z (zL Z (zL Z (zL Z (zL Z (zL Z (zL Z Z))))))))))))))))))<|fun x1 z_x1 hr hb_x1 => ?_;unfold k7 at hr;refine zQ<|zQ<|zR<|zM Z<|zM Z<|yS Z (ab.lenVP Z Z Z (by kernel_rfl))<|yS Z (aw Z Z Z Z)<|zN<|zT ?_;refine zX Z (fun g2 => ?_)<|fun g2 => ?_
   ·
    refine zi g2 hr fun hr => zk<|zT<|zQ<|zl<|zQ<|zR<|zM Z<|zM Z<|zb hr fun y1 h_y1 hr => yS Z (ab.indexAddrVP Z Z Z Z dF h_y1)<|yS Z (ab.loadVX Z Z Z cB (fE h_y1).1 Z Z Z Z)<|yS Z (ze Z rC Z Z)<|yS Z (zs Z Z Z Z cB Z Z Z Z)<|zN<|zT<|zQ<|zR<|zM Z<|yS Z (zD Z Z Z cB Z Z)<|zb hr fun v3 h_v3 hr => ?_;refine yS Z (zC Z Z Z (by kernel_rfl) (LC.pre (Fw h_v3) Z (zL Z (zL Z (zL Z (zL Z (zL Z (zL Z (zL Z (zL Z (zL (ae (fun _ => rfl) _) (zL (ae (fun _ => rfl) _) (zL Z (zL Z (zL Z (zL Z (zL Z (zL Z (zL Z Z))))))))))))))))) Z)) ?_;refine yS Z (ab.not Z Z)<|zN<|zT ?_;refine zX Z (fun g3 => ?_)<|fun g3 => ?_
    ·
     refine zi g3 hr fun hr => zQ<|zR<|zM Z<|zM Z<|yS Z (zD Z Z Z cB Z Z)<|zb hr fun y2 h_y2 hr => yS Z (ab.indexAddrVP Z Z Z Z dF h_y2) ?_;refine yS Z (ab.storeVP (f := aI) (l := x1.o15) y1 Z Z Z Z cB (fun _ => rfl) (fE h_y2).1 Z Z Z Z Z Z Z) ?_;refine zN<|zT<|zR<|zM Z<|yS Z (aw Z Z Z Z)<|zM Z<|zN<|ai<|zT<|zR<|zM Z<|yS Z (aw Z Z Z Z)<|zM Z<|zN<|zT ?_;obtain rfl := zJ hr;exact ⟨_, rfl, zW 17 ⟨(G4 (rfl)), rfl, rfl, rfl, rfl, trivial⟩ Z Z Z (zL Z (zL Z (zL Z (zL Z (zL Z (zL Z (zL Z (zL Z (zL (ae (fun _ => rfl) _) (zL (ae (fun _ => rfl) _) (zL Z (zL Z (zL Z (zL Z (zL Z (zL Z (zL Z Z)))))))))))))))))⟩
    ·
     refine zo g3 hr fun hr => zk<|ai<|zT<|zR<|zM Z<|yS Z (aw Z Z Z Z)<|zM Z<|zN<|zT ?_;obtain rfl := zJ hr;exact ⟨_, rfl, zW 17 ⟨rfl, rfl, rfl, rfl, rfl, trivial⟩ Z Z Z (zL Z (zL Z (zL Z (zL Z (zL Z (zL Z (zL Z (zL Z (zL (ae (fun _ => rfl) _) (zL (ae (fun _ => rfl) _) (zL Z (zL Z (zL Z (zL Z (zL Z (zL Z (zL Z Z)))))))))))))))))⟩
   ·
    refine zo g2 hr fun hr => zq<|ao<|ao<|zy<|zT ?_;obtain rfl := zJ hr;have hr := congrArg some (hb_x1 _ rfl);obtain rfl := zJ hr;exact zW 17 ⟨Z, Z, Z, trivial⟩ Z Z Z<|zL Z<|zL Z<|zL Z<|zL Z<|zL Z<|zL Z<|zL Z<|zL Z<|zL (ae (fun _ => rfl) _)<|zL (ae (fun _ => rfl) _)<|zL Z<|zL Z<|zL Z<|zL Z<|zL Z<|zL Z<|zL Z Z
  ·have hr := ho_v2;clear hb_v2;refine zT<|LW.weak hw_v2<|zQ<|zR<|zM Z<|zM Z<|zg hr fun q1 hr => yS Z (ab.sliceVLo Z Z Z Z dF q1)<|zg hr fun q2 hr => ?_;refine yS Z (ab.clearVP (f := aI) (zs := [.int .i64 0, .int .i64 0, .int .u64 0, .int .u64 0]) (Vt.mk 0 0 (0, 0)) Z Z Z dF (fun _ => rfl) (by kernel_rfl) Z q2 Z) ?_;refine zN<|zT<|zQ<|LW.ent (bM.vlen (t := 0) (n' := ((iD v2.o15 v2.i.toNat (kk - v2.i.toNat) (Vt.mk 0 0 (0, 0))).map aI).length) Z (tb q2))<|zR<|zM Z<|zM Z<|zg hr fun q3 hr => yS Z (ab.sliceVHi Z Z Z Z dF q3)<|zM Z<|zN<|zT<|zr ?_;obtain rfl := zJ hr;exact ap (.one (.tmp Z))<|⟨rfl, rfl⟩
structure Ac where
 Tick : Int
 To : Int
 Offer : Bool
 B : List Bk
 V : List Vt
def kc (a : Ac) : PV := .agg [.int .i64 a.Tick, .int .i64 a.To, .bool a.Offer, .slice 5 (a.B.map ax), .slice 4 (a.V.map aI)]
structure Of where
 Slot : Int
 From : Int
 B : Bk
 V : Vw
def dP (o : Of) : PV := .agg [.int .i64 o.Slot, .int .i64 o.From, .int .i64 o.B.Slot, .int .i64 o.B.From, .int .u64 o.B.Parent.1, .int .u64 o.B.Parent.2, .int .u64 o.B.Salt, .slice 5 (o.V.B.map ax), .slice 4 (o.V.V.map aI)]
structure Nd where
 No : Int
 Tick : Int
 V : Vw
 In : Vw
 O : List Of
 C : Cu
 Full : Bool
def gk (n : Nd) : PV := .agg [.int .i64 n.No, .int .i64 n.Tick, .slice 5 (n.V.B.map ax), .slice 4 (n.V.V.map aI), .slice 5 (n.In.B.map ax), .slice 4 (n.In.V.map aI), .slice 9 (n.O.map dP), .int .u64 n.C.ID.1, .int .u64 n.C.ID.2, .int .i64 n.C.Slot, .int .i64 n.C.Revoked, .bool n.Full]
structure Wd where
 C : Cf
 Bad : List Int
 Tick : Int
 N : List Nd
 O : List Of
def DE (w : Wd) : PV := .agg [.slice 1 (w.C.W.map aE), .int .u64 w.C.Seed, .int .i64 w.C.Epoch, .int .i64 w.C.Num, .int .i64 w.C.Den, .slice 1 (w.Bad.map aE), .int .i64 w.Tick, .slice 12 (w.N.map gk), .slice 9 (w.O.map dP)]
structure Du where
 frm : Int
 slot : Int
 deriving DecidableEq
def ry (d : Du) : PV := .agg [.int .i64 d.frm, .int .i64 d.slot]
theorem xX : e8 ry 2 true := ⟨fun a b => by
 obtain ⟨x, y⟩ := a;obtain ⟨z, w⟩ := b;simp only [ry, gQ, qc, Bool.and_true, Du.mk.injEq, Option.some.injEq]
 by_cases h1 : x = z <;> by_cases h2 : y = w <;> simp [h1, h2], fun _ => rfl⟩
abbrev kO (l : List Of) : LV := .p (.slice 9 (l.map dP))
abbrev jO (i : Nat) (l : List Of) : LV := .vec 9 i (l.map dP).length 0 (l.map dP).length
abbrev nC : List LV := [iQ 0, iQ 0, .zs, .zs, .zs, .zs, .zs, uQ 0, uQ 0, iQ 0, iQ 0, bQ false]
abbrev ne (n : Nd) : List LV := [.p (.int .i64 n.No), .p (.int .i64 n.Tick), .p (.slice 5 (n.V.B.map ax)), .p (.slice 4 (n.V.V.map aI)), .p (.slice 5 (n.In.B.map ax)), .p (.slice 4 (n.In.V.map aI)), .p (.slice 9 (n.O.map dP)), .p (.int .u64 n.C.ID.1), .p (.int .u64 n.C.ID.2), .p (.int .i64 n.C.Slot), .p (.int .i64 n.C.Revoked), .p (.bool n.Full)]
abbrev fl (w : Wd) : List LV := [.p (.slice 1 (w.C.W.map aE)), .p (.int .u64 w.C.Seed), .p (.int .i64 w.C.Epoch), .p (.int .i64 w.C.Num), .p (.int .i64 w.C.Den), .p (.slice 1 (w.Bad.map aE)), .p (.int .i64 w.Tick), .p (.slice 12 (w.N.map gk)), .p (.slice 9 (w.O.map dP))]
abbrev tL : List LV := [.zs, .p (.int .u64 0), .p (.int .i64 0), .p (.int .i64 0), .p (.int .i64 0), .zs, .p (.int .i64 0), .zs, .zs]
abbrev kG (w : Wd) (a : Vw) (h : Int) (m : Bool) (l : List Ac) (f i j : Nat) : List LV := [.p (.slice 1 (w.C.W.map aE)), .p (.int .u64 w.C.Seed), .p (.int .i64 w.C.Epoch), .p (.int .i64 w.C.Num), .p (.int .i64 w.C.Den), .p (.slice 1 (w.Bad.map aE)), .p (.int .i64 w.Tick), .p (.slice 12 (w.N.map gk)), .p (.slice 9 (w.O.map dP)), .p (.slice 5 (a.B.map ax)), .p (.slice 4 (a.V.map aI)), .p (.int .i64 h), .p (.bool m), .fn f [] [.ptr i 0, .ptr j 0], .p (.int .i64 (IntKind.i64.wrap (w.Tick.tdiv 3))), .p (.slice 5 (l.map kc))]
abbrev hM (w : Wd) (a : Vw) (h : Int) (m : Bool) (l : List Ac) (f g : Nat) : List aa := [.box (fl w), .box tL, .box (fl w), .box (kG w a h m l f 5 4), .box (kG w a h m l f 5 4), .box [.fn g [] [.ptr 2 0]]]
def wR (v : Vt) : List Vt → List Vt
 | [] => [v]
 | x :: r => if v.From < x.From then v :: x :: r else x :: wR v r
def fS : List Vt → List Vt
 | [] => []
 | v :: r => wR v (fS r)
def mM (l : List Vt) : Prop := l.Pairwise fun a b => a.From ≤ b.From
theorem nY (v : Vt) : ∀ l : List Vt, (wR v l).Perm (v :: l)
 | [] => .refl _
 | x :: r => by
  unfold wR;split
  ·exact .refl _
  ·exact ((nY v r).cons x).trans (.swap v x r)
theorem bS : ∀ l : List Vt, (fS l).Perm l
 | [] => .refl _
 | v :: r => (nY v (fS r)).trans ((bS r).cons v)
theorem sj {v : Vt} : ∀ {l : List Vt}, mM l → mM (wR v l)
 | [], _ => by simp [wR, mM]
 | x :: r, h => by
  have h2 := List.pairwise_cons.1 h;unfold wR;split
  ·rename_i hl
   exact List.pairwise_cons.2 ⟨fun y hy => by
    rcases List.mem_cons.1 hy with e | hy
    ·subst e; omega
    ·have := h2.1 y hy; omega, h⟩
  ·rename_i hl;refine List.pairwise_cons.2 ⟨fun y hy => ?_, sj h2.2⟩;rcases List.mem_cons.1 ((nY v r).mem_iff.1 hy) with e | hy
   ·subst e; omega
   ·exact h2.1 y hy
theorem jQ : ∀ l : List Vt, mM (fS l)
 | [] => .nil
 | _ :: r => sj (jQ r)
theorem qR : ∀ {a b : List Vt}, a.Perm b → mM a → mM b → (∀ x ∈ a, ∀ y ∈ a, x.From = y.From → x = y) → a = b
 | [], b, h, _, _, _ => (List.Perm.nil_eq h)
 | x :: r, b, h, ha, hb, hd => by
  cases b with
  | nil => exact absurd h.length_eq (by simp)
  | cons y s =>
   have ha2 := List.pairwise_cons.1 ha;have hb2 := List.pairwise_cons.1 hb;have hy : y ∈ x :: r := h.mem_iff.2 (.head _);have hx : x ∈ y :: s := h.mem_iff.1 (.head _)
   have e : x = y := by
    refine hd x (.head _) y hy ?_
    have h1 : x.From ≤ y.From := by
     rcases List.mem_cons.1 hy with e | hy
     ·rw [e]; omega
     ·exact ha2.1 y hy
    have h2 : y.From ≤ x.From := by
     rcases List.mem_cons.1 hx with e | hx
     ·rw [e]; omega
     ·exact hb2.1 x hx
    omega
   subst e;rw [qR (List.Perm.cons_inv h) ha2.2 hb2.2 fun p hp q hq => hd p (.tail _ hp) q (.tail _ hq)]
theorem AF {a b : List Vt} (h : a.Perm b) (hd : ∀ x ∈ a, ∀ y ∈ a, x.From = y.From → x = y) : fS a = fS b :=
 qR ((bS a).trans (h.trans (bS b).symm)) (jQ a) (jQ b) fun x hx y hy => hd x ((bS a).mem_iff.1 hx) y ((bS a).mem_iff.1 hy)
theorem Dl {a b : List Vt} (h : a.Perm b) (hb : mM b) (hd : ∀ x ∈ a, ∀ y ∈ a, x.From = y.From → x = y) : fS a = b :=
 qR ((bS a).trans h) (jQ a) hb fun x hx y hy => hd x ((bS a).mem_iff.1 hx) y ((bS a).mem_iff.1 hy)
def xb (l : List Vt) : Bool := decide (l.length ≤ 1000000 ∧ ∀ x ∈ l, ∀ y ∈ l, x.From = y.From → x = y)
open Go.Proofs
theorem ob {α β : Type} {x : α} {f : α → Option β} : (some x).bind f = f x := by
 have h : ∀ o : Option α, o = some x → o.bind f = f x := by intro o e; subst e; rfl
 exact h _ Z
theorem ct {α : Sort _} {x y : α} : (bif true then x else y) = x := by
 have h : ∀ b : Bool, b = true → (bif b then x else y) = x := by intro o e; subst e; rfl
 exact h _ Z
theorem cf {α : Sort _} {x y : α} : (bif false then x else y) = y := by
 have h : ∀ b : Bool, b = false → (bif b then x else y) = y := by intro o e; subst e; rfl
 exact h _ Z
theorem sl {α β γ : Type} {f : α → γ} {g : β → γ} {x : α} : Sum.elim f g (.inl x) = f x := by
 have h : ∀ s : α ⊕ β, s = .inl x → Sum.elim f g s = f x := by intro o e; subst e; rfl
 exact h _ Z
theorem sr {α β γ : Type} {f : α → γ} {g : β → γ} {x : β} : Sum.elim f g (.inr x) = g x := by
 have h : ∀ s : α ⊕ β, s = .inr x → Sum.elim f g s = g x := by intro o e; subst e; rfl
 exact h _ Z
theorem cY {α β : Type} {step : α → Option (α ⊕ β)} (Inv : α → Prop) (m : α → Nat) (Post : β → Prop)
  (h : ∀ x, Inv x → (∃ y, step x = some (.inl y) ∧ Inv y ∧ m y < m x) ∨ ∃ b, step x = some (.inr b) ∧ Post b) : ∀ {n : Nat} {x : α}, Inv x → m x < n → ∃ b, iter step n x = some b ∧ Post b := by
 intro n
 induction n with
 | zero => intro x _ hn; omega
 | succ n ih =>
  intro x hx hn;unfold iter;rcases h x hx with ⟨y, h1, h2, h3⟩ | ⟨b, h1, h2⟩
  ·rw [h1]; exact ih h2 (by omega)
  ·rw [h1]; exact ⟨b, rfl, h2⟩
theorem aG {α : Type} {l : List α} {n : Nat} {y : α} (h : l[n]? = some y) : ix l (n : Int) = some y := by
 unfold ix; rw [if_pos (by omega)]; simpa using h
theorem aD {α : Type} {l : List α} {n : Nat} (h : n < l.length) : ∃ y, l[n]? = some y ∧ y ∈ l := ⟨l[n], List.getElem?_eq_getElem h, List.getElem_mem h⟩
theorem ak {n : Nat} (h : n < 4000000000) : IntKind.i64.wrap ((n : Int) + 1) = ((n + 1 : Nat) : Int) := by
 rw [cv (by omega) (by omega)]; omega
theorem aP {a b c : Nat} (h : a + b ≤ 1000000) (hc : c ≤ 1000) : room a b c = true := by
 have : (a + b) * (c + 1) ≤ 1000000 * 1001 := Nat.mul_le_mul h (by omega);exact decide_eq_true (by omega)
theorem ec {n : Nat} (h : n < 4000000000000000000) : n < bG := by unfold bG; omega
theorem I4 (a : ID) : ((a.1 == 0) && ((a.2 == 0) && true)) = decide (a = (0, 0)) := z7 a (0, 0)
theorem yh {α : Type} {f : α → PV} {O : α → Prop} {T : TS} (hf : ∀ p, pp T p → ∃ a, p = f a ∧ O a) : ∀ {xs : List PV}, (∀ x ∈ xs, pp T x) → ∃ l : List α, xs = l.map f ∧ ∀ a ∈ l, O a
 | [], _ => ⟨[], rfl, fun a h => by simp at h⟩
 | x :: xs, h => by
  obtain ⟨a, rfl, ha⟩ := hf x (h x (.head _));obtain ⟨l, rfl, hl⟩ := yh hf fun y hy => h y (.tail _ hy)
  exact ⟨a :: l, rfl, fun b hb => by
   cases hb with
   | head => exact ha
   | tail _ hb => exact hl b hb⟩
theorem mY {α : Type} {f : α → PV} {O : α → Prop} {T : TS} {m : Nat} (hf : ∀ p, pp T p → ∃ a, p = f a ∧ O a) {p : PV} (h : pp (.slice m T) p) : ∃ l : List α, p = .slice m (l.map f) ∧ ∀ a ∈ l, O a := by
 cases h with
 | slice h =>
  obtain ⟨l, rfl, hl⟩ := yh hf h;exact ⟨l, rfl, hl⟩
def Hl (b : Bk) : Prop := aZ .i64 b.Slot ∧ aZ .i64 b.From ∧ aZ .u64 b.Parent.1 ∧ aZ .u64 b.Parent.2 ∧ aZ .u64 b.Salt
def HJ (v : Vt) : Prop := aZ .i64 v.From ∧ aZ .i64 v.Slot ∧ aZ .u64 v.Head.1 ∧ aZ .u64 v.Head.2
def Kl (c : Cf) : Prop := (∀ w ∈ c.W, aZ .i64 w) ∧ aZ .u64 c.Seed ∧ aZ .i64 c.Epoch ∧ aZ .i64 c.Num ∧ aZ .i64 c.Den
theorem Jd {p : PV} (h : pp (.agg [.int .i64, .int .i64, .int .u64, .int .u64, .int .u64]) p) : ∃ c : Bk, p = ax c ∧ Hl c := by
 cases h with | agg h =>
 cases h with | cons a h => cases h with | cons b h => cases h with | cons c h => cases h with | cons d h => cases h with | cons e h =>
  cases h; cases a; cases b; cases c; cases d; cases e;exact ⟨⟨_, _, (_, _), _⟩, rfl, by assumption, by assumption, by assumption, by assumption, by assumption⟩
theorem Jg {p : PV} (h : pp (.agg [.int .i64, .int .i64, .int .u64, .int .u64]) p) : ∃ c : Vt, p = aI c ∧ HJ c := by
 cases h with | agg h =>
 cases h with | cons a h => cases h with | cons b h => cases h with | cons c h => cases h with | cons d h =>
  cases h; cases a; cases b; cases c; cases d;exact ⟨⟨_, _, (_, _)⟩, rfl, by assumption, by assumption, by assumption, by assumption⟩
theorem GX {k : IntKind} {f : Int → PV} (hf : ∀ n, f n = .int k n) {p : PV} (h : pp (.int k) p) : ∃ n, p = f n ∧ aZ k n := by
 cases h with | int h => exact ⟨_, (hf _).symm, h⟩
theorem CQ {p : PV} (h : pp (.slice 1 (.int .i64)) p) : ∃ l : List Int, p = .slice 1 (l.map aE) ∧ ∀ a ∈ l, aZ .i64 a := mY (fun _ h => GX (fun _ => rfl) h) h
theorem Je {p : PV} (h : pp (.agg [.slice 1 (.int .i64), .int .u64, .int .i64, .int .i64, .int .i64]) p) : ∃ c : Cf, p = jx c ∧ Kl c := by
 cases h with | agg h =>
 cases h with | cons a h => cases h with | cons b h => cases h with | cons c h => cases h with | cons d h => cases h with | cons e h =>
  cases h;obtain ⟨w, rfl, hw⟩ := CQ a;cases b; cases c; cases d; cases e;exact ⟨⟨w, _, _, _, _⟩, rfl, hw, by assumption, by assumption, by assumption, by assumption⟩
theorem GT {l : List Bk} (h : l.length ≤ 1000) : few l = true := decide_eq_true h
section
variable {l : List Bk}
def nV (l : List Bk) (id : ID) : Int := match places l with
 | none => -1
 | some m => (ah m id).getD (-1)
def iz (l : List Bk) (id : ID) : Int × Bool := match places l with
 | none => (0, false)
 | some m => match ah m id with
  | none => (0, false)
  | some i => (b9 l i, true)
def bR (l : List Bk) (id : ID) : List ID := match places l with
 | none => []
 | some _ => (l.filter fun b => decide (b.Parent = id)).map nm
theorem BJ : Hf l = some (places l).isSome := by
 unfold Hf;cases h : places l <;> rfl
theorem vl {m : List (ID × Int)} (h : places l = some m) {id : ID} {i : Int} (hf : ah m id = some i) : (i = -1 ∧ id = (0, 0)) ∨ ∃ b, 0 ≤ i ∧ i < l.length ∧ l[i.toNat]? = some b ∧ nm b = id ∧ b9 l i = b.Slot := by
 rcases (aQ h).known _ _ hf with h1 | ⟨b, p, h0, h1, h2, h3, -⟩
 ·exact .inl h1
 ·exact .inr ⟨b, h0, h1, h2, h3, by simp [b9, h2, show ¬ i = -1 by omega]⟩
theorem uR {n : Nat} {y : Bk} (hy : l[n]? = some y) (id : ID) : ((l.take (n + 1)).filter fun b => decide (b.Parent = id)).map nm = ((l.take n).filter fun b => decide (b.Parent = id)).map nm ++ if y.Parent = id then [nm y] else [] := by
 rw [List.take_add_one, hy, List.filter_append, List.map_append];by_cases h : y.Parent = id <;> simp [h]
theorem Ai {n : Nat} {y : Bk} {out : List ID} {id : ID} {v : ID} (hl : l.length ≤ 1000) (hn : n < l.length) (hy : l[n]? = some y) (ho : out.length ≤ n) (hv : nm y = v) :
  nG l id ⟨n, out⟩ = some (.inl ⟨IntKind.i64.wrap ((n : Int) + 1), out ++ if y.Parent = id then [v] else []⟩) := by
 simp only [nG];rw [decide_eq_true (show (n : Int) < (l.length : Int) by omega), aG hy];simp only [ct, ob, hv, z7];rw [aP (by simp; omega) (by omega)];by_cases h : y.Parent = id
 ·rw [decide_eq_true h, if_pos h]; rfl
 ·rw [decide_eq_false h, if_neg h, List.append_nil]; rfl
theorem F2 (hl : l.length ≤ 1000) (id : ID) : Hz l id = some (bR l id) := by
 simp only [Hz, BJ, ob];unfold bR
 cases h : places l with
 | none => rfl
 | some m =>
 simp only [Option.isSome_some, Bool.not_true, cf]
 have key := cY (step := nG l id) (fun x => ∃ n : Nat, x.t13 = n ∧ n ≤ l.length ∧ x.out = ((l.take n).filter fun b => decide (b.Parent = id)).map nm)
  (fun x => l.length - x.t13.toNat) (fun b => b.out = (l.filter fun b => decide (b.Parent = id)).map nm) (by
   rintro ⟨i, out⟩ ⟨n, rfl, hn, ho⟩;simp only at ho ⊢;by_cases hlt : n < l.length
   case neg =>
    right;refine ⟨⟨n, out⟩, ?_, ?_⟩
    ·simp only [nG]; rw [decide_eq_false (by omega)]; rfl
    ·rw [ho, List.take_of_length_le (by omega)]
   obtain ⟨y, hy, -⟩ := aD hlt;left
   have hol : out.length ≤ n := by
    rw [ho, List.length_map];exact Nat.le_trans (List.length_filter_le _ _) (by simp; omega)
   refine ⟨_, Ai hl hlt hy hol rfl, ⟨n + 1, ak (n := n) (by omega), by omega, ?_⟩, ?_⟩
   ·rw [uR hy, ← ho]
   ·simp only [ak (show n < 4000000000 by omega)]; omega) (x := ⟨0, []⟩) ⟨0, rfl, Nat.zero_le _, by simp⟩ (n := bG) (ec (by simp only; omega))
 obtain ⟨b, hb, hpost⟩ := key;simp only [hb, ob, hpost]
end
def pz (l : List Bk) : Nat → List (ID × Int)
 | 0 => [((0, 0), -1)]
 | n + 1 => match l[n]? with
  | some b => pz l n ++ [(nm b, (n : Int))]
  | none => pz l n
theorem tq {a : List ID} {x id : ID} : aU (a ++ [x]) id = if 0 ≤ aU a id then aU a id else if x = id then a.length else -1 := by
 rcases mf (l := a) (v := id) with ⟨h1, h2⟩ | ⟨i, h1, h2, h3⟩
 ·rw [if_neg (by omega)];by_cases hx : x = id
  ·subst hx;rw [if_pos rfl];refine mc (i := a.length) (by simp) fun j hj e => h2 ?_;rw [List.getElem?_append_left hj] at e;exact List.mem_of_getElem? e
  ·rw [if_neg hx];refine mX fun j hj e => ?_;have := List.mem_of_getElem? e;simp only [List.mem_append, List.mem_singleton] at this;rcases this with h | h
   ·exact h2 h
   ·exact hx h.symm
 ·rw [h1, if_pos (by omega)];have hi := (List.getElem?_eq_some_iff.1 h2).1;refine mc (by rw [List.getElem?_append_left hi]; exact h2) fun j hj => ?_;rw [List.getElem?_append_left (by omega)]; exact h3 j hj
theorem vr {l : List Bk} (id : ID) : ∀ n, n ≤ l.length → ah (pz l n) id = if id = (0, 0) then some (-1) else if 0 ≤ aU ((l.take n).map nm) id then some (aU ((l.take n).map nm) id) else none
 | 0, _ => by
  have : aU ((l.take 0).map nm) id = -1 := by simp [aU]
  simp only [pz, ah, this];by_cases h : id = (0, 0)
  ·subst h; simp
  ·rw [if_neg (fun e => h e.symm), if_neg h, if_neg (by omega)]
 | n + 1, hn => by
  obtain ⟨b, hb, -⟩ := aD (l := l) (n := n) (by omega);have ih := vr (l := l) id n (by omega);simp only [pz, hb];rw [fa, ih, List.take_add_one, hb];simp only [Option.toList, List.map_append, List.map_cons, List.map_nil];rw [tq];by_cases h : id = (0, 0)
  ·rw [if_pos h, if_pos h]; rfl
  ·rw [if_neg h, if_neg h];by_cases h2 : 0 ≤ aU ((l.take n).map nm) id
   ·rw [if_pos h2, if_pos h2, if_pos h2]; rfl
   ·rw [if_neg h2, if_neg h2];by_cases h3 : nm b = id
    ·rw [if_pos h3, if_pos h3, if_pos (by omega)];simp; omega
    ·rw [if_neg h3, if_neg h3, if_neg (by omega)]; rfl
theorem CW {l : List Bk} {n : Nat} {id : ID} (h : 0 ≤ aU ((l.take n).map nm) id) : ∃ (j : Nat) (b : Bk), aU ((l.take n).map nm) id = j ∧ j < n ∧ l[j]? = some b ∧ nm b = id := by
 rcases mf (l := (l.take n).map nm) (v := id) with ⟨h1, h2⟩ | ⟨i, h1, h2, h3⟩
 ·omega
 ·have hi := (List.getElem?_eq_some_iff.1 h2).1;simp only [List.length_map, List.length_take] at hi;rw [List.getElem?_map, List.getElem?_take_of_lt (by omega)] at h2
  cases hb : l[i]? with
  | none => rw [hb] at h2; simp at h2
  | some b => rw [hb] at h2; simp at h2; exact ⟨i, b, h1, by omega, hb, h2⟩
theorem w5 {l : List Bk} : ∀ (r n : Nat), l.length - n = r → n ≤ l.length → ∀ m, eA l (l.drop n) n (pz l n) = some m → m = pz l l.length := by
 intro r
 induction r with
 | zero =>
  intro n hr hn m h
  have : n = l.length := by omega
  subst this;rw [List.drop_length] at h;cases h; rfl
 | succ r ih =>
  intro n hr hn m h;obtain ⟨y, hy, -⟩ := aD (l := l) (n := n) (by omega);rw [eU hy] at h;split at h
  ·cases h
  ·split at h
   ·cases h
   ·split at h
    ·cases h
    ·refine ih (n + 1) (by omega) (by omega) m ?_
     have e : pz l (n + 1) = pz l n ++ [(nm y, (n : Int))] := by simp only [pz, hy]
     rw [e]; exact h
theorem Av {l : List Bk} {m : List (ID × Int)} (h : places l = some m) : m = pz l l.length := w5 l.length 0 (by omega) (Nat.zero_le _) m h
def Pl (n i : Int) : Prop := 1 ≤ n ∧ n ≤ 1000 ∧ 0 ≤ i ∧ i < n
instance (n i : Int) : Decidable (Pl n i) := inferInstanceAs (Decidable (_ ∧ _))
def rt (seed n i : Int) : Nat → Int
 | 0 => i
 | k + 1 => q9 seed n k (rt seed n i k)
def Do (seed n i : Int) : Int := rt seed n i 10
theorem DO (n i : Int) : AU n i = some (decide (Pl n i)) := by
 unfold AU;by_cases h1 : n > 0
 ·rw [decide_eq_true h1, ct];by_cases h2 : n ≤ 1000
  ·rw [decide_eq_true h2, ct];by_cases h3 : i ≥ 0
   ·rw [decide_eq_true h3, ct];congr 1;exact decide_eq_decide.2 ⟨fun h => ⟨by omega, h2, h3, h⟩, fun h => h.2.2.2⟩
   ·rw [decide_eq_false h3, cf, decide_eq_false (fun h => h3 h.2.2.1)]
  ·rw [decide_eq_false h2, cf, decide_eq_false (fun h => h2 h.2.1)]
 ·rw [decide_eq_false h1, cf, decide_eq_false (fun h => h1 (by have := h.1; omega))]
theorem AJ {n i r : Int} (h : Pl n i) (h0 : 0 ≤ r) (h1 : r < 10) : rc n r = true :=
 decide_eq_true ⟨by have := h.1; omega, by have := h.1; have := h.2.1; rw [rj (by omega) (by omega)]; omega, h0, h1⟩
theorem DP {seed n i : Int} {d : Dk} (h : Pl n i) (hk0 : 0 ≤ d.k) (hk1 : d.k ≤ 100000) : ∃ d', AY seed n i d = some (Do seed n i, d') ∧ d'.k = d.k + 10 := by
 have key := @cY _ _ (pj seed n) (fun x => ∃ j : Nat, j ≤ 10 ∧ x.t6 = j ∧ x.i = rt seed n i j ∧ x.d.k = d.k + j) (fun x => 11 - x.t6.toNat) (fun b => b.i = Do seed n i ∧ b.d.k = d.k + 10) (by
  rintro ⟨a, t, dd⟩ ⟨j, hj, rfl, ha, hd⟩;simp only at ha hd;subst ha;by_cases hlt : j < 10
  ·left
   refine ⟨_, by
    simp only [pj]
    rw [decide_eq_true (show (j : Int) < 10 by omega), ct, AJ h (by omega) (by omega), ct], ⟨j + 1, by omega, ak (n := j) (by omega), rfl, ?_⟩, ?_⟩
   ·show IntKind.i64.wrap (dd.k + 1) = _;rw [hd, cv (by omega) (by omega)]; omega
   ·simp only [ak (show j < 4000000000 by omega)]; omega
  ·right
   obtain rfl : j = 10 := by omega
   exact ⟨_, rfl, rfl, hd⟩)
 obtain ⟨b, hb, h1, h2⟩ := key (n := bG) (x := ⟨i, 0, d⟩) ⟨0, by omega, rfl, rfl, by simp⟩ (ec (by omega));refine ⟨b.d, ?_, h2⟩;unfold AY;rw [hb, ob, h1]
def iw (seed n : Int) (k : Nat) : List Int := (List.range k).map fun j : Nat => Do seed n j
def sx (seed n : Int) : List Int := if 1 ≤ n ∧ n ≤ 1000 then iw seed n n.toNat else []
theorem og (seed n : Int) (k : Nat) : (iw seed n k).length = k := by simp [iw]
theorem w4 (seed n : Int) (k : Nat) : iw seed n (k + 1) = iw seed n k ++ [Do seed n k] := by simp [iw, List.range_succ]
theorem At {seed n : Int} {k j : Nat} (h : j < k) : (iw seed n k)[j]? = some (Do seed n j) := by simp [iw, h]
theorem EY {A : List Int} {m : Nat} {v z : Int} : (A ++ List.replicate (m + 1) z).set A.length v = (A ++ [v]) ++ List.replicate m z := by
 rw [List.set_append_right _ _ (Nat.le_refl _), Nat.sub_self, List.replicate_succ];simp
theorem F3 (seed n : Int) : HA seed n = some (sx seed n) := by
 unfold HA sx;rw [DO, ob];by_cases h : 1 ≤ n ∧ n ≤ 1000
 ·obtain ⟨h1, h2⟩ := h;have hp : Pl n 0 := ⟨h1, h2, by omega, by omega⟩;rw [decide_eq_true hp, if_pos ⟨h1, h2⟩, Bool.not_true, cf, show Am n 8 = true from decide_eq_true ⟨by omega, by omega, by omega⟩, ct]
  have key := @cY _ _ (pP seed n) (fun x => ∃ j : Nat, j ≤ n.toNat ∧ x.t19 = j ∧ x.d.k = 10 * (j : Int) ∧ x.l = iw seed n j ++ List.replicate (n.toNat - j) 0) (fun x => n.toNat + 1 - x.t19.toNat) (fun b => b.l = iw seed n n.toNat ∧ b.d.k = 10 * n) (by
   rintro ⟨t, d, l⟩ ⟨j, hj, rfl, hd, hl⟩;simp only at hd hl;subst hl;by_cases hlt : j < n.toNat
   ·left;have hpl : Pl n (j : Int) := ⟨h1, h2, by omega, by omega⟩;obtain ⟨d', e, hk⟩ := DP (seed := seed) (d := d) hpl (by omega) (by omega)
    have hix : ix (iw seed n j ++ List.replicate (n.toNat - j) 0) (j : Int) = some 0 := aG (by
     rw [List.getElem?_append_right (by rw [og]; omega), og, Nat.sub_self, show n.toNat - j = (n.toNat - j - 1) + 1 by omega, List.replicate_succ]; rfl)
    refine ⟨_, by
     simp only [pP]
     rw [decide_eq_true (show (j : Int) < ((List.replicate n.toNat (0 : Int)).length : Int) by rw [List.length_replicate]; omega), ct, e, ob, hix, ob],
     ⟨j + 1, by omega, ak (n := j) (by omega), by show d'.k = _; omega, ?_⟩, ?_⟩
    ·show List.set (iw seed n j ++ List.replicate (n.toNat - j) 0) (j : Int).toNat (Do seed n j) = _;rw [show n.toNat - j = (n.toNat - (j + 1)) + 1 by omega, w4];have := EY (A := iw seed n j) (m := n.toNat - (j + 1)) (v := Do seed n j) (z := 0);rw [og] at this;exact this
    ·simp only [ak (show j < 4000000000 by omega)]; omega
   ·right
    obtain rfl : j = n.toNat := by omega
    refine ⟨_, by
     simp only [pP]
     rw [decide_eq_false (show ¬ ((n.toNat : Nat) : Int) < ((List.replicate n.toNat (0 : Int)).length : Int) by rw [List.length_replicate]; omega), cf], ?_, ?_⟩
    ·simp
    ·simp only; omega)
  obtain ⟨b, hb, h3, h4⟩ := key (n := bG) (x := ⟨0, KX, List.replicate n.toNat 0⟩) ⟨0, by omega, rfl, rfl, by simp [iw]⟩ (ec (by omega));rw [hb, ob, h3, decide_eq_false (show ¬ b.d.k < n by omega), cf]
 ·rw [decide_eq_false (fun hp : Pl n 0 => h ⟨hp.1, hp.2.1⟩), if_neg h]; rfl
theorem Kq {a b : Int} (h : a = b) : (a == b) = true := by simp [h]
theorem Dc {seed n : Int} (h1 : 1 ≤ n) (h2 : n ≤ 1000) {j : Nat} (hj : (j : Int) < n) : ix (sx seed n) (j : Int) = some (Do seed n j) := by
 unfold sx;rw [if_pos ⟨h1, h2⟩];exact aG<|At (by omega)
open Go.Proofs
theorem aB {S R : Type} {step : S → Option (S ⊕ R)} {n : Nat} (g : Nat → S) (r : R) (hs : ∀ j, j < n → step (g j) = some (.inl (g (j + 1)))) (he : step (g n) = some (.inr r)) (hn : n < 4000000000000000000) :
  iter step bG (g 0) = some r := by
 have key : ∀ (d k f : Nat), k + d = n → d < f → iter step f (g k) = some r := by
  intro d
  induction d with
  | zero =>
   intro k f hk hf;obtain ⟨f, rfl⟩ : ∃ q, f = q + 1 := ⟨f - 1, by omega⟩
   obtain rfl : k = n := by omega
   unfold iter;rw [he]
  | succ d ih =>
   intro k f hk hf;obtain ⟨f, rfl⟩ : ∃ q, f = q + 1 := ⟨f - 1, by omega⟩;unfold iter;rw [hs k (by omega)];exact ih (k + 1) f (by omega) (by omega)
 exact key n 0 bG (by omega)<|ec hn
def n9 (x : Int) : List Int → Int
 | [] => x
 | y :: r => n9 (if y < x then y else x) r
def n8 (x : Int) : List Int → Int
 | [] => x
 | y :: r => n8 (if y > x then y else x) r
theorem C1 (x : Int) (a : List Int) (y : Int) : n9 x (a ++ [y]) = if y < n9 x a then y else n9 x a := by
 induction a generalizing x with
 | nil => rfl
 | cons z r ih => exact ih _
theorem CX (x : Int) (a : List Int) (y : Int) : n8 x (a ++ [y]) = if y > n8 x a then y else n8 x a := by
 induction a generalizing x with
 | nil => rfl
 | cons z r ih => exact ih _
theorem ES {k x : Int} {l : List Int} : n9 x l < k ↔ x < k ∨ ∃ y ∈ l, y < k := by
 induction l generalizing x with
 | nil => simp [n9]
 | cons z r ih =>
  simp only [n9, ih, List.mem_cons, exists_eq_or_imp];split
  ·constructor
   ·rintro (h | h)
    ·exact .inr<|.inl h
    ·exact .inr<|.inr h
   ·rintro (h | h | h)
    ·exact .inl (by omega)
    ·exact .inl h
    ·exact .inr h
  ·constructor
   ·rintro (h | h)
    ·exact .inl h
    ·exact .inr<|.inr h
   ·rintro (h | h | h)
    ·exact .inl h
    ·exact .inl (by omega)
    ·exact .inr h
theorem ER {k x : Int} {l : List Int} : n8 x l > k ↔ x > k ∨ ∃ y ∈ l, y > k := by
 induction l generalizing x with
 | nil => simp [n8]
 | cons z r ih =>
  simp only [n8, ih, List.mem_cons, exists_eq_or_imp];split
  ·constructor
   ·rintro (h | h)
    ·exact .inr<|.inl h
    ·exact .inr<|.inr h
   ·rintro (h | h | h)
    ·exact .inl (by omega)
    ·exact .inl h
    ·exact .inr h
  ·constructor
   ·rintro (h | h)
    ·exact .inl h
    ·exact .inr<|.inr h
   ·rintro (h | h | h)
    ·exact .inl h
    ·exact .inl (by omega)
    ·exact .inr h
theorem fH {l : List Int} {j : Nat} {y : Int} (h : l[j]? = some y) : l.take (j + 1) = l.take j ++ [y] := by rw [List.take_add_one, h]; rfl
theorem DQ {x : Int} {r : List Int} (h : r.length ≤ 1000) : A4 (x :: r) = some (n9 x r) := by
 unfold A4;rw [decide_eq_false (show ¬ (((x :: r).length : Nat) : Int) < 1 by simp; omega), cf, show ix (x :: r) 0 = some x from rfl, ob]
 have e := aB (step := mG (x :: r)) (n := r.length) (fun j => ⟨n9 x (r.take j), ((j + 1 : Nat) : Int)⟩) ⟨n9 x r, ((r.length + 1 : Nat) : Int)⟩ (fun j hj => by
  obtain ⟨y, hy, -⟩ := aD hj
  have hy' : (x :: r)[j + 1]? = some y := by simpa using hy
  simp only [mG]
  rw [decide_eq_true (show ((j + 1 : Nat) : Int) < (((x :: r).length : Nat) : Int) by simp; omega), ct, aG hy', ob, ak (n := j + 1) (by omega), fH hy, C1]) (by
  simp only [mG]
  rw [decide_eq_false (show ¬ ((r.length + 1 : Nat) : Int) < (((x :: r).length : Nat) : Int) by simp), cf, List.take_length]) (by omega)
 have e0 : (⟨n9 x (r.take 0), ((0 + 1 : Nat) : Int)⟩ : ib) = ⟨x, 1⟩ := rfl;rw [e0] at e;rw [e, ob]
theorem DR {x : Int} {r : List Int} (h : r.length ≤ 1000) : A5 (x :: r) = some (n8 x r) := by
 unfold A5;rw [decide_eq_false (show ¬ (((x :: r).length : Nat) : Int) < 1 by simp; omega), cf, show ix (x :: r) 0 = some x from rfl, ob]
 have e := aB (step := mH (x :: r)) (n := r.length) (fun j => ⟨n8 x (r.take j), ((j + 1 : Nat) : Int)⟩) ⟨n8 x r, ((r.length + 1 : Nat) : Int)⟩ (fun j hj => by
  obtain ⟨y, hy, -⟩ := aD hj
  have hy' : (x :: r)[j + 1]? = some y := by simpa using hy
  simp only [mH]
  rw [decide_eq_true (show ((j + 1 : Nat) : Int) < (((x :: r).length : Nat) : Int) by simp; omega), ct, aG hy', ob, ak (n := j + 1) (by omega), fH hy, CX]) (by
  simp only [mH]
  rw [decide_eq_false (show ¬ ((r.length + 1 : Nat) : Int) < (((x :: r).length : Nat) : Int) by simp), cf, List.take_length]) (by omega)
 have e0 : (⟨n8 x (r.take 0), ((0 + 1 : Nat) : Int)⟩ : ic) = ⟨x, 1⟩ := rfl;rw [e0] at e;rw [e, ob]
def dA (c : Cf) : Prop := 1 ≤ c.W.length ∧ c.W.length ≤ 12 ∧ (∀ w ∈ c.W, 0 ≤ w ∧ w ≤ 1099511627776) ∧ 1 ≤ c.Epoch ∧ c.Epoch ≤ 8 ∧ 0 ≤ c.Num ∧ c.Num ≤ c.Den ∧ 1 ≤ c.Den ∧ c.Den ≤ 1000
instance (c : Cf) : Decidable (dA c) := inferInstanceAs (Decidable (_ ∧ _))
def iI (p : Nat → Bool) (W : List Int) : Nat → Int
 | 0 => 0
 | k + 1 => iI p W k + (bif p k then (W[k]?).getD 0 else 0)
theorem pH {p : Nat → Bool} {W : List Int} (h : ∀ w ∈ W, 0 ≤ w ∧ w ≤ 1099511627776) : ∀ k, 0 ≤ iI p W k ∧ iI p W k ≤ 1099511627776 * k
 | 0 => by simp [iI]
 | k + 1 => by
  have ih := pH (p := p) h k;unfold iI
  cases p k with
  | false => simp only [cond_false]; omega
  | true =>
   simp only [cond_true]
   cases hk : W[k]? with
   | none => simp only [Option.getD_none]; omega
   | some w =>
    have := h w (List.mem_of_getElem? hk);simp only [Option.getD_some]; omega
theorem Hd {p : Nat → Bool} {W : List Int} {k : Nat} {w : Int} (hp : p k = true) (hw : W[k]? = some w) : iI p W (k + 1) = iI p W k + w := by
 rw [iI, hp, hw]; rfl
theorem Ha {p : Nat → Bool} {W : List Int} {k : Nat} (hp : p k = false) : iI p W (k + 1) = iI p W k := by
 rw [iI, hp]; simp
theorem C0 (c : Cf) : (bif decide (c.Epoch > 0) then bif decide (c.Epoch ≤ 8) then bif decide (c.Num ≥ 0) then bif decide (c.Num ≤ c.Den) then bif decide (c.Den > 0) then some (decide (c.Den ≤ 1000)) else some false else some false else some false else some false else some false) =
  some (decide (1 ≤ c.Epoch ∧ c.Epoch ≤ 8 ∧ 0 ≤ c.Num ∧ c.Num ≤ c.Den ∧ 1 ≤ c.Den ∧ c.Den ≤ 1000)) := by
 by_cases h1 : c.Epoch > 0
 ·rw [decide_eq_true h1, ct];by_cases h2 : c.Epoch ≤ 8
  ·rw [decide_eq_true h2, ct];by_cases h3 : c.Num ≥ 0
   ·rw [decide_eq_true h3, ct];by_cases h4 : c.Num ≤ c.Den
    ·rw [decide_eq_true h4, ct];by_cases h5 : c.Den > 0
     ·rw [decide_eq_true h5, ct];congr 1;exact decide_eq_decide.2 ⟨fun h => ⟨h1, h2, h3, h4, h5, h⟩, fun h => h.2.2.2.2.2⟩
     ·rw [decide_eq_false h5, cf, decide_eq_false (fun h => h5 h.2.2.2.2.1)]
    ·rw [decide_eq_false h4, cf, decide_eq_false (fun h => h4 h.2.2.2.1)]
   ·rw [decide_eq_false h3, cf, decide_eq_false (fun h => h3 h.2.2.1)]
  ·rw [decide_eq_false h2, cf, decide_eq_false (fun h => h2 h.2.1)]
 ·rw [decide_eq_false h1, cf, decide_eq_false (fun h => h1 h.1)]
theorem lR (c : Cf) : yP c = some (decide (dA c)) := by
 unfold yP;have hno : ∀ h : ¬ dA c, decide (dA c) = false := fun h => decide_eq_false h;by_cases h0 : c.W.length = 0
 ·rw [show ((c.W.length : Int) == 0) = true by simp [h0], ct, ob, ct, decide_eq_false (fun h : dA c => by have := h.1; omega)]
 ·rw [show ((c.W.length : Int) == 0) = false by simpa using h0, cf];by_cases h12 : c.W.length > 12
  ·rw [decide_eq_true (show (c.W.length : Int) > 12 by omega), ct, ob, ct, decide_eq_false (fun h : dA c => by have := h.2.1; omega)]
  ·rw [decide_eq_false (show ¬ (c.W.length : Int) > 12 by omega), cf]
   obtain ⟨x, r, hW⟩ : ∃ x r, c.W = x :: r := by
    cases hc : c.W with
    | nil => rw [hc] at h0; simp at h0
    | cons x r => exact ⟨x, r, rfl⟩
   have hr : r.length ≤ 1000 := by rw [hW] at h12; simp at h12; omega
   have hall : (∀ w ∈ c.W, 0 ≤ w ∧ w ≤ 1099511627776) ↔ ¬ n9 x r < 0 ∧ ¬ n8 x r > 1099511627776 := by
    rw [ES, ER, hW];constructor
    ·intro h;refine ⟨?_, ?_⟩
     ·rintro (h1 | ⟨y, hy, h1⟩)
      ·have := (h x (.head _)).1; omega
      ·have := (h y (.tail _ hy)).1; omega
     ·rintro (h1 | ⟨y, hy, h1⟩)
      ·have := (h x (.head _)).2; omega
      ·have := (h y (.tail _ hy)).2; omega
    ·rintro ⟨h1, h2⟩ w hw;refine ⟨?_, ?_⟩
     ·refine Classical.byContradiction fun hc => h1 ?_
      cases hw with
      | head => exact .inl (by omega)
      | tail _ hw => exact .inr ⟨w, hw, by omega⟩
     ·refine Classical.byContradiction fun hc => h2 ?_
      cases hw with
      | head => exact .inl (by omega)
      | tail _ hw => exact .inr ⟨w, hw, by omega⟩
   have hlen : 1 ≤ c.W.length ∧ c.W.length ≤ 12 := ⟨by omega, by omega⟩;have e9 := DQ (x := x) hr;have e10 := DR (x := x) hr;rw [← hW] at e9 e10;rw [e9, ob];by_cases hm : n9 x r < 0
   ·rw [decide_eq_true hm, ct, ob, ct, decide_eq_false (fun h : dA c => (hall.1 h.2.2.1).1 hm)]
   ·rw [decide_eq_false hm, cf, e10, ob, ob];by_cases hx : n8 x r > 1099511627776
    ·rw [decide_eq_true hx, ct, decide_eq_false (fun h : dA c => (hall.1 h.2.2.1).2 hx)]
    ·rw [decide_eq_false hx, cf, C0];congr 1;exact decide_eq_decide.2 ⟨fun h => ⟨hlen.1, hlen.2, hall.2 ⟨hm, hx⟩, h⟩, fun h => h.2.2.2⟩
def okW (c : Cf) : Prop := c.W.length ≤ 12 ∧ ∀ w ∈ c.W, 0 ≤ w ∧ w ≤ 1099511627776
theorem dA.okW {c : Cf} (h : dA c) : okW c := ⟨h.2.1, h.2.2.1⟩
theorem DH {p : Nat → Bool} {W : List Int} (h : ∀ w ∈ W, 0 ≤ w ∧ w ≤ 1099511627776) {k : Nat} (hk : k ≤ 12) : IntKind.i64.wrap (iI p W k) = iI p W k := by
 have := pH (p := p) h k;exact cv (by omega) (by omega)
theorem Bj {c : Cf} {m : List (Int × Bool)} (h : okW c) : ua c m 0 = some (iI (fun j => (ah m (j : Int)).getD false) c.W c.W.length) := by
 unfold ua
 have e := aB (step := ko c m) (n := c.W.length) (fun j => ⟨(j : Int), iI (fun j => (ah m (j : Int)).getD false) c.W j⟩) ⟨(c.W.length : Int), iI (fun j => (ah m (j : Int)).getD false) c.W c.W.length⟩ (fun j hj => by
  obtain ⟨y, hy, hm⟩ := aD hj;have h12 := h.1;simp only [ko, DT];rw [decide_eq_true (show (j : Int) < (c.W.length : Int) by omega), ct, ob]
  cases hb : (ah m (j : Int)).getD false with
  | true => rw [ct, aG hy, ob, ak (n := j) (by omega), ← Hd (p := fun j => (ah m (j : Int)).getD false) hb hy, DH h.2 (by omega)]
  | false => rw [cf, ak (n := j) (by omega), Ha (p := fun j => (ah m (j : Int)).getD false) hb]) (by
  simp only [ko]
  rw [decide_eq_false (show ¬ (c.W.length : Int) < (c.W.length : Int) by omega), cf]) (by have := h.1; omega)
 exact (congrArg (fun z => Option.bind z fun v1 => some v1.o4_0) e).trans ob
def tM (c : Cf) (l : List Int) : Int := if dA c then iI (fun j => decide ((j : Int) ∈ l)) c.W c.W.length else 0
theorem mC {p q : Nat → Bool} {W : List Int} (h : ∀ j, p j = q j) : ∀ k, iI p W k = iI q W k
 | 0 => rfl
 | k + 1 => by rw [iI, iI, mC h k, h k]
theorem wH {m : List (Int × Bool)} {k q : Int} {v : Bool} : ah (aN m k v) q = if k = q then some v else ah m q := by
 induction m with
 | nil => simp [aN, ah]
 | cons p r ih =>
  obtain ⟨a, b⟩ := p;unfold aN;by_cases h : a = k
  ·rw [if_pos h];subst h;by_cases h2 : a = q
   ·simp [ah, h2]
   ·simp [ah, h2]
  ·rw [if_neg h];simp only [ah];rw [ih];by_cases h2 : a = q
   ·rw [if_pos h2, if_pos h2, if_neg (fun e => h (by rw [h2, e]))]
   ·rw [if_neg h2, if_neg h2]
def kE : List Int → List (Int × Bool) → List (Int × Bool)
 | [], m => m
 | x :: r, m => kE r (aN m x true)
theorem Ah (a : List Int) (x : Int) : ∀ m, kE (a ++ [x]) m = aN (kE a m) x true := by
 induction a with
 | nil => intro m; rfl
 | cons y r ih => intro m; exact ih _
theorem qI (q : Int) : ∀ (l : List Int) (m : List (Int × Bool)), ah (kE l m) q = if q ∈ l then some true else ah m q
 | [], m => by simp [kE]
 | x :: r, m => by
  unfold kE;rw [qI q r, wH];by_cases h : q ∈ r
  ·simp [h]
  ·by_cases h2 : x = q
   ·simp [h2]
   ·simp [h, h2, Ne.symm h2]
theorem BK {c : Cf} {l : List Int} (hl : l.length ≤ 100000) : Fa c l = some (tM c l) := by
 unfold Fa
 have e := aB (step := nH l) (n := l.length) (fun j => fm.mk (j : Int) (kE (l.take j) [])) (fm.mk (l.length : Int) (kE l [])) (fun j hj => by
  obtain ⟨y, hy, hm⟩ := aD hj
  have e1 : nH l (fm.mk (j : Int) (kE (l.take j) [])) = some (.inl (fm.mk (IntKind.i64.wrap ((j : Int) + 1)) (aN (kE (l.take j) []) y true))) := by
   unfold nH;rw [decide_eq_true (show (j : Int) < (l.length : Int) by omega), ct, aG hy, ob]
  rw [e1, ak (n := j) (by omega), fH hy, Ah]) (by
  unfold nH
  rw [decide_eq_false (show ¬ (l.length : Int) < (l.length : Int) by omega), cf, List.take_length]) (by omega)
 have e0 : fm.mk (((0 : Nat) : Int)) (kE (l.take 0) []) = fm.mk 0 [] := rfl;rw [e0] at e;rw [e, ob];unfold xw tM;rw [lR, ob];by_cases h : dA c
 ·rw [decide_eq_true h, if_pos h, Bool.not_true, cf, Bj h.okW, ob, ob];congr 1;refine mC (fun j => ?_) _;rw [qI];by_cases hj : (j : Int) ∈ l <;> simp [hj, ah]
 ·rw [decide_eq_false h, if_neg h]; rfl
theorem mI {l : List Int} {n : Int} (hl : l.length ≤ 100000) : sO l n = some (decide (n ∈ l)) := by
 unfold sO D4
 have key := @cY _ _ (la l n) (fun x => ∃ j : Nat, j ≤ l.length ∧ x.t8 = j ∧ n ∉ l.take j) (fun x => l.length + 1 - x.t8.toNat)
  (fun b => (∃ i : Nat, b = .inr (i : Int) ∧ n ∈ l) ∨ ∃ x, b = .inl x ∧ n ∉ l) (by
   rintro ⟨t⟩ ⟨j, hj, rfl, hw⟩;by_cases hlt : j < l.length
   ·obtain ⟨y, hy, hm⟩ := aD hlt;by_cases h1 : n = y
    ·right
     refine ⟨.inr (j : Int), by
      simp only [la]
      rw [decide_eq_true (show (j : Int) < (l.length : Int) by omega), ct, aG hy, ob, Kq h1, ct], .inl ⟨j, rfl, h1 ▸ hm⟩⟩
    ·left
     refine ⟨⟨IntKind.i64.wrap ((j : Int) + 1)⟩, by
      simp only [la]
      rw [decide_eq_true (show (j : Int) < (l.length : Int) by omega), ct, aG hy, ob, show (n == y) = false by simpa using h1, cf], ⟨j + 1, by omega, ak (n := j) (by omega), ?_⟩, ?_⟩
     ·rw [fH hy];intro h;rcases List.mem_append.1 h with h | h
      ·exact hw h
      ·exact h1<|List.mem_singleton.1 h
     ·simp only [ak (show j < 4000000000 by omega)]; omega
   ·right
    obtain rfl : j = l.length := by omega
    refine ⟨.inl ⟨((l.length : Nat) : Int)⟩, by
     simp only [la]
     rw [decide_eq_false (show ¬ ((l.length : Nat) : Int) < (l.length : Int) by omega), cf], .inr ⟨_, rfl, ?_⟩⟩
    rw [List.take_length] at hw
    exact hw)
 obtain ⟨b, hb, ⟨i, rfl, h⟩ | ⟨x, rfl, h⟩⟩ := key (n := bG) (x := ⟨0⟩) ⟨0, by omega, rfl, by simp⟩ (ec (by show l.length + 1 - 0 < _; omega))
 ·rw [hb, ob, sr, ob, decide_eq_true h, decide_eq_true (show (i : Int) ≥ 0 by omega)]
 ·rw [hb, ob, sl, ob, decide_eq_false h]; rfl
def j6 (p : Nat → Bool) : Nat → List Int
 | 0 => []
 | k + 1 => bif p k then j6 p k ++ [(k : Int)] else j6 p k
theorem oh (p : Nat → Bool) : ∀ k, (j6 p k).length ≤ k
 | 0 => by simp [j6]
 | k + 1 => by
  have := oh p k;unfold j6;cases p k <;> simp <;> omega
def Fb (c : Cf) (slot : Int) : Prop := dA c ∧ 0 < slot ∧ slot ≤ 1048576
instance (c : Cf) (slot : Int) : Decidable (Fb c slot) := inferInstanceAs (Decidable (_ ∧ _))
theorem xu (c : Cf) (slot : Int) : yC c slot = some (decide (Fb c slot)) := by
 unfold yC;rw [lR, ob];by_cases h : dA c
 ·rw [decide_eq_true h, ct];by_cases h1 : slot > 0
  ·rw [decide_eq_true h1, ct];congr 1;exact decide_eq_decide.2 ⟨fun h2 => ⟨h, h1, h2⟩, fun h2 => h2.2.2⟩
  ·rw [decide_eq_false h1, cf, decide_eq_false (fun h2 : Fb c slot => h1 h2.2.1)]
 ·rw [decide_eq_false h, cf, decide_eq_false (fun h2 : Fb c slot => h h2.1)]
def ox (c : Cf) (slot : Int) : Int := step c.Seed (IntKind.u64.wrap (IntKind.i64.wrap (slot.tdiv c.Epoch)))
def FD (c : Cf) (slot : Int) (j : Nat) : Bool := (Do (ox c slot) (c.W.length : Int) (j : Int)).tmod c.Epoch == slot.tmod c.Epoch
def lz (c : Cf) (slot : Int) : List Int := if Fb c slot then j6 (FD c slot) c.W.length else []
theorem wE (c : Cf) (slot : Int) : (lz c slot).length ≤ 12 := by
 unfold lz;split
 ·next h => have := oh (FD c slot) c.W.length; have := h.1.2.1; omega
 ·simp
theorem uN {c : Cf} (h : dA c) : decide (c.Epoch ≠ 0) = true := decide_eq_true (by have := h.2.2.2.1; omega)
theorem A6 {c : Cf} {slot : Int} (h : dA c) : tZ c slot (sx (ox c slot) (c.W.length : Int)) = some (j6 (FD c slot) c.W.length) := by
 have h1 := h.1;have h2 := h.2.1
 have e := aB (step := km c slot (sx (ox c slot) (c.W.length : Int))) (n := c.W.length) (fun j => dm.mk (j : Int) (j6 (FD c slot) j)) (dm.mk (c.W.length : Int) (j6 (FD c slot) c.W.length)) (fun j hj => by
  have hl := oh (FD c slot) j;unfold km DS;simp only;rw [decide_eq_true (show (j : Int) < (c.W.length : Int) by omega), ct, Dc (by omega) (by omega) (by omega), ob, uN h, ct, ct, ob]
  cases hb : FD c slot j with
  | true =>
   rw [show ((Do (ox c slot) (c.W.length : Int) (j : Int)).tmod c.Epoch == slot.tmod c.Epoch) = true from hb, ct, aP (by simp only [List.length_singleton]; omega) (by omega), ct, ak (n := j) (by omega), j6, hb, ct]
  | false =>
   rw [show ((Do (ox c slot) (c.W.length : Int) (j : Int)).tmod c.Epoch == slot.tmod c.Epoch) = false from hb, cf, ak (n := j) (by omega), j6, hb, cf]) (by
  unfold km
  rw [decide_eq_false (show ¬ (c.W.length : Int) < (c.W.length : Int) by omega), cf]) (by omega)
 have e0 : dm.mk (((0 : Nat) : Int)) (j6 (FD c slot) 0) = dm.mk 0 [] := rfl;rw [e0] at e;unfold tZ xB xC;rw [e, ob, ob, ob]
theorem wk (c : Cf) (slot : Int) : E9 c slot = some (lz c slot) := by
 unfold E9 lz;rw [xu, ob];by_cases h : Fb c slot
 ·rw [decide_eq_true h, if_pos h, Bool.not_true, cf, uN h.1, ct, F3, ob];have := A6 (slot := slot) h.1;unfold ox at this;rw [this, ob]
 ·rw [decide_eq_false h, if_neg h]; rfl
theorem sQ (c : Cf) (slot who : Int) : F4 c slot who = some (decide (who ∈ lz c slot)) := by
 have := wE c slot;unfold F4;rw [wk, ob, mI (by omega), ob]
def j7 (c : Cf) (slot : Int) : Int := if Fb c slot then IntKind.i64.wrap ((step (step c.Seed 4294967296) (IntKind.u64.wrap slot)).tmod (IntKind.u64.wrap (c.W.length : Int))) else -1
theorem GY {c : Cf} (h : dA c) : decide (IntKind.u64.wrap (c.W.length : Int) ≠ 0) = true := decide_eq_true (by have := h.1; have := h.2.1; rw [rj (by omega) (by omega)]; omega)
theorem sP (c : Cf) (slot : Int) : Ec c slot = some (j7 c slot) := by
 unfold Ec j7;rw [xu, ob];by_cases h : Fb c slot
 ·rw [decide_eq_true h, if_pos h, Bool.not_true, cf, GY h.1, ct]
 ·rw [decide_eq_false h, if_neg h]; rfl
def c0 : Cf := ⟨[5], 0, 1, 0, 4⟩
open Go.Proofs
theorem FQ (c : Cf) (l : List Int) : 0 ≤ tM c l ∧ tM c l ≤ 13194139533312 := by
 unfold tM;split
 ·next h =>
  have := pH (p := fun j => decide ((j : Int) ∈ l)) h.okW.2 c.W.length;have := h.2.1;omega
 ·omega
open Go.Proofs
theorem E7 {c : Cf} {a b : List Int} (h : ∀ x, x ∈ a ↔ x ∈ b) : tM c a = tM c b := by
 unfold tM;by_cases hm : dA c
 ·rw [if_pos hm, if_pos hm];exact mC (fun j => decide_eq_decide.2 (h _)) _
 ·rw [if_neg hm, if_neg hm]
open Go.Proofs
structure dr where
 t14 : Int
 o1 : List (Du × ID)
 o2 : List (Du × Bool)
def iY (l : List Vt) (x1 : dr) : Option (dr ⊕ dr) :=
 bif decide (x1.t14 < (l.length : Int)) then
  (ix l x1.t14).bind fun y1 =>
  bif (ah x1.o1 (Du.mk y1.From y1.Slot)).isSome then
   bif !(((((ah x1.o1 (Du.mk y1.From y1.Slot)).getD (0, 0)).1) == y1.Head.1) && (((((ah x1.o1 (Du.mk y1.From y1.Slot)).getD (0, 0)).2) == y1.Head.2) && true)) then
    some (.inl (dr.mk (IntKind.i64.wrap (x1.t14 + 1)) (aN x1.o1 (Du.mk y1.From y1.Slot) y1.Head) (aN x1.o2 (Du.mk y1.From y1.Slot) true)))
   else
    some (.inl (dr.mk (IntKind.i64.wrap (x1.t14 + 1)) (aN x1.o1 (Du.mk y1.From y1.Slot) y1.Head) x1.o2))
  else
   some (.inl (dr.mk (IntKind.i64.wrap (x1.t14 + 1)) (aN x1.o1 (Du.mk y1.From y1.Slot) y1.Head) x1.o2))
 else
  some (.inr (dr.mk x1.t14 x1.o1 x1.o2))
def uo (l : List Vt) : Option (List (Du × ID) × List (Du × Bool)) :=
 (iter (iY l) bG (dr.mk 0 ([] : List (Du × ID)) ([] : List (Du × Bool)))).bind fun v1 =>
 some (v1.o1, v1.o2)
theorem GH {l : List Vt} {r_ : List (Du × ID) × List (Du × Bool)} (hr : uo l = some r_) : LC Tryz.prog 167 [(kV l)] [] (Is (.agg [.map 1, .map 2]) [.box [.map 1, .map 2], .map (af ry (fun v => .p (bH v)) r_.1), .map (af ry (fun v => (bQ v)) r_.2), .box [.map 1, .map 2]]) := by
 refine dc Tryz.func167 Z Z Z ?_;unfold uo at hr;refine zQ<|zR<|yS Z (ze Z xp Z Z)<|zN<|zT<|zQ<|zR<|yS Z (ab.makeMap Z Z Z)<|yS Z (ab.makeMap Z Z Z)<|yS Z (ab.build Z Gm Z Z Z)<|yS Z (ze Z xp Z Z)<|yS Z (zs Z Z Z Z tI Z Z Z Z)<|zN<|zT<|zQ<|zQ<|zR<|zM Z<|yS Z (dT Z Z (by kernel_rfl))<|zM Z<|zN<|zT ?_;obtain ⟨v1, hb_v1, ho_v1⟩ := zB hr;clear hr;refine LW.tail (E := [(2, .ptr 0 0), (3, .ptr 3 0)]) (O := [.box [.nilmap, .nilmap], .map (af ry (fun v => .p (bH v)) v1.o1), .map (af ry (fun v => (bQ v)) v1.o2), .box [.map 1, .map 2]]) ?_<|fun env_v1 H_v1 hw_v1 => ?_
 ·refine LW.block ?_;refine LW.iterB (E := fun x1 : dr => [(2, .ptr 0 0), (3, .ptr 3 0), (12, (kV l)), (13, .p (.int .i64 (l.length : Int))), (14, (iQ x1.t14))]) (O := fun x1 => [.box [.nilmap, .nilmap], .map (af ry (fun v => .p (bH v)) x1.o1), .map (af ry (fun v => (bQ v)) x1.o2), .box [.map 1, .map 2]]) hb_v1 (zW 4 ⟨rfl, rfl, rfl, rfl, rfl, trivial⟩ Z Z Z (zL Z (zL (ae (fun _ => rfl) _) (zL (ae (fun _ => rfl) _) (zL Z Z)))))<|fun x1 z_x1 hr hb_x1 => ?_;unfold iY at hr;refine zQ<|zR<|yS Z (aw Z Z Z Z)<|zN<|zT<|zQ ?_;refine zX Z (fun g1 => ?_)<|fun g1 => ?_
  ·
   refine zi g1 hr fun hr => zk<|zT<|zQ<|zl<|zQ<|zR<|zb hr fun y1 h_y1 hr => yS Z (zx Z Z Z dF h_y1 Z)<|yS Z (dS Z Z Z cB Z Z)<|yS Z (ze Z rC Z Z)<|yS Z (zs Z Z Z Z cB Z Z Z Z)<|zN<|zT<|zQ<|zR<|yS Z (zA Z Z qz)<|yS Z (zD Z Z Z bC Z Z)<|yS Z (zA Z Z qA)<|yS Z (zD Z Z Z bC Z Z)<|yS Z (ab.build Z Cd Z Z Z)<|yS Z (ze Z DK Z Z)<|yS Z (zs Z Z Z Z mz Z Z Z Z)<|zN ?_;refine zT<|zQ<|zR<|yS Z (zA Z Z qu)<|yS Z (zD Z Z Z xi Z Z)<|yS Z (zD Z Z Z mz Z Z) ?_;refine yS Z (ab.getX (f := ry) (g := (fun v => .p (bH v))) (Du.mk y1.From y1.Slot) (0, 0) xX Z Z Z Z C3 K6 Z Z) ?_;refine zM Z<|yS Z (fA Z Z Z)<|yS Z (fA Z Z Z)<|yS Z (ze Z jo Z Z)<|yS Z (zs Z Z Z Z aR Z Z Z Z)<|zM Z<|zN<|zT<|zQ<|zR<|yS Z (zA Z Z qu)<|yS Z (zD Z Z Z xi Z Z)<|yS Z (zD Z Z Z mz Z Z)<|yS Z (zA Z Z l7)<|yS Z (zD Z Z Z aR Z Z) ?_;refine yS Z (ab.setX (f := ry) (g := (fun v => .p (bH v))) (Du.mk y1.From y1.Slot) y1.Head xX (.inl Z) Z Z Z Z Z C3 Z) ?_;refine zN<|zT<|zQ<|zR<|zM Z<|zM Z ?_;refine zc 36 Z (fun g2 => ?_)<|fun g2 => ?_
   ·
    refine zi g2 hr fun hr => yV Z (gd g2 Z) (zD Z Z Z aR Z Z)<|yV Z (gd g2 Z) (zA Z Z l7)<|yV Z (gd g2 Z) (zD Z Z Z aR Z Z)<|yV Z (gd g2 Z) (ab.neqAgg Z Z Z Z Z rY)<|yS Z (eP Z (bL g2 Z) Z)<|zN<|zT ?_;refine zX Z (fun g3 => ?_)<|fun g3 => ?_
    ·
     refine zi g3 hr fun hr => zR<|yS Z (zA Z Z u5)<|yS Z (zD Z Z Z Dx Z Z)<|yS Z (zD Z Z Z mz Z Z) ?_;refine yS Z (ab.setX (f := ry) (g := (fun v => (bQ v))) (Du.mk y1.From y1.Slot) true xX (.inl Z) Z Z Z Z Z C4 Z) ?_;refine zN<|ai<|zT<|zR<|yS Z (aw Z Z Z Z)<|zM Z<|zN<|zT ?_;obtain rfl := zJ hr;exact ⟨_, rfl, zW 4 ⟨rfl, rfl, rfl, rfl, rfl, trivial⟩ Z Z Z (zL Z (zL (ae (fun _ => rfl) _) (zL (ae (fun _ => rfl) _) (zL Z Z))))⟩
    ·
     refine zo g3 hr fun hr => zk<|ai<|zT<|zR<|yS Z (aw Z Z Z Z)<|zM Z<|zN<|zT ?_;obtain rfl := zJ hr;exact ⟨_, rfl, zW 4 ⟨rfl, rfl, rfl, rfl, rfl, trivial⟩ Z Z Z (zL Z (zL (ae (fun _ => rfl) _) (zL (ae (fun _ => rfl) _) (zL Z Z))))⟩
   ·
    refine zo g2 hr fun hr => yU Z (gd g2 Z) Z<|yU Z (gd g2 Z) Z<|yU Z (gd g2 Z) Z<|yU Z (gd g2 Z) Z<|yS Z (db Z (bL g2 Z) Z)<|zN<|zT<|LW.condF Z<|zk<|ai<|zT<|zR<|yS Z (aw Z Z Z Z)<|zM Z<|zN<|zT ?_;obtain rfl := zJ hr;exact ⟨_, rfl, zW 4 ⟨rfl, rfl, rfl, rfl, rfl, trivial⟩ Z Z Z (zL Z (zL (ae (fun _ => rfl) _) (zL (ae (fun _ => rfl) _) (zL Z Z))))⟩
  ·
   refine zo g1 hr fun hr => zq<|ao<|ao<|zy<|zT ?_;obtain rfl := zJ hr;have hr := congrArg some (hb_x1 _ rfl);obtain rfl := zJ hr;exact zW 4 ⟨Z, Z, trivial⟩ Z Z Z<|zL Z<|zL (ae (fun _ => rfl) _)<|zL (ae (fun _ => rfl) _)<|zL Z Z
 ·have hr := ho_v1;clear hb_v1;refine zT<|LW.weak hw_v1<|zQ<|zR<|yS Z (zD Z Z Z tI Z Z)<|yS Z (zs Z Z Z Z tI Z Z Z Z)<|zN<|zT<|zr ?_;obtain rfl := zJ hr;exact ap (.one (.cellAgg Z Z (by kernel_rfl) Z))<|⟨rfl, rfl⟩
end Go.Mg
namespace Go.Proofs
def Tryz.sortVt_ren : Go.Shelf.Ren := ⟨fun | 6 => 183 | 15 => 197 | 14 => 196 | 28 => 210 | 29 => 211 | 20 => 202 | 21 => 203 | 22 => 204 | 23 => 205 | 24 => 206 | 25 => 207 | 26 => 208 | 27 => 209 | 46 => 216 | 47 => 217 | 48 => 218 | 49 => 219 | 50 => 220 | 57 => 225 | n => n, fun | 22 => 42 | 24 => 54 | 25 => 255 | 3 => 3 | 39 => 223 | 0 => 0 | 53 => 190 | 55 => 23 | 4 => 4 | 46 => 269 | 45 => 268 | 50 => 80 | 5 => 5 | 9 => 9 | 66 => 280 | 70 => 284 | 76 => 289 | 77 => 103 | n => n, fun | n => n⟩
theorem Tryz.sortVt : SlLaysF0.n6 Tryz.prog Tryz.sortVt_ren where
 mixed := by kernel_rfl
 f6 := ⟨ "slices.SortFunc[[]marigold/api.Vote,marigold/api.Vote]", by decide, Tryz.func183.trans (congrArg some (by kernel_rfl))⟩
 f14 := ⟨ "slices.pdqsortCmpFunc[marigold/api.Vote]", by decide, Tryz.func196.trans (congrArg some (by kernel_rfl))⟩
 f15 := Tryz.func197.trans (congrArg some (by kernel_rfl))
 f20 := ⟨ "slices.insertionSortCmpFunc[marigold/api.Vote]", by decide, Tryz.func202.trans (congrArg some (by kernel_rfl))⟩
 f21 := ⟨ "slices.heapSortCmpFunc[marigold/api.Vote]", by decide, Tryz.func203.trans (congrArg some (by kernel_rfl))⟩
 f22 := ⟨ "slices.breakPatternsCmpFunc[marigold/api.Vote]", by decide, Tryz.func204.trans (congrArg some (by kernel_rfl))⟩
 f23 := ⟨ "slices.choosePivotCmpFunc[marigold/api.Vote]", by decide, Tryz.func205.trans (congrArg some (by kernel_rfl))⟩
 f24 := ⟨ "slices.reverseRangeCmpFunc[marigold/api.Vote]", by decide, Tryz.func206.trans (congrArg some (by kernel_rfl))⟩
 f25 := ⟨ "slices.partialInsertionSortCmpFunc[marigold/api.Vote]", by decide, Tryz.func207.trans (congrArg some (by kernel_rfl))⟩
 f26 := ⟨ "slices.partitionEqualCmpFunc[marigold/api.Vote]", by decide, Tryz.func208.trans (congrArg some (by kernel_rfl))⟩
 f27 := ⟨ "slices.partitionCmpFunc[marigold/api.Vote]", by decide, Tryz.func209.trans (congrArg some (by kernel_rfl))⟩
 f28 := Tryz.func210.trans (congrArg some (by kernel_rfl))
 f29 := Tryz.func211.trans (congrArg some (by kernel_rfl))
 f46 := ⟨ "slices.siftDownCmpFunc[marigold/api.Vote]", by decide, Tryz.func216.trans (congrArg some (by kernel_rfl))⟩
 f47 := Tryz.func217.trans (congrArg some (by kernel_rfl))
 f48 := Tryz.func218.trans (congrArg some (by kernel_rfl))
 f49 := ⟨ "slices.medianAdjacentCmpFunc[marigold/api.Vote]", by decide, Tryz.func219.trans (congrArg some (by kernel_rfl))⟩
 f50 := ⟨ "slices.medianCmpFunc[marigold/api.Vote]", by decide, Tryz.func220.trans (congrArg some (by kernel_rfl))⟩
 f57 := ⟨ "slices.order2CmpFunc[marigold/api.Vote]", by decide, Tryz.func225.trans (congrArg some (by kernel_rfl))⟩
 t0 := Tryz.underlying0
 a0 := Tryz.isAgg0
 z0 := Tryz.sizeOf0
 v0 := Tryz.zeroValue0
 t3 := Tryz.underlying3
 a3 := Tryz.isAgg3
 z3 := Tryz.sizeOf3
 v3 := Tryz.zeroValue3
 t4 := Tryz.underlying4
 a4 := Tryz.isAgg4
 z4 := Tryz.sizeOf4
 v4 := Tryz.zeroValue4
 t5 := Tryz.underlying5
 a5 := Tryz.isAgg5
 z5 := Tryz.sizeOf5
 v5 := Tryz.zeroValue5
 t9 := Tryz.underlying9
 a9 := Tryz.isAgg9
 z9 := Tryz.sizeOf9
 v9 := Tryz.zeroValue9
 t22 := Tryz.underlying42
 a22 := Tryz.isAgg42
 z22 := Tryz.sizeOf42
 v22 := Tryz.zeroValue42
 t25 := Tryz.underlying255
 a25 := Tryz.isAgg255
 z25 := Tryz.sizeOf255
 v25 := Tryz.zeroValue255
 t39 := Tryz.underlying223
 a39 := Tryz.isAgg223
 z39 := Tryz.sizeOf223
 v39 := Tryz.zeroValue223
 t45 := Tryz.underlying268
 a45 := Tryz.isAgg268
 z45 := Tryz.sizeOf268
 v45 := Tryz.zeroValue268
 t46 := Tryz.underlying269
 a46 := Tryz.isAgg269
 z46 := Tryz.sizeOf269
 v46 := Tryz.zeroValue269
 t50 := Tryz.underlying80
 a50 := Tryz.isAgg80
 z50 := Tryz.sizeOf80
 v50 := Tryz.zeroValue80
 t53 := Tryz.underlying190
 a53 := Tryz.isAgg190
 z53 := Tryz.sizeOf190
 v53 := Tryz.zeroValue190
 t55 := Tryz.underlying23
 a55 := Tryz.isAgg23
 z55 := Tryz.sizeOf23
 v55 := Tryz.zeroValue23
 t66 := Tryz.underlying280
 a66 := Tryz.isAgg280
 z66 := Tryz.sizeOf280
 v66 := Tryz.zeroValue280
 t70 := Tryz.underlying284
 a70 := Tryz.isAgg284
 z70 := Tryz.sizeOf284
 v70 := Tryz.zeroValue284
 t76 := Tryz.underlying289
 a76 := Tryz.isAgg289
 z76 := Tryz.sizeOf289
 v76 := Tryz.zeroValue289
 t77 := Tryz.underlying103
 a77 := Tryz.isAgg103
 z77 := Tryz.sizeOf103
 v77 := Tryz.zeroValue103
def Tryz.cmpVt_ren : Go.Shelf.Ren := ⟨fun | 5 => 185 | 7 => 198 | n => n, fun | 22 => 3 | 3 => 3 | 4 => 4 | n => n, fun | n => n⟩
theorem Tryz.cmpVt : SlLaysC2.n5 Tryz.prog Tryz.cmpVt_ren where
 mixed := by kernel_rfl
 f5 := ⟨ "cmp.Compare[int]", by decide, Tryz.func185.trans (congrArg some (by kernel_rfl))⟩
 f7 := ⟨ "cmp.isNaN[int]", by decide, Tryz.func198.trans (congrArg some (by kernel_rfl))⟩
 t3 := Tryz.underlying3
 a3 := Tryz.isAgg3
 z3 := Tryz.sizeOf3
 v3 := Tryz.zeroValue3
 t4 := Tryz.underlying4
 a4 := Tryz.isAgg4
 z4 := Tryz.sizeOf4
 v4 := Tryz.zeroValue4
 t22 := Tryz.underlying3
 a22 := Tryz.isAgg3
 z22 := Tryz.sizeOf3
 v22 := Tryz.zeroValue3
end Go.Proofs
namespace Go.Mg
open Go.Shelf Go.Sort Go.Proofs
instance : Inhabited Vt := ⟨⟨0, 0, (0, 0)⟩⟩
def i5 (v : Vt) : List Value := [.int .i64 v.From, .int .i64 v.Slot, .int .u64 v.Head.1, .int .u64 v.Head.2]
def z6 (v : Vt) : List PV := [.int .i64 v.From, .int .i64 v.Slot, .int .u64 v.Head.1, .int .u64 v.Head.2]
theorem l4 : ∀ l : List Vt, flat (l.map aI) = l.flatMap z6
 | [] => rfl
 | v :: r => by rw [List.map_cons, cw, l4 r, List.flatMap_cons]; rfl
theorem l0 {α β : Type} {f : α → List β} {k : Nat} (hf : ∀ x, (f x).length = k) : ∀ (l : List α) (q r : Nat) (x : α), l[q]? = some x → r < k → (l.flatMap f)[q * k + r]? = (f x)[r]?
 | [], q, r, x, h, _ => by simp at h
 | y :: s, 0, r, x, h, hr => by
  simp at h; subst h;rw [List.flatMap_cons, Nat.zero_mul, Nat.zero_add, List.getElem?_append_left (by rw [hf]; exact hr)]
 | y :: s, q + 1, r, x, h, hr => by
  rw [List.flatMap_cons, List.getElem?_append_right (by rw [hf, Nat.succ_mul]; omega), hf, show (q + 1) * k + r - k = q * k + r by rw [Nat.succ_mul]; omega];exact l0 hf s q r x (by simpa using h) hr
theorem AM {μ : List be} {I : Nat → Prop} {w : World} {H : List aa} {id : Nat} {l : List Vt} {B : be} (hs : St μ I w H) (hne : l ≠ []) (hH : H[id]? = some (.vec 4 (l.map aI))) (hid : μ[id]? = some B) :
  ∃ b vs e, B = ⟨some b, l.length⟩ ∧ w.heap[b]? = some (.cells vs e (0, 0)) ∧ 4 * l.length ≤ vs.size ∧ (∀ q v, l[q]? = some v → (aZ .i64 v.From ∧ aZ .i64 v.Slot ∧ aZ .u64 v.Head.1 ∧ aZ .u64 v.Head.2) ∧ ∀ r, r < 4 → vs[4 * q + r]? = (i5 v)[r]?) := by
 have hob := hs.objs id _ _ hH hid;generalize hx : l.map aI = xs at hob
 cases hob with
 | vecE => exact absurd (List.map_eq_nil_iff.1 hx) hne
 | @vec _ _ b vs e hb hl hne' hm h =>
  subst hx;rw [List.length_map] at hl;refine ⟨b, vs, e, by rw [List.length_map], hb, hl, fun q v hq => ?_⟩;have hql := (List.getElem?_eq_some_iff.1 hq).1
  have key : ∀ r p, r < 4 → (z6 v)[r]? = some p → ∃ u, vs[4 * q + r]? = some u ∧ dV I w p u := fun r p hr hp => by
   have hi := l0 (f := z6) (k := 4) (fun _ => rfl) l q r v hq hr;rw [← l4, Nat.mul_comm] at hi;have hv : vs[4 * q + r]? = some (vs[4 * q + r]'(by omega)) := Array.getElem?_eq_getElem (by omega);exact ⟨_, hv, h _ p _ (hi.trans hp) hv⟩
  obtain ⟨u0, h0, r0⟩ := key 0 (.int .i64 v.From) (by omega) rfl;obtain ⟨u1, h1, r1⟩ := key 1 (.int .i64 v.Slot) (by omega) rfl;obtain ⟨u2, h2, r2⟩ := key 2 (.int .u64 v.Head.1) (by omega) rfl;obtain ⟨u3, h3, r3⟩ := key 3 (.int .u64 v.Head.2) (by omega) rfl;cases r0; cases r1; cases r2; cases r3;refine ⟨⟨by assumption, by assumption, by assumption, by assumption⟩, fun r hr => ?_⟩
  match r, hr with
  | 0, _ => rw [h0]; rfl
  | 1, _ => rw [h1]; rfl
  | 2, _ => rw [h2]; rfl
  | 3, _ => rw [h3]; rfl
theorem Jb {l : List Vt} {j : Nat} (hj : j < 4 * l.length) : ∃ v, l[j / 4]? = some v ∧ j % 4 < 4 ∧ j = 4 * (j / 4) + j % 4 := by
 have h : j / 4 < l.length := by omega
 exact ⟨l[j / 4], List.getElem?_eq_getElem h, by omega, by omega⟩
theorem uS {l : List Vt} {j : Nat} (hj : j < 4 * l.length) {v : Vt} (hv : l[j / 4]? = some v) : (flatK i5 4 l.toArray)[j]! = (i5 v)[j % 4]! := by
 rw [get_flatK _ _ _ _ (by simp; omega)]
 have h : (l.toArray)[j / 4]! = v := by
  rw [getElem!_def];simp [hv]
 rw [h]
theorem tp {w : World} {l : List Vt} {b : Nat} {vs : Array Value} {e : TypeId} (hb : w.heap[b]? = some (.cells vs e (0, 0))) (hc : ∀ q v, l[q]? = some v → ∀ r, r < 4 → vs[4 * q + r]? = (i5 v)[r]?) : HoldsK i5 4 w b 0 l.toArray := by
 intro j hj;rw [size_flatK] at hj
 have hj' : j < 4 * l.length := by simp at hj; omega
 obtain ⟨v, hv, hr, he⟩ := Jb hj';have h1 := hc _ v hv _ hr;rw [← he] at h1
 have h2 : (i5 v)[j % 4]? = some ((i5 v)[j % 4]!) := by
  rw [getElem!_def];have : j % 4 < (i5 v).length := hr;rw [List.getElem?_eq_getElem this]
 rw [h2] at h1;constructor
 ·rw [uS hj' hv, Nat.zero_add];simp [World.cell?, hb, h1]
 ·simp [World.frozen?, hb]
theorem vI {F vs : Array Value} {i : Nat} (hF : F.size ≤ vs.size) (hi : i < F.size) : (putCells (fun x => x) 0 F vs)[i]? = some (F[i]!) := by
 unfold putCells;rw [Array.getElem?_mapIdx, Array.getElem?_eq_getElem (by omega)];simp [hi]
theorem uM : ∀ d : List Vt, (d.flatMap z6).length = 4 * d.length
 | [] => rfl
 | x :: r => by rw [List.flatMap_cons, List.length_append, uM r, List.length_cons]; simp [z6]; omega
theorem AG {μ : List be} {I : Nat → Prop} {w : World} {H : List aa} {id b n : Nat} {l d : List Vt} {vs : Array Value} {e : TypeId} {os : Array Obj} (hs : St μ I w H) (hid : μ[id]? = some ⟨some b, l.length⟩) (hb : w.heap[b]? = some (.cells vs e (0, 0))) (hsz : 4 * l.length ≤ vs.size)
  (hd : d.length = l.length) (hne : d ≠ []) (hk : ∀ v ∈ d, aZ .i64 v.From ∧ aZ .i64 v.Slot ∧ aZ .u64 v.Head.1 ∧ aZ .u64 v.Head.2) :
  St μ I (sortWorldK i5 4 w b 0 n d.toArray os) (H.set id (.vec 4 (d.map aI))) ∧ bz μ.length μ I w μ I (sortWorldK i5 4 w b 0 n d.toArray os) := by
 have hbl : b < w.heap.size := (Array.getElem?_eq_some_iff.1 hb).1
 have hFs : (flatK i5 4 d.toArray).size = 4 * d.length := by rw [size_flatK]; simp; omega
 have hsize : (sortWorldK i5 4 w b 0 n d.toArray os).heap.size = w.heap.size + os.size := by
  simp [sortWorldK, grow, putRowK, putRow, mapBlock, Go.Sort.ahead]
 have hoth : ∀ c, c < w.heap.size → c ≠ b → (sortWorldK i5 4 w b 0 n d.toArray os).heap[c]? = w.heap[c]? := fun c hc hcb => by
  simp only [sortWorldK, grow, putRowK, putRow, mapBlock, Go.Sort.ahead];rw [Array.getElem?_append_left (by simpa using hc), Array.getElem?_modify];rw [if_neg (fun e => hcb e.symm)]
 have hself : (sortWorldK i5 4 w b 0 n d.toArray os).heap[b]? = some (.cells (putCells (fun x => x) 0 (flatK i5 4 d.toArray) vs) e (0, 0)) := by
  simp only [sortWorldK, grow, putRowK, putRow, mapBlock, Go.Sort.ahead];rw [Array.getElem?_append_left (by simpa using hbl), Array.getElem?_modify];rw [if_pos rfl, hb];rfl
 have hF : (flatK i5 4 d.toArray).size ≤ vs.size := by omega
 refine hs.writeG hid hoth (by omega) Z Z Z (fun c e' f hc => ?_) fun hE => ?_
 ·rw [hb] at hc; cases hc;exact ⟨_, hself, by simp [putCells]⟩
 ·rw [← hd]
  have hlen : d.length = (d.map aI).length := by rw [List.length_map]
  rw [hlen];refine .vec hself (by rw [List.length_map]; simp [putCells]; omega) (fun h => hne (List.map_eq_nil_iff.1 h)) (fun x hx => ?_) fun i c u hc hu => ?_
  ·obtain ⟨v, -, rfl⟩ := List.mem_map.1 hx;exact ⟨rfl, fun c hc => by simp [aI, PV.cells] at hc; rcases hc with rfl | rfl | rfl | rfl <;> trivial⟩
  ·rw [l4] at hc
   have hi : i < 4 * d.length := by
    have h1 := (List.getElem?_eq_some_iff.1 hc).1;have h2 := uM d;omega
   obtain ⟨v, hv, hr, he⟩ := Jb hi;have h3 := l0 (f := z6) (k := 4) (fun _ => rfl) d _ _ v hv hr;rw [Nat.mul_comm, ← he, hc] at h3;rw [vI hF (by omega), uS hi hv] at hu;obtain ⟨k1, k2, k3, k4⟩ := hk v (List.mem_of_getElem? hv);cases hu;generalize i % 4 = r at hr h3 ⊢
   match r, hr with
   | 0, _ => cases h3; exact .int k1
   | 1, _ => cases h3; exact .int k2
   | 2, _ => cases h3; exact .int k3
   | 3, _ => cases h3; exact .int k4
open Go.Shelf Go.Sort Go.Proofs
theorem Au {l : List Vt} {d : Array Vt} (h : PermIn 0 l.toArray.size l.toArray d) : d.toList.Perm l := by
 have h1 := h.2.2;have e1 : l.toArray.extract 0 l.toArray.size = l.toArray := Array.extract_size
 have e2 : d.extract 0 l.toArray.size = d := by rw [← h.1]; exact Array.extract_size
 rw [e1, e2] at h1;simpa using h1
theorem Az {d : Array Vt} {n : Nat} {lt : Vt → Vt → Bool} (hlt : ∀ x y, lt x y = decide (x.From < y.From)) (hn : d.size = n) (h : SortedIn lt 0 n d) : mM d.toList := by
 unfold mM;rw [List.pairwise_iff_getElem];intro i j hi hj hij;have := h i j (Nat.zero_le _) hij (by simpa [hn] using hj);rw [hlt] at this
 have h1 : d[j]! = d.toList[j] := by rw [getElem!_pos d j (by simpa using hj)]; simp
 have h2 : d[i]! = d.toList[i] := by rw [getElem!_pos d i (by simpa using hi)]; simp
 rw [h1, h2] at this;have := of_decide_eq_false this;omega
theorem LC.sortVotes {P : Program} {F g : FuncId} {H : List aa} {id : Nat} {l : List Vt} {lt : Vt → Vt → Bool} (hlt : ∀ x y, lt x y = decide (x.From < y.From))
  (hN : ∀ (p : Option Addr) (cap : Nat) (fv : Value) (w : World), Calls P F #[.slice p 0 cap, fv] w fun e w' => e = .returned (.tuple #[]) ∧ w' = w)
  (hS : ∀ (blk off cap : Nat) (d : Array Vt) (w : World), HoldsK i5 4 w blk off d → blk < w.heap.size → d.size < 4611686018427387904 → Calls P F #[.slice (some ⟨blk, off, none⟩) d.size cap, .func (.func g) #[] #[]] w fun e w' =>
   e = .returned (.tuple #[]) ∧ ∃ d' n os, PermIn 0 d.size d d' ∧ SortedIn lt 0 d.size d' ∧ w' = sortWorldK i5 4 w blk off n d' os)
  (hH : aM H id = some (.vec 4 (l.map aI))) (hd : ∀ x ∈ l, ∀ y ∈ l, x.From = y.From → x = y) (hlen : l.length ≤ 1000000) :
  LC P F [.vec 4 id (l.map aI).length 0 (l.map aI).length, .fn g [] []] H (Is (.tup []) (H.set id (.vec 4 ((fS l).map aI)))) := by
 intro args w μ I hs ha;rw [aJ] at hH;obtain ⟨al⟩ := args
 match al, ha with
 | [v1, v2], ha =>
  obtain ⟨h1, h2, -⟩ := ha
  have hv2 : v2 = .func (.func g) #[] #[] := by
   cases h2 with
   | @fn _ _ _ fs cs hl hl' _ _ =>
    rw [Array.eq_empty_of_size_eq_zero hl, Array.eq_empty_of_size_eq_zero hl']
  subst hv2
  cases h1 with
  | @vec _ _ _ _ _ B _ hid h1 hn hf =>
  by_cases hne : l = []
  ·subst hne;have hob := hs.objs id _ _ hH hid
   have hB : B = ⟨none, 0⟩ := by
    cases hob with
    | vecE => rfl
    | vec _ _ hne' _ _ => exact absurd rfl hne'
   subst hB;rcases hf rfl with ⟨-, ⟨a, rfl⟩, -⟩ | ⟨b, cap, hb, -⟩
   ·refine (hN a 0 _ w).mono fun e w' he => ?_;obtain ⟨rfl, rfl⟩ := he;refine ⟨.tup [], _, _, μ, I, rfl, ⟨rfl, rfl⟩, ?_, .tup Z (fun i c v hc => by simp at hc), .refl _ _ _ _ (Nat.le_refl _)⟩;have hil := (List.getElem?_eq_some_iff.1 hH).1
    have : H.set id (.vec 4 ((fS []).map aI)) = H := by
     apply List.ext_getElem?;intro i;rw [List.getElem?_set];split
     ·rename_i e; subst e; first | exact hH.symm | (rw [if_pos hil]; exact hH.symm)
     ·rfl
    rw [this]; exact hs
   ·cases hb
  ·obtain ⟨b, vs, e, rfl, hb, hsz, hcells⟩ := AM hs hne hH hid;have hll : (l.map aI).length = l.length := List.length_map _;have hl0 : l.length ≠ 0 := fun h => hne (List.length_eq_zero_iff.1 h);rcases hf hll with ⟨h0, -⟩ | ⟨b', cap, hb', rfl, hc1, hc2, -⟩
   ·omega
   ·cases hb';have hbl : b < w.heap.size := (Array.getElem?_eq_some_iff.1 hb).1
    have hmax : l.length < 4611686018427387904 := by omega
    have hcall := hS b 0 cap l.toArray w (tp hb fun q v hq => (hcells q v hq).2) hbl (by simpa using hmax)
    have es : l.toArray.size = (l.map aI).length := by simp
    rw [es] at hcall;refine hcall.mono fun ex w' he => ?_;obtain ⟨rfl, d', n, os, hp, hso, rfl⟩ := he;rw [← es] at hp hso;have hperm := Au hp;have hds : d'.toList = fS l := (Dl hperm.symm (Az hlt hp.1 hso) hd).symm
    have hd' : d' = (fS l).toArray := by rw [← hds]
    subst hd';have hsl : (fS l).length = l.length := (bS l).length_eq
    obtain ⟨s1, s2⟩ := AG (n := n) (os := os) (d := fS l) hs hid hb hsz hsl (fun h => hl0 (by rw [← hsl, h]; rfl)) fun v hv => by
     obtain ⟨q, hq⟩ := List.getElem?_of_mem ((bS l).mem_iff.1 hv);exact (hcells q v hq).1
    exact ⟨.tup [], _, _, μ, I, rfl, ⟨rfl, rfl⟩, s1, .tup Z (fun i c v hc => by simp at hc), s2⟩
end Go.Mg
namespace Go.Proofs
open Go.Shelf Go.RowKit Go.Lib Go.Sort Go.Mg
set_option maxHeartbeats 1000000 in
theorem Tryz.closV (x y : Vt) (W : World) : Calls Tryz.prog 184 #[.agg #[.int .i64 x.From, .int .i64 x.Slot, .int .u64 x.Head.1, .int .u64 x.Head.2], .agg #[.int .i64 y.From, .int .i64 y.Slot, .int .u64 y.Head.1, .int .u64 y.Head.2]] W fun e w' => e = .returned (.int .i64 (Lib.compareInt x.From y.From)) ∧ ∃ q os', w' = grow (W.drewN q) os' := by
 have hcon := fun W' => AnyG.cmp_Compare_int Tryz.cmpVt x.From y.From W';change ∀ W', Calls Tryz.prog 185 _ _ _ at hcon;generalize Lib.compareInt x.From y.From = r at hcon ⊢
 go_enter Tryz.func184, Tryz.ntmps184
 go_wp2_with (go_at_call 185; refine (hcon _).mono ?_; rintro e w' ⟨rfl, rfl⟩)
 go_ret
 exact ⟨rfl, 0, _, by rw [alloc_eq_grow, alloc_eq_grow, grow_grow]; rfl⟩
theorem Tryz.ltV (x y : Vt) : ltOf (fun x y : Vt => Lib.compareInt x.From y.From) x y = decide (x.From < y.From) := by
 unfold ltOf Lib.compareInt;by_cases h1 : x.From < y.From
 ·simp [h1]
 ·by_cases h2 : y.From < x.From <;> simp [h1, h2]
theorem Tryz.swoV : SWO (ltOf fun x y : Vt => Lib.compareInt x.From y.From) where
 irrefl x := by rw [Tryz.ltV]; simp
 trans x y z h1 h2 := by rw [Tryz.ltV] at *; simp at *; omega
 ntrans x y z h1 h2 := by rw [Tryz.ltV] at *; simp at *; omega
theorem Tryz.sortV_call {H H' : List aa} {id : Nat} {l : List Vt} (hH : aM H id = some (.vec 4 (l.map aI))) (hk : xb l = true) (hH' : aX H id (.vec 4 ((fS l).map aI)) = some H') :
  LC Tryz.prog 183 [.vec 4 id (l.map aI).length 0 (l.map aI).length, .fn 184 [] []] H (Is (.tup []) H') := by
 obtain ⟨e3, -⟩ := aW hH';subst e3;have hk := of_decide_eq_true hk;refine LC.sortVotes Tryz.ltV (fun p cap fv w => AnyF.slices_SortFunc_none Tryz.sortVt p cap fv w) (fun blk off cap d w hH hb hs => ?_) hH hk.2 hk.1;exact AnyQ.slices_SortFunc Tryz.sortVt 4 Tryz.isAgg54 Tryz.sizeOf54 i5 (fun _ => rfl) (fun x v hv => by simp [i5] at hv; rcases hv with rfl | rfl | rfl | rfl <;> rfl) (fun x y => Lib.compareInt x.From y.From) Tryz.swoV 184 #[] blk off cap d w (enters_of Tryz.func184 (by kernel_rfl) Z) (fun _ _ _ _ x y => Tryz.closV x y _) hH hb hs
end Go.Proofs
namespace Go.Mg
open Go.Proofs
def pm (l : List Vt) : Option (List Vt) :=
 bif xb l then
  some (fS l)
 else none
theorem Co {l : List Vt} {r_ : List Vt} (hr : pm l = some r_) : LC Tryz.prog 168 [(jV 0 l)] [.vec 4 (l.map aI)] (Is (jV 0 r_) [.vec 4 (r_.map aI)]) := by
 refine dc Tryz.func168 Z Z Z ?_;unfold pm at hr;refine zQ<|zR<|zM Z<|zN<|zT<|zQ<|zR<|zM Z<|zg hr fun q1 hr => yS Z (zC Z Z Z (by kernel_rfl) (Tryz.sortV_call Z q1 Z))<|zN<|zT<|zQ<|zR<|zM Z<|zM Z<|zN<|zT<|zr ?_;obtain rfl := zJ hr;exact ap (.one (.tmp Z)) (⟨congrArg (fun n => LV.vec 4 0 n 0 n) (show (l.map aI).length = ((fS l).map aI).length by rw [List.length_map, List.length_map, (bS l).length_eq]), rfl⟩)
open Go.Proofs
structure fq where
 out : List Vt
def kr (slot : Int) (b : List (Du × ID) × List (Du × Bool)) (j_ : Nat) (d_ : fq) : Option fq :=
 (b.1[j_]?).bind fun y1 =>
 (
  bif ((y1.1.frm == y1.1.frm) && ((y1.1.slot == slot) && true)) then
   some (!((ah b.2 y1.1).getD false))
  else
   some false
 ).bind fun v1 =>
 bif v1 then
  bif room d_.out.length [Vt.mk y1.1.frm slot y1.2].length 32 then
   some (fq.mk (d_.out ++ [Vt.mk y1.1.frm slot y1.2]))
  else none
 else
  some (fq.mk d_.out)
def Kd (slot : Int) (b : List (Du × ID) × List (Du × Bool)) (ord_ : List Nat) : Option (List Vt) :=
 (fO (kr slot b) ord_ (fq.mk ([] : List Vt))).bind fun d_ =>
 (pm d_.out).bind fun v2 =>
 some v2
theorem KV {l : List Vt} {slot : Int} {b : List (Du × ID) × List (Du × Bool)} {r_ : List Vt} (hb : uo l = some b) (hr : ∀ ord_ : List Nat, ord_.Perm (List.range b.1.length) → Kd slot b ord_ = some r_) : LC Tryz.prog 148 [(kV l), (iQ slot)] [] (Is (jV 0 r_) [.vec 4 (r_.map aI)]) := by
 refine dc Tryz.func148 Z Z Z ?_;unfold Kd at hr;refine zQ<|zR<|zM Z<|zN<|zT<|zQ<|zR<|zM Z<|zN<|zT<|zQ<|zR<|zM Z<|yS Z (zC Z Z Z (by kernel_rfl) (GH hb))<|yS Z (ze Z xp Z Z)<|yS Z (zs Z Z Z Z tI Z Z Z Z)<|zN<|zT<|zQ<|zQ<|zR<|yS Z (zA Z Z qu)<|yS Z (zD Z Z Z xi Z Z) ?_;refine yS Z (ab.rangeMap (es := (af ry (fun v => .p (bH v)) b.1)) Z Z Z (nZ _) (by kernel_rfl) Z Z) ?_;refine zN<|zT<|LW.ent (bM.lazy (t := 5) (m := 4) Z Z Z) ?_;refine LW.mapTail (D := fq) (G := fun d_ s_ => sX (kr slot b) b.1.length (fq.mk ([] : List Vt)) s_ d_ ∧ s_.Perm (List.range b.1.length)) (fun d_ s_ => [(4, .zs), (5, (jV 6 d_.out))]) (fun d_ s_ => [.box [.map 1, .map 2], .map (af ry (fun v => .p (bH v)) b.1), .map (af ry (fun v => (bQ v)) b.2), .box [.map 1, .map 2], .box [.map 1, .map 2], .iter (.map 1) b.1.length s_, .vec 4 (d_.out.map aI)]) ?_<|fun d_ s_ hG env_m H_m hw_m => ?_
 ·refine LW.block ?_;have hall : ∀ ord : List Nat, ord.Perm (List.range b.1.length) → ∃ z, fO (kr slot b) ord (fq.mk ([] : List Vt)) = some z := fun ord ho => (zB (hr ord ho)).imp fun z h => h.1;refine LW.mapLoop (step := (kr slot b)) (n := b.1.length) (d0 := fq.mk ([] : List Vt)) (fun d_ s_ => [(1, (iQ slot)), (4, .zs), (5, (jV 6 d_.out)), (6, .ptr 4 0), (13, .ptr 5 0)]) (fun d_ s_ => [.box [.map 1, .map 2], .map (af ry (fun v => .p (bH v)) b.1), .map (af ry (fun v => (bQ v)) b.2), .box [.map 1, .map 2], .box [.map 1, .map 2], .iter (.map 1) b.1.length s_, .vec 4 (d_.out.map aI)]) hall (zW 7 ⟨rfl, rfl, rfl, rfl, rfl, trivial⟩ Z Z Z (zL Z (zL (ae (fun _ => rfl) _) (zL (ae (fun _ => rfl) _) (zL Z (zL Z (zL Z (zL Z Z))))))))<|fun d_ s_ hS => ?_;refine zQ<|zR ?_;refine am.cons Z Z Z (ab.nextMap (es := (af ry (fun v => .p (bH v)) b.1)) Z Z Z Z (nZ _)) ?_;rintro x_ H_ (⟨ha_, rfl, rfl⟩ | ⟨j_, hj_, hs_, rfl, rfl⟩)
  ·
   exact yS Z (fA Z Z Z)<|zN<|zT<|zQ<|LW.condF Z<|zq<|ao<|ao<|zy<|zT<|⟨d_, s_, hS.all ha_, zW 7 ⟨rfl, rfl, trivial⟩ Z Z Z (zL Z (zL (ae (fun _ => rfl) _) (zL (ae (fun _ => rfl) _) (zL Z (zL Z (zL Z (zL Z Z)))))))⟩
  ·
   obtain ⟨e_, hr0, -⟩ := hS.next hall hj_ hs_;have hr := hr0;unfold kr at hr;refine yS Z (fA Z Z Z)<|zN<|zT<|zQ<|LW.condT Z<|zk<|zT<|zl<|zQ<|zR<|zb hr fun y1 h_y1 hr => ?_;refine yS Z (ab.entryMap (es := (af ry (fun v => .p (bH v)) b.1)) Z Z Z Z (nZ _) (Cy h_y1)) ?_;refine yS Z (fA Z Z Z)<|yS Z (fA Z Z Z)<|yS Z (ze Z DK Z Z)<|yS Z (ze Z jo Z Z)<|yS Z (zs Z Z Z Z mz Z Z Z Z)<|yS Z (zs Z Z Z Z aR Z Z Z Z)<|zN<|zT ?_;obtain ⟨v1, hb_v1, ho_v1⟩ := zB hr;clear hr;refine LW.cut (E := [(1, (iQ slot)), (4, .zs), (5, (jV 6 d_.out)), (6, .ptr 4 0), (7, .ptr 7 0), (8, .ptr 8 0), (13, .ptr 5 0), (31, (bQ v1))]) (O := [.box [.map 1, .map 2], .map (af ry (fun v => .p (bH v)) b.1), .map (af ry (fun v => (bQ v)) b.2), .box [.map 1, .map 2], .box [.map 1, .map 2], .iter (.map 1) b.1.length (s_ ++ [j_]), .vec 4 (d_.out.map aI), .box [(iQ y1.1.frm), (iQ y1.1.slot)], .box [(uQ y1.2.1), (uQ y1.2.2)]]) ?_ ?_
   ·have hr := hb_v1;refine zR<|yS Z (zD Z Z Z mz Z Z)<|yS Z (zA Z Z u6)<|yS Z (zD Z Z Z bC Z Z)<|zM Z<|yS Z (ab.build Z Cd Z Z Z)<|yS Z (ab.eqlAgg Z Z Z Z Z EI)<|zM Z ?_;refine zc 25 Z (fun g1 => ?_)<|fun g1 => ?_
    ·
     refine zi g1 hr fun hr => yV Z (gd g1 Z) (zA Z Z u5)<|yV Z (gd g1 Z) (zD Z Z Z Dx Z Z)<|yV Z (gd g1 Z) (zD Z Z Z mz Z Z) ?_;refine yV Z (gd g1 Z) (ab.getX (f := ry) (g := (fun v => (bQ v))) y1.1 false xX Z Z Z Z C4 JZ Z Z) ?_;refine yV Z (gd g1 Z) (ab.not Z Z)<|yS Z (eP Z (bL g1 Z) Z)<|zN<|zT ?_;obtain rfl := zJ hr;exact zW 9 ⟨Z, Z, Z, Z, Z, Z, Z, Z, trivial⟩ Z Z Z<|zL Z<|zL (ae (fun _ => rfl) _)<|zL (ae (fun _ => rfl) _)<|zL Z<|zL Z<|zL Z<|zL Z<|zL Z<|zL Z Z
    ·
     refine zo g1 hr fun hr => yU Z (gd g1 Z) Z<|yU Z (gd g1 Z) Z<|yU Z (gd g1 Z) Z<|yU Z (gd g1 Z) Z<|yU Z (gd g1 Z) Z<|yS Z (db Z (bL g1 Z) Z)<|zN<|zT ?_;obtain rfl := zJ hr;exact zW 9 ⟨Z, Z, Z, Z, Z, Z, Z, Z, trivial⟩ Z Z Z<|zL Z<|zL (ae (fun _ => rfl) _)<|zL (ae (fun _ => rfl) _)<|zL Z<|zL Z<|zL Z<|zL Z<|zL Z<|zL Z Z
   ·have hr := ho_v1;clear hb_v1;refine zX Z (fun g2 => ?_)<|fun g2 => ?_
    ·
     refine zi g2 hr fun hr => zR<|zM Z<|yS Z (zA Z Z u6)<|yS Z (zD Z Z Z bC Z Z)<|zM Z<|yS Z (zD Z Z Z aR Z Z)<|yS Z (ab.build Z Gs Z Z Z)<|yS Z (mD Z dF Z Z Z Z Z)<|zg hr fun q1 hr => yS Z (ab.appendX aI d_.out [Vt.mk y1.1.frm slot y1.2] rfl Z Z Z kg.p Z dF q1 Z)<|zM Z<|zN<|ai<|zT ?_;obtain rfl := zJ hr;exact ⟨j_, _, hj_, hs_, hr0, zW 7 ⟨rfl, rfl, rfl, rfl, rfl, trivial⟩ Z Z Z (zL Z (zL (ae (fun _ => rfl) _) (zL (ae (fun _ => rfl) _) (zL Z (zL Z (zL Z (zL Z Z)))))))⟩
    ·
     refine zo g2 hr fun hr => zk<|ai<|zT ?_;obtain rfl := zJ hr;exact ⟨j_, _, hj_, hs_, hr0, zW 7 ⟨rfl, rfl, rfl, rfl, rfl, trivial⟩ Z Z Z (zL Z (zL (ae (fun _ => rfl) _) (zL (ae (fun _ => rfl) _) (zL Z (zL Z (zL Z (zL Z Z)))))))⟩
 ·have hr := HL (hr s_ hG.2) hG.1.came;refine zT<|LW.weak hw_m<|zQ<|LW.ent (bM.last (t := 5) (j := 0) (Hj := []) Z Z Z Z Z Z Z)<|zR<|zM Z<|zb hr fun v2 h_v2 hr => yS Z (zC Z Z Z (by kernel_rfl) (Co h_v2))<|zM Z<|zN<|zT<|zr ?_;obtain rfl := zJ hr;exact ap (.one (.tmp Z))<|⟨rfl, rfl⟩
open Go.Proofs
theorem m5 {α β : Type} [DecidableEq α] (k : α) (v : β) : ∀ m : List (α × β), (aN m k v).map Prod.fst = if k ∈ m.map Prod.fst then m.map Prod.fst else m.map Prod.fst ++ [k]
 | [] => by simp [aN]
 | (x, y) :: r => by
  have ih := m5 k v r;by_cases h : x = k
  ·subst h; simp [aN]
  ·have h' : ¬ k = x := fun e => h e.symm;simp only [aN, if_neg h, List.map_cons, ih, List.mem_cons, h', false_or];split <;> rfl
theorem wT {α β : Type} [DecidableEq α] {m : List (α × β)} (k : α) (v : β) (h : (m.map Prod.fst).Nodup) : ((aN m k v).map Prod.fst).Nodup := by
 rw [m5];split
 ·exact h
 ·rename_i hk;exact List.nodup_append.2 ⟨h, by simp, fun a ha b hb => by rw [List.mem_singleton] at hb; subst hb; exact fun e => hk (e ▸ ha)⟩
theorem CS {α β : Type} [DecidableEq α] (m : List (α × β)) (k : α) (v : β) : (aN m k v).length ≤ m.length + 1 := by
 have h := congrArg List.length (m5 k v m);split at h <;> simp at h <;> omega
def nE (v : Vt) : Du := ⟨v.From, v.Slot⟩
def td (h : List (Du × ID)) (v : Vt) : Bool := match ah h (nE v) with
 | some w => decide (w ≠ v.Head)
 | none => false
def B9 (b : List (Du × ID) × List (Du × Bool)) (v : Vt) : List (Du × ID) × List (Du × Bool) := (aN b.1 (nE v) v.Head, if td b.1 v = true then aN b.2 (nE v) true else b.2)
def bA (l : List Vt) : List (Du × ID) × List (Du × Bool) := l.foldl B9 ([], [])
theorem jw (l : List Vt) (v : Vt) : bA (l ++ [v]) = B9 (bA l) v := by unfold bA; rw [List.foldl_append]; rfl
theorem BO {l : List Vt} (hl : l.length ≤ 100000) : uo l = some (bA l) := by
 have e := aB (step := iY l) (n := l.length) (fun k => dr.mk (k : Int) (bA (l.take k)).1 (bA (l.take k)).2) (dr.mk (l.length : Int) (bA l).1 (bA l).2) (fun k hk => by
  obtain ⟨y, hy, -⟩ := aD hk
  have et : l.take (k + 1) = l.take k ++ [y] := by rw [List.take_add_one, hy]; rfl
  unfold iY;simp only;rw [decide_eq_true (show (k : Int) < (l.length : Int) by omega), ct, aG hy, ob, et, jw, ak (n := k) (by omega)];generalize bA (l.take k) = b;unfold B9 td nE
  cases hf : ah b.1 (Du.mk y.From y.Slot) with
  | none => simp only [Option.isSome_none, cf]; rfl
  | some w =>
   simp only [Option.isSome_some, ct, Option.getD_some, z7];by_cases hw : w = y.Head
   ·rw [decide_eq_true hw, Bool.not_true, cf]; simp [hw]
   ·rw [decide_eq_false hw, Bool.not_false, ct]; simp [hw]) (by
  unfold iY;simp only
  rw [decide_eq_false (show ¬ (l.length : Int) < (l.length : Int) by omega), cf, List.take_length]) (by omega)
 have e' : iter (iY l) bG (dr.mk 0 [] []) = _ := e;unfold uo;rw [e', ob]
theorem nQ (l : List Vt) : ((bA l).1.map Prod.fst).Nodup ∧ (bA l).1.length ≤ l.length := by
 have key : ∀ k, k ≤ l.length → ((bA (l.take k)).1.map Prod.fst).Nodup ∧ (bA (l.take k)).1.length ≤ k := by
  intro k
  induction k with
  | zero => intro _; simp [bA]
  | succ k ih =>
   intro hk;obtain ⟨y, hy, -⟩ := aD (l := l) (n := k) (by omega)
   have et : l.take (k + 1) = l.take k ++ [y] := by rw [List.take_add_one, hy]; rfl
   obtain ⟨h1, h2⟩ := ih (by omega);rw [et, jw];exact ⟨wT _ _ h1, Nat.le_trans (CS _ _ _) (by omega)⟩
 have := key l.length (Nat.le_refl _)
 rwa [List.take_length] at this
def fQ (d : List (Du × Bool)) (slot : Int) (e : Du × ID) : Option Vt := if e.1.slot = slot ∧ (ah d e.1).getD false = false then some ⟨e.1.frm, slot, e.2⟩ else none
def m0 (b : List (Du × ID) × List (Du × Bool)) (slot : Int) (j : Nat) : Option Vt := (b.1[j]?).bind (fQ b.2 slot)
theorem ux {slot : Int} {b : List (Du × ID) × List (Du × Bool)} : ∀ (ord : List Nat) (out : List Vt), (∀ j ∈ ord, j < b.1.length) → out.length + ord.length ≤ 100000 → fO (kr slot b) ord (fq.mk out) = some (fq.mk (out ++ ord.filterMap (m0 b slot)))
 | [], out, _, _ => by simp [fO]
 | j :: r, out, hj, hl => by
  obtain ⟨e, he, -⟩ := aD (hj j (.head _))
  have hl2 : out.length + r.length + 1 ≤ 100000 := by simp only [List.length_cons] at hl; omega
  have hs : kr slot b j (fq.mk out) = some (fq.mk (out ++ (fQ b.2 slot e).toList)) := by
   unfold kr;rw [he, ob];unfold fQ;simp only;rw [beq_self_eq_true, Bool.true_and, Bool.and_true];by_cases h1 : e.1.slot = slot
   ·rw [beq_iff_eq.2 h1, ct, ob]
    cases h2 : (ah b.2 e.1).getD false with
    | false =>
     rw [Bool.not_false, ct, aP (by simp only [List.length_singleton]; omega) (by omega), ct, if_pos ⟨h1, rfl⟩]; rfl
    | true => rw [Bool.not_true, cf, if_neg (by simp)]; simp
   ·rw [beq_eq_false_iff_ne.2 h1, cf, ob, cf, if_neg (fun h => h1 h.1)]; simp
  have hlen : (fQ b.2 slot e).toList.length ≤ 1 := by cases fQ b.2 slot e <;> simp
  unfold fO;rw [hs];simp only;rw [ux r _ (fun i hi => hj i (.tail _ hi)) (by rw [List.length_append]; omega)]
  have hk : m0 b slot j = fQ b.2 slot e := by unfold m0; rw [he]; rfl
  rw [List.filterMap_cons, hk];cases fQ b.2 slot e <;> simp
theorem w6 (b : List (Du × ID) × List (Du × Bool)) (slot : Int) : (List.range b.1.length).filterMap (m0 b slot) = b.1.filterMap (fQ b.2 slot) := by
 have key : ∀ k, k ≤ b.1.length → (List.range k).filterMap (m0 b slot) = (b.1.take k).filterMap (fQ b.2 slot) := by
  intro k
  induction k with
  | zero => intro _; rfl
  | succ k ih =>
   intro hk;obtain ⟨y, hy, -⟩ := aD (l := b.1) (n := k) (by omega)
   have et : b.1.take (k + 1) = b.1.take k ++ [y] := by rw [List.take_add_one, hy]; rfl
   rw [List.range_succ, List.filterMap_append, ih (by omega), et, List.filterMap_append];congr 1
   have hk2 : m0 b slot k = fQ b.2 slot y := by unfold m0; rw [hy]; rfl
   rw [List.filterMap_cons, List.filterMap_cons, hk2];rfl
 have := key b.1.length (Nat.le_refl _)
 rwa [List.take_length] at this
def EU (l : List Vt) (slot : Int) : List Vt := fS ((bA l).1.filterMap (fQ (bA l).2 slot))
theorem vj {m : List (Du × ID)} {d : List (Du × Bool)} {slot : Int} (h : (m.map Prod.fst).Nodup) : ∀ x ∈ m.filterMap (fQ d slot), ∀ y ∈ m.filterMap (fQ d slot), x.From = y.From → x = y := by
 have hmem : ∀ x ∈ m.filterMap (fQ d slot), (⟨x.From, slot⟩, x.Head) ∈ m ∧ x.Slot = slot := by
  intro x hx;obtain ⟨e, he, hk⟩ := List.mem_filterMap.1 hx;unfold fQ at hk;split at hk
  ·rename_i hc;cases hk;obtain ⟨⟨f, s⟩, id⟩ := e;simp only at hc;obtain ⟨rfl, -⟩ := hc;exact ⟨he, rfl⟩
  ·cases hk
 intro x hx y hy hf;obtain ⟨h1, h2⟩ := hmem x hx;obtain ⟨h3, h4⟩ := hmem y hy;rw [← hf] at h3
 have hh : x.Head = y.Head := by
  obtain ⟨i, hi⟩ := List.getElem?_of_mem h1;obtain ⟨j, hj⟩ := List.getElem?_of_mem h3
  have hi' : (m.map Prod.fst)[i]? = some ⟨x.From, slot⟩ := by rw [List.getElem?_map, hi]; rfl
  have hj' : (m.map Prod.fst)[j]? = some ⟨x.From, slot⟩ := by rw [List.getElem?_map, hj]; rfl
  have := (List.getElem?_inj (List.getElem?_eq_some_iff.1 hi').1 h).1 (hi'.trans hj'.symm);subst this;rw [hi] at hj;exact congrArg Prod.snd<|Option.some.inj hj
 cases x; cases y;simp only at hf h2 h4 hh;subst hf h2 hh;rw [h4]
theorem Gc {l : List Vt} (hl : l.length ≤ 90000) (slot : Int) : ∀ ord : List Nat, ord.Perm (List.range (bA l).1.length) → Kd slot (bA l) ord = some (EU l slot) := by
 intro ord ho;obtain ⟨h1, h2⟩ := nQ l;have hlen := ho.length_eq;rw [List.length_range] at hlen;unfold Kd EU;have hp := ho.filterMap (m0 (bA l) slot);rw [w6] at hp;have hk : xb (ord.filterMap (m0 (bA l) slot)) = true := decide_eq_true ⟨Nat.le_trans (List.length_filterMap_le _ _) (by omega), fun x hx y hy => vj h1 x (hp.mem_iff.1 hx) y (hp.mem_iff.1 hy)⟩;rw [ux ord [] (fun j hj => List.mem_range.1 (ho.mem_iff.1 hj)) (by simp; omega), ob, List.nil_append];simp only;unfold pm;rw [hk, ct, AF hp.symm (vj h1)];rfl
def Ej (v : List Vt) (slot : Int) : Option (List Vt) := bif Nat.ble v.length 90000 then some (EU v slot) else none
theorem IY {v : List Vt} {slot : Int} {r_ : List Vt} (hr : Ej v slot = some r_) : LC Tryz.prog 148 [.p (.slice 4 (v.map aI)), .p (.int .i64 slot)] [] (Is (.vec 4 0 (r_.map aI).length 0 (r_.map aI).length) [.vec 4 (r_.map aI)]) := by
 unfold Ej at hr;obtain ⟨q, hr⟩ := yf hr;obtain rfl := Option.some.inj hr;have hl := Nat.le_of_ble_eq_true q;exact KV (BO (by omega))<|Gc hl slot
open Go.Proofs
structure ei where
 t8 : Int
def iL (s : List Int) (v : Int) (x1 : ei) : Option (ei ⊕ (ei ⊕ Int)) :=
 bif decide (x1.t8 < (s.length : Int)) then
  (ix s x1.t8).bind fun y1 =>
  bif v == y1 then
   some (.inr (.inr x1.t8))
  else
   some (.inl (ei.mk (IntKind.i64.wrap (x1.t8 + 1))))
 else
  some (.inr (.inl (ei.mk x1.t8)))
def xv (s : List Int) (v : Int) : Option Int :=
 (iter (iL s v) bG (ei.mk 0)).bind fun b_v1 => Sum.elim (fun _ =>
  some (-1)) some b_v1
theorem H5 {s : List Int} {v : Int} {r_ : Int} (hr : xv s v = some r_) : av Tryz.prog 186 [.slice 1 (s.map aE), .int .i64 v] [.int .i64 r_] := by
 refine zh Tryz.func186 Z Z Z Z ?_;unfold xv at hr;refine zQ<|zR<|zM Z<|zN<|zT<|zQ<|zQ<|zR<|zM Z<|yS Z (dT Z Z (by kernel_rfl))<|zM Z<|zN<|zT ?_;obtain ⟨b_v1, hb_v1, ho_v1⟩ := zB hr;clear hr;refine LW.tailB (b := b_v1) (E := fun v1 => [(4, (iQ 0))]) (O := fun v1 => []) ?_<|fun v1 e_v1 env_v1 H_v1 hw_v1 => ?_
 ·refine LW.block ?_;refine LW.iterB (E := fun x1 : ei => [(0, (kI s)), (1, (iQ v)), (4, (iQ 0)), (7, .p (.int .i64 (s.length : Int))), (8, (iQ x1.t8))]) (O := fun x1 => []) hb_v1 (zW 0 ⟨rfl, rfl, rfl, rfl, rfl, trivial⟩ Z Z Z Z)<|fun x1 z_x1 hr hb_x1 => ?_;unfold iL at hr;refine zQ<|zR<|yS Z (aw Z Z Z Z)<|zN<|zT<|zQ ?_;refine zX Z (fun g1 => ?_)<|fun g1 => ?_
  ·
   refine zi g1 hr fun hr => zk<|zT<|zQ<|zl<|zQ<|zR<|zM Z<|zM Z<|zN<|zT<|zQ<|zR<|zM Z<|zM Z<|zM Z<|zb hr fun y1 h_y1 hr => yS Z (zx Z Z Z G6 h_y1 Z)<|yS Z (dS Z Z Z bC Z Z)<|yS Z (aw Z Z Z Z)<|zN<|zT ?_;refine zX Z (fun g2 => ?_)<|fun g2 => ?_
   ·
    refine zi g2 hr fun hr => zQ<|zR<|zM Z<|zM Z<|zN<|zT<|zr<|ay<|aj<|aj<|ay<|aj<|aj ?_;obtain rfl := zJ hr;have hr := congrArg some (hb_x1 _ rfl);obtain rfl := zJ hr;have hr := d8 ho_v1;obtain rfl := zJ hr;exact zf (.one (.tmp Z)) zv
   ·
    refine zo g2 hr fun hr => zk<|ai<|zT<|zR<|yS Z (aw Z Z Z Z)<|zM Z<|zN<|zT ?_;obtain rfl := zJ hr;exact ⟨_, rfl, zW 0 ⟨rfl, rfl, rfl, rfl, rfl, trivial⟩ Z Z Z rfl⟩
  ·
   refine zo g1 hr fun hr => zq<|ao<|ao<|zy<|zT ?_;obtain rfl := zJ hr;have hr := congrArg some (hb_x1 _ rfl);obtain rfl := zJ hr;exact ⟨_, rfl, zW 0 ⟨rfl, trivial⟩ Z Z Z rfl⟩
 ·obtain rfl := e_v1;have hr := gb ho_v1;clear hb_v1;refine zT<|LW.weak hw_v1<|zQ<|zR<|zM Z<|zN<|zT<|zr ?_;obtain rfl := zJ hr;exact zf (.one (.tmp Z)) zv
def tY (s : List Int) (v : Int) : Option Bool :=
 (xv s v).bind fun v1 =>
 some (decide (v1 ≥ 0))
theorem H4 {s : List Int} {v : Int} {r_ : Bool} (hr : tY s v = some r_) : av Tryz.prog 169 [.slice 1 (s.map aE), .int .i64 v] [.bool r_] := by
 refine zh Tryz.func169 Z Z Z Z ?_;unfold tY at hr;refine zQ<|zR<|zM Z<|zN<|zT<|zQ<|zR<|zM Z<|zM Z<|zb hr fun v1 h_v1 hr => yS Z (zC Z Z Z (by kernel_rfl) (zp (H5 h_v1) (.cons zv (.cons zv .nil))))<|yS Z (aw Z Z Z Z)<|zM Z<|zN<|zT<|zr ?_;obtain rfl := zJ hr;exact zf (.one (.tmp Z)) zv
def rH (b : List Int) (v : Vt) : Option Bool :=
 (tY b v.From).bind fun v1 =>
 some (!v1)
theorem Fl {b : List Int} {v : Vt} {r_ : Bool} (hr : rH b v = some r_) : av Tryz.prog 149 [.slice 1 (b.map aE), aI v] [.bool r_] := by
 refine zh Tryz.func149 Z Z Z Z ?_;unfold rH at hr;refine zQ<|zR<|yS Z (bV Z Z Z Z Z)<|zM Z<|zN<|zT<|zQ<|zR<|zM Z<|yS Z (zA Z Z qz)<|yS Z (zD Z Z Z bC Z Z)<|zb hr fun v1 h_v1 hr => yS Z (zC Z Z Z (by kernel_rfl) (zp (H4 h_v1) (.cons zv (.cons zv .nil))))<|yS Z (ab.not Z Z)<|zM Z<|zN<|zT<|zr ?_;obtain rfl := zJ hr;exact zf (.one (.tmp Z)) zv
structure gy where
 t8 : Int
def iN (lV : List Vt) (kk : Nat) (cm : List Int) (x1 : gy) : Option (gy ⊕ (gy ⊕ Int)) :=
 bif decide (x1.t8 < (kk : Int)) then
  (ix (lV.take kk) x1.t8).bind fun y1 =>
  (rH cm y1).bind fun v2 =>
  bif v2 then
   some (.inr (.inr x1.t8))
  else
   some (.inl (gy.mk (IntKind.i64.wrap (x1.t8 + 1))))
 else
  some (.inr (.inl (gy.mk x1.t8)))
def uc (lV : List Vt) (kk : Nat) (cm : List Int) : Option Int :=
 (iter (iN lV kk cm) bG (gy.mk 0)).bind fun b_v1 => Sum.elim (fun _ =>
  some (-1)) some b_v1
theorem GD {c : Cf} {lV : List Vt} {kk : Nat} {cm : List Int} {r_ : Int} (hr : uc lV kk cm = some r_) : LC Tryz.prog 170 [.vec 4 1 (lV.map aI).length 0 kk, .fn 149 [(kI cm)] []] [.box (bB c), .vec 4 (lV.map aI)] (Is (iQ r_) [.box (bB c), .vec 4 (lV.map aI)]) := by
 refine dc Tryz.func170 Z Z Z ?_;unfold uc at hr;refine zQ<|zR<|zM Z<|zN<|zT<|zQ<|zQ<|zR<|zM Z<|yS Z (ab.lenVP Z Z Z (by kernel_rfl))<|zM Z<|zN<|zT ?_;obtain ⟨b_v1, hb_v1, ho_v1⟩ := zB hr;clear hr;refine LW.tailB (b := b_v1) (E := fun v1 => [(4, (iQ 0))]) (O := fun v1 => [.box (bB c), .vec 4 (lV.map aI)]) ?_<|fun v1 e_v1 env_v1 H_v1 hw_v1 => ?_
 ·refine LW.block ?_;refine LW.iterB (E := fun x1 : gy => [(0, .vec 4 1 (lV.map aI).length 0 kk), (1, .fn 149 [(kI cm)] []), (4, (iQ 0)), (7, .p (.int .i64 (kk : Int))), (8, (iQ x1.t8))]) (O := fun x1 => [.box (bB c), .vec 4 (lV.map aI)]) hb_v1 (zW 2 ⟨rfl, rfl, rfl, rfl, rfl, trivial⟩ Z Z Z Z)<|fun x1 z_x1 hr hb_x1 => ?_;unfold iN at hr;refine zQ<|zR<|yS Z (aw Z Z Z Z)<|zN<|zT<|zQ ?_;refine zX Z (fun g1 => ?_)<|fun g1 => ?_
  ·
   refine zi g1 hr fun hr => zk<|zT<|zQ<|zl<|zQ<|zR<|zM Z<|zM Z<|zN<|zT<|zQ<|zR<|zM Z<|zM Z<|zM Z<|zb hr fun y1 h_y1 hr => yS Z (ab.indexAddrVP Z Z Z Z dF h_y1)<|yS Z (ab.loadVX Z Z Z cB (fE h_y1).1 Z Z Z Z)<|zb hr fun v2 h_v2 hr => yS Z (zC Z Z Z (by kernel_rfl) (zp (Fl h_v2) (.cons zv (.cons zv .nil))))<|zN<|zT ?_;refine zX Z (fun g2 => ?_)<|fun g2 => ?_
   ·
    refine zi g2 hr fun hr => zQ<|zR<|zM Z<|zM Z<|zN<|zT<|zr<|ay<|aj<|aj<|ay<|aj<|aj ?_;obtain rfl := zJ hr;have hr := congrArg some (hb_x1 _ rfl);obtain rfl := zJ hr;have hr := d8 ho_v1;obtain rfl := zJ hr;exact ap (.one (.tmp Z))<|⟨rfl, rfl⟩
   ·
    refine zo g2 hr fun hr => zk<|ai<|zT<|zR<|yS Z (aw Z Z Z Z)<|zM Z<|zN<|zT ?_;obtain rfl := zJ hr;exact ⟨_, rfl, zW 2 ⟨rfl, rfl, rfl, rfl, rfl, trivial⟩ Z Z Z rfl⟩
  ·
   refine zo g1 hr fun hr => zq<|ao<|ao<|zy<|zT ?_;obtain rfl := zJ hr;have hr := congrArg some (hb_x1 _ rfl);obtain rfl := zJ hr;exact ⟨_, rfl, zW 2 ⟨rfl, trivial⟩ Z Z Z rfl⟩
 ·obtain rfl := e_v1;have hr := gb ho_v1;clear hb_v1;refine zT<|LW.weak hw_v1<|zQ<|zR<|zM Z<|zN<|zT<|zr ?_;obtain rfl := zJ hr;exact ap (.one (.tmp Z))<|⟨rfl, rfl⟩
structure fK where
 i : Int
 j : Int
 o1 : List Vt
def iM (kk : Nat) (cm : List Int) (x1 : fK) : Option (fK ⊕ fK) :=
 bif decide (x1.j < (kk : Int)) then
  (ix (x1.o1.take kk) x1.j).bind fun y1 =>
  (rH cm y1).bind fun v3 =>
  bif !v3 then
   (ix (x1.o1.take kk) x1.i).bind fun _ =>
   some (.inl (fK.mk (IntKind.i64.wrap (x1.i + 1)) (IntKind.i64.wrap (x1.j + 1)) (x1.o1.set x1.i.toNat y1)))
  else
   some (.inl (fK.mk x1.i (IntKind.i64.wrap (x1.j + 1)) x1.o1))
 else
  some (.inr (fK.mk x1.i x1.j x1.o1))
def t7 (lV : List Vt) (kk : Nat) (cm : List Int) : Option (Nat × List Vt) :=
 (uc lV kk cm).bind fun v1 =>
 bif v1 == (-1) then
  some (kk, lV)
 else
  (iter (iM kk cm) bG (fK.mk v1 (IntKind.i64.wrap (v1 + 1)) lV)).bind fun v2 =>
  bif decide (0 ≤ v2.i ∧ v2.i ≤ (kk : Int)) then
   bif decide (v2.i.toNat + (kk - v2.i.toNat) ≤ v2.o1.length) then
    bif decide (0 ≤ v2.i ∧ v2.i ≤ (kk : Int)) then
     some (v2.i.toNat, iD v2.o1 v2.i.toNat (kk - v2.i.toNat) (Vt.mk 0 0 (0, 0)))
    else none
   else none
  else none
theorem Gz {c : Cf} {lV : List Vt} {kk : Nat} {cm : List Int} {r_ : Nat × List Vt} (hr : t7 lV kk cm = some r_) : LC Tryz.prog 150 [.vec 4 1 (lV.map aI).length 0 kk, .fn 149 [(kI cm)] []] [.box (bB c), .vec 4 (lV.map aI)] (Is (.vec 4 1 (r_.2.map aI).length 0 r_.1) [.box (bB c), .vec 4 (r_.2.map aI)]) := by
 refine dc Tryz.func150 Z Z Z ?_;unfold t7 at hr;refine zQ<|zR<|zM Z<|zN<|zT<|zQ<|zR<|zM Z<|zM Z<|zb hr fun v1 h_v1 hr => yS Z (zC Z Z Z (by kernel_rfl) (GD h_v1))<|zM Z<|zN<|zT<|zQ<|zQ<|zR<|zM Z<|yS Z (aw Z Z Z Z)<|zN<|zT ?_;refine zX Z (fun g1 => ?_)<|fun g1 => ?_
 ·
  refine zi g1 hr fun hr => zQ<|zR<|zM Z<|zM Z<|zN<|zT<|zr<|aj ?_;obtain rfl := zJ hr;exact ap (.one (.tmp Z))<|⟨rfl, rfl⟩
 ·
  refine zo g1 hr fun hr => zk<|zT<|zQ<|zQ<|zR<|zM Z<|yS Z (aw Z Z Z Z)<|zM Z<|zN<|zT ?_;obtain ⟨v2, hb_v2, ho_v2⟩ := zB hr;clear hr;refine LW.tail (E := [(0, .vec 4 1 (v2.o1.map aI).length 0 kk), (4, .zs), (5, (iQ v2.i))]) (O := [.box (bB c), .vec 4 (v2.o1.map aI)]) ?_<|fun env_v2 H_v2 hw_v2 => ?_
  ·refine LW.block ?_;refine LW.iterB (E := fun x1 : fK => [(0, .vec 4 1 (x1.o1.map aI).length 0 kk), (1, .fn 149 [(kI cm)] []), (4, .zs), (5, (iQ x1.i)), (6, (iQ x1.j))]) (O := fun x1 => [.box (bB c), .vec 4 (x1.o1.map aI)]) hb_v2 (zW 2 ⟨rfl, rfl, rfl, rfl, rfl, trivial⟩ Z Z Z Z)<|fun x1 z_x1 hr hb_x1 => ?_;unfold iM at hr;refine zQ<|zQ<|zR<|zM Z<|zM Z<|yS Z (ab.lenVP Z Z Z (by kernel_rfl))<|yS Z (aw Z Z Z Z)<|zN<|zT ?_;refine zX Z (fun g2 => ?_)<|fun g2 => ?_
   ·
    refine zi g2 hr fun hr => zk<|zT<|zQ<|zl<|zQ<|zR<|zM Z<|zM Z<|zb hr fun y1 h_y1 hr => yS Z (ab.indexAddrVP Z Z Z Z dF h_y1)<|yS Z (ab.loadVX Z Z Z cB (fE h_y1).1 Z Z Z Z)<|yS Z (ze Z rC Z Z)<|yS Z (zs Z Z Z Z cB Z Z Z Z)<|zN<|zT<|zQ<|zR<|zM Z<|yS Z (zD Z Z Z cB Z Z)<|zb hr fun v3 h_v3 hr => yS Z (zC Z Z Z (by kernel_rfl) (zp (Fl h_v3) (.cons zv (.cons zv .nil))))<|yS Z (ab.not Z Z)<|zN ?_;refine zT ?_;refine zX Z (fun g3 => ?_)<|fun g3 => ?_
    ·
     refine zi g3 hr fun hr => zQ<|zR<|zM Z<|zM Z<|yS Z (zD Z Z Z cB Z Z)<|zb hr fun y2 h_y2 hr => yS Z (ab.indexAddrVP Z Z Z Z dF h_y2) ?_;refine yS Z (ab.storeVP (f := aI) (l := x1.o1) y1 Z Z Z Z cB (fun _ => rfl) (fE h_y2).1 Z Z Z Z Z Z Z) ?_;refine zN<|zT<|zR<|zM Z<|yS Z (aw Z Z Z Z)<|zM Z<|zN<|ai<|zT<|zR<|zM Z<|yS Z (aw Z Z Z Z)<|zM Z<|zN<|zT ?_;obtain rfl := zJ hr;exact ⟨_, rfl, zW 2 ⟨(G4 (rfl)), rfl, rfl, rfl, rfl, trivial⟩ Z Z Z rfl⟩
    ·
     refine zo g3 hr fun hr => zk<|ai<|zT<|zR<|zM Z<|yS Z (aw Z Z Z Z)<|zM Z<|zN<|zT ?_;obtain rfl := zJ hr;exact ⟨_, rfl, zW 2 ⟨rfl, rfl, rfl, rfl, rfl, trivial⟩ Z Z Z rfl⟩
   ·
    refine zo g2 hr fun hr => zq<|ao<|ao<|zy<|zT ?_;obtain rfl := zJ hr;have hr := congrArg some (hb_x1 _ rfl);obtain rfl := zJ hr;exact zW 2 ⟨Z, Z, Z, trivial⟩ Z Z Z Z
  ·have hr := ho_v2;clear hb_v2;refine zT<|LW.weak hw_v2<|zQ<|zR<|zM Z<|zM Z<|zg hr fun q1 hr => yS Z (ab.sliceVLo Z Z Z Z dF q1)<|zg hr fun q2 hr => ?_;refine yS Z (ab.clearVP (f := aI) (zs := [.int .i64 0, .int .i64 0, .int .u64 0, .int .u64 0]) (Vt.mk 0 0 (0, 0)) Z Z Z dF (fun _ => rfl) (by kernel_rfl) Z q2 Z) ?_;refine zN<|zT<|zQ<|LW.ent (bM.vlen (t := 0) (n' := ((iD v2.o1 v2.i.toNat (kk - v2.i.toNat) (Vt.mk 0 0 (0, 0))).map aI).length) Z (tb q2))<|zR<|zM Z<|zM Z<|zg hr fun q3 hr => yS Z (ab.sliceVHi Z Z Z Z dF q3)<|zM Z<|zN<|zT<|zr ?_;obtain rfl := zJ hr;exact ap (.one (.tmp Z))<|⟨rfl, rfl⟩
def rG (c : Cf) (v : List Vt) (slot : Int) : Option (List Vt) :=
 (Ej v slot).bind fun v1 =>
 (E9 c slot).bind fun v2 =>
 (t7 v1 ((v1.map aI).length) v2).bind fun v3 =>
 bif Nat.ble v3.1 v3.2.length then
  some (v3.2.take v3.1)
 else none
theorem Fk {c : Cf} {v : List Vt} {slot : Int} {r_ : (List Vt)} (hr : rG c v slot = some r_) : av Tryz.prog 110 [jx c, .slice 4 (v.map aI), .int .i64 slot] [.slice 4 (r_.map aI)] := by
 refine zh Tryz.func110 Z Z Z Z ?_;unfold rG at hr;refine zQ<|zR<|yS Z (bV Z Z Z Z Z)<|zM Z<|zN<|zT<|zQ<|zR<|zM Z<|zM Z<|zb hr fun v1 h_v1 hr => yS Z (ab.callV (qs := [(kV v), (iQ slot)]) Z Z Z (by kernel_rfl) (IY h_v1) (.consC zv (.consC zv .nil)) Z Z)<|zM Z<|zN<|zT<|zQ<|zR<|yS Z (zD Z Z Z bE Z Z)<|zM Z<|zb hr fun v2 h_v2 hr => yS Z (zC Z Z Z (by kernel_rfl) (zp (Kg h_v2) (.cons zv (.cons zv .nil))))<|yS Z (ab.makeFunc Z Z Z)<|zM Z<|zN ?_;refine zT<|zQ<|zR<|zM Z<|zM Z<|yS Z (ab.lenVM Z Z Z (by kernel_rfl))<|zM Z<|yS Z (ab.lenVM Z Z Z (by kernel_rfl))<|yS Z (ab.sliceV3 Z Z Z Z Z dF)<|zM Z<|zb hr fun v3 h_v3 hr => zg hr fun q1 hr => yS Z (zC Z Z Z (by kernel_rfl) (Gz h_v3))<|zM Z<|zN<|zT<|zQ<|zR<|zM Z<|zM Z<|zN<|zT<|zr ?_;obtain rfl := zJ hr;exact zf (.one (.tmp Z))<|(Conv.vecTake Z q1)
def iK (c : Cf) (w : Vw) (slot : Int) : Option ID :=
 (rG c w.V slot).bind fun v1 =>
 (HC c w.B v1).bind fun v2 =>
 some v2
theorem xV {c : Cf} {w : Vw} {slot : Int} {r_ : ID} (hr : iK c w slot = some r_) : av Tryz.prog 61 [jx c, mA w, .int .i64 slot] [bH r_] := by
 refine zh Tryz.func61 Z Z Z Z ?_;unfold iK at hr;refine zQ<|zR<|yS Z (bV Z Z Z Z Z)<|yS Z (bV Z Z Z Z Z)<|yS Z (ze Z jo Z Z)<|zN<|zT<|zQ<|LW.drawLast (m := 9) (by kernel_rfl) (by kernel_rfl) (by kernel_rfl)<|yE Z (zD Z Z Z bE Z Z)<|yE Z (zA Z Z bD)<|yE Z (zD Z Z Z dE Z Z)<|yE Z (zD Z Z Z bE Z Z)<|yE Z (zA Z Z bP)<|yE Z (zD Z Z Z eC Z Z)<|zH Z<|zb hr fun v1 h_v1 hr => yE Z (zC Z Z Z (by kernel_rfl) (zp (Fk h_v1) (.cons zv (.cons zv (.cons zv .nil)))))<|zb hr fun v2 h_v2 hr => yE Z (zC Z Z Z (by kernel_rfl) (zp (Lr h_v2) (.cons zv (.cons zv (.cons zv .nil)))))<|LO.nil<|yS Z (zs Z Z Z Z aR Z Z Z Z)<|zN<|zT ?_;refine LW.ret ?_;obtain rfl := zJ hr;exact zf (.one (.cellAgg Z Z (by kernel_rfl) Z)) zv
structure Wk where
 Node : Nd
 c : Cf
 slot : Int
 told : List Of
open Go.Proofs
def tT (n : Nd) : Option Vw :=
 (xL n.V n.In).bind fun v1 =>
 some v1
theorem HV {n : Nd} {r_ : Vw} (hr : tT n = some r_) : av Tryz.prog 40 [gk n] [mA r_] := by
 refine zh Tryz.func40 Z Z Z Z ?_;unfold tT at hr;refine zQ<|zR<|yS Z (bV Z Z Z Z Z)<|yS Z (ze Z ia Z Z)<|zN<|zT<|zQ<|zR<|yS Z (zA Z Z ce)<|yS Z (zD Z Z Z aT Z Z)<|yS Z (zA Z Z cg)<|yS Z (zD Z Z Z aT Z Z)<|zb hr fun v1 h_v1 hr => yS Z (zC Z Z Z (by kernel_rfl) (zp (DM h_v1) (.cons zv (.cons zv .nil))))<|yS Z (zs Z Z Z Z aT Z Z Z Z)<|zN<|zT<|zr ?_;obtain rfl := zJ hr;exact zf (.one (.cellAgg Z Z (by kernel_rfl) Z)) zv
def xI (no : Int) : Option Nd :=
 some (Nd.mk no 3 (Vw.mk [] []) (Vw.mk [] []) [] (Cu.mk (0, 0) 0 0) false)
theorem Iq {no : Int} {r_ : Nd} (hr : xI no = some r_) : av Tryz.prog 49 [.int .i64 no] [gk r_] := by
 refine zh Tryz.func49 Z Z Z Z ?_;unfold xI at hr;refine zQ<|zR<|yS Z (ze Z rl Z Z)<|zN<|zT<|zQ<|zR<|zM Z<|yS Z (ab.build Z Gk Z Z Z)<|yS Z (zs Z Z Z Z co Z Z Z Z)<|zN<|zT<|zr ?_;obtain rfl := zJ hr;exact zf (.one (.cellAgg Z Z (by kernel_rfl) Z))<|(Conv.agg (.cons zv (.cons zv (.cons Conv.zs (.cons Conv.zs (.cons Conv.zs (.cons Conv.zs (.cons Conv.zs (.cons zv (.cons zv (.cons zv (.cons zv (.cons zv .nil)))))))))))))
def rD (c : Cf) (n : Nd) : Option ID :=
 bif ((IntKind.i64.wrap (n.Tick - 1)).tmod 3) != 2 then
  (iK c n.V (IntKind.i64.wrap ((IntKind.i64.wrap ((IntKind.i64.wrap (n.Tick - 1)).tdiv 3)) - 1))).bind fun v1 =>
  some v1
 else
  (iK c n.V (IntKind.i64.wrap ((IntKind.i64.wrap (n.Tick - 1)).tdiv 3))).bind fun v2 =>
  some v2
theorem Fg {c : Cf} {n : Nd} {r_ : ID} (hr : rD c n = some r_) : av Tryz.prog 25 [jx c, gk n] [bH r_] := by
 refine zh Tryz.func25 Z Z Z Z ?_;unfold rD at hr;refine zQ<|zR<|yS Z (bV Z Z Z Z Z)<|yS Z (bV Z Z Z Z Z)<|yS Z (ze Z jo Z Z)<|zN<|zT<|zQ<|zR<|yS Z (zA Z Z cX)<|yS Z (zD Z Z Z bC Z Z)<|yS Z (aw Z Z Z Z)<|zM Z<|zN<|zT<|zQ<|zR<|zM Z<|yS Z (ab.quo Z Z Z (by decide))<|zM Z<|zN<|zT<|zQ<|zQ ?_;refine zR<|zM Z<|yS Z (ab.rem Z Z Z (by decide))<|yS Z (aw Z Z Z Z)<|zN<|zT ?_;refine zX Z (fun g1 => ?_)<|fun g1 => ?_
 ·
  refine zi g1 hr fun hr => zR<|zM Z<|yS Z (aw Z Z Z Z)<|zM Z<|zN<|zT<|zQ<|zR<|yS Z (zD Z Z Z bE Z Z)<|yS Z (zA Z Z ce)<|yS Z (zD Z Z Z aT Z Z)<|zM Z<|zb hr fun v1 h_v1 hr => yS Z (zC Z Z Z (by kernel_rfl) (zp (xV h_v1) (.cons zv (.cons zv (.cons zv .nil)))))<|yS Z (zs Z Z Z Z aR Z Z Z Z)<|zN<|zT<|zr ?_;obtain rfl := zJ hr;exact zf (.one (.cellAgg Z Z (by kernel_rfl) Z)) zv
 ·
  refine zo g1 hr fun hr => zk<|zT<|zQ<|zR<|yS Z (zD Z Z Z bE Z Z)<|yS Z (zA Z Z ce)<|yS Z (zD Z Z Z aT Z Z)<|zM Z<|zb hr fun v2 h_v2 hr => yS Z (zC Z Z Z (by kernel_rfl) (zp (xV h_v2) (.cons zv (.cons zv (.cons zv .nil)))))<|yS Z (zs Z Z Z Z aR Z Z Z Z)<|zN<|zT<|zr ?_;obtain rfl := zJ hr;exact zf (.one (.cellAgg Z Z (by kernel_rfl) Z)) zv
def pJ (v : Vw) : Option Vw :=
 bif room 0 v.B.length 40 then
  bif room 0 v.V.length 32 then
   some v
  else none
 else none
theorem Cg {v : Vw} {r_ : Vw} (hr : pJ v = some r_) : av Tryz.prog 95 [mA v] [mA r_] := by
 refine zh Tryz.func95 Z Z Z Z ?_;unfold pJ at hr;refine zQ<|zR<|yS Z (bV Z Z Z Z Z)<|yS Z (ze Z ia Z Z)<|zN<|zT<|zQ<|LW.ent (bM.slot Z)<|LW.ent (bM.slot Z)<|LW.drawW (by kernel_rfl) (by kernel_rfl) ?_;refine yF (F := []) (s := none) Z (fun H _ => zA Z Z bD) Z ?_;refine yF Z (zd Z Z Z dE Z Z) Z<|zg hr fun q1 hr => ?_;refine yF Z (bJ.callV (id := 2) (qs := [(kB v.B)]) Z Z Z (by kernel_rfl) (uD q1) (fun H => (.consC zv .nil)) Z) Z ?_;refine yF (F := []) (s := none) Z (fun H _ => zA Z Z bP) Z ?_;refine yF Z (zd Z Z Z eC Z Z) Z<|zg hr fun q2 hr => ?_;refine yF Z (bJ.callV (id := 3) (qs := [(kV v.V)]) Z Z Z (by kernel_rfl) (uE q2) (fun H => (.consC zv .nil)) Z) Z ?_;refine yF (F := []) (s := none) Z (fun H _ => ab.build Z nS Z Z Z) Z ?_;refine yF Z (zt Z Z Z Z aT Z Z Z) Z ?_;refine LF.nil ⟨by kernel_rfl, ?_⟩;refine zT<|zr ?_;obtain rfl := zJ hr;exact zf (.one (.cellAgg Z Z (by kernel_rfl) Z))<|(Conv.agg (.cons (Conv.vecAll Z Z Z) (.cons (Conv.vecAll Z Z Z) .nil)))
def pL (o : Of) : Option Of :=
 (pJ o.V).bind fun v1 =>
 some (Of.mk o.Slot o.From o.B v1)
theorem Ch {o : Of} {r_ : Of} (hr : pL o = some r_) : av Tryz.prog 96 [dP o] [dP r_] := by
 refine zh Tryz.func96 Z Z Z Z ?_;unfold pL at hr;refine zQ<|zR<|yS Z (bV Z Z Z Z Z)<|yS Z (ze Z rm Z Z)<|zN<|zT<|zQ<|zR<|yS Z (zA Z Z jb)<|yS Z (zD Z Z Z aT Z Z)<|zb hr fun v1 h_v1 hr => yS Z (zC Z Z Z (by kernel_rfl) (zp (Cg h_v1) (.cons zv .nil)))<|yS Z (zA Z Z jb)<|yS Z (zs Z Z Z Z aT Z Z Z Z)<|zN<|zT<|zQ<|zR<|yS Z (zD Z Z Z f4 Z Z)<|yS Z (zs Z Z Z Z f4 Z Z Z Z)<|zN<|zT<|zr ?_;obtain rfl := zJ hr;exact zf (.one (.cellAgg Z Z (by kernel_rfl) Z)) zv
def rI (b : Bk) : Option Vw :=
 some (Vw.mk [b] [])
theorem Fm {b : Bk} {r_ : Vw} (hr : rI b = some r_) : av Tryz.prog 139 [ax b] [mA r_] := by
 refine zh Tryz.func139 Z Z Z Z ?_;unfold rI at hr;refine zQ<|zR<|yS Z (bV Z Z Z Z Z)<|yS Z (ze Z ia Z Z)<|zN<|zT<|zQ<|zR<|yS Z (zD Z Z Z cH Z Z)<|yS Z (mD Z eB Z Z Z Z Z)<|yS Z (ab.build Z nS Z Z Z)<|yS Z (zs Z Z Z Z aT Z Z Z Z)<|zN<|zT<|zr ?_;obtain rfl := zJ hr;exact zf (.one (.cellAgg Z Z (by kernel_rfl) Z))<|(Conv.agg (.cons zv (.cons Conv.zs .nil)))
def xJ (n : Nd) : Option Bool :=
 some n.Full
theorem Ir {n : Nd} {r_ : Bool} (hr : xJ n = some r_) : av Tryz.prog 73 [gk n] [.bool r_] := by
 refine zh Tryz.func73 Z Z Z Z ?_;unfold xJ at hr;refine zQ<|zR<|yS Z (bV Z Z Z Z Z)<|zM Z<|zN<|zT<|zQ<|zR<|yS Z (zA Z Z kz)<|yS Z (zD Z Z Z AQ Z Z)<|zM Z<|zN<|zT<|zr ?_;obtain rfl := zJ hr;exact zf (.one (.tmp Z)) zv
theorem mZ {α β : Type} {step : α → Option (α ⊕ β)} {n : Nat} {x y : α} (h : step x = some (.inl y)) : iter step (n + 1) x = iter step n y := by
 rw [iter, h]
theorem fP {α β : Type} {step : α → Option (α ⊕ β)} {n : Nat} {x : α} {b : β} (h : step x = some (.inr b)) : iter step (n + 1) x = some b := by
 rw [iter, h]
theorem HK : bG = 4611686018427387901 + 1 + 1 + 1 := rfl
def ss (a b : ID) : Bool := decide (a.1 < b.1 ∨ a.1 = b.1 ∧ a.2 < b.2)
def jz (x y : Int) : Int := if x < y then -1 else if x > y then 1 else 0
theorem xH (x y : Int) : Br x y = some (jz x y) := by
 have h : ∀ z : Int, yN z = some false := fun z => by unfold yN; rw [show (z != z) = false by simp]
 unfold Br jz;rw [h x, ob, h y, ob, cf, cf];by_cases h1 : x < y
 ·rw [decide_eq_true h1, ct, if_pos h1]
 ·rw [decide_eq_false h1, cf, if_neg h1];by_cases h2 : x > y
  ·rw [decide_eq_true h2, ct, if_pos h2]
  ·rw [decide_eq_false h2, cf, if_neg h2]
theorem ub (a1 a2 b1 b2 : Int) : yJ [a1, a2] [b1, b2] = some (if jz a1 b1 ≠ 0 then jz a1 b1 else jz a2 b2) := by
 unfold yJ
 have h0 : ∀ i : Int, i = 0 → ik [a1, a2] [b1, b2] (dU.mk i) = if jz a1 b1 ≠ 0 then some (.inr (.inr (jz a1 b1))) else some (.inl (dU.mk 1)) := by
  rintro i rfl;unfold ik;simp only;rw [show decide ((0 : Int) < (([a1, a2] : List Int).length : Int)) = true from rfl, ct, show ix [a1, a2] 0 = some a1 from rfl, ob, show decide ((0 : Int) ≥ (([b1, b2] : List Int).length : Int)) = false from rfl, cf, show ix [b1, b2] 0 = some b1 from rfl, ob, xH, ob, show IntKind.i64.wrap (0 + 1) = 1 from cv (by omega) (by omega)];by_cases h : jz a1 b1 = 0
  ·rw [show (jz a1 b1 != 0) = false by simp [h], cf, if_neg (not_not_intro h)]
  ·rw [show (jz a1 b1 != 0) = true by simp [h], ct, if_pos h]
 have h1 : ik [a1, a2] [b1, b2] (dU.mk 1) = if jz a2 b2 ≠ 0 then some (.inr (.inr (jz a2 b2))) else some (.inl (dU.mk 2)) := by
  unfold ik;simp only;rw [show decide ((1 : Int) < (([a1, a2] : List Int).length : Int)) = true from rfl, ct, show ix [a1, a2] 1 = some a2 from rfl, ob, show decide ((1 : Int) ≥ (([b1, b2] : List Int).length : Int)) = false from rfl, cf, show ix [b1, b2] 1 = some b2 from rfl, ob, xH, ob, show IntKind.i64.wrap (1 + 1) = 2 from cv (by omega) (by omega)];by_cases h : jz a2 b2 = 0
  ·rw [show (jz a2 b2 != 0) = false by simp [h], cf, if_neg (not_not_intro h)]
  ·rw [show (jz a2 b2 != 0) = true by simp [h], ct, if_pos h]
 have h2 : ik [a1, a2] [b1, b2] (dU.mk 2) = some (.inr (.inl (dU.mk 2))) := by
  unfold ik;simp only;rw [show decide ((2 : Int) < (([a1, a2] : List Int).length : Int)) = false from rfl, cf]
 rw [HK];by_cases c1 : jz a1 b1 = 0
 ·have e1 := h0 0 rfl;rw [if_neg (not_not_intro c1)] at e1;rw [mZ e1, if_neg (not_not_intro c1)];by_cases c2 : jz a2 b2 = 0
  ·rw [if_neg (not_not_intro c2)] at h1;rw [mZ h1, fP h2, ob, sl, show decide ((([a1, a2] : List Int).length : Int) < (([b1, b2] : List Int).length : Int)) = false from rfl, cf, c2]
  ·rw [if_pos c2] at h1;rw [fP h1, ob, sr]
 ·have e1 := h0 0 rfl;rw [if_pos c1] at e1;rw [fP e1, if_pos c1, ob, sr]
theorem DU (a b : ID) : A7 a b = some (ss a b) := by
 unfold A7 ss;rw [ub, ob];congr 1;refine decide_eq_decide.2 ?_;unfold jz;by_cases h1 : a.1 < b.1
 ·simp [h1]
 ·by_cases h2 : a.1 > b.1
  ·have : a.1 ≠ b.1 := by omega
   simp [h1, h2, this]
  ·have : a.1 = b.1 := by omega
   by_cases h3 : a.2 < b.2
   ·simp [this, h3]
   ·by_cases h4 : a.2 > b.2 <;> simp [this, h3, h4]
theorem Al (a : ID) : ss a a = false := by unfold ss; exact decide_eq_false (by omega)
def b7 (a b : Rk) : Bool := if a.n = b.n then ss b.id a.id else decide (a.n > b.n)
theorem DV (a b : Rk) : A8 a b = some (b7 a b) := by
 unfold A8 b7;by_cases h : a.n = b.n
 ·rw [show (a.n != b.n) = false by simp [h], cf, if_pos h, show (a.n == b.n) = true by simp [h], Bool.true_and, z7];by_cases h2 : a.id = b.id
  ·rw [decide_eq_true h2, Bool.not_true, cf, h2, Al]
  ·rw [decide_eq_false h2, Bool.not_false, ct, DU, ob]
 ·rw [show (a.n != b.n) = true by simp [h], ct, if_neg h]
def jT (l : List Bk) (id h : ID) : Bool := decide (id ∈ aF l h)
def mU (l : List Bk) (v : List Vt) (id : ID) : List Int := (v.filter fun x => jT l id x.Head).map Vt.From
def oR (c : Cf) (l : List Bk) (v : List Vt) (id : ID) : Int := tM c (mU l v id)
theorem cq {α β : Type} [DecidableEq α] {m : List (α × β)} {k q : α} {v : β} : ah (aN m k v) q = if k = q then some v else ah m q := by
 induction m with
 | nil => simp [aN, ah]
 | cons p r ih =>
  obtain ⟨a, b⟩ := p;unfold aN;by_cases h : a = k
  ·rw [if_pos h];subst h;by_cases h2 : a = q
   ·simp [ah, h2]
   ·simp [ah, h2]
  ·rw [if_neg h];simp only [ah];rw [ih];by_cases h2 : a = q
   ·rw [if_pos h2, if_pos h2, if_neg (fun e => h (by rw [h2, e]))]
   ·rw [if_neg h2, if_neg h2]
def wo (l : List Bk) (id : ID) (m : List (ID × Bool)) : Prop := ∀ h b, ah m h = some b → b = jT l id h
theorem D5 {l : List Bk} (hl : l.length ≤ 1000) {x : Vt} {c : Cf} {id : ID} {m : List (ID × Bool)} (hm : wo l id m) : ∃ m', Bl x c l id m = some (jT l id x.Head, m') ∧ wo l id m' := by
 unfold Bl
 have hu : decide (aU (aF l x.Head) id ≥ 0) = jT l id x.Head := by
  unfold jT; exact decide_eq_decide.2 ⟨fun h => oO.1 h, fun h => oO.2 h⟩
 cases hf : ah m x.Head with
 | none =>
  refine ⟨aN m x.Head (jT l id x.Head), ?_, ?_⟩
  ·rw [Option.isSome_none, Bool.not_false, ct, GT hl, ct, hu]
  ·intro h b hb;rw [cq] at hb;by_cases e : x.Head = h
   ·rw [if_pos e] at hb; cases hb; rw [e]
   ·rw [if_neg e] at hb; exact hm h b hb
 | some b =>
  refine ⟨m, ?_, hm⟩;rw [Option.isSome_some, Bool.not_true, cf, Option.getD_some, hm _ _ hf]
theorem aS {α : Type} {l : List α} {j : Nat} {y : α} (h : l[j]? = some y) : l.take (j + 1) = l.take j ++ [y] := by rw [List.take_add_one, h]; rfl
theorem Aa {l : List Bk} {v : List Vt} {id : ID} {n : Nat} {y : Vt} (hy : v[n]? = some y) : mU l (v.take (n + 1)) id = mU l (v.take n) id ++ bif jT l id y.Head then [y.From] else [] := by
 unfold mU;rw [aS hy, List.filter_append, List.map_append];cases h : jT l id y.Head <;> simp [h]
theorem uW (l : List Bk) (v : List Vt) (id : ID) : (mU l v id).length ≤ v.length := by
 unfold mU; rw [List.length_map]; exact List.length_filter_le _ _
theorem D6 {l : List Bk} (hl : l.length ≤ 1000) {v : List Vt} (hv : v.length ≤ 1000) {c : Cf} {id : ID} : ∃ m', Bm v c l id [] = some (mU l v id, m') := by
 unfold Bm
 have key := cY (step := mJ v c l id) (fun x => ∃ n : Nat, n ≤ v.length ∧ x.t12 = n ∧ wo l id x.o3 ∧ x.out = mU l (v.take n) id) (fun x => v.length - x.t12.toNat) (fun b => b.out = mU l v id) (by
  rintro ⟨t, m, out⟩ ⟨n, hn, h1, hm, ho⟩;simp only at h1 ho hm;subst h1 ho;by_cases hlt : n < v.length
  ·left;obtain ⟨y, hy, -⟩ := aD hlt;obtain ⟨m', e, hm'⟩ := D5 hl (x := y) (c := c) hm;have hlen := uW l (v.take n) id;rw [List.length_take] at hlen;refine ⟨⟨((n + 1 : Nat) : Int), m', mU l (v.take (n + 1)) id⟩, ?_, ⟨n + 1, hlt, rfl, hm', rfl⟩, by simp only; omega⟩;unfold mJ;simp only;rw [decide_eq_true (show (n : Int) < (v.length : Int) by omega), ct, aG hy, ob, e, ob, Aa hy, ak (n := n) (by omega)]
   cases hu : jT l id y.Head with
   | true => rw [ct, show D7 y = some y.From from rfl, ob, aP (by simp only [List.length_singleton]; omega) (by omega), ct, ct]
   | false => rw [cf, cf, List.append_nil]
  ·right
   obtain rfl : n = v.length := by omega
   refine ⟨⟨(v.length : Int), m, mU l (v.take v.length) id⟩, ?_, by simp only [List.take_length]⟩;unfold mJ;simp only
   rw [decide_eq_false (show ¬ (v.length : Int) < (v.length : Int) by omega), cf]) (n := bG) (x := ⟨0, [], []⟩) ⟨0, by omega, rfl, (fun h b hb => by cases hb), by simp [mU]⟩ (ec (by simp only; omega))
 obtain ⟨b, e, hp⟩ := key;exact ⟨b.o3, by rw [e, ob, hp]⟩
theorem xx {l : List Bk} (hl : l.length ≤ 1000) {v : List Vt} (hv : v.length ≤ 1000) (c : Cf) (id : ID) : yD c l v id = some (oR c l v id) := by
 unfold yD;obtain ⟨m', e⟩ := D6 hl hv (c := c) (id := id);have := uW l v id;rw [e, ob, BK (by simp only; omega), ob]; rfl
theorem yq (c : Cf) (l : List Bk) (v : List Vt) (id : ID) : 0 ≤ oR c l v id := by
 unfold oR tM;split
 ·next h => exact (pH h.okW.2 _).1
 ·omega
def f8 (f : ID → Int) : List ID → Rk → Rk
 | [], b => b
 | k :: r, b => f8 f r (bif b7 ⟨f k, k⟩ b then ⟨f k, k⟩ else b)
theorem p7 (f : ID → Int) (k : ID) : ∀ (a : List ID) (b : Rk), f8 f (a ++ [k]) b = bif b7 ⟨f k, k⟩ (f8 f a b) then ⟨f k, k⟩ else f8 f a b
 | [], _ => rfl
 | _ :: r, _ => p7 f k r _
def eQ (c : Cf) (l : List Bk) (v : List Vt) (id : ID) : Rk := f8 (oR c l v) (bR l id) ⟨-1, (0, 0)⟩
theorem CV (l : List Bk) (id : ID) : (bR l id).length ≤ l.length := by
 unfold bR;split
 ·simp
 ·rw [List.length_map]; exact List.length_filter_le _ _
theorem BL {l : List Bk} (hl : l.length ≤ 1000) {v : List Vt} (hv : v.length ≤ 1000) (c : Cf) (id : ID) : HB c l v id = some ((eQ c l v id).id, decide ((eQ c l v id).n ≥ 0)) := by
 unfold HB;have hk := CV l id;rw [F2 hl, ob]
 have e := aB (step := pQ c l v (bR l id)) (n := (bR l id).length) (fun n => fW.mk (n : Int) (f8 (oR c l v) ((bR l id).take n) ⟨-1, (0, 0)⟩)) (fW.mk ((bR l id).length : Int) (eQ c l v id)) (fun n hn => by
  obtain ⟨y, hy, -⟩ := aD hn;unfold pQ;simp only;rw [decide_eq_true (show (n : Int) < ((bR l id).length : Int) by omega), ct, aG hy, ob, xx hl hv, ob, DV, ob, ak (n := n) (by omega), aS hy, p7]
  cases b7 ⟨oR c l v y, y⟩ (f8 (oR c l v) ((bR l id).take n) ⟨-1, (0, 0)⟩) with
  | true => rw [ct, ct]
  | false => rw [cf, cf]) (by
  unfold pQ;simp only
  rw [decide_eq_false (show ¬ ((bR l id).length : Int) < ((bR l id).length : Int) by omega), cf, List.take_length]; rfl) (by omega)
 have e0 : fW.mk ((0 : Nat) : Int) (f8 (oR c l v) ((bR l id).take 0) ⟨-1, (0, 0)⟩) = fW.mk 0 (Rk.mk (-1) (0, 0)) := rfl;rw [e0] at e;rw [e, ob]
theorem nP {f : ID → Int} (hf : ∀ k, 0 ≤ f k) : ∀ (a : List ID) (b : Rk), (a = [] ∧ f8 f a b = b) ∨ (f8 f a b = b ∧ 0 ≤ b.n) ∨ (∃ k ∈ a, f8 f a b = ⟨f k, k⟩) ∨ (b.n < -1)
 | [], b => .inl ⟨rfl, rfl⟩
 | k :: r, b => by
  by_cases hb : b.n < -1
  ·exact .inr<|.inr<|.inr hb
  ·unfold f8
   cases h : b7 ⟨f k, k⟩ b with
   | true =>
    rw [ct];rcases nP hf r ⟨f k, k⟩ with ⟨rfl, e⟩ | ⟨e, -⟩ | ⟨k', hk', e⟩ | h4
    ·exact .inr<|.inr<|.inl ⟨k, .head _, e⟩
    ·exact .inr<|.inr<|.inl ⟨k, .head _, e⟩
    ·exact .inr<|.inr<|.inl ⟨k', .tail _ hk', e⟩
    ·have := hf k; simp only at h4; omega
   | false =>
    rw [cf]
    have hb0 : 0 ≤ b.n := by
     unfold b7 at h;simp only at h;have := hf k;by_cases e : f k = b.n
     ·omega
     ·rw [if_neg e] at h;have := of_decide_eq_false h;omega
    rcases nP hf r b with ⟨rfl, e⟩ | h2 | ⟨k', hk', e⟩ | h4
    ·exact .inr<|.inl ⟨e, hb0⟩
    ·exact .inr<|.inl h2
    ·exact .inr<|.inr<|.inl ⟨k', .tail _ hk', e⟩
    ·omega
theorem kw (c : Cf) (l : List Bk) (v : List Vt) (id : ID) : (bR l id = [] ∧ eQ c l v id = ⟨-1, (0, 0)⟩) ∨ ∃ k ∈ bR l id, eQ c l v id = ⟨oR c l v k, k⟩ := by
 unfold eQ;rcases nP (yq c l v) (bR l id) ⟨-1, (0, 0)⟩ with h | ⟨e, h2⟩ | h3 | h4
 ·exact .inl h
 ·simp only at h2; omega
 ·exact .inr h3
 ·simp only at h4; omega
def lJ (c : Cf) (l : List Bk) (v : List Vt) : Nat → ID → ID
 | 0, id => id
 | n + 1, id => if (eQ c l v id).n ≥ 0 then lJ c l v n (eQ c l v id).id else id
def cE (c : Cf) (l : List Bk) (v : List Vt) : ID := lJ c l v (l.length + 1) (0, 0)
theorem CT {l : List Bk} {m : List (ID × Int)} (hp : places l = some m) {id k : ID} {i : Int} (hi : ah m id = some i) (hk : k ∈ bR l id) : ∃ j, ah m k = some j ∧ i < j ∧ j < l.length := by
 unfold bR at hk;rw [hp] at hk;obtain ⟨b, hb, rfl⟩ := List.mem_map.1 hk;rw [List.mem_filter] at hb;obtain ⟨n, hn⟩ := List.getElem?_of_mem hb.1;have hI := aQ hp;have hnl := (List.getElem?_eq_some_iff.1 hn).1;have h1 := hI.names n b hnl hn;refine ⟨n, h1, ?_, by omega⟩;rcases hI.known _ _ h1 with ⟨h2, -⟩ | ⟨b', p, h2, h3, h4, h5, h6, h7, h8, h9⟩
 ·omega
 ·rw [Int.toNat_natCast, hn] at h4;cases h4;have hpar : b.Parent = id := of_decide_eq_true hb.2;rw [hpar, hi] at h6;cases h6;exact h7
theorem sd {l : List Bk} (hl : l.length ≤ 1000) {v : List Vt} (hv : v.length ≤ 1000) (c : Cf) {m : List (ID × Int)} (hp : places l = some m) : ∀ (n f : Nat) (id : ID) (i : Int), ah m id = some i → (l.length : Int) - i ≤ n → n < f →
  iter (lT c l v) f ⟨id⟩ = some ⟨lJ c l v n id⟩
 | 0, f, id, i, hi, hn, _ => by
  rcases (aQ hp).known _ _ hi with ⟨h, -⟩ | ⟨b, p, h0, h1, -⟩ <;> omega
 | n + 1, f, id, i, hi, hn, hf => by
  obtain ⟨f, rfl⟩ : ∃ g, f = g + 1 := ⟨f - 1, by omega⟩
  have hs : lT c l v ⟨id⟩ = if (eQ c l v id).n ≥ 0 then some (.inl ⟨(eQ c l v id).id⟩) else some (.inr ⟨id⟩) := by
   unfold lT;simp only;rw [BL hl hv, ob];by_cases h : (eQ c l v id).n ≥ 0
   ·rw [decide_eq_true h, Bool.not_true, cf, if_pos h]
   ·rw [decide_eq_false h, Bool.not_false, ct, if_neg h]
  unfold lJ;rcases kw c l v id with ⟨-, e⟩ | ⟨k, hk, e⟩
  ·have : ¬ (eQ c l v id).n ≥ 0 := by rw [e]; simp
   rw [if_neg this] at hs ⊢;exact fP hs
  ·have hpos : (eQ c l v id).n ≥ 0 := by rw [e]; exact yq c l v k
   rw [if_pos hpos] at hs ⊢;rw [mZ hs, e];obtain ⟨j, hj, h1, h2⟩ := CT hp hi hk;exact sd hl hv c hp n f k j hj (by omega) (by omega)
theorem F5 {l : List Bk} (hl : l.length ≤ 1000) {v : List Vt} (hv : v.length ≤ 1000) (c : Cf) : HC c l v = some (cE c l v) := by
 unfold HC cE
 cases hp : places l with
 | some m =>
  rw [sd hl hv c hp (l.length + 1) bG (0, 0) (-1) (aQ hp).zero (by omega) (ec (by omega)), ob]
 | none =>
  have hk : bR l (0, 0) = [] := by unfold bR; rw [hp]
  have hb : eQ c l v (0, 0) = ⟨-1, (0, 0)⟩ := by unfold eQ; rw [hk]; rfl
  have hs : lT c l v ⟨(0, 0)⟩ = some (.inr ⟨(0, 0)⟩) := by
   unfold lT;simp only;rw [BL hl hv, ob, hb];rfl
  rw [HK, fP hs, ob];unfold lJ;rw [hb, if_neg (by simp)]
end Go.Mg
