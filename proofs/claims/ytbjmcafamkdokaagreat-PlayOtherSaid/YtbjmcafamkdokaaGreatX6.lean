/- A view that grows. More of the program's structs as plain data: acts, offers, nodes, worlds. Votes, rising by who it is: plain. The examples of the laws of trees and cursors. Plain tools for printed functions: loops by what holds at their heads. What the laws hand over, with the bounds of its numbers. Plain facts of trees: what the program's Find, Slot, Kids tell. Plain facts of a beginning of blocks. The references of layer 6 tell what the program's trees tell: plain laws. Conditions: blocks' numbers are of their kinds; not too many blocks. Plain laws of the shuffle. Plain laws of the shuffle: all places together. Laws of duties. Plain laws of duties: which confs may be, and sums of weights. Plain laws of duties: which confs may be; weights. Plain laws of duties: weights of lists; lists. Plain laws of duties: committees, proposers. Laws of duties. Laws of duties. Laws of duties: DutyAll. Laws of duties: DutyParts. Laws of duties. Laws of duties: DutyWeighs. The book of votes. The sort of votes by who it is: the shelf's structures at this program. One's own slice of votes, as the sort's row. slices.SortFunc over a slice of votes of one's own, by who it is: the shelf's contract in my terms. Votes sorted by who it is. votes.sorted. The votes of a slot. The votes of a slot that count: plain. The votes of a committee; the head by them. A node at a tick, as plain data. Nodes: what stands alone. Offers, one behind another. Conditions: none. -/
import Derived.Test.YtbjmcafamkdokaaGreatX3
import Derived.Test.YtbjmcafamkdokaaGreatX5
import Derived.Test.YtbjmcafamkdokaaGreatX4
import Derived.Shelf.SlSortCmp.WholeK
import Derived.Shelf.SlicesG.Cmp
import Derived.Test.YtbjmcafamkdokaaGreatChecked
import Derived.Shelf.SlGeneric
import Derived.Shelf.GgSortFunc.InsertionK
import Derived.Shelf.SlSortCmp.NoneTotal
set_option maxRecDepth 100000
set_option linter.unusedSimpArgs false
set_option linter.unusedVariables false
namespace Go.Mg
open Go.Proofs
def wY (n : Int) (most : Int) (full : Bool) : Option (Bool × Bool) :=
 bif full then
  some (decide (n < most), true)
 else
  some (decide (n < most), decide (n ≥ most))
theorem Dq {n : Int} {most : Int} {wB : List Bk} {wV : List Vt} {sm : List (ID × Int)} {hm : List (Vt × Bool)} {upto : Int} {full : Bool} {lB : List Bk} {lV : List Vt} {n0 : Nat} {k0 : Nat} {n1 : Nat} {k1 : Nat} {r_ : Bool × Bool} (hr : wY n most full = some r_) : LC Tryz.prog 191 [.ptr 10 0, (iQ n), (iQ most)] [.dead, .dead, .dead, .box [.zs, .zs], .box [.zs, .zs], .dead, .vec 5 (wB.map ay), .vec 4 (wV.map aD), (mQ sm), (mR hm), .box [(jB 6 wB), (jV 7 wV), .map 8, .map 9, (iQ upto), (bQ full)], .dead, .dead, .dead, .vec 5 (lB.map ay), .vec 4 (lV.map aD), .box [.vec 5 14 n0 0 k0, .vec 4 15 n1 0 k1]] (Is (bQ r_.1) [.dead, .dead, .dead, .box [.zs, .zs], .box [.zs, .zs], .dead, .vec 5 (wB.map ay), .vec 4 (wV.map aD), (mQ sm), (mR hm), .box [(jB 6 wB), (jV 7 wV), .map 8, .map 9, (iQ upto), (bQ r_.2)], .dead, .dead, .dead, .vec 5 (lB.map ay), .vec 4 (lV.map aD), .box [.vec 5 14 n0 0 k0, .vec 4 15 n1 0 k1]]) := by
 refine dt Tryz.func191 Z Z Z ?_;unfold wY at hr;refine zQ<|zR<|zM Z<|zN<|zT<|zQ<|zR<|zM Z<|zM Z<|yS Z (zn Z Z)<|yS Z (zA Z Z nX)<|yS Z (zD Z Z Z vC Z Z)<|zM Z ?_;refine zc 12 Z (fun g1 => ?_)<|fun g1 => ?_
 ·
  refine zi g1 hr fun hr => yU Z (gd g1 Z) Z<|yU Z (gd g1 Z) Z<|yU Z (gd g1 Z) Z<|yS Z (ca Z (aN g1 Z) Z)<|yS Z (zn Z Z)<|yS Z (zA Z Z nX)<|yS Z (zs Z Z Z Z vC Z Z Z Z)<|zN<|zT<|zQ<|zR<|zM Z<|zM Z<|yS Z (ax Z Z Z Z)<|zM Z<|zN<|zT<|zr ?_;obtain rfl := zJ hr;exact ap (.one (.tmp Z))<|⟨rfl, rfl⟩
 ·
  refine zo g1 hr fun hr => yV Z (gd g1 Z) (zm Z Z)<|yV Z (gd g1 Z) (zm Z Z)<|yV Z (gd g1 Z) (ax Z Z Z Z)<|yS Z (a8 Z (aN g1 Z) Z)<|yS Z (zn Z Z)<|yS Z (zA Z Z nX)<|yS Z (zs Z Z Z Z vC Z Z Z Z)<|zN<|zT<|zQ<|zR<|zM Z<|zM Z<|yS Z (ax Z Z Z Z)<|zM Z<|zN<|zT<|zr ?_;obtain rfl := zJ hr;exact ap (.one (.tmp Z))<|⟨rfl, rfl⟩
def uy (b : Bk) (wB : List Bk) (sm : List (ID × Int)) (upto : Int) (full : Bool) : Option (Bool × List Bk × List (ID × Int) × Bool) :=
 (
  bif (aj sm (nm b)).isSome then
   some ((aj sm (nm b)).isSome)
  else
   bif (aj sm b.Parent).isSome then
    some (decide (((aj sm b.Parent).getD 0) ≥ b.Slot))
   else
    some false
 ).bind fun v1 =>
 bif v1 then
  some (true, wB, sm, full)
 else
  (
   bif !((aj sm b.Parent).isSome) then
    some (!((aj sm b.Parent).isSome), full)
   else
    bif decide (b.Slot > upto) then
     some (decide (b.Slot > upto), full)
    else
     (wY (wB.length : Int) 60 full).bind fun v3 =>
     some (!v3.1, v3.2)
  ).bind fun v2 =>
  bif v2.1 then
   some (false, wB, sm, v2.2)
  else
   bif b9 wB.length [b].length 40 then
    bif rp sm then
     some (true, wB ++ [b], aW sm (nm b) b.Slot, v2.2)
    else none
   else none
theorem Do {b : Bk} {wB : List Bk} {wV : List Vt} {sm : List (ID × Int)} {hm : List (Vt × Bool)} {upto : Int} {full : Bool} {lB : List Bk} {lV : List Vt} {n0 : Nat} {k0 : Nat} {n1 : Nat} {k1 : Nat} {r_ : Bool × List Bk × List (ID × Int) × Bool} (hr : uy b wB sm upto full = some r_) : LC Tryz.prog 179 [.ptr 10 0, .p (ay b)] [.dead, .dead, .dead, .box [.zs, .zs], .box [.zs, .zs], .dead, .vec 5 (wB.map ay), .vec 4 (wV.map aD), (mQ sm), (mR hm), .box [(jB 6 wB), (jV 7 wV), .map 8, .map 9, (iQ upto), (bQ full)], .dead, .dead, .dead, .vec 5 (lB.map ay), .vec 4 (lV.map aD), .box [.vec 5 14 n0 0 k0, .vec 4 15 n1 0 k1]] (Is (bQ r_.1) [.dead, .dead, .dead, .box [.zs, .zs], .box [.zs, .zs], .dead, .vec 5 (r_.2.1.map ay), .vec 4 (wV.map aD), (mQ r_.2.2.1), (mR hm), .box [(jB 6 r_.2.1), (jV 7 wV), .map 8, .map 9, (iQ upto), (bQ r_.2.2.2)], .dead, .dead, .dead, .vec 5 (lB.map ay), .vec 4 (lV.map aD), .box [.vec 5 14 n0 0 k0, .vec 4 15 n1 0 k1]]) := by
 refine dt Tryz.func179 Z Z Z ?_;unfold uy at hr;refine zQ<|zR<|yS Z (bV Z Z Z Z Z)<|zM Z<|zN<|zT<|zQ<|zR<|yS Z (zD Z Z Z cj Z Z)<|yS Z (zC Z Z Z (by kernel_rfl) (zp (Fc (b := b)) (.cons zv .nil)))<|yS Z (ze Z ke Z Z)<|yS Z (zs Z Z Z Z aV Z Z Z Z)<|zN<|zT<|zQ<|LW.draw2 (by kernel_rfl) (by kernel_rfl)<|zH Z<|yE Z (zn Z Z)<|yE Z (zA Z Z kJ)<|yE Z (zD Z Z Z x7 Z Z)<|yE Z (zD Z Z Z aV Z Z) ?_;refine yE Z (ab.getX (f := cw) (g := (fun v => (iQ v))) (nm b) 0 dZ Z Z Z Z jG C5 Z Z) ?_;refine zH Z<|yE Z (fE Z Z Z)<|yE Z (fE Z Z Z)<|zH Z<|zH Z<|LO.nil<|zT<|zQ<|LW.draw2 (by kernel_rfl) (by kernel_rfl)<|zH Z<|yE Z (zn Z Z)<|yE Z (zA Z Z kJ)<|yE Z (zD Z Z Z x7 Z Z)<|yE Z (zA Z Z lp)<|yE Z (zD Z Z Z aV Z Z) ?_;refine yE Z (ab.getX (f := cw) (g := (fun v => (iQ v))) b.Parent 0 dZ Z Z Z Z jG C5 Z Z) ?_;refine zH Z<|yE Z (fE Z Z Z)<|yE Z (fE Z Z Z)<|zH Z<|zH Z<|LO.nil<|zT<|zQ<|zl ?_;obtain ⟨v1, hb_v1, ho_v1⟩ := zB hr;clear hr;refine LW.cut (E := [(0, .ptr 10 0), (3, .ptr 17 0), (4, (bQ false)), (5, .ptr 18 0), (9, .p (.bool ((aj sm b.Parent).isSome))), (31, (bQ v1))]) (O := [.dead, .dead, .dead, .box [.zs, .zs], .box [.zs, .zs], .dead, .vec 5 (wB.map ay), .vec 4 (wV.map aD), (mQ sm), (mR hm), .box [(jB 6 wB), (jV 7 wV), .map 8, .map 9, (iQ upto), (bQ full)], .dead, .dead, .dead, .vec 5 (lB.map ay), .vec 4 (lV.map aD), .box [.vec 5 14 n0 0 k0, .vec 4 15 n1 0 k1], .box [(iQ b.Slot), (iQ b.From), (uQ b.Parent.1), (uQ b.Parent.2), (uQ b.Salt)], .box [.p (.int .u64 ((nm b).1)), .p (.int .u64 ((nm b).2))]]) ?_ ?_
 ·have hr := hb_v1;refine zQ<|zR<|zM Z<|zM Z<|zN<|zT ?_;refine zX Z (fun g1 => ?_)<|fun g1 => ?_
  ·
   refine zi g1 hr fun hr => zk<|zT ?_;obtain rfl := zJ hr;exact zW 19 ⟨Z, Z, Z, Z, Z, Z, trivial⟩ Z Z Z<|zL Z<|zL Z<|zL Z<|zL Z<|zL Z<|zL Z<|zL Z<|zL Z<|zL (ae (fun _ => rfl) _)<|zL (ae (fun _ => rfl) _)<|zL Z<|zL Z<|zL Z<|zL Z<|zL Z<|zL Z<|zL Z<|zL Z<|zL Z Z
  ·
   refine zo g1 hr fun hr => zR<|zM Z<|zM Z ?_;refine zc 34 Z (fun g2 => ?_)<|fun g2 => ?_
   ·
    refine zi g2 hr fun hr => yV Z (gd g2 Z) (zm Z Z)<|yV Z (gd g2 Z) (zA Z Z jW)<|yV Z (gd g2 Z) (zD Z Z Z aX Z Z)<|yV Z (gd g2 Z) (ax Z Z Z Z)<|yS Z (ca Z (aN g2 Z) Z)<|zM Z<|zN<|zT ?_;obtain rfl := zJ hr;exact zW 19 ⟨Z, Z, Z, Z, Z, Z, trivial⟩ Z Z Z<|zL Z<|zL Z<|zL Z<|zL Z<|zL Z<|zL Z<|zL Z<|zL Z<|zL (ae (fun _ => rfl) _)<|zL (ae (fun _ => rfl) _)<|zL Z<|zL Z<|zL Z<|zL Z<|zL Z<|zL Z<|zL Z<|zL Z<|zL Z Z
   ·
    refine zo g2 hr fun hr => yU Z (gd g2 Z) Z<|yU Z (gd g2 Z) Z<|yU Z (gd g2 Z) Z<|yU Z (gd g2 Z) Z<|yS Z (a8 Z (aN g2 Z) Z)<|zM Z<|zN<|zT ?_;obtain rfl := zJ hr;exact zW 19 ⟨Z, Z, Z, Z, Z, Z, trivial⟩ Z Z Z<|zL Z<|zL Z<|zL Z<|zL Z<|zL Z<|zL Z<|zL Z<|zL Z<|zL (ae (fun _ => rfl) _)<|zL (ae (fun _ => rfl) _)<|zL Z<|zL Z<|zL Z<|zL Z<|zL Z<|zL Z<|zL Z<|zL Z<|zL Z Z
 ·have hr := ho_v1;clear hb_v1;refine zX Z (fun g3 => ?_)<|fun g3 => ?_
  ·
   refine zi g3 hr fun hr => zQ<|zR<|zM Z<|zN<|zT<|zr<|aq<|af ?_;obtain rfl := zJ hr;refine aS (env' := [(4, (bQ true))]) (H' := [.dead, .dead, .dead, .box [.zs, .zs], .box [.zs, .zs], .dead, .vec 5 (wB.map ay), .vec 4 (wV.map aD), (mQ sm), (mR hm), .box [(jB 6 wB), (jV 7 wV), .map 8, .map 9, (iQ upto), (bQ full)], .dead, .dead, .dead, .vec 5 (lB.map ay), .vec 4 (lV.map aD), .box [.vec 5 14 n0 0 k0, .vec 4 15 n1 0 k1]]) (zW 17 ⟨rfl, trivial⟩ Z Z Z (zL Z (zL Z (zL Z (zL Z (zL Z (zL Z (zL Z (zL Z (zL (ae (fun _ => rfl) _) (zL (ae (fun _ => rfl) _) (zL Z (zL Z (zL Z (zL Z (zL Z (zL Z (zL Z Z)))))))))))))))))) (.one (.tmp Z)) ?_;exact ⟨rfl, rfl⟩
  ·
   have hr := zO g3 hr;obtain ⟨v2, hb_v2, ho_v2⟩ := zB hr;clear hr;refine LW.cut (E := [(0, .ptr 10 0), (3, .ptr 17 0), (4, (bQ false)), (5, .ptr 18 0), (40, (bQ v2.1))]) (O := [.dead, .dead, .dead, .box [.zs, .zs], .box [.zs, .zs], .dead, .vec 5 (wB.map ay), .vec 4 (wV.map aD), (mQ sm), (mR hm), .box [(jB 6 wB), (jV 7 wV), .map 8, .map 9, (iQ upto), (bQ v2.2)], .dead, .dead, .dead, .vec 5 (lB.map ay), .vec 4 (lV.map aD), .box [.vec 5 14 n0 0 k0, .vec 4 15 n1 0 k1], .box [(iQ b.Slot), (iQ b.From), (uQ b.Parent.1), (uQ b.Parent.2), (uQ b.Salt)], .box [.p (.int .u64 ((nm b).1)), .p (.int .u64 ((nm b).2))]]) ?_ ?_
   ·have hr := hb_v2;refine zQ<|zR<|zM Z<|yS Z (ab.not Z Z)<|zM Z<|zN<|zT ?_;refine zX Z (fun g4 => ?_)<|fun g4 => ?_
    ·
     refine zi g4 hr fun hr => zk<|zT ?_;obtain rfl := zJ hr;exact zW 19 ⟨Z, Z, Z, Z, Z, trivial⟩ Z Z Z<|zL Z<|zL Z<|zL Z<|zL Z<|zL Z<|zL Z<|zL Z<|zL Z<|zL (ae (fun _ => rfl) _)<|zL (ae (fun _ => rfl) _)<|zL Z<|zL Z<|zL Z<|zL Z<|zL Z<|zL Z<|zL Z<|zL Z<|zL Z Z
    ·
     refine zo g4 hr fun hr => zQ<|LW.draw2 (by kernel_rfl) (by kernel_rfl)<|yE Z (zA Z Z jW)<|yE Z (zD Z Z Z aX Z Z)<|zH Z<|yE Z (zn Z Z)<|yE Z (zA Z Z wA)<|yE Z (zD Z Z Z aX Z Z)<|yE Z (ax Z Z Z Z)<|zH Z<|LO.nil<|zT ?_;refine zX Z (fun g5 => ?_)<|fun g5 => ?_
     ·
      refine zi g5 hr fun hr => zk<|zT ?_;obtain rfl := zJ hr;exact zW 19 ⟨Z, Z, Z, Z, Z, trivial⟩ Z Z Z<|zL Z<|zL Z<|zL Z<|zL Z<|zL Z<|zL Z<|zL Z<|zL Z<|zL (ae (fun _ => rfl) _)<|zL (ae (fun _ => rfl) _)<|zL Z<|zL Z<|zL Z<|zL Z<|zL Z<|zL Z<|zL Z<|zL Z<|zL Z Z
     ·
      refine zo g5 hr fun hr => zR<|zM Z<|zM Z<|yS Z (zn Z Z)<|yS Z (zA Z Z eg)<|yS Z (zA Z Z br)<|yS Z (zD Z Z Z dr Z Z)<|yS Z (ab.lenVM Z Z Z (by kernel_rfl))<|zb hr fun v3 h_v3 hr => ?_;refine yS Z (zC Z Z Z (by kernel_rfl) (LC.pre (Dq h_v3) Z (zL Z (zL Z (zL Z (zL Z (zL Z (zL Z (zL Z (zL Z (zL (ae (fun _ => rfl) _) (zL (ae (fun _ => rfl) _) (zL Z (zL Z (zL Z (zL Z (zL Z (zL Z (zL Z Z))))))))))))))))) Z)) ?_;refine yS Z (ab.not Z Z)<|zM Z<|zN<|zT ?_;obtain rfl := zJ hr;exact zW 19 ⟨Z, Z, Z, Z, Z, trivial⟩ Z Z Z<|zL Z<|zL Z<|zL Z<|zL Z<|zL Z<|zL Z<|zL Z<|zL Z<|zL (ae (fun _ => rfl) _)<|zL (ae (fun _ => rfl) _)<|zL Z<|zL Z<|zL Z<|zL Z<|zL Z<|zL Z<|zL Z<|zL Z<|zL Z Z
   ·have hr := ho_v2;clear hb_v2;refine zX Z (fun g6 => ?_)<|fun g6 => ?_
    ·
     refine zi g6 hr fun hr => zQ<|zR<|zM Z<|zN<|zT<|zr<|aq<|af ?_;obtain rfl := zJ hr;refine aS (env' := [(4, (bQ false))]) (H' := [.dead, .dead, .dead, .box [.zs, .zs], .box [.zs, .zs], .dead, .vec 5 (wB.map ay), .vec 4 (wV.map aD), (mQ sm), (mR hm), .box [(jB 6 wB), (jV 7 wV), .map 8, .map 9, (iQ upto), (bQ v2.2)], .dead, .dead, .dead, .vec 5 (lB.map ay), .vec 4 (lV.map aD), .box [.vec 5 14 n0 0 k0, .vec 4 15 n1 0 k1]]) (zW 17 ⟨rfl, trivial⟩ Z Z Z (zL Z (zL Z (zL Z (zL Z (zL Z (zL Z (zL Z (zL Z (zL (ae (fun _ => rfl) _) (zL (ae (fun _ => rfl) _) (zL Z (zL Z (zL Z (zL Z (zL Z (zL Z (zL Z Z)))))))))))))))))) (.one (.tmp Z)) ?_;exact ⟨rfl, rfl⟩
    ·
     refine zo g6 hr fun hr => zk<|ai<|zT<|zQ<|LW.drawW (by kernel_rfl) (by kernel_rfl)<|zK Z<|zK Z ?_;refine yF (F := []) (s := none) Z (fun H _ => zn Z Z) Z ?_;refine yF (F := []) (s := none) Z (fun H _ => zA Z Z kJ) Z ?_;refine yF Z (zd Z Z Z x7 Z Z) Z<|yF Z (zd Z Z Z aV Z Z) Z<|zK Z ?_;refine yF (F := []) (s := none) Z (fun H _ => zn Z Z) Z ?_;refine yF (F := []) (s := none) Z (fun H _ => zA Z Z eg) Z ?_;refine yF (F := []) (s := none) Z (fun H _ => zA Z Z br) Z ?_;refine yF Z (zd Z Z Z dr Z Z) Z<|yF Z (zd Z Z Z cj Z Z) Z ?_;refine yF (F := []) (s := none) Z (fun H _ => mA Z dJ Z Z Z Z Z) Z ?_;refine zg hr fun q1 hr => yF Z (bE.appendX ay wB [b] rfl Z Z Z Z dJ q1) Z ?_;refine yF (F := []) (s := none) Z (fun H _ => zA Z Z jW) Z ?_;refine yF Z (zd Z Z Z aX Z Z) Z ?_;refine yF (F := []) (s := none) Z (fun H _ => zn Z Z) Z ?_;refine yF (F := []) (s := none) Z (fun H _ => zA Z Z eg) Z ?_;refine yF (F := []) (s := none) Z (fun H _ => zA Z Z br) Z ?_;refine yF Z (zt Z Z Z Z dr Z Z Z) Z<|zg hr fun q2 hr => ?_;refine yF Z (bE.mapEntryX (f := cw) (g := (fun v => (iQ v))) (nm b) 0 dZ Z Z Z Z jG C5 Z q2) Z ?_;refine yF (F := []) (s := none) Z (fun H _ => fE Z Z Z) Z ?_;refine yF Z (bE.entryStoreX (f := cw) (g := (fun v => (iQ v))) (m := sm) (nm b) ((aj sm (nm b)).getD 0) b.Slot dZ Z Z Z Z Z Z) Z ?_;refine LF.nil ⟨by kernel_rfl, ?_⟩;refine zT<|zQ<|zR<|zM Z<|zN<|zT<|zr ?_;obtain rfl := zJ hr;refine aS (env' := [(4, (bQ true))]) (H' := [.dead, .dead, .dead, .box [.zs, .zs], .box [.zs, .zs], .dead, .vec 5 ((wB ++ [b]).map ay), .vec 4 (wV.map aD), .map (ah cw (fun v => (iQ v)) (aW sm (nm b) b.Slot)), (mR hm), .box [.vec 5 6 ((wB ++ [b]).map ay).length 0 ((wB ++ [b]).map ay).length, (jV 7 wV), .map 8, .map 9, (iQ upto), (bQ v2.2)], .dead, .dead, .dead, .vec 5 (lB.map ay), .vec 4 (lV.map aD), .box [.vec 5 14 n0 0 k0, .vec 4 15 n1 0 k1]]) (zW 17 ⟨rfl, trivial⟩ Z Z Z (zL Z (zL Z (zL Z (zL Z (zL Z (zL Z (zL Z (zL Z (zL (ae (fun _ => rfl) _) (zL (ae (fun _ => rfl) _) (zL Z (zL Z (zL Z (zL Z (zL Z (zL Z (zL Z Z)))))))))))))))))) (.one (.tmp Z)) ?_;exact ⟨rfl, rfl⟩
def uz (x : Vt) (wV : List Vt) (sm : List (ID × Int)) (hm : List (Vt × Bool)) (upto : Int) (full : Bool) : Option (Bool × List Vt × List (Vt × Bool) × Bool) :=
 (
  bif (aj hm x).getD false then
   some ((aj hm x).getD false)
  else
   bif (aj sm x.Head).isSome then
    some (decide (((aj sm x.Head).getD 0) > x.Slot))
   else
    some false
 ).bind fun v1 =>
 bif v1 then
  some (true, wV, hm, full)
 else
  (
   bif !((aj sm x.Head).isSome) then
    some (!((aj sm x.Head).isSome), full)
   else
    bif decide (x.Slot > upto) then
     some (decide (x.Slot > upto), full)
    else
     (wY (wV.length : Int) 240 full).bind fun v3 =>
     some (!v3.1, v3.2)
  ).bind fun v2 =>
  bif v2.1 then
   some (false, wV, hm, v2.2)
  else
   bif b9 wV.length [x].length 32 then
    bif rp hm then
     some (true, wV ++ [x], aW hm x true, v2.2)
    else none
   else none
theorem Dp {x : Vt} {wB : List Bk} {wV : List Vt} {sm : List (ID × Int)} {hm : List (Vt × Bool)} {upto : Int} {full : Bool} {lB : List Bk} {lV : List Vt} {n0 : Nat} {k0 : Nat} {n1 : Nat} {k1 : Nat} {r_ : Bool × List Vt × List (Vt × Bool) × Bool} (hr : uz x wV sm hm upto full = some r_) : LC Tryz.prog 180 [.ptr 10 0, .p (aD x)] [.dead, .dead, .dead, .box [.zs, .zs], .box [.zs, .zs], .dead, .vec 5 (wB.map ay), .vec 4 (wV.map aD), (mQ sm), (mR hm), .box [(jB 6 wB), (jV 7 wV), .map 8, .map 9, (iQ upto), (bQ full)], .dead, .dead, .dead, .vec 5 (lB.map ay), .vec 4 (lV.map aD), .box [.vec 5 14 n0 0 k0, .vec 4 15 n1 0 k1]] (Is (bQ r_.1) [.dead, .dead, .dead, .box [.zs, .zs], .box [.zs, .zs], .dead, .vec 5 (wB.map ay), .vec 4 (r_.2.1.map aD), (mQ sm), (mR r_.2.2.1), .box [(jB 6 wB), (jV 7 r_.2.1), .map 8, .map 9, (iQ upto), (bQ r_.2.2.2)], .dead, .dead, .dead, .vec 5 (lB.map ay), .vec 4 (lV.map aD), .box [.vec 5 14 n0 0 k0, .vec 4 15 n1 0 k1]]) := by
 refine dt Tryz.func180 Z Z Z ?_;unfold uz at hr;refine zQ<|zR<|yS Z (bV Z Z Z Z Z)<|zM Z<|zN<|zT<|zQ<|LW.draw2 (by kernel_rfl) (by kernel_rfl)<|zH Z<|yE Z (zn Z Z)<|yE Z (zA Z Z kJ)<|yE Z (zD Z Z Z x7 Z Z)<|yE Z (zA Z Z lq)<|yE Z (zD Z Z Z aV Z Z) ?_;refine yE Z (ab.getX (f := cw) (g := (fun v => (iQ v))) x.Head 0 dZ Z Z Z Z jG C5 Z Z) ?_;refine zH Z<|yE Z (fE Z Z Z)<|yE Z (fE Z Z Z)<|zH Z<|zH Z<|LO.nil<|zT<|zQ<|zl ?_;obtain ⟨v1, hb_v1, ho_v1⟩ := zB hr;clear hr;refine LW.cut (E := [(0, .ptr 10 0), (3, .ptr 17 0), (4, (bQ false)), (6, .p (.bool ((aj sm x.Head).isSome))), (17, (bQ v1))]) (O := [.dead, .dead, .dead, .box [.zs, .zs], .box [.zs, .zs], .dead, .vec 5 (wB.map ay), .vec 4 (wV.map aD), (mQ sm), (mR hm), .box [(jB 6 wB), (jV 7 wV), .map 8, .map 9, (iQ upto), (bQ full)], .dead, .dead, .dead, .vec 5 (lB.map ay), .vec 4 (lV.map aD), .box [.vec 5 14 n0 0 k0, .vec 4 15 n1 0 k1], .box [(iQ x.From), (iQ x.Slot), (uQ x.Head.1), (uQ x.Head.2)]]) ?_ ?_
 ·have hr := hb_v1;refine zQ<|LW.draw2 (by kernel_rfl) (by kernel_rfl)<|zH Z<|yE Z (zn Z Z)<|yE Z (zA Z Z nW)<|yE Z (zD Z Z Z wM Z Z)<|yE Z (zD Z Z Z co Z Z) ?_;refine yE Z (ab.getX (f := aD) (g := (fun v => (bQ v))) x false wN Z Z Z Z A1 HD Z Z) ?_;refine zH Z<|LO.nil<|zT ?_;refine zX Z (fun g1 => ?_)<|fun g1 => ?_
  ·
   refine zi g1 hr fun hr => zk<|zT ?_;obtain rfl := zJ hr;exact zW 18 ⟨Z, Z, Z, Z, Z, trivial⟩ Z Z Z<|zL Z<|zL Z<|zL Z<|zL Z<|zL Z<|zL Z<|zL Z<|zL Z<|zL (ae (fun _ => rfl) _)<|zL (ae (fun _ => rfl) _)<|zL Z<|zL Z<|zL Z<|zL Z<|zL Z<|zL Z<|zL Z<|zL Z Z
  ·
   refine zo g1 hr fun hr => zR<|zM Z<|zM Z ?_;refine zc 25 Z (fun g2 => ?_)<|fun g2 => ?_
   ·
    refine zi g2 hr fun hr => yV Z (gd g2 Z) (zm Z Z)<|yV Z (gd g2 Z) (zA Z Z po)<|yV Z (gd g2 Z) (zD Z Z Z aX Z Z)<|yV Z (gd g2 Z) (ax Z Z Z Z)<|yS Z (ca Z (aN g2 Z) Z)<|zM Z<|zN<|zT ?_;obtain rfl := zJ hr;exact zW 18 ⟨Z, Z, Z, Z, Z, trivial⟩ Z Z Z<|zL Z<|zL Z<|zL Z<|zL Z<|zL Z<|zL Z<|zL Z<|zL Z<|zL (ae (fun _ => rfl) _)<|zL (ae (fun _ => rfl) _)<|zL Z<|zL Z<|zL Z<|zL Z<|zL Z<|zL Z<|zL Z<|zL Z Z
   ·
    refine zo g2 hr fun hr => yU Z (gd g2 Z) Z<|yU Z (gd g2 Z) Z<|yU Z (gd g2 Z) Z<|yU Z (gd g2 Z) Z<|yS Z (a8 Z (aN g2 Z) Z)<|zM Z<|zN<|zT ?_;obtain rfl := zJ hr;exact zW 18 ⟨Z, Z, Z, Z, Z, trivial⟩ Z Z Z<|zL Z<|zL Z<|zL Z<|zL Z<|zL Z<|zL Z<|zL Z<|zL Z<|zL (ae (fun _ => rfl) _)<|zL (ae (fun _ => rfl) _)<|zL Z<|zL Z<|zL Z<|zL Z<|zL Z<|zL Z<|zL Z<|zL Z Z
 ·have hr := ho_v1;clear hb_v1;refine zX Z (fun g3 => ?_)<|fun g3 => ?_
  ·
   refine zi g3 hr fun hr => zQ<|zR<|zM Z<|zN<|zT<|zr<|aq<|af ?_;obtain rfl := zJ hr;refine aS (env' := [(4, (bQ true))]) (H' := [.dead, .dead, .dead, .box [.zs, .zs], .box [.zs, .zs], .dead, .vec 5 (wB.map ay), .vec 4 (wV.map aD), (mQ sm), (mR hm), .box [(jB 6 wB), (jV 7 wV), .map 8, .map 9, (iQ upto), (bQ full)], .dead, .dead, .dead, .vec 5 (lB.map ay), .vec 4 (lV.map aD), .box [.vec 5 14 n0 0 k0, .vec 4 15 n1 0 k1]]) (zW 17 ⟨rfl, trivial⟩ Z Z Z (zL Z (zL Z (zL Z (zL Z (zL Z (zL Z (zL Z (zL Z (zL (ae (fun _ => rfl) _) (zL (ae (fun _ => rfl) _) (zL Z (zL Z (zL Z (zL Z (zL Z (zL Z (zL Z Z)))))))))))))))))) (.one (.tmp Z)) ?_;exact ⟨rfl, rfl⟩
  ·
   have hr := zO g3 hr;obtain ⟨v2, hb_v2, ho_v2⟩ := zB hr;clear hr;refine LW.cut (E := [(0, .ptr 10 0), (3, .ptr 17 0), (4, (bQ false)), (31, (bQ v2.1))]) (O := [.dead, .dead, .dead, .box [.zs, .zs], .box [.zs, .zs], .dead, .vec 5 (wB.map ay), .vec 4 (wV.map aD), (mQ sm), (mR hm), .box [(jB 6 wB), (jV 7 wV), .map 8, .map 9, (iQ upto), (bQ v2.2)], .dead, .dead, .dead, .vec 5 (lB.map ay), .vec 4 (lV.map aD), .box [.vec 5 14 n0 0 k0, .vec 4 15 n1 0 k1], .box [(iQ x.From), (iQ x.Slot), (uQ x.Head.1), (uQ x.Head.2)]]) ?_ ?_
   ·have hr := hb_v2;refine zQ<|zR<|zM Z<|yS Z (ab.not Z Z)<|zM Z<|zN<|zT ?_;refine zX Z (fun g4 => ?_)<|fun g4 => ?_
    ·
     refine zi g4 hr fun hr => zk<|zT ?_;obtain rfl := zJ hr;exact zW 18 ⟨Z, Z, Z, Z, trivial⟩ Z Z Z<|zL Z<|zL Z<|zL Z<|zL Z<|zL Z<|zL Z<|zL Z<|zL Z<|zL (ae (fun _ => rfl) _)<|zL (ae (fun _ => rfl) _)<|zL Z<|zL Z<|zL Z<|zL Z<|zL Z<|zL Z<|zL Z<|zL Z Z
    ·
     refine zo g4 hr fun hr => zQ<|LW.draw2 (by kernel_rfl) (by kernel_rfl)<|yE Z (zA Z Z po)<|yE Z (zD Z Z Z aX Z Z)<|zH Z<|yE Z (zn Z Z)<|yE Z (zA Z Z wA)<|yE Z (zD Z Z Z aX Z Z)<|yE Z (ax Z Z Z Z)<|zH Z<|LO.nil<|zT ?_;refine zX Z (fun g5 => ?_)<|fun g5 => ?_
     ·
      refine zi g5 hr fun hr => zk<|zT ?_;obtain rfl := zJ hr;exact zW 18 ⟨Z, Z, Z, Z, trivial⟩ Z Z Z<|zL Z<|zL Z<|zL Z<|zL Z<|zL Z<|zL Z<|zL Z<|zL Z<|zL (ae (fun _ => rfl) _)<|zL (ae (fun _ => rfl) _)<|zL Z<|zL Z<|zL Z<|zL Z<|zL Z<|zL Z<|zL Z<|zL Z Z
     ·
      refine zo g5 hr fun hr => zR<|zM Z<|zM Z<|yS Z (zn Z Z)<|yS Z (zA Z Z eg)<|yS Z (zA Z Z bG)<|yS Z (zD Z Z Z dP Z Z)<|yS Z (ab.lenVM Z Z Z (by kernel_rfl))<|zb hr fun v3 h_v3 hr => ?_;refine yS Z (zC Z Z Z (by kernel_rfl) (LC.pre (Dq h_v3) Z (zL Z (zL Z (zL Z (zL Z (zL Z (zL Z (zL Z (zL Z (zL (ae (fun _ => rfl) _) (zL (ae (fun _ => rfl) _) (zL Z (zL Z (zL Z (zL Z (zL Z (zL Z (zL Z Z))))))))))))))))) Z)) ?_;refine yS Z (ab.not Z Z)<|zM Z<|zN<|zT ?_;obtain rfl := zJ hr;exact zW 18 ⟨Z, Z, Z, Z, trivial⟩ Z Z Z<|zL Z<|zL Z<|zL Z<|zL Z<|zL Z<|zL Z<|zL Z<|zL Z<|zL (ae (fun _ => rfl) _)<|zL (ae (fun _ => rfl) _)<|zL Z<|zL Z<|zL Z<|zL Z<|zL Z<|zL Z<|zL Z<|zL Z Z
   ·have hr := ho_v2;clear hb_v2;refine zX Z (fun g6 => ?_)<|fun g6 => ?_
    ·
     refine zi g6 hr fun hr => zQ<|zR<|zM Z<|zN<|zT<|zr<|aq<|af ?_;obtain rfl := zJ hr;refine aS (env' := [(4, (bQ false))]) (H' := [.dead, .dead, .dead, .box [.zs, .zs], .box [.zs, .zs], .dead, .vec 5 (wB.map ay), .vec 4 (wV.map aD), (mQ sm), (mR hm), .box [(jB 6 wB), (jV 7 wV), .map 8, .map 9, (iQ upto), (bQ v2.2)], .dead, .dead, .dead, .vec 5 (lB.map ay), .vec 4 (lV.map aD), .box [.vec 5 14 n0 0 k0, .vec 4 15 n1 0 k1]]) (zW 17 ⟨rfl, trivial⟩ Z Z Z (zL Z (zL Z (zL Z (zL Z (zL Z (zL Z (zL Z (zL Z (zL (ae (fun _ => rfl) _) (zL (ae (fun _ => rfl) _) (zL Z (zL Z (zL Z (zL Z (zL Z (zL Z (zL Z Z)))))))))))))))))) (.one (.tmp Z)) ?_;exact ⟨rfl, rfl⟩
    ·
     refine zo g6 hr fun hr => zk<|ai<|zT<|zQ<|LW.drawW (by kernel_rfl) (by kernel_rfl)<|zK Z<|zK Z ?_;refine yF (F := []) (s := none) Z (fun H _ => zn Z Z) Z ?_;refine yF (F := []) (s := none) Z (fun H _ => zA Z Z nW) Z ?_;refine yF Z (zd Z Z Z wM Z Z) Z<|yF Z (zd Z Z Z co Z Z) Z<|zK Z ?_;refine yF (F := []) (s := none) Z (fun H _ => zn Z Z) Z ?_;refine yF (F := []) (s := none) Z (fun H _ => zA Z Z eg) Z ?_;refine yF (F := []) (s := none) Z (fun H _ => zA Z Z bG) Z ?_;refine yF Z (zd Z Z Z dP Z Z) Z<|yF Z (zd Z Z Z co Z Z) Z ?_;refine yF (F := []) (s := none) Z (fun H _ => mA Z cZ Z Z Z Z Z) Z ?_;refine zg hr fun q1 hr => yF Z (bE.appendX aD wV [x] rfl Z Z Z Z cZ q1) Z ?_;refine yF (F := []) (s := none) Z (fun H _ => zn Z Z) Z ?_;refine yF (F := []) (s := none) Z (fun H _ => zA Z Z eg) Z ?_;refine yF (F := []) (s := none) Z (fun H _ => zA Z Z bG) Z ?_;refine yF Z (zt Z Z Z Z dP Z Z Z) Z<|zg hr fun q2 hr => ?_;refine yF Z (bE.mapEntryX (f := aD) (g := (fun v => (bQ v))) x false wN Z Z Z Z A1 HD Z q2) Z ?_;refine yF (F := []) (s := none) Z (fun H _ => fE Z Z Z) Z ?_;refine yF Z (bE.entryStoreX (f := aD) (g := (fun v => (bQ v))) (m := hm) x ((aj hm x).getD false) true wN Z Z Z Z Z Z) Z ?_;refine LF.nil ⟨by kernel_rfl, ?_⟩;refine zT<|zQ<|zR<|zM Z<|zN<|zT<|zr ?_;obtain rfl := zJ hr;refine aS (env' := [(4, (bQ true))]) (H' := [.dead, .dead, .dead, .box [.zs, .zs], .box [.zs, .zs], .dead, .vec 5 (wB.map ay), .vec 4 ((wV ++ [x]).map aD), (mQ sm), .map (ah aD (fun v => (bQ v)) (aW hm x true)), .box [(jB 6 wB), .vec 4 7 ((wV ++ [x]).map aD).length 0 ((wV ++ [x]).map aD).length, .map 8, .map 9, (iQ upto), (bQ v2.2)], .dead, .dead, .dead, .vec 5 (lB.map ay), .vec 4 (lV.map aD), .box [.vec 5 14 n0 0 k0, .vec 4 15 n1 0 k1]]) (zW 17 ⟨rfl, trivial⟩ Z Z Z (zL Z (zL Z (zL Z (zL Z (zL Z (zL Z (zL Z (zL Z (zL (ae (fun _ => rfl) _) (zL (ae (fun _ => rfl) _) (zL Z (zL Z (zL Z (zL Z (zL Z (zL Z (zL Z Z)))))))))))))))))) (.one (.tmp Z)) ?_;exact ⟨rfl, rfl⟩
structure iW where
 t8 : Int
 o6 : List Bk
 o8 : List (ID × Int)
 o10_5 : Bool
def kw (lB : List Bk) (kk : Nat) (upto : Int) (x1 : iW) : Option (iW ⊕ (iW ⊕ (Int × List Bk × List (ID × Int) × Bool))) :=
 bif decide (x1.t8 < (kk : Int)) then
  (ix (lB.take kk) x1.t8).bind fun y1 =>
  (uy y1 x1.o6 x1.o8 upto x1.o10_5).bind fun v2 =>
  bif v2.1 then
   some (.inr (.inr (x1.t8, v2.2.1, v2.2.2.1, v2.2.2.2)))
  else
   some (.inl (iW.mk (IntKind.i64.wrap (x1.t8 + 1)) v2.2.1 v2.2.2.1 v2.2.2.2))
 else
  some (.inr (.inl (iW.mk x1.t8 x1.o6 x1.o8 x1.o10_5)))
def yH (lB : List Bk) (kk : Nat) (wB : List Bk) (sm : List (ID × Int)) (upto : Int) (full : Bool) : Option (Int × List Bk × List (ID × Int) × Bool) :=
 (iter (kw lB kk upto) bH (iW.mk 0 wB sm full)).bind fun b_v1 => Sum.elim (fun v1 =>
  some ((-1), v1.o6, v1.o8, v1.o10_5)) some b_v1
theorem Gt {lB : List Bk} {kk : Nat} {wB : List Bk} {wV : List Vt} {sm : List (ID × Int)} {hm : List (Vt × Bool)} {upto : Int} {full : Bool} {lV : List Vt} {n0 : Nat} {k0 : Nat} {n1 : Nat} {k1 : Nat} {r_ : Int × List Bk × List (ID × Int) × Bool} (hr : yH lB kk wB sm upto full = some r_) : LC Tryz.prog 192 [.vec 5 14 (lB.map ay).length 0 kk, .fn 179 [.ptr 10 0] []] [.dead, .dead, .dead, .box [.zs, .zs], .box [.zs, .zs], .dead, .vec 5 (wB.map ay), .vec 4 (wV.map aD), (mQ sm), (mR hm), .box [(jB 6 wB), (jV 7 wV), .map 8, .map 9, (iQ upto), (bQ full)], .dead, .dead, .dead, .vec 5 (lB.map ay), .vec 4 (lV.map aD), .box [.vec 5 14 n0 0 k0, .vec 4 15 n1 0 k1]] (Is (iQ r_.1) [.dead, .dead, .dead, .box [.zs, .zs], .box [.zs, .zs], .dead, .vec 5 (r_.2.1.map ay), .vec 4 (wV.map aD), (mQ r_.2.2.1), (mR hm), .box [(jB 6 r_.2.1), (jV 7 wV), .map 8, .map 9, (iQ upto), (bQ r_.2.2.2)], .dead, .dead, .dead, .vec 5 (lB.map ay), .vec 4 (lV.map aD), .box [.vec 5 14 n0 0 k0, .vec 4 15 n1 0 k1]]) := by
 refine dt Tryz.func192 Z Z Z ?_;unfold yH at hr;refine zQ<|zR<|zM Z<|zN<|zT<|zQ<|zQ<|zR<|zM Z<|yS Z (ab.lenVP Z Z Z (by kernel_rfl))<|zM Z<|zN<|zT ?_;obtain ⟨b_v1, hb_v1, ho_v1⟩ := zB hr;clear hr;refine LW.tailB (b := b_v1) (E := fun v1 => [(4, (iQ 0))]) (O := fun v1 => [.dead, .dead, .dead, .box [.zs, .zs], .box [.zs, .zs], .dead, .vec 5 (v1.o6.map ay), .vec 4 (wV.map aD), (mQ v1.o8), (mR hm), .box [(jB 6 v1.o6), (jV 7 wV), .map 8, .map 9, (iQ upto), (bQ v1.o10_5)], .dead, .dead, .dead, .vec 5 (lB.map ay), .vec 4 (lV.map aD), .box [.vec 5 14 n0 0 k0, .vec 4 15 n1 0 k1]]) ?_<|fun v1 e_v1 env_v1 H_v1 hw_v1 => ?_
 ·refine LW.block ?_;refine LW.iterB (E := fun x1 : iW => [(0, .vec 5 14 (lB.map ay).length 0 kk), (1, .fn 179 [.ptr 10 0] []), (4, (iQ 0)), (7, .p (.int .i64 (kk : Int))), (8, (iQ x1.t8))]) (O := fun x1 => [.dead, .dead, .dead, .box [.zs, .zs], .box [.zs, .zs], .dead, .vec 5 (x1.o6.map ay), .vec 4 (wV.map aD), (mQ x1.o8), (mR hm), .box [(jB 6 x1.o6), (jV 7 wV), .map 8, .map 9, (iQ upto), (bQ x1.o10_5)], .dead, .dead, .dead, .vec 5 (lB.map ay), .vec 4 (lV.map aD), .box [.vec 5 14 n0 0 k0, .vec 4 15 n1 0 k1]]) hb_v1 (zW 17 ⟨rfl, rfl, rfl, rfl, rfl, trivial⟩ Z Z Z (zL Z (zL Z (zL Z (zL Z (zL Z (zL Z (zL Z (zL Z (zL (ae (fun _ => rfl) _) (zL (ae (fun _ => rfl) _) (zL Z (zL Z (zL Z (zL Z (zL Z (zL Z (zL Z Z))))))))))))))))))<|fun x1 z_x1 hr hb_x1 => ?_;unfold kw at hr;refine zQ<|zR<|yS Z (ax Z Z Z Z)<|zN<|zT<|zQ ?_;refine zX Z (fun g1 => ?_)<|fun g1 => ?_
  ·
   refine zi g1 hr fun hr => zk<|zT<|zQ<|zl<|zQ<|zR<|zM Z<|zM Z<|zN<|zT<|zQ<|zR<|zM Z<|zM Z<|zM Z<|zb hr fun y1 h_y1 hr => yS Z (ab.indexAddrVP Z Z Z Z dJ h_y1)<|yS Z (ab.loadVX Z Z Z cj (fh h_y1).1 Z Z Z Z)<|zb hr fun v2 h_v2 hr => yS Z (zC Z Z Z (by kernel_rfl) (Do h_v2))<|zN<|zT ?_;refine zX Z (fun g2 => ?_)<|fun g2 => ?_
   ·
    refine zi g2 hr fun hr => zQ<|zR<|zM Z<|zM Z<|zN<|zT<|zr<|aq<|af<|af<|aq<|af<|af ?_;obtain rfl := zJ hr;have hr := congrArg some (hb_x1 _ rfl);obtain rfl := zJ hr;have hr := ck ho_v1;obtain rfl := zJ hr;exact ap (.one (.tmp Z))<|⟨rfl, rfl⟩
   ·
    refine zo g2 hr fun hr => zk<|ai<|zT<|zR<|yS Z (ax Z Z Z Z)<|zM Z<|zN<|zT ?_;obtain rfl := zJ hr;exact ⟨_, rfl, zW 17 ⟨rfl, rfl, rfl, rfl, rfl, trivial⟩ Z Z Z (zL Z (zL Z (zL Z (zL Z (zL Z (zL Z (zL Z (zL Z (zL (ae (fun _ => rfl) _) (zL (ae (fun _ => rfl) _) (zL Z (zL Z (zL Z (zL Z (zL Z (zL Z (zL Z Z)))))))))))))))))⟩
  ·
   refine zo g1 hr fun hr => zq<|ao<|ao<|zy<|zT ?_;obtain rfl := zJ hr;have hr := congrArg some (hb_x1 _ rfl);obtain rfl := zJ hr;exact ⟨_, rfl, zW 17 ⟨rfl, trivial⟩ Z Z Z (zL Z (zL Z (zL Z (zL Z (zL Z (zL Z (zL Z (zL Z (zL (ae (fun _ => rfl) _) (zL (ae (fun _ => rfl) _) (zL Z (zL Z (zL Z (zL Z (zL Z (zL Z (zL Z Z)))))))))))))))))⟩
 ·obtain rfl := e_v1;have hr := dK ho_v1;clear hb_v1;refine zT<|LW.weak hw_v1<|zQ<|zR<|zM Z<|zN<|zT<|zr ?_;obtain rfl := zJ hr;exact ap (.one (.tmp Z))<|⟨rfl, rfl⟩
structure gI where
 i : Int
 j : Int
 o6 : List Bk
 o8 : List (ID × Int)
 o10_5 : Bool
 o14 : List Bk
def kp (kk : Nat) (upto : Int) (x1 : gI) : Option (gI ⊕ gI) :=
 bif decide (x1.j < (kk : Int)) then
  (ix (x1.o14.take kk) x1.j).bind fun y1 =>
  (uy y1 x1.o6 x1.o8 upto x1.o10_5).bind fun v3 =>
  bif !v3.1 then
   (ix (x1.o14.take kk) x1.i).bind fun _ =>
   some (.inl (gI.mk (IntKind.i64.wrap (x1.i + 1)) (IntKind.i64.wrap (x1.j + 1)) v3.2.1 v3.2.2.1 v3.2.2.2 (x1.o14.set x1.i.toNat y1)))
  else
   some (.inl (gI.mk x1.i (IntKind.i64.wrap (x1.j + 1)) v3.2.1 v3.2.2.1 v3.2.2.2 x1.o14))
 else
  some (.inr (gI.mk x1.i x1.j x1.o6 x1.o8 x1.o10_5 x1.o14))
def yv (lB : List Bk) (kk : Nat) (wB : List Bk) (sm : List (ID × Int)) (upto : Int) (full : Bool) : Option (Nat × List Bk × List Bk × List (ID × Int) × Bool) :=
 (yH lB kk wB sm upto full).bind fun v1 =>
 bif v1.1 == (-1) then
  some (kk, lB, v1.2.1, v1.2.2.1, v1.2.2.2)
 else
  (iter (kp kk upto) bH (gI.mk v1.1 (IntKind.i64.wrap (v1.1 + 1)) v1.2.1 v1.2.2.1 v1.2.2.2 lB)).bind fun v2 =>
  bif decide (0 ≤ v2.i ∧ v2.i ≤ (kk : Int)) then
   bif decide (v2.i.toNat + (kk - v2.i.toNat) ≤ v2.o14.length) then
    bif decide (0 ≤ v2.i ∧ v2.i ≤ (kk : Int)) then
     some (v2.i.toNat, gV v2.o14 v2.i.toNat (kk - v2.i.toNat) (Bk.mk 0 0 (0, 0) 0), v2.o6, v2.o8, v2.o10_5)
    else none
   else none
  else none
theorem Gn {lB : List Bk} {kk : Nat} {wB : List Bk} {wV : List Vt} {sm : List (ID × Int)} {hm : List (Vt × Bool)} {upto : Int} {full : Bool} {lV : List Vt} {n0 : Nat} {k0 : Nat} {n1 : Nat} {k1 : Nat} {r_ : Nat × List Bk × List Bk × List (ID × Int) × Bool} (hr : yv lB kk wB sm upto full = some r_) : LC Tryz.prog 181 [.vec 5 14 (lB.map ay).length 0 kk, .fn 179 [.ptr 10 0] []] [.dead, .dead, .dead, .box [.zs, .zs], .box [.zs, .zs], .dead, .vec 5 (wB.map ay), .vec 4 (wV.map aD), (mQ sm), (mR hm), .box [(jB 6 wB), (jV 7 wV), .map 8, .map 9, (iQ upto), (bQ full)], .dead, .dead, .dead, .vec 5 (lB.map ay), .vec 4 (lV.map aD), .box [.vec 5 14 n0 0 k0, .vec 4 15 n1 0 k1]] (Is (.vec 5 14 (r_.2.1.map ay).length 0 r_.1) [.dead, .dead, .dead, .box [.zs, .zs], .box [.zs, .zs], .dead, .vec 5 (r_.2.2.1.map ay), .vec 4 (wV.map aD), (mQ r_.2.2.2.1), (mR hm), .box [(jB 6 r_.2.2.1), (jV 7 wV), .map 8, .map 9, (iQ upto), (bQ r_.2.2.2.2)], .dead, .dead, .dead, .vec 5 (r_.2.1.map ay), .vec 4 (lV.map aD), .box [.vec 5 14 n0 0 k0, .vec 4 15 n1 0 k1]]) := by
 refine dt Tryz.func181 Z Z Z ?_;unfold yv at hr;refine zQ<|zR<|zM Z<|zN<|zT<|zQ<|zR<|zM Z<|zM Z<|zb hr fun v1 h_v1 hr => yS Z (zC Z Z Z (by kernel_rfl) (Gt h_v1))<|zM Z<|zN<|zT<|zQ<|zQ<|zR<|zM Z<|yS Z (ax Z Z Z Z)<|zN<|zT ?_;refine zX Z (fun g1 => ?_)<|fun g1 => ?_
 ·
  refine zi g1 hr fun hr => zQ<|zR<|zM Z<|zM Z<|zN<|zT<|zr<|af ?_;obtain rfl := zJ hr;exact ap (.one (.tmp Z))<|⟨rfl, rfl⟩
 ·
  refine zo g1 hr fun hr => zk<|zT<|zQ<|zQ<|zR<|zM Z<|yS Z (ax Z Z Z Z)<|zM Z<|zN<|zT ?_;obtain ⟨v2, hb_v2, ho_v2⟩ := zB hr;clear hr;refine LW.tail (E := [(0, .vec 5 14 (v2.o14.map ay).length 0 kk), (4, .zs), (5, (iQ v2.i))]) (O := [.dead, .dead, .dead, .box [.zs, .zs], .box [.zs, .zs], .dead, .vec 5 (v2.o6.map ay), .vec 4 (wV.map aD), (mQ v2.o8), (mR hm), .box [(jB 6 v2.o6), (jV 7 wV), .map 8, .map 9, (iQ upto), (bQ v2.o10_5)], .dead, .dead, .dead, .vec 5 (v2.o14.map ay), .vec 4 (lV.map aD), .box [.vec 5 14 n0 0 k0, .vec 4 15 n1 0 k1]]) ?_<|fun env_v2 H_v2 hw_v2 => ?_
  ·refine LW.block ?_;refine LW.iterB (E := fun x1 : gI => [(0, .vec 5 14 (x1.o14.map ay).length 0 kk), (1, .fn 179 [.ptr 10 0] []), (4, .zs), (5, (iQ x1.i)), (6, (iQ x1.j))]) (O := fun x1 => [.dead, .dead, .dead, .box [.zs, .zs], .box [.zs, .zs], .dead, .vec 5 (x1.o6.map ay), .vec 4 (wV.map aD), (mQ x1.o8), (mR hm), .box [(jB 6 x1.o6), (jV 7 wV), .map 8, .map 9, (iQ upto), (bQ x1.o10_5)], .dead, .dead, .dead, .vec 5 (x1.o14.map ay), .vec 4 (lV.map aD), .box [.vec 5 14 n0 0 k0, .vec 4 15 n1 0 k1]]) hb_v2 (zW 17 ⟨rfl, rfl, rfl, rfl, rfl, trivial⟩ Z Z Z (zL Z (zL Z (zL Z (zL Z (zL Z (zL Z (zL Z (zL Z (zL (ae (fun _ => rfl) _) (zL (ae (fun _ => rfl) _) (zL Z (zL Z (zL Z (zL Z (zL Z (zL Z (zL Z Z))))))))))))))))))<|fun x1 z_x1 hr hb_x1 => ?_;unfold kp at hr;refine zQ<|zQ<|zR<|zM Z<|zM Z<|yS Z (ab.lenVP Z Z Z (by kernel_rfl))<|yS Z (ax Z Z Z Z)<|zN<|zT ?_;refine zX Z (fun g2 => ?_)<|fun g2 => ?_
   ·
    refine zi g2 hr fun hr => zk<|zT<|zQ<|zl<|zQ<|zR<|zM Z<|zM Z<|zb hr fun y1 h_y1 hr => yS Z (ab.indexAddrVP Z Z Z Z dJ h_y1)<|yS Z (ab.loadVX Z Z Z cj (fh h_y1).1 Z Z Z Z)<|yS Z (ze Z un Z Z)<|yS Z (zs Z Z Z Z cj Z Z Z Z)<|zN<|zT<|zQ<|zR<|zM Z<|yS Z (zD Z Z Z cj Z Z)<|zb hr fun v3 h_v3 hr => ?_;refine yS Z (zC Z Z Z (by kernel_rfl) (LC.pre (Do h_v3) Z (zL Z (zL Z (zL Z (zL Z (zL Z (zL Z (zL Z (zL Z (zL (ae (fun _ => rfl) _) (zL (ae (fun _ => rfl) _) (zL Z (zL Z (zL Z (zL Z (zL Z (zL Z (zL Z Z))))))))))))))))) Z)) ?_;refine yS Z (ab.not Z Z)<|zN<|zT ?_;refine zX Z (fun g3 => ?_)<|fun g3 => ?_
    ·
     refine zi g3 hr fun hr => zQ<|zR<|zM Z<|zM Z<|yS Z (zD Z Z Z cj Z Z)<|zb hr fun y2 h_y2 hr => yS Z (ab.indexAddrVP Z Z Z Z dJ h_y2) ?_;refine yS Z (ab.storeVP (f := ay) (l := x1.o14) y1 Z Z Z Z cj (fun _ => rfl) (fh h_y2).1 Z Z Z Z Z Z Z) ?_;refine zN<|zT<|zR<|zM Z<|yS Z (ax Z Z Z Z)<|zM Z<|zN<|ai<|zT<|zR<|zM Z<|yS Z (ax Z Z Z Z)<|zM Z<|zN<|zT ?_;obtain rfl := zJ hr;exact ⟨_, rfl, zW 17 ⟨(EX (rfl)), rfl, rfl, rfl, rfl, trivial⟩ Z Z Z (zL Z (zL Z (zL Z (zL Z (zL Z (zL Z (zL Z (zL Z (zL (ae (fun _ => rfl) _) (zL (ae (fun _ => rfl) _) (zL Z (zL Z (zL Z (zL Z (zL Z (zL Z (zL Z Z)))))))))))))))))⟩
    ·
     refine zo g3 hr fun hr => zk<|ai<|zT<|zR<|zM Z<|yS Z (ax Z Z Z Z)<|zM Z<|zN<|zT ?_;obtain rfl := zJ hr;exact ⟨_, rfl, zW 17 ⟨rfl, rfl, rfl, rfl, rfl, trivial⟩ Z Z Z (zL Z (zL Z (zL Z (zL Z (zL Z (zL Z (zL Z (zL Z (zL (ae (fun _ => rfl) _) (zL (ae (fun _ => rfl) _) (zL Z (zL Z (zL Z (zL Z (zL Z (zL Z (zL Z Z)))))))))))))))))⟩
   ·
    refine zo g2 hr fun hr => zq<|ao<|ao<|zy<|zT ?_;obtain rfl := zJ hr;have hr := congrArg some (hb_x1 _ rfl);obtain rfl := zJ hr;exact zW 17 ⟨Z, Z, Z, trivial⟩ Z Z Z<|zL Z<|zL Z<|zL Z<|zL Z<|zL Z<|zL Z<|zL Z<|zL Z<|zL (ae (fun _ => rfl) _)<|zL (ae (fun _ => rfl) _)<|zL Z<|zL Z<|zL Z<|zL Z<|zL Z<|zL Z<|zL Z Z
  ·have hr := ho_v2;clear hb_v2;refine zT<|LW.weak hw_v2<|zQ<|zR<|zM Z<|zM Z<|zg hr fun q1 hr => yS Z (ab.sliceVLo Z Z Z Z dJ q1)<|zg hr fun q2 hr => ?_;refine yS Z (ab.clearVP (f := ay) (zs := [.int .i64 0, .int .i64 0, .int .u64 0, .int .u64 0, .int .u64 0]) (Bk.mk 0 0 (0, 0) 0) Z Z Z dJ (fun _ => rfl) (by kernel_rfl) Z q2 Z) ?_;refine zN<|zT<|zQ<|LW.ent (bJ.vlen (t := 0) (n' := ((gV v2.o14 v2.i.toNat (kk - v2.i.toNat) (Bk.mk 0 0 (0, 0) 0)).map ay).length) Z (rl q2))<|zR<|zM Z<|zM Z<|zg hr fun q3 hr => yS Z (ab.sliceVHi Z Z Z Z dJ q3)<|zM Z<|zN<|zT<|zr ?_;obtain rfl := zJ hr;exact ap (.one (.tmp Z))<|⟨rfl, rfl⟩
structure iV where
 t8 : Int
 o7 : List Vt
 o9 : List (Vt × Bool)
 o10_5 : Bool
def ku (lV : List Vt) (kk : Nat) (sm : List (ID × Int)) (upto : Int) (x1 : iV) : Option (iV ⊕ (iV ⊕ (Int × List Vt × List (Vt × Bool) × Bool))) :=
 bif decide (x1.t8 < (kk : Int)) then
  (ix (lV.take kk) x1.t8).bind fun y1 =>
  (uz y1 x1.o7 sm x1.o9 upto x1.o10_5).bind fun v2 =>
  bif v2.1 then
   some (.inr (.inr (x1.t8, v2.2.1, v2.2.2.1, v2.2.2.2)))
  else
   some (.inl (iV.mk (IntKind.i64.wrap (x1.t8 + 1)) v2.2.1 v2.2.2.1 v2.2.2.2))
 else
  some (.inr (.inl (iV.mk x1.t8 x1.o7 x1.o9 x1.o10_5)))
def yD (lV : List Vt) (kk : Nat) (wV : List Vt) (sm : List (ID × Int)) (hm : List (Vt × Bool)) (upto : Int) (full : Bool) : Option (Int × List Vt × List (Vt × Bool) × Bool) :=
 (iter (ku lV kk sm upto) bH (iV.mk 0 wV hm full)).bind fun b_v1 => Sum.elim (fun v1 =>
  some ((-1), v1.o7, v1.o9, v1.o10_5)) some b_v1
theorem Gs {lV : List Vt} {kk : Nat} {wB : List Bk} {wV : List Vt} {sm : List (ID × Int)} {hm : List (Vt × Bool)} {upto : Int} {full : Bool} {lB : List Bk} {n0 : Nat} {k0 : Nat} {n1 : Nat} {k1 : Nat} {r_ : Int × List Vt × List (Vt × Bool) × Bool} (hr : yD lV kk wV sm hm upto full = some r_) : LC Tryz.prog 170 [.vec 4 15 (lV.map aD).length 0 kk, .fn 180 [.ptr 10 0] []] [.dead, .dead, .dead, .box [.zs, .zs], .box [.zs, .zs], .dead, .vec 5 (wB.map ay), .vec 4 (wV.map aD), (mQ sm), (mR hm), .box [(jB 6 wB), (jV 7 wV), .map 8, .map 9, (iQ upto), (bQ full)], .dead, .dead, .dead, .vec 5 (lB.map ay), .vec 4 (lV.map aD), .box [.vec 5 14 n0 0 k0, .vec 4 15 n1 0 k1]] (Is (iQ r_.1) [.dead, .dead, .dead, .box [.zs, .zs], .box [.zs, .zs], .dead, .vec 5 (wB.map ay), .vec 4 (r_.2.1.map aD), (mQ sm), (mR r_.2.2.1), .box [(jB 6 wB), (jV 7 r_.2.1), .map 8, .map 9, (iQ upto), (bQ r_.2.2.2)], .dead, .dead, .dead, .vec 5 (lB.map ay), .vec 4 (lV.map aD), .box [.vec 5 14 n0 0 k0, .vec 4 15 n1 0 k1]]) := by
 refine dt Tryz.func170 Z Z Z ?_;unfold yD at hr;refine zQ<|zR<|zM Z<|zN<|zT<|zQ<|zQ<|zR<|zM Z<|yS Z (ab.lenVP Z Z Z (by kernel_rfl))<|zM Z<|zN<|zT ?_;obtain ⟨b_v1, hb_v1, ho_v1⟩ := zB hr;clear hr;refine LW.tailB (b := b_v1) (E := fun v1 => [(4, (iQ 0))]) (O := fun v1 => [.dead, .dead, .dead, .box [.zs, .zs], .box [.zs, .zs], .dead, .vec 5 (wB.map ay), .vec 4 (v1.o7.map aD), (mQ sm), (mR v1.o9), .box [(jB 6 wB), (jV 7 v1.o7), .map 8, .map 9, (iQ upto), (bQ v1.o10_5)], .dead, .dead, .dead, .vec 5 (lB.map ay), .vec 4 (lV.map aD), .box [.vec 5 14 n0 0 k0, .vec 4 15 n1 0 k1]]) ?_<|fun v1 e_v1 env_v1 H_v1 hw_v1 => ?_
 ·refine LW.block ?_;refine LW.iterB (E := fun x1 : iV => [(0, .vec 4 15 (lV.map aD).length 0 kk), (1, .fn 180 [.ptr 10 0] []), (4, (iQ 0)), (7, .p (.int .i64 (kk : Int))), (8, (iQ x1.t8))]) (O := fun x1 => [.dead, .dead, .dead, .box [.zs, .zs], .box [.zs, .zs], .dead, .vec 5 (wB.map ay), .vec 4 (x1.o7.map aD), (mQ sm), (mR x1.o9), .box [(jB 6 wB), (jV 7 x1.o7), .map 8, .map 9, (iQ upto), (bQ x1.o10_5)], .dead, .dead, .dead, .vec 5 (lB.map ay), .vec 4 (lV.map aD), .box [.vec 5 14 n0 0 k0, .vec 4 15 n1 0 k1]]) hb_v1 (zW 17 ⟨rfl, rfl, rfl, rfl, rfl, trivial⟩ Z Z Z (zL Z (zL Z (zL Z (zL Z (zL Z (zL Z (zL Z (zL Z (zL (ae (fun _ => rfl) _) (zL (ae (fun _ => rfl) _) (zL Z (zL Z (zL Z (zL Z (zL Z (zL Z (zL Z Z))))))))))))))))))<|fun x1 z_x1 hr hb_x1 => ?_;unfold ku at hr;refine zQ<|zR<|yS Z (ax Z Z Z Z)<|zN<|zT<|zQ ?_;refine zX Z (fun g1 => ?_)<|fun g1 => ?_
  ·
   refine zi g1 hr fun hr => zk<|zT<|zQ<|zl<|zQ<|zR<|zM Z<|zM Z<|zN<|zT<|zQ<|zR<|zM Z<|zM Z<|zM Z<|zb hr fun y1 h_y1 hr => yS Z (ab.indexAddrVP Z Z Z Z cZ h_y1)<|yS Z (ab.loadVX Z Z Z co (fh h_y1).1 Z Z Z Z)<|zb hr fun v2 h_v2 hr => yS Z (zC Z Z Z (by kernel_rfl) (Dp h_v2))<|zN<|zT ?_;refine zX Z (fun g2 => ?_)<|fun g2 => ?_
   ·
    refine zi g2 hr fun hr => zQ<|zR<|zM Z<|zM Z<|zN<|zT<|zr<|aq<|af<|af<|aq<|af<|af ?_;obtain rfl := zJ hr;have hr := congrArg some (hb_x1 _ rfl);obtain rfl := zJ hr;have hr := ck ho_v1;obtain rfl := zJ hr;exact ap (.one (.tmp Z))<|⟨rfl, rfl⟩
   ·
    refine zo g2 hr fun hr => zk<|ai<|zT<|zR<|yS Z (ax Z Z Z Z)<|zM Z<|zN<|zT ?_;obtain rfl := zJ hr;exact ⟨_, rfl, zW 17 ⟨rfl, rfl, rfl, rfl, rfl, trivial⟩ Z Z Z (zL Z (zL Z (zL Z (zL Z (zL Z (zL Z (zL Z (zL Z (zL (ae (fun _ => rfl) _) (zL (ae (fun _ => rfl) _) (zL Z (zL Z (zL Z (zL Z (zL Z (zL Z (zL Z Z)))))))))))))))))⟩
  ·
   refine zo g1 hr fun hr => zq<|ao<|ao<|zy<|zT ?_;obtain rfl := zJ hr;have hr := congrArg some (hb_x1 _ rfl);obtain rfl := zJ hr;exact ⟨_, rfl, zW 17 ⟨rfl, trivial⟩ Z Z Z (zL Z (zL Z (zL Z (zL Z (zL Z (zL Z (zL Z (zL Z (zL (ae (fun _ => rfl) _) (zL (ae (fun _ => rfl) _) (zL Z (zL Z (zL Z (zL Z (zL Z (zL Z (zL Z Z)))))))))))))))))⟩
 ·obtain rfl := e_v1;have hr := dK ho_v1;clear hb_v1;refine zT<|LW.weak hw_v1<|zQ<|zR<|zM Z<|zN<|zT<|zr ?_;obtain rfl := zJ hr;exact ap (.one (.tmp Z))<|⟨rfl, rfl⟩
structure gJ where
 i : Int
 j : Int
 o7 : List Vt
 o9 : List (Vt × Bool)
 o10_5 : Bool
 o15 : List Vt
def kq (kk : Nat) (sm : List (ID × Int)) (upto : Int) (x1 : gJ) : Option (gJ ⊕ gJ) :=
 bif decide (x1.j < (kk : Int)) then
  (ix (x1.o15.take kk) x1.j).bind fun y1 =>
  (uz y1 x1.o7 sm x1.o9 upto x1.o10_5).bind fun v3 =>
  bif !v3.1 then
   (ix (x1.o15.take kk) x1.i).bind fun _ =>
   some (.inl (gJ.mk (IntKind.i64.wrap (x1.i + 1)) (IntKind.i64.wrap (x1.j + 1)) v3.2.1 v3.2.2.1 v3.2.2.2 (x1.o15.set x1.i.toNat y1)))
  else
   some (.inl (gJ.mk x1.i (IntKind.i64.wrap (x1.j + 1)) v3.2.1 v3.2.2.1 v3.2.2.2 x1.o15))
 else
  some (.inr (gJ.mk x1.i x1.j x1.o7 x1.o9 x1.o10_5 x1.o15))
def yw (lV : List Vt) (kk : Nat) (wV : List Vt) (sm : List (ID × Int)) (hm : List (Vt × Bool)) (upto : Int) (full : Bool) : Option (Nat × List Vt × List Vt × List (Vt × Bool) × Bool) :=
 (yD lV kk wV sm hm upto full).bind fun v1 =>
 bif v1.1 == (-1) then
  some (kk, lV, v1.2.1, v1.2.2.1, v1.2.2.2)
 else
  (iter (kq kk sm upto) bH (gJ.mk v1.1 (IntKind.i64.wrap (v1.1 + 1)) v1.2.1 v1.2.2.1 v1.2.2.2 lV)).bind fun v2 =>
  bif decide (0 ≤ v2.i ∧ v2.i ≤ (kk : Int)) then
   bif decide (v2.i.toNat + (kk - v2.i.toNat) ≤ v2.o15.length) then
    bif decide (0 ≤ v2.i ∧ v2.i ≤ (kk : Int)) then
     some (v2.i.toNat, gV v2.o15 v2.i.toNat (kk - v2.i.toNat) (Vt.mk 0 0 (0, 0)), v2.o7, v2.o9, v2.o10_5)
    else none
   else none
  else none
theorem Gp {lV : List Vt} {kk : Nat} {wB : List Bk} {wV : List Vt} {sm : List (ID × Int)} {hm : List (Vt × Bool)} {upto : Int} {full : Bool} {lB : List Bk} {n0 : Nat} {k0 : Nat} {n1 : Nat} {k1 : Nat} {r_ : Nat × List Vt × List Vt × List (Vt × Bool) × Bool} (hr : yw lV kk wV sm hm upto full = some r_) : LC Tryz.prog 150 [.vec 4 15 (lV.map aD).length 0 kk, .fn 180 [.ptr 10 0] []] [.dead, .dead, .dead, .box [.zs, .zs], .box [.zs, .zs], .dead, .vec 5 (wB.map ay), .vec 4 (wV.map aD), (mQ sm), (mR hm), .box [(jB 6 wB), (jV 7 wV), .map 8, .map 9, (iQ upto), (bQ full)], .dead, .dead, .dead, .vec 5 (lB.map ay), .vec 4 (lV.map aD), .box [.vec 5 14 n0 0 k0, .vec 4 15 n1 0 k1]] (Is (.vec 4 15 (r_.2.1.map aD).length 0 r_.1) [.dead, .dead, .dead, .box [.zs, .zs], .box [.zs, .zs], .dead, .vec 5 (wB.map ay), .vec 4 (r_.2.2.1.map aD), (mQ sm), (mR r_.2.2.2.1), .box [(jB 6 wB), (jV 7 r_.2.2.1), .map 8, .map 9, (iQ upto), (bQ r_.2.2.2.2)], .dead, .dead, .dead, .vec 5 (lB.map ay), .vec 4 (r_.2.1.map aD), .box [.vec 5 14 n0 0 k0, .vec 4 15 n1 0 k1]]) := by
 refine dt Tryz.func150 Z Z Z ?_;unfold yw at hr;refine zQ<|zR<|zM Z<|zN<|zT<|zQ<|zR<|zM Z<|zM Z<|zb hr fun v1 h_v1 hr => yS Z (zC Z Z Z (by kernel_rfl) (Gs h_v1))<|zM Z<|zN<|zT<|zQ<|zQ<|zR<|zM Z<|yS Z (ax Z Z Z Z)<|zN<|zT ?_;refine zX Z (fun g1 => ?_)<|fun g1 => ?_
 ·
  refine zi g1 hr fun hr => zQ<|zR<|zM Z<|zM Z<|zN<|zT<|zr<|af ?_;obtain rfl := zJ hr;exact ap (.one (.tmp Z))<|⟨rfl, rfl⟩
 ·
  refine zo g1 hr fun hr => zk<|zT<|zQ<|zQ<|zR<|zM Z<|yS Z (ax Z Z Z Z)<|zM Z<|zN<|zT ?_;obtain ⟨v2, hb_v2, ho_v2⟩ := zB hr;clear hr;refine LW.tail (E := [(0, .vec 4 15 (v2.o15.map aD).length 0 kk), (4, .zs), (5, (iQ v2.i))]) (O := [.dead, .dead, .dead, .box [.zs, .zs], .box [.zs, .zs], .dead, .vec 5 (wB.map ay), .vec 4 (v2.o7.map aD), (mQ sm), (mR v2.o9), .box [(jB 6 wB), (jV 7 v2.o7), .map 8, .map 9, (iQ upto), (bQ v2.o10_5)], .dead, .dead, .dead, .vec 5 (lB.map ay), .vec 4 (v2.o15.map aD), .box [.vec 5 14 n0 0 k0, .vec 4 15 n1 0 k1]]) ?_<|fun env_v2 H_v2 hw_v2 => ?_
  ·refine LW.block ?_;refine LW.iterB (E := fun x1 : gJ => [(0, .vec 4 15 (x1.o15.map aD).length 0 kk), (1, .fn 180 [.ptr 10 0] []), (4, .zs), (5, (iQ x1.i)), (6, (iQ x1.j))]) (O := fun x1 => [.dead, .dead, .dead, .box [.zs, .zs], .box [.zs, .zs], .dead, .vec 5 (wB.map ay), .vec 4 (x1.o7.map aD), (mQ sm), (mR x1.o9), .box [(jB 6 wB), (jV 7 x1.o7), .map 8, .map 9, (iQ upto), (bQ x1.o10_5)], .dead, .dead, .dead, .vec 5 (lB.map ay), .vec 4 (x1.o15.map aD), .box [.vec 5 14 n0 0 k0, .vec 4 15 n1 0 k1]]) hb_v2 (zW 17 ⟨rfl, rfl, rfl, rfl, rfl, trivial⟩ Z Z Z (zL Z (zL Z (zL Z (zL Z (zL Z (zL Z (zL Z (zL Z (zL (ae (fun _ => rfl) _) (zL (ae (fun _ => rfl) _) (zL Z (zL Z (zL Z (zL Z (zL Z (zL Z (zL Z Z))))))))))))))))))<|fun x1 z_x1 hr hb_x1 => ?_;unfold kq at hr;refine zQ<|zQ<|zR<|zM Z<|zM Z<|yS Z (ab.lenVP Z Z Z (by kernel_rfl))<|yS Z (ax Z Z Z Z)<|zN<|zT ?_;refine zX Z (fun g2 => ?_)<|fun g2 => ?_
   ·
    refine zi g2 hr fun hr => zk<|zT<|zQ<|zl<|zQ<|zR<|zM Z<|zM Z<|zb hr fun y1 h_y1 hr => yS Z (ab.indexAddrVP Z Z Z Z cZ h_y1)<|yS Z (ab.loadVX Z Z Z co (fh h_y1).1 Z Z Z Z)<|yS Z (ze Z rR Z Z)<|yS Z (zs Z Z Z Z co Z Z Z Z)<|zN<|zT<|zQ<|zR<|zM Z<|yS Z (zD Z Z Z co Z Z)<|zb hr fun v3 h_v3 hr => ?_;refine yS Z (zC Z Z Z (by kernel_rfl) (LC.pre (Dp h_v3) Z (zL Z (zL Z (zL Z (zL Z (zL Z (zL Z (zL Z (zL Z (zL (ae (fun _ => rfl) _) (zL (ae (fun _ => rfl) _) (zL Z (zL Z (zL Z (zL Z (zL Z (zL Z (zL Z Z))))))))))))))))) Z)) ?_;refine yS Z (ab.not Z Z)<|zN<|zT ?_;refine zX Z (fun g3 => ?_)<|fun g3 => ?_
    ·
     refine zi g3 hr fun hr => zQ<|zR<|zM Z<|zM Z<|yS Z (zD Z Z Z co Z Z)<|zb hr fun y2 h_y2 hr => yS Z (ab.indexAddrVP Z Z Z Z cZ h_y2) ?_;refine yS Z (ab.storeVP (f := aD) (l := x1.o15) y1 Z Z Z Z co (fun _ => rfl) (fh h_y2).1 Z Z Z Z Z Z Z) ?_;refine zN<|zT<|zR<|zM Z<|yS Z (ax Z Z Z Z)<|zM Z<|zN<|ai<|zT<|zR<|zM Z<|yS Z (ax Z Z Z Z)<|zM Z<|zN<|zT ?_;obtain rfl := zJ hr;exact ⟨_, rfl, zW 17 ⟨(EX (rfl)), rfl, rfl, rfl, rfl, trivial⟩ Z Z Z (zL Z (zL Z (zL Z (zL Z (zL Z (zL Z (zL Z (zL Z (zL (ae (fun _ => rfl) _) (zL (ae (fun _ => rfl) _) (zL Z (zL Z (zL Z (zL Z (zL Z (zL Z (zL Z Z)))))))))))))))))⟩
    ·
     refine zo g3 hr fun hr => zk<|ai<|zT<|zR<|zM Z<|yS Z (ax Z Z Z Z)<|zM Z<|zN<|zT ?_;obtain rfl := zJ hr;exact ⟨_, rfl, zW 17 ⟨rfl, rfl, rfl, rfl, rfl, trivial⟩ Z Z Z (zL Z (zL Z (zL Z (zL Z (zL Z (zL Z (zL Z (zL Z (zL (ae (fun _ => rfl) _) (zL (ae (fun _ => rfl) _) (zL Z (zL Z (zL Z (zL Z (zL Z (zL Z (zL Z Z)))))))))))))))))⟩
   ·
    refine zo g2 hr fun hr => zq<|ao<|ao<|zy<|zT ?_;obtain rfl := zJ hr;have hr := congrArg some (hb_x1 _ rfl);obtain rfl := zJ hr;exact zW 17 ⟨Z, Z, Z, trivial⟩ Z Z Z<|zL Z<|zL Z<|zL Z<|zL Z<|zL Z<|zL Z<|zL Z<|zL Z<|zL (ae (fun _ => rfl) _)<|zL (ae (fun _ => rfl) _)<|zL Z<|zL Z<|zL Z<|zL Z<|zL Z<|zL Z<|zL Z Z
  ·have hr := ho_v2;clear hb_v2;refine zT<|LW.weak hw_v2<|zQ<|zR<|zM Z<|zM Z<|zg hr fun q1 hr => yS Z (ab.sliceVLo Z Z Z Z cZ q1)<|zg hr fun q2 hr => ?_;refine yS Z (ab.clearVP (f := aD) (zs := [.int .i64 0, .int .i64 0, .int .u64 0, .int .u64 0]) (Vt.mk 0 0 (0, 0)) Z Z Z cZ (fun _ => rfl) (by kernel_rfl) Z q2 Z) ?_;refine zN<|zT<|zQ<|LW.ent (bJ.vlen (t := 0) (n' := ((gV v2.o15 v2.i.toNat (kk - v2.i.toNat) (Vt.mk 0 0 (0, 0))).map aD).length) Z (rl q2))<|zR<|zM Z<|zM Z<|zg hr fun q3 hr => yS Z (ab.sliceVHi Z Z Z Z cZ q3)<|zM Z<|zN<|zT<|zr ?_;obtain rfl := zJ hr;exact ap (.one (.tmp Z))<|⟨rfl, rfl⟩
structure Ac where
 Tick : Int
 To : Int
 Offer : Bool
 B : List Bk
 V : List Vt
def lL (a : Ac) : PV := .agg [.int .i64 a.Tick, .int .i64 a.To, .bool a.Offer, .slice 5 (a.B.map ay), .slice 4 (a.V.map aD)]
structure Of where
 Slot : Int
 From : Int
 B : Bk
 V : Vw
def di (o : Of) : PV := .agg [.int .i64 o.Slot, .int .i64 o.From, .int .i64 o.B.Slot, .int .i64 o.B.From, .int .u64 o.B.Parent.1, .int .u64 o.B.Parent.2, .int .u64 o.B.Salt, .slice 5 (o.V.B.map ay), .slice 4 (o.V.V.map aD)]
structure Nd where
 No : Int
 Tick : Int
 V : Vw
 In : Vw
 O : List Of
 C : Cu
 Full : Bool
def gW (n : Nd) : PV := .agg [.int .i64 n.No, .int .i64 n.Tick, .slice 5 (n.V.B.map ay), .slice 4 (n.V.V.map aD), .slice 5 (n.In.B.map ay), .slice 4 (n.In.V.map aD), .slice 9 (n.O.map di), .int .u64 n.C.ID.1, .int .u64 n.C.ID.2, .int .i64 n.C.Slot, .int .i64 n.C.Revoked, .bool n.Full]
structure Wd where
 C : Cf
 Bad : List Int
 Tick : Int
 N : List Nd
 O : List Of
def ya (w : Wd) : PV := .agg [.slice 1 (w.C.W.map aB), .int .u64 w.C.Seed, .int .i64 w.C.Epoch, .int .i64 w.C.Num, .int .i64 w.C.Den, .slice 1 (w.Bad.map aB), .int .i64 w.Tick, .slice 12 (w.N.map gW), .slice 9 (w.O.map di)]
structure Du where
 frm : Int
 slot : Int
 deriving DecidableEq
def qc (d : Du) : PV := .agg [.int .i64 d.frm, .int .i64 d.slot]
theorem wk : eJ qc 2 true := ⟨fun a b => by
 obtain ⟨x, y⟩ := a;obtain ⟨z, w⟩ := b;simp only [qc, gu, oV, Bool.and_true, Du.mk.injEq, Option.some.injEq]
 by_cases h1 : x = z <;> by_cases h2 : y = w <;> simp [h1, h2], fun _ => rfl⟩
abbrev kO (l : List Of) : LV := .p (.slice 9 (l.map di))
abbrev jO (i : Nat) (l : List Of) : LV := .vec 9 i (l.map di).length 0 (l.map di).length
abbrev mB : List LV := [iQ 0, iQ 0, .zs, .zs, .zs, .zs, .zs, uQ 0, uQ 0, iQ 0, iQ 0, bQ false]
abbrev mg (n : Nd) : List LV := [.p (.int .i64 n.No), .p (.int .i64 n.Tick), .p (.slice 5 (n.V.B.map ay)), .p (.slice 4 (n.V.V.map aD)), .p (.slice 5 (n.In.B.map ay)), .p (.slice 4 (n.In.V.map aD)), .p (.slice 9 (n.O.map di)), .p (.int .u64 n.C.ID.1), .p (.int .u64 n.C.ID.2), .p (.int .i64 n.C.Slot), .p (.int .i64 n.C.Revoked), .p (.bool n.Full)]
abbrev fX (w : Wd) : List LV := [.p (.slice 1 (w.C.W.map aB)), .p (.int .u64 w.C.Seed), .p (.int .i64 w.C.Epoch), .p (.int .i64 w.C.Num), .p (.int .i64 w.C.Den), .p (.slice 1 (w.Bad.map aB)), .p (.int .i64 w.Tick), .p (.slice 12 (w.N.map gW)), .p (.slice 9 (w.O.map di))]
abbrev rS : List LV := [.zs, .p (.int .u64 0), .p (.int .i64 0), .p (.int .i64 0), .p (.int .i64 0), .zs, .p (.int .i64 0), .zs, .zs]
abbrev j1 (w : Wd) (a : Vw) (h : Int) (m : Bool) (l : List Ac) (f i j : Nat) : List LV := [.p (.slice 1 (w.C.W.map aB)), .p (.int .u64 w.C.Seed), .p (.int .i64 w.C.Epoch), .p (.int .i64 w.C.Num), .p (.int .i64 w.C.Den), .p (.slice 1 (w.Bad.map aB)), .p (.int .i64 w.Tick), .p (.slice 12 (w.N.map gW)), .p (.slice 9 (w.O.map di)), .p (.slice 5 (a.B.map ay)), .p (.slice 4 (a.V.map aD)), .p (.int .i64 h), .p (.bool m), .fn f [] [.ptr i 0, .ptr j 0], .p (.int .i64 (IntKind.i64.wrap (w.Tick.tdiv 3))), .p (.slice 5 (l.map lL))]
abbrev hM (w : Wd) (a : Vw) (h : Int) (m : Bool) (l : List Ac) (f g : Nat) : List aa := [.box (fX w), .box rS, .box (fX w), .box (j1 w a h m l f 5 4), .box (j1 w a h m l f 5 4), .box [.fn g [] [.ptr 2 0]]]
def u8 (v : Vt) : List Vt → List Vt
 | [] => [v]
 | x :: r => if v.From < x.From then v :: x :: r else x :: u8 v r
def fA : List Vt → List Vt
 | [] => []
 | v :: r => u8 v (fA r)
def lU (l : List Vt) : Prop := l.Pairwise fun a b => a.From ≤ b.From
theorem mT (v : Vt) : ∀ l : List Vt, (u8 v l).Perm (v :: l)
 | [] => .refl _
 | x :: r => by
  unfold u8;split
  ·exact .refl _
  ·exact ((mT v r).cons x).trans (.swap v x r)
theorem bY : ∀ l : List Vt, (fA l).Perm l
 | [] => .refl _
 | v :: r => (mT v (fA r)).trans ((bY r).cons v)
theorem qM {v : Vt} : ∀ {l : List Vt}, lU l → lU (u8 v l)
 | [], _ => by simp [u8, lU]
 | x :: r, h => by
  have h2 := List.pairwise_cons.1 h;unfold u8;split
  ·rename_i hl
   exact List.pairwise_cons.2 ⟨fun y hy => by
    rcases List.mem_cons.1 hy with e | hy
    ·subst e; omega
    ·have := h2.1 y hy; omega, h⟩
  ·rename_i hl;refine List.pairwise_cons.2 ⟨fun y hy => ?_, qM h2.2⟩;rcases List.mem_cons.1 ((mT v r).mem_iff.1 hy) with e | hy
   ·subst e; omega
   ·exact h2.1 y hy
theorem jk : ∀ l : List Vt, lU (fA l)
 | [] => .nil
 | _ :: r => qM (jk r)
theorem pF : ∀ {a b : List Vt}, a.Perm b → lU a → lU b → (∀ x ∈ a, ∀ y ∈ a, x.From = y.From → x = y) → a = b
 | [], b, h, _, _, _ => (List.Perm.nil_eq h)
 | x :: r, b, h, ha, hb, hd => by
  cases b with
  | nil => exact absurd h.length_eq (by simp)
  | cons y s =>
   have ha2 := List.pairwise_cons.1 ha;have hb2 := List.pairwise_cons.1 hb;have hy : y ∈ x :: r := h.mem_iff.2 (.head _);have hx : x ∈ y :: s := h.mem_iff.1 (.head _)
   have e : x = y := by
    refine hd x (.head _) y hy ?_
    have h1 : x.From ≤ y.From := by
     rcases List.mem_cons.1 hy with e | hy
     ·rw [e]; omega
     ·exact ha2.1 y hy
    have h2 : y.From ≤ x.From := by
     rcases List.mem_cons.1 hx with e | hx
     ·rw [e]; omega
     ·exact hb2.1 x hx
    omega
   subst e;rw [pF (List.Perm.cons_inv h) ha2.2 hb2.2 fun p hp q hq => hd p (.tail _ hp) q (.tail _ hq)]
theorem xW {a b : List Vt} (h : a.Perm b) (hd : ∀ x ∈ a, ∀ y ∈ a, x.From = y.From → x = y) : fA a = fA b :=
 pF ((bY a).trans (h.trans (bY b).symm)) (jk a) (jk b) fun x hx y hy => hd x ((bY a).mem_iff.1 hx) y ((bY a).mem_iff.1 hy)
theorem Bh {a b : List Vt} (h : a.Perm b) (hb : lU b) (hd : ∀ x ∈ a, ∀ y ∈ a, x.From = y.From → x = y) : fA a = b :=
 pF ((bY a).trans h) (jk a) hb fun x hx y hy => hd x ((bY a).mem_iff.1 hx) y ((bY a).mem_iff.1 hy)
def vq (l : List Vt) : Bool := decide (l.length ≤ 1000000 ∧ ∀ x ∈ l, ∀ y ∈ l, x.From = y.From → x = y)
open Go.Proofs
theorem ob {α β : Type} {x : α} {f : α → Option β} : (some x).bind f = f x := by
 have h : ∀ o : Option α, o = some x → o.bind f = f x := by intro o e; subst e; rfl
 exact h _ Z
theorem ct {α : Sort _} {x y : α} : (bif true then x else y) = x := by
 have h : ∀ b : Bool, b = true → (bif b then x else y) = x := by intro o e; subst e; rfl
 exact h _ Z
theorem cf {α : Sort _} {x y : α} : (bif false then x else y) = y := by
 have h : ∀ b : Bool, b = false → (bif b then x else y) = y := by intro o e; subst e; rfl
 exact h _ Z
theorem sl {α β γ : Type} {f : α → γ} {g : β → γ} {x : α} : Sum.elim f g (.inl x) = f x := by
 have h : ∀ s : α ⊕ β, s = .inl x → Sum.elim f g s = f x := by intro o e; subst e; rfl
 exact h _ Z
theorem sr {α β γ : Type} {f : α → γ} {g : β → γ} {x : β} : Sum.elim f g (.inr x) = g x := by
 have h : ∀ s : α ⊕ β, s = .inr x → Sum.elim f g s = g x := by intro o e; subst e; rfl
 exact h _ Z
theorem dg {α β : Type} {step : α → Option (α ⊕ β)} (Inv : α → Prop) (m : α → Nat) (Post : β → Prop)
  (h : ∀ x, Inv x → (∃ y, step x = some (.inl y) ∧ Inv y ∧ m y < m x) ∨ ∃ b, step x = some (.inr b) ∧ Post b) : ∀ {n : Nat} {x : α}, Inv x → m x < n → ∃ b, iter step n x = some b ∧ Post b := by
 intro n
 induction n with
 | zero => intro x _ hn; omega
 | succ n ih =>
  intro x hx hn;unfold iter;rcases h x hx with ⟨y, h1, h2, h3⟩ | ⟨b, h1, h2⟩
  ·rw [h1]; exact ih h2 (by omega)
  ·rw [h1]; exact ⟨b, rfl, h2⟩
theorem aC {α : Type} {l : List α} {n : Nat} {y : α} (h : l[n]? = some y) : ix l (n : Int) = some y := by
 unfold ix; rw [if_pos (by omega)]; simpa using h
theorem aA {α : Type} {l : List α} {n : Nat} (h : n < l.length) : ∃ y, l[n]? = some y ∧ y ∈ l := ⟨l[n], List.getElem?_eq_getElem h, List.getElem_mem h⟩
theorem ak {n : Nat} (h : n < 4000000000) : IntKind.i64.wrap ((n : Int) + 1) = ((n + 1 : Nat) : Int) := by
 rw [d8 (by omega) (by omega)]; omega
theorem aI {a b c : Nat} (h : a + b ≤ 1000000) (hc : c ≤ 1000) : b9 a b c = true := by
 have : (a + b) * (c + 1) ≤ 1000000 * 1001 := Nat.mul_le_mul h (by omega);exact decide_eq_true (by omega)
theorem ei {n : Nat} (h : n < 4000000000000000000) : n < bH := by unfold bH; omega
theorem GD (a : ID) : ((a.1 == 0) && ((a.2 == 0) && true)) = decide (a = (0, 0)) := CL a (0, 0)
theorem wE {α : Type} {f : α → PV} {O : α → Prop} {T : TS} (hf : ∀ p, nT T p → ∃ a, p = f a ∧ O a) : ∀ {xs : List PV}, (∀ x ∈ xs, nT T x) → ∃ l : List α, xs = l.map f ∧ ∀ a ∈ l, O a
 | [], _ => ⟨[], rfl, fun a h => by simp at h⟩
 | x :: xs, h => by
  obtain ⟨a, rfl, ha⟩ := hf x (h x (.head _));obtain ⟨l, rfl, hl⟩ := wE hf fun y hy => h y (.tail _ hy)
  exact ⟨a :: l, rfl, fun b hb => by
   cases hb with
   | head => exact ha
   | tail _ hb => exact hl b hb⟩
theorem l7 {α : Type} {f : α → PV} {O : α → Prop} {T : TS} {m : Nat} (hf : ∀ p, nT T p → ∃ a, p = f a ∧ O a) {p : PV} (h : nT (.slice m T) p) : ∃ l : List α, p = .slice m (l.map f) ∧ ∀ a ∈ l, O a := by
 cases h with
 | slice h =>
  obtain ⟨l, rfl, hl⟩ := wE hf h;exact ⟨l, rfl, hl⟩
def Fg (b : Bk) : Prop := aQ .i64 b.Slot ∧ aQ .i64 b.From ∧ aQ .u64 b.Parent.1 ∧ aQ .u64 b.Parent.2 ∧ aQ .u64 b.Salt
def Fu (v : Vt) : Prop := aQ .i64 v.From ∧ aQ .i64 v.Slot ∧ aQ .u64 v.Head.1 ∧ aQ .u64 v.Head.2
def HU (c : Cf) : Prop := (∀ w ∈ c.W, aQ .i64 w) ∧ aQ .u64 c.Seed ∧ aQ .i64 c.Epoch ∧ aQ .i64 c.Num ∧ aQ .i64 c.Den
theorem GL {p : PV} (h : nT (.agg [.int .i64, .int .i64, .int .u64, .int .u64, .int .u64]) p) : ∃ c : Bk, p = ay c ∧ Fg c := by
 cases h with | agg h =>
 cases h with | cons a h => cases h with | cons b h => cases h with | cons c h => cases h with | cons d h => cases h with | cons e h =>
  cases h; cases a; cases b; cases c; cases d; cases e;exact ⟨⟨_, _, (_, _), _⟩, rfl, by assumption, by assumption, by assumption, by assumption, by assumption⟩
theorem GO {p : PV} (h : nT (.agg [.int .i64, .int .i64, .int .u64, .int .u64]) p) : ∃ c : Vt, p = aD c ∧ Fu c := by
 cases h with | agg h =>
 cases h with | cons a h => cases h with | cons b h => cases h with | cons c h => cases h with | cons d h =>
  cases h; cases a; cases b; cases c; cases d;exact ⟨⟨_, _, (_, _)⟩, rfl, by assumption, by assumption, by assumption, by assumption⟩
theorem EQ {k : IntKind} {f : Int → PV} (hf : ∀ n, f n = .int k n) {p : PV} (h : nT (.int k) p) : ∃ n, p = f n ∧ aQ k n := by
 cases h with | int h => exact ⟨_, (hf _).symm, h⟩
theorem AO {p : PV} (h : nT (.slice 1 (.int .i64)) p) : ∃ l : List Int, p = .slice 1 (l.map aB) ∧ ∀ a ∈ l, aQ .i64 a := l7 (fun _ h => EQ (fun _ => rfl) h) h
theorem GM {p : PV} (h : nT (.agg [.slice 1 (.int .i64), .int .u64, .int .i64, .int .i64, .int .i64]) p) : ∃ c : Cf, p = kG c ∧ HU c := by
 cases h with | agg h =>
 cases h with | cons a h => cases h with | cons b h => cases h with | cons c h => cases h with | cons d h => cases h with | cons e h =>
  cases h;obtain ⟨w, rfl, hw⟩ := AO a;cases b; cases c; cases d; cases e;exact ⟨⟨w, _, _, _, _⟩, rfl, hw, by assumption, by assumption, by assumption, by assumption⟩
theorem EM {l : List Bk} (h : l.length ≤ 1000) : few l = true := decide_eq_true h
section
variable {l : List Bk}
def mO (l : List Bk) (id : ID) : Int := match places l with
 | none => -1
 | some m => (aj m id).getD (-1)
def gS (l : List Bk) (id : ID) : Int × Bool := match places l with
 | none => (0, false)
 | some m => match aj m id with
  | none => (0, false)
  | some i => (bX l i, true)
def cE (l : List Bk) (id : ID) : List ID := match places l with
 | none => []
 | some _ => (l.filter fun b => decide (b.Parent = id)).map nm
theorem y0 : E4 l = some (places l).isSome := by
 unfold E4;cases h : places l <;> rfl
theorem tG {m : List (ID × Int)} (h : places l = some m) {id : ID} {i : Int} (hf : aj m id = some i) : (i = -1 ∧ id = (0, 0)) ∨ ∃ b, 0 ≤ i ∧ i < l.length ∧ l[i.toNat]? = some b ∧ nm b = id ∧ bX l i = b.Slot := by
 rcases (bL h).known _ _ hf with h1 | ⟨b, p, h0, h1, h2, h3, -⟩
 ·exact .inl h1
 ·exact .inr ⟨b, h0, h1, h2, h3, by simp [bX, h2, show ¬ i = -1 by omega]⟩
theorem tf {n : Nat} {y : Bk} (hy : l[n]? = some y) (id : ID) : ((l.take (n + 1)).filter fun b => decide (b.Parent = id)).map nm = ((l.take n).filter fun b => decide (b.Parent = id)).map nm ++ if y.Parent = id then [nm y] else [] := by
 rw [List.take_add_one, hy, List.filter_append, List.map_append];by_cases h : y.Parent = id <;> simp [h]
theorem xz {n : Nat} {y : Bk} {out : List ID} {id : ID} {v : ID} (hl : l.length ≤ 1000) (hn : n < l.length) (hy : l[n]? = some y) (ho : out.length ≤ n) (hv : nm y = v) :
  mF l id ⟨n, out⟩ = some (.inl ⟨IntKind.i64.wrap ((n : Int) + 1), out ++ if y.Parent = id then [v] else []⟩) := by
 simp only [mF];rw [decide_eq_true (show (n : Int) < (l.length : Int) by omega), aC hy];simp only [ct, ob, hv, CL];rw [aI (by simp; omega) (by omega)];by_cases h : y.Parent = id
 ·rw [decide_eq_true h, if_pos h]; rfl
 ·rw [decide_eq_false h, if_neg h, List.append_nil]; rfl
theorem DX (hl : l.length ≤ 1000) (id : ID) : Fi l id = some (cE l id) := by
 simp only [Fi, y0, ob];unfold cE
 cases h : places l with
 | none => rfl
 | some m =>
 simp only [Option.isSome_some, Bool.not_true, cf]
 have key := dg (step := mF l id) (fun x => ∃ n : Nat, x.t13 = n ∧ n ≤ l.length ∧ x.out = ((l.take n).filter fun b => decide (b.Parent = id)).map nm)
  (fun x => l.length - x.t13.toNat) (fun b => b.out = (l.filter fun b => decide (b.Parent = id)).map nm) (by
   rintro ⟨i, out⟩ ⟨n, rfl, hn, ho⟩;simp only at ho ⊢;by_cases hlt : n < l.length
   case neg =>
    right;refine ⟨⟨n, out⟩, ?_, ?_⟩
    ·simp only [mF]; rw [decide_eq_false (by omega)]; rfl
    ·rw [ho, List.take_of_length_le (by omega)]
   obtain ⟨y, hy, -⟩ := aA hlt;left
   have hol : out.length ≤ n := by
    rw [ho, List.length_map];exact Nat.le_trans (List.length_filter_le _ _) (by simp; omega)
   refine ⟨_, xz hl hlt hy hol rfl, ⟨n + 1, ak (n := n) (by omega), by omega, ?_⟩, ?_⟩
   ·rw [tf hy, ← ho]
   ·simp only [ak (show n < 4000000000 by omega)]; omega) (x := ⟨0, []⟩) ⟨0, rfl, Nat.zero_le _, by simp⟩ (n := bH) (ei (by simp only; omega))
 obtain ⟨b, hb, hpost⟩ := key;simp only [hb, ob, hpost]
end
def nZ (l : List Bk) : Nat → List (ID × Int)
 | 0 => [((0, 0), -1)]
 | n + 1 => match l[n]? with
  | some b => nZ l n ++ [(nm b, (n : Int))]
  | none => nZ l n
theorem rz {a : List ID} {x id : ID} : aT (a ++ [x]) id = if 0 ≤ aT a id then aT a id else if x = id then a.length else -1 := by
 rcases lw (l := a) (v := id) with ⟨h1, h2⟩ | ⟨i, h1, h2, h3⟩
 ·rw [if_neg (by omega)];by_cases hx : x = id
  ·subst hx;rw [if_pos rfl];refine lv (i := a.length) (by simp) fun j hj e => h2 ?_;rw [List.getElem?_append_left hj] at e;exact List.mem_of_getElem? e
  ·rw [if_neg hx];refine l6 fun j hj e => ?_;have := List.mem_of_getElem? e;simp only [List.mem_append, List.mem_singleton] at this;rcases this with h | h
   ·exact h2 h
   ·exact hx h.symm
 ·rw [h1, if_pos (by omega)];have hi := (List.getElem?_eq_some_iff.1 h2).1;refine lv (by rw [List.getElem?_append_left hi]; exact h2) fun j hj => ?_;rw [List.getElem?_append_left (by omega)]; exact h3 j hj
theorem tL {l : List Bk} (id : ID) : ∀ n, n ≤ l.length → aj (nZ l n) id = if id = (0, 0) then some (-1) else if 0 ≤ aT ((l.take n).map nm) id then some (aT ((l.take n).map nm) id) else none
 | 0, _ => by
  have : aT ((l.take 0).map nm) id = -1 := by simp [aT]
  simp only [nZ, aj, this];by_cases h : id = (0, 0)
  ·subst h; simp
  ·rw [if_neg (fun e => h e.symm), if_neg h, if_neg (by omega)]
 | n + 1, hn => by
  obtain ⟨b, hb, -⟩ := aA (l := l) (n := n) (by omega);have ih := tL (l := l) id n (by omega);simp only [nZ, hb];rw [eK, ih, List.take_add_one, hb];simp only [Option.toList, List.map_append, List.map_cons, List.map_nil];rw [rz];by_cases h : id = (0, 0)
  ·rw [if_pos h, if_pos h]; rfl
  ·rw [if_neg h, if_neg h];by_cases h2 : 0 ≤ aT ((l.take n).map nm) id
   ·rw [if_pos h2, if_pos h2, if_pos h2]; rfl
   ·rw [if_neg h2, if_neg h2];by_cases h3 : nm b = id
    ·rw [if_pos h3, if_pos h3, if_pos (by omega)];simp; omega
    ·rw [if_neg h3, if_neg h3, if_neg (by omega)]; rfl
theorem AS {l : List Bk} {n : Nat} {id : ID} (h : 0 ≤ aT ((l.take n).map nm) id) : ∃ (j : Nat) (b : Bk), aT ((l.take n).map nm) id = j ∧ j < n ∧ l[j]? = some b ∧ nm b = id := by
 rcases lw (l := (l.take n).map nm) (v := id) with ⟨h1, h2⟩ | ⟨i, h1, h2, h3⟩
 ·omega
 ·have hi := (List.getElem?_eq_some_iff.1 h2).1;simp only [List.length_map, List.length_take] at hi;rw [List.getElem?_map, List.getElem?_take_of_lt (by omega)] at h2
  cases hb : l[i]? with
  | none => rw [hb] at h2; simp at h2
  | some b => rw [hb] at h2; simp at h2; exact ⟨i, b, h1, by omega, hb, h2⟩
theorem vj {l : List Bk} : ∀ (r n : Nat), l.length - n = r → n ≤ l.length → ∀ m, d7 l (l.drop n) n (nZ l n) = some m → m = nZ l l.length := by
 intro r
 induction r with
 | zero =>
  intro n hr hn m h
  have : n = l.length := by omega
  subst this;rw [List.drop_length] at h;cases h; rfl
 | succ r ih =>
  intro n hr hn m h;obtain ⟨y, hy, -⟩ := aA (l := l) (n := n) (by omega);rw [eD hy] at h;split at h
  ·cases h
  ·split at h
   ·cases h
   ·split at h
    ·cases h
    ·refine ih (n + 1) (by omega) (by omega) m ?_
     have e : nZ l (n + 1) = nZ l n ++ [(nm y, (n : Int))] := by simp only [nZ, hy]
     rw [e]; exact h
theorem xM {l : List Bk} {m : List (ID × Int)} (h : places l = some m) : m = nZ l l.length := vj l.length 0 (by omega) (Nat.zero_le _) m h
def Pl (n i : Int) : Prop := 1 ≤ n ∧ n ≤ 1000 ∧ 0 ≤ i ∧ i < n
instance (n i : Int) : Decidable (Pl n i) := inferInstanceAs (Decidable (_ ∧ _))
def rt (seed n i : Int) : Nat → Int
 | 0 => i
 | k + 1 => pS seed n k (rt seed n i k)
def Bp (seed n i : Int) : Int := rt seed n i 10
theorem BM (n i : Int) : yc n i = some (decide (Pl n i)) := by
 unfold yc;by_cases h1 : n > 0
 ·rw [decide_eq_true h1, ct];by_cases h2 : n ≤ 1000
  ·rw [decide_eq_true h2, ct];by_cases h3 : i ≥ 0
   ·rw [decide_eq_true h3, ct];congr 1;exact decide_eq_decide.2 ⟨fun h => ⟨by omega, h2, h3, h⟩, fun h => h.2.2.2⟩
   ·rw [decide_eq_false h3, cf, decide_eq_false (fun h => h3 h.2.2.1)]
  ·rw [decide_eq_false h2, cf, decide_eq_false (fun h => h2 h.2.1)]
 ·rw [decide_eq_false h1, cf, decide_eq_false (fun h => h1 (by have := h.1; omega))]
theorem x3 {n i r : Int} (h : Pl n i) (h0 : 0 ≤ r) (h1 : r < 10) : pT n r = true :=
 decide_eq_true ⟨by have := h.1; omega, by have := h.1; have := h.2.1; rw [p3 (by omega) (by omega)]; omega, h0, h1⟩
theorem BN {seed n i : Int} {d : Dk} (h : Pl n i) (hk0 : 0 ≤ d.k) (hk1 : d.k ≤ 100000) : ∃ d', yd seed n i d = some (Bp seed n i, d') ∧ d'.k = d.k + 10 := by
 have key := @dg _ _ (nQ seed n) (fun x => ∃ j : Nat, j ≤ 10 ∧ x.t6 = j ∧ x.i = rt seed n i j ∧ x.d.k = d.k + j) (fun x => 11 - x.t6.toNat) (fun b => b.i = Bp seed n i ∧ b.d.k = d.k + 10) (by
  rintro ⟨a, t, dd⟩ ⟨j, hj, rfl, ha, hd⟩;simp only at ha hd;subst ha;by_cases hlt : j < 10
  ·left
   refine ⟨_, by
    simp only [nQ]
    rw [decide_eq_true (show (j : Int) < 10 by omega), ct, x3 h (by omega) (by omega), ct], ⟨j + 1, by omega, ak (n := j) (by omega), rfl, ?_⟩, ?_⟩
   ·show IntKind.i64.wrap (dd.k + 1) = _;rw [hd, d8 (by omega) (by omega)]; omega
   ·simp only [ak (show j < 4000000000 by omega)]; omega
  ·right
   obtain rfl : j = 10 := by omega
   exact ⟨_, rfl, rfl, hd⟩)
 obtain ⟨b, hb, h1, h2⟩ := key (n := bH) (x := ⟨i, 0, d⟩) ⟨0, by omega, rfl, rfl, by simp⟩ (ei (by omega));refine ⟨b.d, ?_, h2⟩;unfold yd;rw [hb, ob, h1]
def gP (seed n : Int) (k : Nat) : List Int := (List.range k).map fun j : Nat => Bp seed n j
def qT (seed n : Int) : List Int := if 1 ≤ n ∧ n ≤ 1000 then gP seed n n.toNat else []
theorem m5 (seed n : Int) (k : Nat) : (gP seed n k).length = k := by simp [gP]
theorem vi (seed n : Int) (k : Nat) : gP seed n (k + 1) = gP seed n k ++ [Bp seed n k] := by simp [gP, List.range_succ]
theorem xK {seed n : Int} {k j : Nat} (h : j < k) : (gP seed n k)[j]? = some (Bp seed n j) := by simp [gP, h]
theorem CX {A : List Int} {m : Nat} {v z : Int} : (A ++ List.replicate (m + 1) z).set A.length v = (A ++ [v]) ++ List.replicate m z := by
 rw [List.set_append_right _ _ (Nat.le_refl _), Nat.sub_self, List.replicate_succ];simp
theorem DY (seed n : Int) : Fk seed n = some (qT seed n) := by
 unfold Fk qT;rw [BM, ob];by_cases h : 1 ≤ n ∧ n ≤ 1000
 ·obtain ⟨h1, h2⟩ := h;have hp : Pl n 0 := ⟨h1, h2, by omega, by omega⟩;rw [decide_eq_true hp, if_pos ⟨h1, h2⟩, Bool.not_true, cf, show xF n 8 = true from decide_eq_true ⟨by omega, by omega, by omega⟩, ct]
  have key := @dg _ _ (oA seed n) (fun x => ∃ j : Nat, j ≤ n.toNat ∧ x.t19 = j ∧ x.d.k = 10 * (j : Int) ∧ x.l = gP seed n j ++ List.replicate (n.toNat - j) 0) (fun x => n.toNat + 1 - x.t19.toNat) (fun b => b.l = gP seed n n.toNat ∧ b.d.k = 10 * n) (by
   rintro ⟨t, d, l⟩ ⟨j, hj, rfl, hd, hl⟩;simp only at hd hl;subst hl;by_cases hlt : j < n.toNat
   ·left;have hpl : Pl n (j : Int) := ⟨h1, h2, by omega, by omega⟩;obtain ⟨d', e, hk⟩ := BN (seed := seed) (d := d) hpl (by omega) (by omega)
    have hix : ix (gP seed n j ++ List.replicate (n.toNat - j) 0) (j : Int) = some 0 := aC (by
     rw [List.getElem?_append_right (by rw [m5]; omega), m5, Nat.sub_self, show n.toNat - j = (n.toNat - j - 1) + 1 by omega, List.replicate_succ]; rfl)
    refine ⟨_, by
     simp only [oA]
     rw [decide_eq_true (show (j : Int) < ((List.replicate n.toNat (0 : Int)).length : Int) by rw [List.length_replicate]; omega), ct, e, ob, hix, ob],
     ⟨j + 1, by omega, ak (n := j) (by omega), by show d'.k = _; omega, ?_⟩, ?_⟩
    ·show List.set (gP seed n j ++ List.replicate (n.toNat - j) 0) (j : Int).toNat (Bp seed n j) = _;rw [show n.toNat - j = (n.toNat - (j + 1)) + 1 by omega, vi];have := CX (A := gP seed n j) (m := n.toNat - (j + 1)) (v := Bp seed n j) (z := 0);rw [m5] at this;exact this
    ·simp only [ak (show j < 4000000000 by omega)]; omega
   ·right
    obtain rfl : j = n.toNat := by omega
    refine ⟨_, by
     simp only [oA]
     rw [decide_eq_false (show ¬ ((n.toNat : Nat) : Int) < ((List.replicate n.toNat (0 : Int)).length : Int) by rw [List.length_replicate]; omega), cf], ?_, ?_⟩
    ·simp
    ·simp only; omega)
  obtain ⟨b, hb, h3, h4⟩ := key (n := bH) (x := ⟨0, IH, List.replicate n.toNat 0⟩) ⟨0, by omega, rfl, rfl, by simp [gP]⟩ (ei (by omega));rw [hb, ob, h3, decide_eq_false (show ¬ b.d.k < n by omega), cf]
 ·rw [decide_eq_false (fun hp : Pl n 0 => h ⟨hp.1, hp.2.1⟩), if_neg h]; rfl
theorem HY {a b : Int} (h : a = b) : (a == b) = true := by simp [h]
theorem Bc {seed n : Int} (h1 : 1 ≤ n) (h2 : n ≤ 1000) {j : Nat} (hj : (j : Int) < n) : ix (qT seed n) (j : Int) = some (Bp seed n j) := by
 unfold qT;rw [if_pos ⟨h1, h2⟩];exact aC<|xK (by omega)
open Go.Proofs
theorem az {S R : Type} {step : S → Option (S ⊕ R)} {n : Nat} (g : Nat → S) (r : R) (hs : ∀ j, j < n → step (g j) = some (.inl (g (j + 1)))) (he : step (g n) = some (.inr r)) (hn : n < 4000000000000000000) :
  iter step bH (g 0) = some r := by
 have key : ∀ (d k f : Nat), k + d = n → d < f → iter step f (g k) = some r := by
  intro d
  induction d with
  | zero =>
   intro k f hk hf;obtain ⟨f, rfl⟩ : ∃ q, f = q + 1 := ⟨f - 1, by omega⟩
   obtain rfl : k = n := by omega
   unfold iter;rw [he]
  | succ d ih =>
   intro k f hk hf;obtain ⟨f, rfl⟩ : ∃ q, f = q + 1 := ⟨f - 1, by omega⟩;unfold iter;rw [hs k (by omega)];exact ih (k + 1) f (by omega) (by omega)
 exact key n 0 bH (by omega)<|ei hn
def mX (x : Int) : List Int → Int
 | [] => x
 | y :: r => mX (if y < x then y else x) r
def mW (x : Int) : List Int → Int
 | [] => x
 | y :: r => mW (if y > x then y else x) r
theorem AX (x : Int) (a : List Int) (y : Int) : mX x (a ++ [y]) = if y < mX x a then y else mX x a := by
 induction a generalizing x with
 | nil => rfl
 | cons z r ih => exact ih _
theorem AT (x : Int) (a : List Int) (y : Int) : mW x (a ++ [y]) = if y > mW x a then y else mW x a := by
 induction a generalizing x with
 | nil => rfl
 | cons z r ih => exact ih _
theorem CU {k x : Int} {l : List Int} : mX x l < k ↔ x < k ∨ ∃ y ∈ l, y < k := by
 induction l generalizing x with
 | nil => simp [mX]
 | cons z r ih =>
  simp only [mX, ih, List.mem_cons, exists_eq_or_imp];split
  ·constructor
   ·rintro (h | h)
    ·exact .inr<|.inl h
    ·exact .inr<|.inr h
   ·rintro (h | h | h)
    ·exact .inl (by omega)
    ·exact .inl h
    ·exact .inr h
  ·constructor
   ·rintro (h | h)
    ·exact .inl h
    ·exact .inr<|.inr h
   ·rintro (h | h | h)
    ·exact .inl h
    ·exact .inl (by omega)
    ·exact .inr h
theorem CT {k x : Int} {l : List Int} : mW x l > k ↔ x > k ∨ ∃ y ∈ l, y > k := by
 induction l generalizing x with
 | nil => simp [mW]
 | cons z r ih =>
  simp only [mW, ih, List.mem_cons, exists_eq_or_imp];split
  ·constructor
   ·rintro (h | h)
    ·exact .inr<|.inl h
    ·exact .inr<|.inr h
   ·rintro (h | h | h)
    ·exact .inl (by omega)
    ·exact .inl h
    ·exact .inr h
  ·constructor
   ·rintro (h | h)
    ·exact .inl h
    ·exact .inr<|.inr h
   ·rintro (h | h | h)
    ·exact .inl h
    ·exact .inl (by omega)
    ·exact .inr h
theorem fk {l : List Int} {j : Nat} {y : Int} (h : l[j]? = some y) : l.take (j + 1) = l.take j ++ [y] := by rw [List.take_add_one, h]; rfl
theorem BO {x : Int} {r : List Int} (h : r.length ≤ 1000) : yi (x :: r) = some (mX x r) := by
 unfold yi;rw [decide_eq_false (show ¬ (((x :: r).length : Nat) : Int) < 1 by simp; omega), cf, show ix (x :: r) 0 = some x from rfl, ob]
 have e := az (step := lN (x :: r)) (n := r.length) (fun j => ⟨mX x (r.take j), ((j + 1 : Nat) : Int)⟩) ⟨mX x r, ((r.length + 1 : Nat) : Int)⟩ (fun j hj => by
  obtain ⟨y, hy, -⟩ := aA hj
  have hy' : (x :: r)[j + 1]? = some y := by simpa using hy
  simp only [lN]
  rw [decide_eq_true (show ((j + 1 : Nat) : Int) < (((x :: r).length : Nat) : Int) by simp; omega), ct, aC hy', ob, ak (n := j + 1) (by omega), fk hy, AX]) (by
  simp only [lN]
  rw [decide_eq_false (show ¬ ((r.length + 1 : Nat) : Int) < (((x :: r).length : Nat) : Int) by simp), cf, List.take_length]) (by omega)
 have e0 : (⟨mX x (r.take 0), ((0 + 1 : Nat) : Int)⟩ : gG) = ⟨x, 1⟩ := rfl;rw [e0] at e;rw [e, ob]
theorem BP {x : Int} {r : List Int} (h : r.length ≤ 1000) : yj (x :: r) = some (mW x r) := by
 unfold yj;rw [decide_eq_false (show ¬ (((x :: r).length : Nat) : Int) < 1 by simp; omega), cf, show ix (x :: r) 0 = some x from rfl, ob]
 have e := az (step := lO (x :: r)) (n := r.length) (fun j => ⟨mW x (r.take j), ((j + 1 : Nat) : Int)⟩) ⟨mW x r, ((r.length + 1 : Nat) : Int)⟩ (fun j hj => by
  obtain ⟨y, hy, -⟩ := aA hj
  have hy' : (x :: r)[j + 1]? = some y := by simpa using hy
  simp only [lO]
  rw [decide_eq_true (show ((j + 1 : Nat) : Int) < (((x :: r).length : Nat) : Int) by simp; omega), ct, aC hy', ob, ak (n := j + 1) (by omega), fk hy, AT]) (by
  simp only [lO]
  rw [decide_eq_false (show ¬ ((r.length + 1 : Nat) : Int) < (((x :: r).length : Nat) : Int) by simp), cf, List.take_length]) (by omega)
 have e0 : (⟨mW x (r.take 0), ((0 + 1 : Nat) : Int)⟩ : gH) = ⟨x, 1⟩ := rfl;rw [e0] at e;rw [e, ob]
def dk (c : Cf) : Prop := 1 ≤ c.W.length ∧ c.W.length ≤ 12 ∧ (∀ w ∈ c.W, 0 ≤ w ∧ w ≤ 1099511627776) ∧ 1 ≤ c.Epoch ∧ c.Epoch ≤ 8 ∧ 0 ≤ c.Num ∧ c.Num ≤ c.Den ∧ 1 ≤ c.Den ∧ c.Den ≤ 1000
instance (c : Cf) : Decidable (dk c) := inferInstanceAs (Decidable (_ ∧ _))
def ib (p : Nat → Bool) (W : List Int) : Nat → Int
 | 0 => 0
 | k + 1 => ib p W k + (bif p k then (W[k]?).getD 0 else 0)
theorem oc {p : Nat → Bool} {W : List Int} (h : ∀ w ∈ W, 0 ≤ w ∧ w ≤ 1099511627776) : ∀ k, 0 ≤ ib p W k ∧ ib p W k ≤ 1099511627776 * k
 | 0 => by simp [ib]
 | k + 1 => by
  have ih := oc (p := p) h k;unfold ib
  cases p k with
  | false => simp only [cond_false]; omega
  | true =>
   simp only [cond_true]
   cases hk : W[k]? with
   | none => simp only [Option.getD_none]; omega
   | some w =>
    have := h w (List.mem_of_getElem? hk);simp only [Option.getD_some]; omega
theorem E2 {p : Nat → Bool} {W : List Int} {k : Nat} {w : Int} (hp : p k = true) (hw : W[k]? = some w) : ib p W (k + 1) = ib p W k + w := by
 rw [ib, hp, hw]; rfl
theorem E1 {p : Nat → Bool} {W : List Int} {k : Nat} (hp : p k = false) : ib p W (k + 1) = ib p W k := by
 rw [ib, hp]; simp
theorem AW (c : Cf) : (bif decide (c.Epoch > 0) then bif decide (c.Epoch ≤ 8) then bif decide (c.Num ≥ 0) then bif decide (c.Num ≤ c.Den) then bif decide (c.Den > 0) then some (decide (c.Den ≤ 1000)) else some false else some false else some false else some false else some false) =
  some (decide (1 ≤ c.Epoch ∧ c.Epoch ≤ 8 ∧ 0 ≤ c.Num ∧ c.Num ≤ c.Den ∧ 1 ≤ c.Den ∧ c.Den ≤ 1000)) := by
 by_cases h1 : c.Epoch > 0
 ·rw [decide_eq_true h1, ct];by_cases h2 : c.Epoch ≤ 8
  ·rw [decide_eq_true h2, ct];by_cases h3 : c.Num ≥ 0
   ·rw [decide_eq_true h3, ct];by_cases h4 : c.Num ≤ c.Den
    ·rw [decide_eq_true h4, ct];by_cases h5 : c.Den > 0
     ·rw [decide_eq_true h5, ct];congr 1;exact decide_eq_decide.2 ⟨fun h => ⟨h1, h2, h3, h4, h5, h⟩, fun h => h.2.2.2.2.2⟩
     ·rw [decide_eq_false h5, cf, decide_eq_false (fun h => h5 h.2.2.2.2.1)]
    ·rw [decide_eq_false h4, cf, decide_eq_false (fun h => h4 h.2.2.2.1)]
   ·rw [decide_eq_false h3, cf, decide_eq_false (fun h => h3 h.2.2.1)]
  ·rw [decide_eq_false h2, cf, decide_eq_false (fun h => h2 h.2.1)]
 ·rw [decide_eq_false h1, cf, decide_eq_false (fun h => h1 h.1)]
theorem k8 (c : Cf) : w5 c = some (decide (dk c)) := by
 unfold w5;have hno : ∀ h : ¬ dk c, decide (dk c) = false := fun h => decide_eq_false h;by_cases h0 : c.W.length = 0
 ·rw [show ((c.W.length : Int) == 0) = true by simp [h0], ct, ob, ct, decide_eq_false (fun h : dk c => by have := h.1; omega)]
 ·rw [show ((c.W.length : Int) == 0) = false by simpa using h0, cf];by_cases h12 : c.W.length > 12
  ·rw [decide_eq_true (show (c.W.length : Int) > 12 by omega), ct, ob, ct, decide_eq_false (fun h : dk c => by have := h.2.1; omega)]
  ·rw [decide_eq_false (show ¬ (c.W.length : Int) > 12 by omega), cf]
   obtain ⟨x, r, hW⟩ : ∃ x r, c.W = x :: r := by
    cases hc : c.W with
    | nil => rw [hc] at h0; simp at h0
    | cons x r => exact ⟨x, r, rfl⟩
   have hr : r.length ≤ 1000 := by rw [hW] at h12; simp at h12; omega
   have hall : (∀ w ∈ c.W, 0 ≤ w ∧ w ≤ 1099511627776) ↔ ¬ mX x r < 0 ∧ ¬ mW x r > 1099511627776 := by
    rw [CU, CT, hW];constructor
    ·intro h;refine ⟨?_, ?_⟩
     ·rintro (h1 | ⟨y, hy, h1⟩)
      ·have := (h x (.head _)).1; omega
      ·have := (h y (.tail _ hy)).1; omega
     ·rintro (h1 | ⟨y, hy, h1⟩)
      ·have := (h x (.head _)).2; omega
      ·have := (h y (.tail _ hy)).2; omega
    ·rintro ⟨h1, h2⟩ w hw;refine ⟨?_, ?_⟩
     ·refine Classical.byContradiction fun hc => h1 ?_
      cases hw with
      | head => exact .inl (by omega)
      | tail _ hw => exact .inr ⟨w, hw, by omega⟩
     ·refine Classical.byContradiction fun hc => h2 ?_
      cases hw with
      | head => exact .inl (by omega)
      | tail _ hw => exact .inr ⟨w, hw, by omega⟩
   have hlen : 1 ≤ c.W.length ∧ c.W.length ≤ 12 := ⟨by omega, by omega⟩;have e9 := BO (x := x) hr;have e10 := BP (x := x) hr;rw [← hW] at e9 e10;rw [e9, ob];by_cases hm : mX x r < 0
   ·rw [decide_eq_true hm, ct, ob, ct, decide_eq_false (fun h : dk c => (hall.1 h.2.2.1).1 hm)]
   ·rw [decide_eq_false hm, cf, e10, ob, ob];by_cases hx : mW x r > 1099511627776
    ·rw [decide_eq_true hx, ct, decide_eq_false (fun h : dk c => (hall.1 h.2.2.1).2 hx)]
    ·rw [decide_eq_false hx, cf, AW];congr 1;exact decide_eq_decide.2 ⟨fun h => ⟨hlen.1, hlen.2, hall.2 ⟨hm, hx⟩, h⟩, fun h => h.2.2.2⟩
def okW (c : Cf) : Prop := c.W.length ≤ 12 ∧ ∀ w ∈ c.W, 0 ≤ w ∧ w ≤ 1099511627776
theorem dk.okW {c : Cf} (h : dk c) : okW c := ⟨h.2.1, h.2.2.1⟩
theorem BG {p : Nat → Bool} {W : List Int} (h : ∀ w ∈ W, 0 ≤ w ∧ w ≤ 1099511627776) {k : Nat} (hk : k ≤ 12) : IntKind.i64.wrap (ib p W k) = ib p W k := by
 have := oc (p := p) h k;exact d8 (by omega) (by omega)
theorem yA {c : Cf} {m : List (Int × Bool)} (h : okW c) : sh c m 0 = some (ib (fun j => (aj m (j : Int)).getD false) c.W c.W.length) := by
 unfold sh
 have e := az (step := jK c m) (n := c.W.length) (fun j => ⟨(j : Int), ib (fun j => (aj m (j : Int)).getD false) c.W j⟩) ⟨(c.W.length : Int), ib (fun j => (aj m (j : Int)).getD false) c.W c.W.length⟩ (fun j hj => by
  obtain ⟨y, hy, hm⟩ := aA hj;have h12 := h.1;simp only [jK, BR];rw [decide_eq_true (show (j : Int) < (c.W.length : Int) by omega), ct, ob]
  cases hb : (aj m (j : Int)).getD false with
  | true => rw [ct, aC hy, ob, ak (n := j) (by omega), ← E2 (p := fun j => (aj m (j : Int)).getD false) hb hy, BG h.2 (by omega)]
  | false => rw [cf, ak (n := j) (by omega), E1 (p := fun j => (aj m (j : Int)).getD false) hb]) (by
  simp only [jK]
  rw [decide_eq_false (show ¬ (c.W.length : Int) < (c.W.length : Int) by omega), cf]) (by have := h.1; omega)
 exact (congrArg (fun z => Option.bind z fun v1 => some v1.o4_0) e).trans ob
def vE (c : Cf) (l : List Int) : Int := if dk c then ib (fun j => decide ((j : Int) ∈ l)) c.W c.W.length else 0
theorem p5 {p q : Nat → Bool} {W : List Int} (h : ∀ j, p j = q j) : ∀ k, ib p W k = ib q W k
 | 0 => rfl
 | k + 1 => by rw [ib, ib, p5 h k, h k]
theorem uV {m : List (Int × Bool)} {k q : Int} {v : Bool} : aj (aW m k v) q = if k = q then some v else aj m q := by
 induction m with
 | nil => simp [aW, aj]
 | cons p r ih =>
  obtain ⟨a, b⟩ := p;unfold aW;by_cases h : a = k
  ·rw [if_pos h];subst h;by_cases h2 : a = q
   ·simp [aj, h2]
   ·simp [aj, h2]
  ·rw [if_neg h];simp only [aj];rw [ih];by_cases h2 : a = q
   ·rw [if_pos h2, if_pos h2, if_neg (fun e => h (by rw [h2, e]))]
   ·rw [if_neg h2, if_neg h2]
def jY : List Int → List (Int × Bool) → List (Int × Bool)
 | [], m => m
 | x :: r, m => jY r (aW m x true)
theorem xy (a : List Int) (x : Int) : ∀ m, jY (a ++ [x]) m = aW (jY a m) x true := by
 induction a with
 | nil => intro m; rfl
 | cons y r ih => intro m; exact ih _
theorem pu (q : Int) : ∀ (l : List Int) (m : List (Int × Bool)), aj (jY l m) q = if q ∈ l then some true else aj m q
 | [], m => by simp [jY]
 | x :: r, m => by
  unfold jY;rw [pu q r, uV];by_cases h : q ∈ r
  ·simp [h]
  ·by_cases h2 : x = q
   ·simp [h2]
   ·simp [h, h2, Ne.symm h2]
theorem y9 {c : Cf} {l : List Int} (hl : l.length ≤ 100000) : E5 c l = some (vE c l) := by
 unfold E5
 have e := az (step := mG l) (n := l.length) (fun j => eW.mk (j : Int) (jY (l.take j) [])) (eW.mk (l.length : Int) (jY l [])) (fun j hj => by
  obtain ⟨y, hy, hm⟩ := aA hj
  have e1 : mG l (eW.mk (j : Int) (jY (l.take j) [])) = some (.inl (eW.mk (IntKind.i64.wrap ((j : Int) + 1)) (aW (jY (l.take j) []) y true))) := by
   unfold mG;rw [decide_eq_true (show (j : Int) < (l.length : Int) by omega), ct, aC hy, ob]
  rw [e1, ak (n := j) (by omega), fk hy, xy]) (by
  unfold mG
  rw [decide_eq_false (show ¬ (l.length : Int) < (l.length : Int) by omega), cf, List.take_length]) (by omega)
 have e0 : eW.mk (((0 : Nat) : Int)) (jY (l.take 0) []) = eW.mk 0 [] := rfl;rw [e0] at e;rw [e, ob];unfold vL vE;rw [k8, ob];by_cases h : dk c
 ·rw [decide_eq_true h, if_pos h, Bool.not_true, cf, yA h.okW, ob, ob];congr 1;refine p5 (fun j => ?_) _;rw [pu];by_cases hj : (j : Int) ∈ l <;> simp [hj, aj]
 ·rw [decide_eq_false h, if_neg h]; rfl
theorem lP {l : List Int} {n : Int} (hl : l.length ≤ 100000) : sf l n = some (decide (n ∈ l)) := by
 unfold sf B7
 have key := @dg _ _ (kt l n) (fun x => ∃ j : Nat, j ≤ l.length ∧ x.t8 = j ∧ n ∉ l.take j) (fun x => l.length + 1 - x.t8.toNat)
  (fun b => (∃ i : Nat, b = .inr (i : Int) ∧ n ∈ l) ∨ ∃ x, b = .inl x ∧ n ∉ l) (by
   rintro ⟨t⟩ ⟨j, hj, rfl, hw⟩;by_cases hlt : j < l.length
   ·obtain ⟨y, hy, hm⟩ := aA hlt;by_cases h1 : n = y
    ·right
     refine ⟨.inr (j : Int), by
      simp only [kt]
      rw [decide_eq_true (show (j : Int) < (l.length : Int) by omega), ct, aC hy, ob, HY h1, ct], .inl ⟨j, rfl, h1 ▸ hm⟩⟩
    ·left
     refine ⟨⟨IntKind.i64.wrap ((j : Int) + 1)⟩, by
      simp only [kt]
      rw [decide_eq_true (show (j : Int) < (l.length : Int) by omega), ct, aC hy, ob, show (n == y) = false by simpa using h1, cf], ⟨j + 1, by omega, ak (n := j) (by omega), ?_⟩, ?_⟩
     ·rw [fk hy];intro h;rcases List.mem_append.1 h with h | h
      ·exact hw h
      ·exact h1<|List.mem_singleton.1 h
     ·simp only [ak (show j < 4000000000 by omega)]; omega
   ·right
    obtain rfl : j = l.length := by omega
    refine ⟨.inl ⟨((l.length : Nat) : Int)⟩, by
     simp only [kt]
     rw [decide_eq_false (show ¬ ((l.length : Nat) : Int) < (l.length : Int) by omega), cf], .inr ⟨_, rfl, ?_⟩⟩
    rw [List.take_length] at hw
    exact hw)
 obtain ⟨b, hb, ⟨i, rfl, h⟩ | ⟨x, rfl, h⟩⟩ := key (n := bH) (x := ⟨0⟩) ⟨0, by omega, rfl, by simp⟩ (ei (by show l.length + 1 - 0 < _; omega))
 ·rw [hb, ob, sr, ob, decide_eq_true h, decide_eq_true (show (i : Int) ≥ 0 by omega)]
 ·rw [hb, ob, sl, ob, decide_eq_false h]; rfl
def jy (p : Nat → Bool) : Nat → List Int
 | 0 => []
 | k + 1 => bif p k then jy p k ++ [(k : Int)] else jy p k
theorem m6 (p : Nat → Bool) : ∀ k, (jy p k).length ≤ k
 | 0 => by simp [jy]
 | k + 1 => by
  have := m6 p k;unfold jy;cases p k <;> simp <;> omega
def C6 (c : Cf) (slot : Int) : Prop := dk c ∧ 0 < slot ∧ slot ≤ 1048576
instance (c : Cf) (slot : Int) : Decidable (C6 c slot) := inferInstanceAs (Decidable (_ ∧ _))
theorem vJ (c : Cf) (slot : Int) : wR c slot = some (decide (C6 c slot)) := by
 unfold wR;rw [k8, ob];by_cases h : dk c
 ·rw [decide_eq_true h, ct];by_cases h1 : slot > 0
  ·rw [decide_eq_true h1, ct];congr 1;exact decide_eq_decide.2 ⟨fun h2 => ⟨h, h1, h2⟩, fun h2 => h2.2.2⟩
  ·rw [decide_eq_false h1, cf, decide_eq_false (fun h2 : C6 c slot => h1 h2.2.1)]
 ·rw [decide_eq_false h, cf, decide_eq_false (fun h2 : C6 c slot => h h2.1)]
def ng (c : Cf) (slot : Int) : Int := step c.Seed (IntKind.u64.wrap (IntKind.i64.wrap (slot.tdiv c.Epoch)))
def Dw (c : Cf) (slot : Int) (j : Nat) : Bool := (Bp (ng c slot) (c.W.length : Int) (j : Int)).tmod c.Epoch == slot.tmod c.Epoch
def oT (c : Cf) (slot : Int) : List Int := if C6 c slot then jy (Dw c slot) c.W.length else []
theorem uR (c : Cf) (slot : Int) : (oT c slot).length ≤ 12 := by
 unfold oT;split
 ·next h => have := m6 (Dw c slot) c.W.length; have := h.1.2.1; omega
 ·simp
theorem ta {c : Cf} (h : dk c) : decide (c.Epoch ≠ 0) = true := decide_eq_true (by have := h.2.2.2.1; omega)
theorem yl {c : Cf} {slot : Int} (h : dk c) : se c slot (qT (ng c slot) (c.W.length : Int)) = some (jy (Dw c slot) c.W.length) := by
 have h1 := h.1;have h2 := h.2.1
 have e := az (step := jJ c slot (qT (ng c slot) (c.W.length : Int))) (n := c.W.length) (fun j => c8.mk (j : Int) (jy (Dw c slot) j)) (c8.mk (c.W.length : Int) (jy (Dw c slot) c.W.length)) (fun j hj => by
  have hl := m6 (Dw c slot) j;unfold jJ BQ;simp only;rw [decide_eq_true (show (j : Int) < (c.W.length : Int) by omega), ct, Bc (by omega) (by omega) (by omega), ob, ta h, ct, ct, ob]
  cases hb : Dw c slot j with
  | true =>
   rw [show ((Bp (ng c slot) (c.W.length : Int) (j : Int)).tmod c.Epoch == slot.tmod c.Epoch) = true from hb, ct, aI (by simp only [List.length_singleton]; omega) (by omega), ct, ak (n := j) (by omega), jy, hb, ct]
  | false =>
   rw [show ((Bp (ng c slot) (c.W.length : Int) (j : Int)).tmod c.Epoch == slot.tmod c.Epoch) = false from hb, cf, ak (n := j) (by omega), jy, hb, cf]) (by
  unfold jJ
  rw [decide_eq_false (show ¬ (c.W.length : Int) < (c.W.length : Int) by omega), cf]) (by omega)
 have e0 : c8.mk (((0 : Nat) : Int)) (jy (Dw c slot) 0) = c8.mk 0 [] := rfl;rw [e0] at e;unfold se vQ vR;rw [e, ob, ob, ob]
theorem uC (c : Cf) (slot : Int) : DZ c slot = some (oT c slot) := by
 unfold DZ oT;rw [vJ, ob];by_cases h : C6 c slot
 ·rw [decide_eq_true h, if_pos h, Bool.not_true, cf, ta h.1, ct, DY, ob];have := yl (slot := slot) h.1;unfold ng at this;rw [this, ob]
 ·rw [decide_eq_false h, if_neg h]; rfl
theorem zj (c : Cf) (slot who : Int) : E6 c slot who = some (decide (who ∈ oT c slot)) := by
 have := uR c slot;unfold E6;rw [uC, ob, lP (by omega), ob]
def p6 (c : Cf) (slot : Int) : Int := if C6 c slot then IntKind.i64.wrap ((step (step c.Seed 4294967296) (IntKind.u64.wrap slot)).tmod (IntKind.u64.wrap (c.W.length : Int))) else -1
theorem ES {c : Cf} (h : dk c) : decide (IntKind.u64.wrap (c.W.length : Int) ≠ 0) = true := decide_eq_true (by have := h.1; have := h.2.1; rw [p3 (by omega) (by omega)]; omega)
theorem rf (c : Cf) (slot : Int) : Cg c slot = some (p6 c slot) := by
 unfold Cg p6;rw [vJ, ob];by_cases h : C6 c slot
 ·rw [decide_eq_true h, if_pos h, Bool.not_true, cf, ES h.1, ct]
 ·rw [decide_eq_false h, if_neg h]; rfl
def c0 : Cf := ⟨[5], 0, 1, 0, 4⟩
open Go.Proofs
theorem DL (c : Cf) (l : List Int) : 0 ≤ vE c l ∧ vE c l ≤ 13194139533312 := by
 unfold vE;split
 ·next h =>
  have := oc (p := fun j => decide ((j : Int) ∈ l)) h.okW.2 c.W.length;have := h.2.1;omega
 ·omega
open Go.Proofs
open Go.Proofs
structure db where
 t14 : Int
 o1 : List (Du × ID)
 o2 : List (Du × Bool)
def iz (l : List Vt) (x1 : db) : Option (db ⊕ db) :=
 bif decide (x1.t14 < (l.length : Int)) then
  (ix l x1.t14).bind fun y1 =>
  bif (aj x1.o1 (Du.mk y1.From y1.Slot)).isSome then
   bif !(((((aj x1.o1 (Du.mk y1.From y1.Slot)).getD (0, 0)).1) == y1.Head.1) && (((((aj x1.o1 (Du.mk y1.From y1.Slot)).getD (0, 0)).2) == y1.Head.2) && true)) then
    some (.inl (db.mk (IntKind.i64.wrap (x1.t14 + 1)) (aW x1.o1 (Du.mk y1.From y1.Slot) y1.Head) (aW x1.o2 (Du.mk y1.From y1.Slot) true)))
   else
    some (.inl (db.mk (IntKind.i64.wrap (x1.t14 + 1)) (aW x1.o1 (Du.mk y1.From y1.Slot) y1.Head) x1.o2))
  else
   some (.inl (db.mk (IntKind.i64.wrap (x1.t14 + 1)) (aW x1.o1 (Du.mk y1.From y1.Slot) y1.Head) x1.o2))
 else
  some (.inr (db.mk x1.t14 x1.o1 x1.o2))
def sE (l : List Vt) : Option (List (Du × ID) × List (Du × Bool)) :=
 (iter (iz l) bH (db.mk 0 ([] : List (Du × ID)) ([] : List (Du × Bool)))).bind fun v1 =>
 some (v1.o1, v1.o2)
theorem Ez {l : List Vt} {r_ : List (Du × ID) × List (Du × Bool)} (hr : sE l = some r_) : LC Tryz.prog 167 [(kV l)] [] (Is (.agg [.map 1, .map 2]) [.box [.map 1, .map 2], .map (ah qc (fun v => .p (cw v)) r_.1), .map (ah qc (fun v => (bQ v)) r_.2), .box [.map 1, .map 2]]) := by
 refine dt Tryz.func167 Z Z Z ?_;unfold sE at hr;refine zQ<|zR<|yS Z (ze Z vG Z Z)<|zN<|zT<|zQ<|zR<|yS Z (ab.makeMap Z Z Z)<|yS Z (ab.makeMap Z Z Z)<|yS Z (ab.build Z Eg Z Z Z)<|yS Z (ze Z vG Z Z)<|yS Z (zs Z Z Z Z rO Z Z Z Z)<|zN<|zT<|zQ<|zQ<|zR<|zM Z<|yS Z (cC Z Z (by kernel_rfl))<|zM Z<|zN<|zT ?_;obtain ⟨v1, hb_v1, ho_v1⟩ := zB hr;clear hr;refine LW.tail (E := [(2, .ptr 0 0), (3, .ptr 3 0)]) (O := [.box [.nilmap, .nilmap], .map (ah qc (fun v => .p (cw v)) v1.o1), .map (ah qc (fun v => (bQ v)) v1.o2), .box [.map 1, .map 2]]) ?_<|fun env_v1 H_v1 hw_v1 => ?_
 ·refine LW.block ?_;refine LW.iterB (E := fun x1 : db => [(2, .ptr 0 0), (3, .ptr 3 0), (12, (kV l)), (13, .p (.int .i64 (l.length : Int))), (14, (iQ x1.t14))]) (O := fun x1 => [.box [.nilmap, .nilmap], .map (ah qc (fun v => .p (cw v)) x1.o1), .map (ah qc (fun v => (bQ v)) x1.o2), .box [.map 1, .map 2]]) hb_v1 (zW 4 ⟨rfl, rfl, rfl, rfl, rfl, trivial⟩ Z Z Z (zL Z (zL (ae (fun _ => rfl) _) (zL (ae (fun _ => rfl) _) (zL Z Z)))))<|fun x1 z_x1 hr hb_x1 => ?_;unfold iz at hr;refine zQ<|zR<|yS Z (ax Z Z Z Z)<|zN<|zT<|zQ ?_;refine zX Z (fun g1 => ?_)<|fun g1 => ?_
  ·
   refine zi g1 hr fun hr => zk<|zT<|zQ<|zl<|zQ<|zR<|zb hr fun y1 h_y1 hr => yS Z (zx Z Z Z cZ h_y1 Z)<|yS Z (cT Z Z Z co Z Z)<|yS Z (ze Z rR Z Z)<|yS Z (zs Z Z Z Z co Z Z Z Z)<|zN<|zT<|zQ<|zR<|yS Z (zA Z Z pn)<|yS Z (zD Z Z Z aX Z Z)<|yS Z (zA Z Z po)<|yS Z (zD Z Z Z aX Z Z)<|yS Z (ab.build Z Am Z Z Z)<|yS Z (ze Z BK Z Z)<|yS Z (zs Z Z Z Z lJ Z Z Z Z)<|zN ?_;refine zT<|zQ<|zR<|yS Z (zA Z Z ph)<|yS Z (zD Z Z Z vA Z Z)<|yS Z (zD Z Z Z lJ Z Z) ?_;refine yS Z (ab.getX (f := qc) (g := (fun v => .p (cw v))) (Du.mk y1.From y1.Slot) (0, 0) wk Z Z Z Z AZ IP Z Z) ?_;refine zM Z<|yS Z (fE Z Z Z)<|yS Z (fE Z Z Z)<|yS Z (ze Z ke Z Z)<|yS Z (zs Z Z Z Z aV Z Z Z Z)<|zM Z<|zN<|zT<|zQ<|zR<|yS Z (zA Z Z ph)<|yS Z (zD Z Z Z vA Z Z)<|yS Z (zD Z Z Z lJ Z Z)<|yS Z (zA Z Z lq)<|yS Z (zD Z Z Z aV Z Z) ?_;refine yS Z (ab.setX (f := qc) (g := (fun v => .p (cw v))) (Du.mk y1.From y1.Slot) y1.Head wk (.inl Z) Z Z Z Z Z AZ Z) ?_;refine zN<|zT<|zQ<|zR<|zM Z<|zM Z ?_;refine zc 36 Z (fun g2 => ?_)<|fun g2 => ?_
   ·
    refine zi g2 hr fun hr => yV Z (gd g2 Z) (zD Z Z Z aV Z Z)<|yV Z (gd g2 Z) (zA Z Z lq)<|yV Z (gd g2 Z) (zD Z Z Z aV Z Z)<|yV Z (gd g2 Z) (ab.neqAgg Z Z Z Z Z tb)<|yS Z (ca Z (aN g2 Z) Z)<|zN<|zT ?_;refine zX Z (fun g3 => ?_)<|fun g3 => ?_
    ·
     refine zi g3 hr fun hr => zR<|yS Z (zA Z Z tp)<|yS Z (zD Z Z Z Bw Z Z)<|yS Z (zD Z Z Z lJ Z Z) ?_;refine yS Z (ab.setX (f := qc) (g := (fun v => (bQ v))) (Du.mk y1.From y1.Slot) true wk (.inl Z) Z Z Z Z Z A0 Z) ?_;refine zN<|ai<|zT<|zR<|yS Z (ax Z Z Z Z)<|zM Z<|zN<|zT ?_;obtain rfl := zJ hr;exact ⟨_, rfl, zW 4 ⟨rfl, rfl, rfl, rfl, rfl, trivial⟩ Z Z Z (zL Z (zL (ae (fun _ => rfl) _) (zL (ae (fun _ => rfl) _) (zL Z Z))))⟩
    ·
     refine zo g3 hr fun hr => zk<|ai<|zT<|zR<|yS Z (ax Z Z Z Z)<|zM Z<|zN<|zT ?_;obtain rfl := zJ hr;exact ⟨_, rfl, zW 4 ⟨rfl, rfl, rfl, rfl, rfl, trivial⟩ Z Z Z (zL Z (zL (ae (fun _ => rfl) _) (zL (ae (fun _ => rfl) _) (zL Z Z))))⟩
   ·
    refine zo g2 hr fun hr => yU Z (gd g2 Z) Z<|yU Z (gd g2 Z) Z<|yU Z (gd g2 Z) Z<|yU Z (gd g2 Z) Z<|yS Z (a8 Z (aN g2 Z) Z)<|zN<|zT<|LW.condF Z<|zk<|ai<|zT<|zR<|yS Z (ax Z Z Z Z)<|zM Z<|zN<|zT ?_;obtain rfl := zJ hr;exact ⟨_, rfl, zW 4 ⟨rfl, rfl, rfl, rfl, rfl, trivial⟩ Z Z Z (zL Z (zL (ae (fun _ => rfl) _) (zL (ae (fun _ => rfl) _) (zL Z Z))))⟩
  ·
   refine zo g1 hr fun hr => zq<|ao<|ao<|zy<|zT ?_;obtain rfl := zJ hr;have hr := congrArg some (hb_x1 _ rfl);obtain rfl := zJ hr;exact zW 4 ⟨Z, Z, trivial⟩ Z Z Z<|zL Z<|zL (ae (fun _ => rfl) _)<|zL (ae (fun _ => rfl) _)<|zL Z Z
 ·have hr := ho_v1;clear hb_v1;refine zT<|LW.weak hw_v1<|zQ<|zR<|yS Z (zD Z Z Z rO Z Z)<|yS Z (zs Z Z Z Z rO Z Z Z Z)<|zN<|zT<|zr ?_;obtain rfl := zJ hr;exact ap (.one (.cellAgg Z Z (by kernel_rfl) Z))<|⟨rfl, rfl⟩
end Go.Mg
namespace Go.Proofs
def Tryz.sortVt_ren : Go.Shelf.Ren := ⟨fun | 6 => 183 | 15 => 197 | 14 => 196 | 28 => 210 | 29 => 211 | 20 => 202 | 21 => 203 | 22 => 204 | 23 => 205 | 24 => 206 | 25 => 207 | 26 => 208 | 27 => 209 | 46 => 216 | 47 => 217 | 48 => 218 | 49 => 219 | 50 => 220 | 57 => 225 | n => n, fun | 22 => 42 | 24 => 54 | 25 => 255 | 3 => 3 | 39 => 223 | 0 => 0 | 53 => 190 | 55 => 23 | 4 => 4 | 46 => 269 | 45 => 268 | 50 => 80 | 5 => 5 | 9 => 9 | 66 => 280 | 70 => 284 | 76 => 289 | 77 => 103 | n => n, fun | n => n⟩
theorem Tryz.sortVt : SlLaysF0.n6 Tryz.prog Tryz.sortVt_ren where
 mixed := by kernel_rfl
 f6 := ⟨ "slices.SortFunc[[]marigold/api.Vote,marigold/api.Vote]", by decide, Tryz.func183.trans (congrArg some (by kernel_rfl))⟩
 f14 := ⟨ "slices.pdqsortCmpFunc[marigold/api.Vote]", by decide, Tryz.func196.trans (congrArg some (by kernel_rfl))⟩
 f15 := Tryz.func197.trans (congrArg some (by kernel_rfl))
 f20 := ⟨ "slices.insertionSortCmpFunc[marigold/api.Vote]", by decide, Tryz.func202.trans (congrArg some (by kernel_rfl))⟩
 f21 := ⟨ "slices.heapSortCmpFunc[marigold/api.Vote]", by decide, Tryz.func203.trans (congrArg some (by kernel_rfl))⟩
 f22 := ⟨ "slices.breakPatternsCmpFunc[marigold/api.Vote]", by decide, Tryz.func204.trans (congrArg some (by kernel_rfl))⟩
 f23 := ⟨ "slices.choosePivotCmpFunc[marigold/api.Vote]", by decide, Tryz.func205.trans (congrArg some (by kernel_rfl))⟩
 f24 := ⟨ "slices.reverseRangeCmpFunc[marigold/api.Vote]", by decide, Tryz.func206.trans (congrArg some (by kernel_rfl))⟩
 f25 := ⟨ "slices.partialInsertionSortCmpFunc[marigold/api.Vote]", by decide, Tryz.func207.trans (congrArg some (by kernel_rfl))⟩
 f26 := ⟨ "slices.partitionEqualCmpFunc[marigold/api.Vote]", by decide, Tryz.func208.trans (congrArg some (by kernel_rfl))⟩
 f27 := ⟨ "slices.partitionCmpFunc[marigold/api.Vote]", by decide, Tryz.func209.trans (congrArg some (by kernel_rfl))⟩
 f28 := Tryz.func210.trans (congrArg some (by kernel_rfl))
 f29 := Tryz.func211.trans (congrArg some (by kernel_rfl))
 f46 := ⟨ "slices.siftDownCmpFunc[marigold/api.Vote]", by decide, Tryz.func216.trans (congrArg some (by kernel_rfl))⟩
 f47 := Tryz.func217.trans (congrArg some (by kernel_rfl))
 f48 := Tryz.func218.trans (congrArg some (by kernel_rfl))
 f49 := ⟨ "slices.medianAdjacentCmpFunc[marigold/api.Vote]", by decide, Tryz.func219.trans (congrArg some (by kernel_rfl))⟩
 f50 := ⟨ "slices.medianCmpFunc[marigold/api.Vote]", by decide, Tryz.func220.trans (congrArg some (by kernel_rfl))⟩
 f57 := ⟨ "slices.order2CmpFunc[marigold/api.Vote]", by decide, Tryz.func225.trans (congrArg some (by kernel_rfl))⟩
 t0 := Tryz.underlying0
 a0 := Tryz.isAgg0
 z0 := Tryz.sizeOf0
 v0 := Tryz.zeroValue0
 t3 := Tryz.underlying3
 a3 := Tryz.isAgg3
 z3 := Tryz.sizeOf3
 v3 := Tryz.zeroValue3
 t4 := Tryz.underlying4
 a4 := Tryz.isAgg4
 z4 := Tryz.sizeOf4
 v4 := Tryz.zeroValue4
 t5 := Tryz.underlying5
 a5 := Tryz.isAgg5
 z5 := Tryz.sizeOf5
 v5 := Tryz.zeroValue5
 t9 := Tryz.underlying9
 a9 := Tryz.isAgg9
 z9 := Tryz.sizeOf9
 v9 := Tryz.zeroValue9
 t22 := Tryz.underlying42
 a22 := Tryz.isAgg42
 z22 := Tryz.sizeOf42
 v22 := Tryz.zeroValue42
 t25 := Tryz.underlying255
 a25 := Tryz.isAgg255
 z25 := Tryz.sizeOf255
 v25 := Tryz.zeroValue255
 t39 := Tryz.underlying223
 a39 := Tryz.isAgg223
 z39 := Tryz.sizeOf223
 v39 := Tryz.zeroValue223
 t45 := Tryz.underlying268
 a45 := Tryz.isAgg268
 z45 := Tryz.sizeOf268
 v45 := Tryz.zeroValue268
 t46 := Tryz.underlying269
 a46 := Tryz.isAgg269
 z46 := Tryz.sizeOf269
 v46 := Tryz.zeroValue269
 t50 := Tryz.underlying80
 a50 := Tryz.isAgg80
 z50 := Tryz.sizeOf80
 v50 := Tryz.zeroValue80
 t53 := Tryz.underlying190
 a53 := Tryz.isAgg190
 z53 := Tryz.sizeOf190
 v53 := Tryz.zeroValue190
 t55 := Tryz.underlying23
 a55 := Tryz.isAgg23
 z55 := Tryz.sizeOf23
 v55 := Tryz.zeroValue23
 t66 := Tryz.underlying280
 a66 := Tryz.isAgg280
 z66 := Tryz.sizeOf280
 v66 := Tryz.zeroValue280
 t70 := Tryz.underlying284
 a70 := Tryz.isAgg284
 z70 := Tryz.sizeOf284
 v70 := Tryz.zeroValue284
 t76 := Tryz.underlying289
 a76 := Tryz.isAgg289
 z76 := Tryz.sizeOf289
 v76 := Tryz.zeroValue289
 t77 := Tryz.underlying103
 a77 := Tryz.isAgg103
 z77 := Tryz.sizeOf103
 v77 := Tryz.zeroValue103
def Tryz.cmpVt_ren : Go.Shelf.Ren := ⟨fun | 5 => 185 | 7 => 198 | n => n, fun | 22 => 3 | 3 => 3 | 4 => 4 | n => n, fun | n => n⟩
theorem Tryz.cmpVt : SlLaysC2.n5 Tryz.prog Tryz.cmpVt_ren where
 mixed := by kernel_rfl
 f5 := ⟨ "cmp.Compare[int]", by decide, Tryz.func185.trans (congrArg some (by kernel_rfl))⟩
 f7 := ⟨ "cmp.isNaN[int]", by decide, Tryz.func198.trans (congrArg some (by kernel_rfl))⟩
 t3 := Tryz.underlying3
 a3 := Tryz.isAgg3
 z3 := Tryz.sizeOf3
 v3 := Tryz.zeroValue3
 t4 := Tryz.underlying4
 a4 := Tryz.isAgg4
 z4 := Tryz.sizeOf4
 v4 := Tryz.zeroValue4
 t22 := Tryz.underlying3
 a22 := Tryz.isAgg3
 z22 := Tryz.sizeOf3
 v22 := Tryz.zeroValue3
end Go.Proofs
namespace Go.Mg
open Go.Shelf Go.Sort Go.Proofs
instance : Inhabited Vt := ⟨⟨0, 0, (0, 0)⟩⟩
def iB (v : Vt) : List Value := [.int .i64 v.From, .int .i64 v.Slot, .int .u64 v.Head.1, .int .u64 v.Head.2]
def xt (v : Vt) : List PV := [.int .i64 v.From, .int .i64 v.Slot, .int .u64 v.Head.1, .int .u64 v.Head.2]
theorem lm : ∀ l : List Vt, flat (l.map aD) = l.flatMap xt
 | [] => rfl
 | v :: r => by rw [List.map_cons, ci, lm r, List.flatMap_cons]; rfl
theorem ll {α β : Type} {f : α → List β} {k : Nat} (hf : ∀ x, (f x).length = k) : ∀ (l : List α) (q r : Nat) (x : α), l[q]? = some x → r < k → (l.flatMap f)[q * k + r]? = (f x)[r]?
 | [], q, r, x, h, _ => by simp at h
 | y :: s, 0, r, x, h, hr => by
  simp at h; subst h;rw [List.flatMap_cons, Nat.zero_mul, Nat.zero_add, List.getElem?_append_left (by rw [hf]; exact hr)]
 | y :: s, q + 1, r, x, h, hr => by
  rw [List.flatMap_cons, List.getElem?_append_right (by rw [hf, Nat.succ_mul]; omega), hf, show (q + 1) * k + r - k = q * k + r by rw [Nat.succ_mul]; omega];exact ll hf s q r x (by simpa using h) hr
theorem x6 {μ : List ba} {I : Nat → Prop} {w : World} {H : List aa} {id : Nat} {l : List Vt} {B : ba} (hs : St μ I w H) (hne : l ≠ []) (hH : H[id]? = some (.vec 4 (l.map aD))) (hid : μ[id]? = some B) :
  ∃ b vs e, B = ⟨some b, l.length⟩ ∧ w.heap[b]? = some (.cells vs e (0, 0)) ∧ 4 * l.length ≤ vs.size ∧ (∀ q v, l[q]? = some v → (aQ .i64 v.From ∧ aQ .i64 v.Slot ∧ aQ .u64 v.Head.1 ∧ aQ .u64 v.Head.2) ∧ ∀ r, r < 4 → vs[4 * q + r]? = (iB v)[r]?) := by
 have hob := hs.objs id _ _ hH hid;generalize hx : l.map aD = xs at hob
 cases hob with
 | vecE => exact absurd (List.map_eq_nil_iff.1 hx) hne
 | @vec _ _ b vs e hb hl hne' hm h =>
  subst hx;rw [List.length_map] at hl;refine ⟨b, vs, e, by rw [List.length_map], hb, hl, fun q v hq => ?_⟩;have hql := (List.getElem?_eq_some_iff.1 hq).1
  have key : ∀ r p, r < 4 → (xt v)[r]? = some p → ∃ u, vs[4 * q + r]? = some u ∧ dE I w p u := fun r p hr hp => by
   have hi := ll (f := xt) (k := 4) (fun _ => rfl) l q r v hq hr;rw [← lm, Nat.mul_comm] at hi;have hv : vs[4 * q + r]? = some (vs[4 * q + r]'(by omega)) := Array.getElem?_eq_getElem (by omega);exact ⟨_, hv, h _ p _ (hi.trans hp) hv⟩
  obtain ⟨u0, h0, r0⟩ := key 0 (.int .i64 v.From) (by omega) rfl;obtain ⟨u1, h1, r1⟩ := key 1 (.int .i64 v.Slot) (by omega) rfl;obtain ⟨u2, h2, r2⟩ := key 2 (.int .u64 v.Head.1) (by omega) rfl;obtain ⟨u3, h3, r3⟩ := key 3 (.int .u64 v.Head.2) (by omega) rfl;cases r0; cases r1; cases r2; cases r3;refine ⟨⟨by assumption, by assumption, by assumption, by assumption⟩, fun r hr => ?_⟩
  match r, hr with
  | 0, _ => rw [h0]; rfl
  | 1, _ => rw [h1]; rfl
  | 2, _ => rw [h2]; rfl
  | 3, _ => rw [h3]; rfl
theorem GK {l : List Vt} {j : Nat} (hj : j < 4 * l.length) : ∃ v, l[j / 4]? = some v ∧ j % 4 < 4 ∧ j = 4 * (j / 4) + j % 4 := by
 have h : j / 4 < l.length := by omega
 exact ⟨l[j / 4], List.getElem?_eq_getElem h, by omega, by omega⟩
theorem tg {l : List Vt} {j : Nat} (hj : j < 4 * l.length) {v : Vt} (hv : l[j / 4]? = some v) : (flatK iB 4 l.toArray)[j]! = (iB v)[j % 4]! := by
 rw [get_flatK _ _ _ _ (by simp; omega)]
 have h : (l.toArray)[j / 4]! = v := by
  rw [getElem!_def];simp [hv]
 rw [h]
theorem ry {w : World} {l : List Vt} {b : Nat} {vs : Array Value} {e : TypeId} (hb : w.heap[b]? = some (.cells vs e (0, 0))) (hc : ∀ q v, l[q]? = some v → ∀ r, r < 4 → vs[4 * q + r]? = (iB v)[r]?) : HoldsK iB 4 w b 0 l.toArray := by
 intro j hj;rw [size_flatK] at hj
 have hj' : j < 4 * l.length := by simp at hj; omega
 obtain ⟨v, hv, hr, he⟩ := GK hj';have h1 := hc _ v hv _ hr;rw [← he] at h1
 have h2 : (iB v)[j % 4]? = some ((iB v)[j % 4]!) := by
  rw [getElem!_def];have : j % 4 < (iB v).length := hr;rw [List.getElem?_eq_getElem this]
 rw [h2] at h1;constructor
 ·rw [tg hj' hv, Nat.zero_add];simp [World.cell?, hb, h1]
 ·simp [World.frozen?, hb]
theorem tW {F vs : Array Value} {i : Nat} (hF : F.size ≤ vs.size) (hi : i < F.size) : (putCells (fun x => x) 0 F vs)[i]? = some (F[i]!) := by
 unfold putCells;rw [Array.getElem?_mapIdx, Array.getElem?_eq_getElem (by omega)];simp [hi]
theorem s0 : ∀ d : List Vt, (d.flatMap xt).length = 4 * d.length
 | [] => rfl
 | x :: r => by rw [List.flatMap_cons, List.length_append, s0 r, List.length_cons]; simp [xt]; omega
theorem xX {μ : List ba} {I : Nat → Prop} {w : World} {H : List aa} {id b n : Nat} {l d : List Vt} {vs : Array Value} {e : TypeId} {os : Array Obj} (hs : St μ I w H) (hid : μ[id]? = some ⟨some b, l.length⟩) (hb : w.heap[b]? = some (.cells vs e (0, 0))) (hsz : 4 * l.length ≤ vs.size)
  (hd : d.length = l.length) (hne : d ≠ []) (hk : ∀ v ∈ d, aQ .i64 v.From ∧ aQ .i64 v.Slot ∧ aQ .u64 v.Head.1 ∧ aQ .u64 v.Head.2) :
  St μ I (sortWorldK iB 4 w b 0 n d.toArray os) (H.set id (.vec 4 (d.map aD))) ∧ bz μ.length μ I w μ I (sortWorldK iB 4 w b 0 n d.toArray os) := by
 have hbl : b < w.heap.size := (Array.getElem?_eq_some_iff.1 hb).1
 have hFs : (flatK iB 4 d.toArray).size = 4 * d.length := by rw [size_flatK]; simp; omega
 have hsize : (sortWorldK iB 4 w b 0 n d.toArray os).heap.size = w.heap.size + os.size := by
  simp [sortWorldK, grow, putRowK, putRow, mapBlock, Go.Sort.ahead]
 have hoth : ∀ c, c < w.heap.size → c ≠ b → (sortWorldK iB 4 w b 0 n d.toArray os).heap[c]? = w.heap[c]? := fun c hc hcb => by
  simp only [sortWorldK, grow, putRowK, putRow, mapBlock, Go.Sort.ahead];rw [Array.getElem?_append_left (by simpa using hc), Array.getElem?_modify];rw [if_neg (fun e => hcb e.symm)]
 have hself : (sortWorldK iB 4 w b 0 n d.toArray os).heap[b]? = some (.cells (putCells (fun x => x) 0 (flatK iB 4 d.toArray) vs) e (0, 0)) := by
  simp only [sortWorldK, grow, putRowK, putRow, mapBlock, Go.Sort.ahead];rw [Array.getElem?_append_left (by simpa using hbl), Array.getElem?_modify];rw [if_pos rfl, hb];rfl
 have hF : (flatK iB 4 d.toArray).size ≤ vs.size := by omega
 refine hs.writeG hid hoth (by omega) Z Z Z (fun c e' f hc => ?_) fun hE => ?_
 ·rw [hb] at hc; cases hc;exact ⟨_, hself, by simp [putCells]⟩
 ·rw [← hd]
  have hlen : d.length = (d.map aD).length := by rw [List.length_map]
  rw [hlen];refine .vec hself (by rw [List.length_map]; simp [putCells]; omega) (fun h => hne (List.map_eq_nil_iff.1 h)) (fun x hx => ?_) fun i c u hc hu => ?_
  ·obtain ⟨v, -, rfl⟩ := List.mem_map.1 hx;exact ⟨rfl, fun c hc => by simp [aD, PV.cells] at hc; rcases hc with rfl | rfl | rfl | rfl <;> trivial⟩
  ·rw [lm] at hc
   have hi : i < 4 * d.length := by
    have h1 := (List.getElem?_eq_some_iff.1 hc).1;have h2 := s0 d;omega
   obtain ⟨v, hv, hr, he⟩ := GK hi;have h3 := ll (f := xt) (k := 4) (fun _ => rfl) d _ _ v hv hr;rw [Nat.mul_comm, ← he, hc] at h3;rw [tW hF (by omega), tg hi hv] at hu;obtain ⟨k1, k2, k3, k4⟩ := hk v (List.mem_of_getElem? hv);cases hu;generalize i % 4 = r at hr h3 ⊢
   match r, hr with
   | 0, _ => cases h3; exact .int k1
   | 1, _ => cases h3; exact .int k2
   | 2, _ => cases h3; exact .int k3
   | 3, _ => cases h3; exact .int k4
open Go.Shelf Go.Sort Go.Proofs
theorem xL {l : List Vt} {d : Array Vt} (h : PermIn 0 l.toArray.size l.toArray d) : d.toList.Perm l := by
 have h1 := h.2.2;have e1 : l.toArray.extract 0 l.toArray.size = l.toArray := Array.extract_size
 have e2 : d.extract 0 l.toArray.size = d := by rw [← h.1]; exact Array.extract_size
 rw [e1, e2] at h1;simpa using h1
theorem xQ {d : Array Vt} {n : Nat} {lt : Vt → Vt → Bool} (hlt : ∀ x y, lt x y = decide (x.From < y.From)) (hn : d.size = n) (h : SortedIn lt 0 n d) : lU d.toList := by
 unfold lU;rw [List.pairwise_iff_getElem];intro i j hi hj hij;have := h i j (Nat.zero_le _) hij (by simpa [hn] using hj);rw [hlt] at this
 have h1 : d[j]! = d.toList[j] := by rw [getElem!_pos d j (by simpa using hj)]; simp
 have h2 : d[i]! = d.toList[i] := by rw [getElem!_pos d i (by simpa using hi)]; simp
 rw [h1, h2] at this;have := of_decide_eq_false this;omega
theorem LC.sortVotes {P : Program} {F g : FuncId} {H : List aa} {id : Nat} {l : List Vt} {lt : Vt → Vt → Bool} (hlt : ∀ x y, lt x y = decide (x.From < y.From))
  (hN : ∀ (p : Option Addr) (cap : Nat) (fv : Value) (w : World), Calls P F #[.slice p 0 cap, fv] w fun e w' => e = .returned (.tuple #[]) ∧ w' = w)
  (hS : ∀ (blk off cap : Nat) (d : Array Vt) (w : World), HoldsK iB 4 w blk off d → blk < w.heap.size → d.size < 4611686018427387904 → Calls P F #[.slice (some ⟨blk, off, none⟩) d.size cap, .func (.func g) #[] #[]] w fun e w' =>
   e = .returned (.tuple #[]) ∧ ∃ d' n os, PermIn 0 d.size d d' ∧ SortedIn lt 0 d.size d' ∧ w' = sortWorldK iB 4 w blk off n d' os)
  (hH : aH H id = some (.vec 4 (l.map aD))) (hd : ∀ x ∈ l, ∀ y ∈ l, x.From = y.From → x = y) (hlen : l.length ≤ 1000000) :
  LC P F [.vec 4 id (l.map aD).length 0 (l.map aD).length, .fn g [] []] H (Is (.tup []) (H.set id (.vec 4 ((fA l).map aD)))) := by
 intro args w μ I hs ha;rw [aF] at hH;obtain ⟨al⟩ := args
 match al, ha with
 | [v1, v2], ha =>
  obtain ⟨h1, h2, -⟩ := ha
  have hv2 : v2 = .func (.func g) #[] #[] := by
   cases h2 with
   | @fn _ _ _ fs cs hl hl' _ _ =>
    rw [Array.eq_empty_of_size_eq_zero hl, Array.eq_empty_of_size_eq_zero hl']
  subst hv2
  cases h1 with
  | @vec _ _ _ _ _ B _ hid h1 hn hf =>
  by_cases hne : l = []
  ·subst hne;have hob := hs.objs id _ _ hH hid
   have hB : B = ⟨none, 0⟩ := by
    cases hob with
    | vecE => rfl
    | vec _ _ hne' _ _ => exact absurd rfl hne'
   subst hB;rcases hf rfl with ⟨-, ⟨a, rfl⟩, -⟩ | ⟨b, cap, hb, -⟩
   ·refine (hN a 0 _ w).mono fun e w' he => ?_;obtain ⟨rfl, rfl⟩ := he;refine ⟨.tup [], _, _, μ, I, rfl, ⟨rfl, rfl⟩, ?_, .tup Z (fun i c v hc => by simp at hc), .refl _ _ _ _ (Nat.le_refl _)⟩;have hil := (List.getElem?_eq_some_iff.1 hH).1
    have : H.set id (.vec 4 ((fA []).map aD)) = H := by
     apply List.ext_getElem?;intro i;rw [List.getElem?_set];split
     ·rename_i e; subst e; first | exact hH.symm | (rw [if_pos hil]; exact hH.symm)
     ·rfl
    rw [this]; exact hs
   ·cases hb
  ·obtain ⟨b, vs, e, rfl, hb, hsz, hcells⟩ := x6 hs hne hH hid;have hll : (l.map aD).length = l.length := List.length_map _;have hl0 : l.length ≠ 0 := fun h => hne (List.length_eq_zero_iff.1 h);rcases hf hll with ⟨h0, -⟩ | ⟨b', cap, hb', rfl, hc1, hc2, -⟩
   ·omega
   ·cases hb';have hbl : b < w.heap.size := (Array.getElem?_eq_some_iff.1 hb).1
    have hmax : l.length < 4611686018427387904 := by omega
    have hcall := hS b 0 cap l.toArray w (ry hb fun q v hq => (hcells q v hq).2) hbl (by simpa using hmax)
    have es : l.toArray.size = (l.map aD).length := by simp
    rw [es] at hcall;refine hcall.mono fun ex w' he => ?_;obtain ⟨rfl, d', n, os, hp, hso, rfl⟩ := he;rw [← es] at hp hso;have hperm := xL hp;have hds : d'.toList = fA l := (Bh hperm.symm (xQ hlt hp.1 hso) hd).symm
    have hd' : d' = (fA l).toArray := by rw [← hds]
    subst hd';have hsl : (fA l).length = l.length := (bY l).length_eq
    obtain ⟨s1, s2⟩ := xX (n := n) (os := os) (d := fA l) hs hid hb hsz hsl (fun h => hl0 (by rw [← hsl, h]; rfl)) fun v hv => by
     obtain ⟨q, hq⟩ := List.getElem?_of_mem ((bY l).mem_iff.1 hv);exact (hcells q v hq).1
    exact ⟨.tup [], _, _, μ, I, rfl, ⟨rfl, rfl⟩, s1, .tup Z (fun i c v hc => by simp at hc), s2⟩
end Go.Mg
namespace Go.Proofs
open Go.Shelf Go.RowKit Go.Lib Go.Sort Go.Mg
set_option maxHeartbeats 1000000 in
theorem Tryz.closV (x y : Vt) (W : World) : Calls Tryz.prog 184 #[.agg #[.int .i64 x.From, .int .i64 x.Slot, .int .u64 x.Head.1, .int .u64 x.Head.2], .agg #[.int .i64 y.From, .int .i64 y.Slot, .int .u64 y.Head.1, .int .u64 y.Head.2]] W fun e w' => e = .returned (.int .i64 (Lib.compareInt x.From y.From)) ∧ ∃ q os', w' = grow (W.drewN q) os' := by
 have hcon := fun W' => AnyG.cmp_Compare_int Tryz.cmpVt x.From y.From W';change ∀ W', Calls Tryz.prog 185 _ _ _ at hcon;generalize Lib.compareInt x.From y.From = r at hcon ⊢
 go_enter Tryz.func184, Tryz.ntmps184
 go_wp2_with (go_at_call 185; refine (hcon _).mono ?_; rintro e w' ⟨rfl, rfl⟩)
 go_ret
 exact ⟨rfl, 0, _, by rw [alloc_eq_grow, alloc_eq_grow, grow_grow]; rfl⟩
theorem Tryz.ltV (x y : Vt) : ltOf (fun x y : Vt => Lib.compareInt x.From y.From) x y = decide (x.From < y.From) := by
 unfold ltOf Lib.compareInt;by_cases h1 : x.From < y.From
 ·simp [h1]
 ·by_cases h2 : y.From < x.From <;> simp [h1, h2]
theorem Tryz.swoV : SWO (ltOf fun x y : Vt => Lib.compareInt x.From y.From) where
 irrefl x := by rw [Tryz.ltV]; simp
 trans x y z h1 h2 := by rw [Tryz.ltV] at *; simp at *; omega
 ntrans x y z h1 h2 := by rw [Tryz.ltV] at *; simp at *; omega
theorem Tryz.sortV_call {H H' : List aa} {id : Nat} {l : List Vt} (hH : aH H id = some (.vec 4 (l.map aD))) (hk : vq l = true) (hH' : aO H id (.vec 4 ((fA l).map aD)) = some H') :
  LC Tryz.prog 183 [.vec 4 id (l.map aD).length 0 (l.map aD).length, .fn 184 [] []] H (Is (.tup []) H') := by
 obtain ⟨e3, -⟩ := aM hH';subst e3;have hk := of_decide_eq_true hk;refine LC.sortVotes Tryz.ltV (fun p cap fv w => AnyF.slices_SortFunc_none Tryz.sortVt p cap fv w) (fun blk off cap d w hH hb hs => ?_) hH hk.2 hk.1;exact AnyQ.slices_SortFunc Tryz.sortVt 4 Tryz.isAgg54 Tryz.sizeOf54 iB (fun _ => rfl) (fun x v hv => by simp [iB] at hv; rcases hv with rfl | rfl | rfl | rfl <;> rfl) (fun x y => Lib.compareInt x.From y.From) Tryz.swoV 184 #[] blk off cap d w (enters_of Tryz.func184 (by kernel_rfl) Z) (fun _ _ _ _ x y => Tryz.closV x y _) hH hb hs
end Go.Proofs
namespace Go.Mg
open Go.Proofs
def nR (l : List Vt) : Option (List Vt) :=
 bif vq l then
  some (fA l)
 else none
theorem Au {l : List Vt} {r_ : List Vt} (hr : nR l = some r_) : LC Tryz.prog 168 [(jV 0 l)] [.vec 4 (l.map aD)] (Is (jV 0 r_) [.vec 4 (r_.map aD)]) := by
 refine dt Tryz.func168 Z Z Z ?_;unfold nR at hr;refine zQ<|zR<|zM Z<|zN<|zT<|zQ<|zR<|zM Z<|zg hr fun q1 hr => yS Z (zC Z Z Z (by kernel_rfl) (Tryz.sortV_call Z q1 Z))<|zN<|zT<|zQ<|zR<|zM Z<|zM Z<|zN<|zT<|zr ?_;obtain rfl := zJ hr;exact ap (.one (.tmp Z)) (⟨congrArg (fun n => LV.vec 4 0 n 0 n) (show (l.map aD).length = ((fA l).map aD).length by rw [List.length_map, List.length_map, (bY l).length_eq]), rfl⟩)
open Go.Proofs
structure eY where
 out : List Vt
def jN (slot : Int) (b : List (Du × ID) × List (Du × Bool)) (j_ : Nat) (d_ : eY) : Option eY :=
 (b.1[j_]?).bind fun y1 =>
 (
  bif ((y1.1.frm == y1.1.frm) && ((y1.1.slot == slot) && true)) then
   some (!((aj b.2 y1.1).getD false))
  else
   some false
 ).bind fun v1 =>
 bif v1 then
  bif b9 d_.out.length [Vt.mk y1.1.frm slot y1.2].length 32 then
   some (eY.mk (d_.out ++ [Vt.mk y1.1.frm slot y1.2]))
  else none
 else
  some (eY.mk d_.out)
def HO (slot : Int) (b : List (Du × ID) × List (Du × Bool)) (ord_ : List Nat) : Option (List Vt) :=
 (fw (jN slot b) ord_ (eY.mk ([] : List Vt))).bind fun d_ =>
 (nR d_.out).bind fun v2 =>
 some v2
theorem IF {l : List Vt} {slot : Int} {b : List (Du × ID) × List (Du × Bool)} {r_ : List Vt} (hb : sE l = some b) (hr : ∀ ord_ : List Nat, ord_.Perm (List.range b.1.length) → HO slot b ord_ = some r_) : LC Tryz.prog 148 [(kV l), (iQ slot)] [] (Is (jV 0 r_) [.vec 4 (r_.map aD)]) := by
 refine dt Tryz.func148 Z Z Z ?_;unfold HO at hr;refine zQ<|zR<|zM Z<|zN<|zT<|zQ<|zR<|zM Z<|zN<|zT<|zQ<|zR<|zM Z<|yS Z (zC Z Z Z (by kernel_rfl) (Ez hb))<|yS Z (ze Z vG Z Z)<|yS Z (zs Z Z Z Z rO Z Z Z Z)<|zN<|zT<|zQ<|zQ<|zR<|yS Z (zA Z Z ph)<|yS Z (zD Z Z Z vA Z Z) ?_;refine yS Z (ab.rangeMap (es := (ah qc (fun v => .p (cw v)) b.1)) Z Z Z (mU _) (by kernel_rfl) Z Z) ?_;refine zN<|zT<|LW.ent (bJ.lazy (t := 5) (m := 4) Z Z Z) ?_;refine LW.mapTail (D := eY) (G := fun d_ s_ => ri (jN slot b) b.1.length (eY.mk ([] : List Vt)) s_ d_ ∧ s_.Perm (List.range b.1.length)) (fun d_ s_ => [(4, .zs), (5, (jV 6 d_.out))]) (fun d_ s_ => [.box [.map 1, .map 2], .map (ah qc (fun v => .p (cw v)) b.1), .map (ah qc (fun v => (bQ v)) b.2), .box [.map 1, .map 2], .box [.map 1, .map 2], .iter (.map 1) b.1.length s_, .vec 4 (d_.out.map aD)]) ?_<|fun d_ s_ hG env_m H_m hw_m => ?_
 ·refine LW.block ?_;have hall : ∀ ord : List Nat, ord.Perm (List.range b.1.length) → ∃ z, fw (jN slot b) ord (eY.mk ([] : List Vt)) = some z := fun ord ho => (zB (hr ord ho)).imp fun z h => h.1;refine LW.mapLoop (step := (jN slot b)) (n := b.1.length) (d0 := eY.mk ([] : List Vt)) (fun d_ s_ => [(1, (iQ slot)), (4, .zs), (5, (jV 6 d_.out)), (6, .ptr 4 0), (13, .ptr 5 0)]) (fun d_ s_ => [.box [.map 1, .map 2], .map (ah qc (fun v => .p (cw v)) b.1), .map (ah qc (fun v => (bQ v)) b.2), .box [.map 1, .map 2], .box [.map 1, .map 2], .iter (.map 1) b.1.length s_, .vec 4 (d_.out.map aD)]) hall (zW 7 ⟨rfl, rfl, rfl, rfl, rfl, trivial⟩ Z Z Z (zL Z (zL (ae (fun _ => rfl) _) (zL (ae (fun _ => rfl) _) (zL Z (zL Z (zL Z (zL Z Z))))))))<|fun d_ s_ hS => ?_;refine zQ<|zR ?_;refine am.cons Z Z Z (ab.nextMap (es := (ah qc (fun v => .p (cw v)) b.1)) Z Z Z Z (mU _)) ?_;rintro x_ H_ (⟨ha_, rfl, rfl⟩ | ⟨j_, hj_, hs_, rfl, rfl⟩)
  ·
   exact yS Z (fE Z Z Z)<|zN<|zT<|zQ<|LW.condF Z<|zq<|ao<|ao<|zy<|zT<|⟨d_, s_, hS.all ha_, zW 7 ⟨rfl, rfl, trivial⟩ Z Z Z (zL Z (zL (ae (fun _ => rfl) _) (zL (ae (fun _ => rfl) _) (zL Z (zL Z (zL Z (zL Z Z)))))))⟩
  ·
   obtain ⟨e_, hr0, -⟩ := hS.next hall hj_ hs_;have hr := hr0;unfold jN at hr;refine yS Z (fE Z Z Z)<|zN<|zT<|zQ<|LW.condT Z<|zk<|zT<|zl<|zQ<|zR<|zb hr fun y1 h_y1 hr => ?_;refine yS Z (ab.entryMap (es := (ah qc (fun v => .p (cw v)) b.1)) Z Z Z Z (mU _) (Az h_y1)) ?_;refine yS Z (fE Z Z Z)<|yS Z (fE Z Z Z)<|yS Z (ze Z BK Z Z)<|yS Z (ze Z ke Z Z)<|yS Z (zs Z Z Z Z lJ Z Z Z Z)<|yS Z (zs Z Z Z Z aV Z Z Z Z)<|zN<|zT ?_;obtain ⟨v1, hb_v1, ho_v1⟩ := zB hr;clear hr;refine LW.cut (E := [(1, (iQ slot)), (4, .zs), (5, (jV 6 d_.out)), (6, .ptr 4 0), (7, .ptr 7 0), (8, .ptr 8 0), (13, .ptr 5 0), (31, (bQ v1))]) (O := [.box [.map 1, .map 2], .map (ah qc (fun v => .p (cw v)) b.1), .map (ah qc (fun v => (bQ v)) b.2), .box [.map 1, .map 2], .box [.map 1, .map 2], .iter (.map 1) b.1.length (s_ ++ [j_]), .vec 4 (d_.out.map aD), .box [(iQ y1.1.frm), (iQ y1.1.slot)], .box [(uQ y1.2.1), (uQ y1.2.2)]]) ?_ ?_
   ·have hr := hb_v1;refine zR<|yS Z (zD Z Z Z lJ Z Z)<|yS Z (zA Z Z tq)<|yS Z (zD Z Z Z aX Z Z)<|zM Z<|yS Z (ab.build Z Am Z Z Z)<|yS Z (ab.eqlAgg Z Z Z Z Z CN)<|zM Z ?_;refine zc 25 Z (fun g1 => ?_)<|fun g1 => ?_
    ·
     refine zi g1 hr fun hr => yV Z (gd g1 Z) (zA Z Z tp)<|yV Z (gd g1 Z) (zD Z Z Z Bw Z Z)<|yV Z (gd g1 Z) (zD Z Z Z lJ Z Z) ?_;refine yV Z (gd g1 Z) (ab.getX (f := qc) (g := (fun v => (bQ v))) y1.1 false wk Z Z Z Z A0 HD Z Z) ?_;refine yV Z (gd g1 Z) (ab.not Z Z)<|yS Z (ca Z (aN g1 Z) Z)<|zN<|zT ?_;obtain rfl := zJ hr;exact zW 9 ⟨Z, Z, Z, Z, Z, Z, Z, Z, trivial⟩ Z Z Z<|zL Z<|zL (ae (fun _ => rfl) _)<|zL (ae (fun _ => rfl) _)<|zL Z<|zL Z<|zL Z<|zL Z<|zL Z<|zL Z Z
    ·
     refine zo g1 hr fun hr => yU Z (gd g1 Z) Z<|yU Z (gd g1 Z) Z<|yU Z (gd g1 Z) Z<|yU Z (gd g1 Z) Z<|yU Z (gd g1 Z) Z<|yS Z (a8 Z (aN g1 Z) Z)<|zN<|zT ?_;obtain rfl := zJ hr;exact zW 9 ⟨Z, Z, Z, Z, Z, Z, Z, Z, trivial⟩ Z Z Z<|zL Z<|zL (ae (fun _ => rfl) _)<|zL (ae (fun _ => rfl) _)<|zL Z<|zL Z<|zL Z<|zL Z<|zL Z<|zL Z Z
   ·have hr := ho_v1;clear hb_v1;refine zX Z (fun g2 => ?_)<|fun g2 => ?_
    ·
     refine zi g2 hr fun hr => zR<|zM Z<|yS Z (zA Z Z tq)<|yS Z (zD Z Z Z aX Z Z)<|zM Z<|yS Z (zD Z Z Z aV Z Z)<|yS Z (ab.build Z FA Z Z Z)<|yS Z (mA Z cZ Z Z Z Z Z)<|zg hr fun q1 hr => yS Z (ab.appendX aD d_.out [Vt.mk y1.1.frm slot y1.2] rfl Z Z Z kE.p Z cZ q1 Z)<|zM Z<|zN<|ai<|zT ?_;obtain rfl := zJ hr;exact ⟨j_, _, hj_, hs_, hr0, zW 7 ⟨rfl, rfl, rfl, rfl, rfl, trivial⟩ Z Z Z (zL Z (zL (ae (fun _ => rfl) _) (zL (ae (fun _ => rfl) _) (zL Z (zL Z (zL Z (zL Z Z)))))))⟩
    ·
     refine zo g2 hr fun hr => zk<|ai<|zT ?_;obtain rfl := zJ hr;exact ⟨j_, _, hj_, hs_, hr0, zW 7 ⟨rfl, rfl, rfl, rfl, rfl, trivial⟩ Z Z Z (zL Z (zL (ae (fun _ => rfl) _) (zL (ae (fun _ => rfl) _) (zL Z (zL Z (zL Z (zL Z Z)))))))⟩
 ·have hr := Fw (hr s_ hG.2) hG.1.came;refine zT<|LW.weak hw_m<|zQ<|LW.ent (bJ.last (t := 5) (j := 0) (Hj := []) Z Z Z Z Z Z Z)<|zR<|zM Z<|zb hr fun v2 h_v2 hr => yS Z (zC Z Z Z (by kernel_rfl) (Au h_v2))<|zM Z<|zN<|zT<|zr ?_;obtain rfl := zJ hr;exact ap (.one (.tmp Z))<|⟨rfl, rfl⟩
open Go.Proofs
theorem pw {α β : Type} [DecidableEq α] (k : α) (v : β) : ∀ m : List (α × β), (aW m k v).map Prod.fst = if k ∈ m.map Prod.fst then m.map Prod.fst else m.map Prod.fst ++ [k]
 | [] => by simp [aW]
 | (x, y) :: r => by
  have ih := pw k v r;by_cases h : x = k
  ·subst h; simp [aW]
  ·have h' : ¬ k = x := fun e => h e.symm;simp only [aW, if_neg h, List.map_cons, ih, List.mem_cons, h', false_or];split <;> rfl
theorem va {α β : Type} [DecidableEq α] {m : List (α × β)} (k : α) (v : β) (h : (m.map Prod.fst).Nodup) : ((aW m k v).map Prod.fst).Nodup := by
 rw [pw];split
 ·exact h
 ·rename_i hk;exact List.nodup_append.2 ⟨h, by simp, fun a ha b hb => by rw [List.mem_singleton] at hb; subst hb; exact fun e => hk (e ▸ ha)⟩
theorem AQ {α β : Type} [DecidableEq α] (m : List (α × β)) (k : α) (v : β) : (aW m k v).length ≤ m.length + 1 := by
 have h := congrArg List.length (pw k v m);split at h <;> simp at h <;> omega
def HR (v : Vt) : Du := ⟨v.From, v.Slot⟩
def GC (h : List (Du × ID)) (v : Vt) : Bool := match aj h (HR v) with
 | some w => decide (w ≠ v.Head)
 | none => false
def Aj (b : List (Du × ID) × List (Du × Bool)) (v : Vt) : List (Du × ID) × List (Du × Bool) := (aW b.1 (HR v) v.Head, if GC b.1 v = true then aW b.2 (HR v) true else b.2)
def ey (l : List Vt) : List (Du × ID) × List (Du × Bool) := l.foldl Aj ([], [])
theorem oO (l : List Vt) (v : Vt) : ey (l ++ [v]) = Aj (ey l) v := by unfold ey; rw [List.foldl_append]; rfl
theorem zP {l : List Vt} (hl : l.length ≤ 100000) : sE l = some (ey l) := by
 have e := az (step := iz l) (n := l.length) (fun k => db.mk (k : Int) (ey (l.take k)).1 (ey (l.take k)).2) (db.mk (l.length : Int) (ey l).1 (ey l).2) (fun k hk => by
  obtain ⟨y, hy, -⟩ := aA hk
  have et : l.take (k + 1) = l.take k ++ [y] := by rw [List.take_add_one, hy]; rfl
  unfold iz;simp only;rw [decide_eq_true (show (k : Int) < (l.length : Int) by omega), ct, aC hy, ob, et, oO, ak (n := k) (by omega)];generalize ey (l.take k) = b;unfold Aj GC HR
  cases hf : aj b.1 (Du.mk y.From y.Slot) with
  | none => simp only [Option.isSome_none, cf]; rfl
  | some w =>
   simp only [Option.isSome_some, ct, Option.getD_some, CL];by_cases hw : w = y.Head
   ·rw [decide_eq_true hw, Bool.not_true, cf]; simp [hw]
   ·rw [decide_eq_false hw, Bool.not_false, ct]; simp [hw]) (by
  unfold iz;simp only
  rw [decide_eq_false (show ¬ (l.length : Int) < (l.length : Int) by omega), cf, List.take_length]) (by omega)
 have e' : iter (iz l) bH (db.mk 0 [] []) = _ := e;unfold sE;rw [e', ob]
theorem qA (l : List Vt) : ((ey l).1.map Prod.fst).Nodup ∧ (ey l).1.length ≤ l.length := by
 have key : ∀ k, k ≤ l.length → ((ey (l.take k)).1.map Prod.fst).Nodup ∧ (ey (l.take k)).1.length ≤ k := by
  intro k
  induction k with
  | zero => intro _; simp [ey]
  | succ k ih =>
   intro hk;obtain ⟨y, hy, -⟩ := aA (l := l) (n := k) (by omega)
   have et : l.take (k + 1) = l.take k ++ [y] := by rw [List.take_add_one, hy]; rfl
   obtain ⟨h1, h2⟩ := ih (by omega);rw [et, oO];exact ⟨va _ _ h1, Nat.le_trans (AQ _ _ _) (by omega)⟩
 have := key l.length (Nat.le_refl _)
 rwa [List.take_length] at this
def gt (d : List (Du × Bool)) (slot : Int) (e : Du × ID) : Option Vt := if e.1.slot = slot ∧ (aj d e.1).getD false = false then some ⟨e.1.frm, slot, e.2⟩ else none
def l9 (b : List (Du × ID) × List (Du × Bool)) (slot : Int) (j : Nat) : Option Vt := (b.1[j]?).bind (gt b.2 slot)
theorem sL {slot : Int} {b : List (Du × ID) × List (Du × Bool)} : ∀ (ord : List Nat) (out : List Vt), (∀ j ∈ ord, j < b.1.length) → out.length + ord.length ≤ 100000 → fw (jN slot b) ord (eY.mk out) = some (eY.mk (out ++ ord.filterMap (l9 b slot)))
 | [], out, _, _ => by simp [fw]
 | j :: r, out, hj, hl => by
  obtain ⟨e, he, -⟩ := aA (hj j (.head _))
  have hl2 : out.length + r.length + 1 ≤ 100000 := by simp only [List.length_cons] at hl; omega
  have hs : jN slot b j (eY.mk out) = some (eY.mk (out ++ (gt b.2 slot e).toList)) := by
   unfold jN;rw [he, ob];unfold gt;simp only;rw [beq_self_eq_true, Bool.true_and, Bool.and_true];by_cases h1 : e.1.slot = slot
   ·rw [beq_iff_eq.2 h1, ct, ob]
    cases h2 : (aj b.2 e.1).getD false with
    | false =>
     rw [Bool.not_false, ct, aI (by simp only [List.length_singleton]; omega) (by omega), ct, if_pos ⟨h1, rfl⟩]; rfl
    | true => rw [Bool.not_true, cf, if_neg (by simp)]; simp
   ·rw [beq_eq_false_iff_ne.2 h1, cf, ob, cf, if_neg (fun h => h1 h.1)]; simp
  have hlen : (gt b.2 slot e).toList.length ≤ 1 := by cases gt b.2 slot e <;> simp
  unfold fw;rw [hs];simp only;rw [sL r _ (fun i hi => hj i (.tail _ hi)) (by rw [List.length_append]; omega)]
  have hk : l9 b slot j = gt b.2 slot e := by unfold l9; rw [he]; rfl
  rw [List.filterMap_cons, hk];cases gt b.2 slot e <;> simp
theorem vk (b : List (Du × ID) × List (Du × Bool)) (slot : Int) : (List.range b.1.length).filterMap (l9 b slot) = b.1.filterMap (gt b.2 slot) := by
 have key : ∀ k, k ≤ b.1.length → (List.range k).filterMap (l9 b slot) = (b.1.take k).filterMap (gt b.2 slot) := by
  intro k
  induction k with
  | zero => intro _; rfl
  | succ k ih =>
   intro hk;obtain ⟨y, hy, -⟩ := aA (l := b.1) (n := k) (by omega)
   have et : b.1.take (k + 1) = b.1.take k ++ [y] := by rw [List.take_add_one, hy]; rfl
   rw [List.range_succ, List.filterMap_append, ih (by omega), et, List.filterMap_append];congr 1
   have hk2 : l9 b slot k = gt b.2 slot y := by unfold l9; rw [hy]; rfl
   rw [List.filterMap_cons, List.filterMap_cons, hk2];rfl
 have := key b.1.length (Nat.le_refl _)
 rwa [List.take_length] at this
def EV (l : List Vt) (slot : Int) : List Vt := fA ((ey l).1.filterMap (gt (ey l).2 slot))
theorem tE {m : List (Du × ID)} {d : List (Du × Bool)} {slot : Int} (h : (m.map Prod.fst).Nodup) : ∀ x ∈ m.filterMap (gt d slot), ∀ y ∈ m.filterMap (gt d slot), x.From = y.From → x = y := by
 have hmem : ∀ x ∈ m.filterMap (gt d slot), (⟨x.From, slot⟩, x.Head) ∈ m ∧ x.Slot = slot := by
  intro x hx;obtain ⟨e, he, hk⟩ := List.mem_filterMap.1 hx;unfold gt at hk;split at hk
  ·rename_i hc;cases hk;obtain ⟨⟨f, s⟩, id⟩ := e;simp only at hc;obtain ⟨rfl, -⟩ := hc;exact ⟨he, rfl⟩
  ·cases hk
 intro x hx y hy hf;obtain ⟨h1, h2⟩ := hmem x hx;obtain ⟨h3, h4⟩ := hmem y hy;rw [← hf] at h3
 have hh : x.Head = y.Head := by
  obtain ⟨i, hi⟩ := List.getElem?_of_mem h1;obtain ⟨j, hj⟩ := List.getElem?_of_mem h3
  have hi' : (m.map Prod.fst)[i]? = some ⟨x.From, slot⟩ := by rw [List.getElem?_map, hi]; rfl
  have hj' : (m.map Prod.fst)[j]? = some ⟨x.From, slot⟩ := by rw [List.getElem?_map, hj]; rfl
  have := (List.getElem?_inj (List.getElem?_eq_some_iff.1 hi').1 h).1 (hi'.trans hj'.symm);subst this;rw [hi] at hj;exact congrArg Prod.snd<|Option.some.inj hj
 cases x; cases y;simp only at hf h2 h4 hh;subst hf h2 hh;rw [h4]
theorem D8 {l : List Vt} (hl : l.length ≤ 90000) (slot : Int) : ∀ ord : List Nat, ord.Perm (List.range (ey l).1.length) → HO slot (ey l) ord = some (EV l slot) := by
 intro ord ho;obtain ⟨h1, h2⟩ := qA l;have hlen := ho.length_eq;rw [List.length_range] at hlen;unfold HO EV;have hp := ho.filterMap (l9 (ey l) slot);rw [vk] at hp;have hk : vq (ord.filterMap (l9 (ey l) slot)) = true := decide_eq_true ⟨Nat.le_trans (List.length_filterMap_le _ _) (by omega), fun x hx y hy => tE h1 x (hp.mem_iff.1 hx) y (hp.mem_iff.1 hy)⟩;rw [sL ord [] (fun j hj => List.mem_range.1 (ho.mem_iff.1 hj)) (by simp; omega), ob, List.nil_append];simp only;unfold nR;rw [hk, ct, xW hp.symm (tE h1)];rfl
def Cl (v : List Vt) (slot : Int) : Option (List Vt) := bif Nat.ble v.length 90000 then some (EV v slot) else none
theorem Gz {v : List Vt} {slot : Int} {r_ : List Vt} (hr : Cl v slot = some r_) : LC Tryz.prog 148 [.p (.slice 4 (v.map aD)), .p (.int .i64 slot)] [] (Is (.vec 4 0 (r_.map aD).length 0 (r_.map aD).length) [.vec 4 (r_.map aD)]) := by
 unfold Cl at hr;obtain ⟨q, hr⟩ := wC hr;obtain rfl := Option.some.inj hr;have hl := Nat.le_of_ble_eq_true q;exact IF (zP (by omega))<|D8 hl slot
open Go.Proofs
structure dQ where
 t8 : Int
def ic (s : List Int) (v : Int) (x1 : dQ) : Option (dQ ⊕ (dQ ⊕ Int)) :=
 bif decide (x1.t8 < (s.length : Int)) then
  (ix s x1.t8).bind fun y1 =>
  bif v == y1 then
   some (.inr (.inr x1.t8))
  else
   some (.inl (dQ.mk (IntKind.i64.wrap (x1.t8 + 1))))
 else
  some (.inr (.inl (dQ.mk x1.t8)))
def vK (s : List Int) (v : Int) : Option Int :=
 (iter (ic s v) bH (dQ.mk 0)).bind fun b_v1 => Sum.elim (fun _ =>
  some (-1)) some b_v1
theorem FK {s : List Int} {v : Int} {r_ : Int} (hr : vK s v = some r_) : aw Tryz.prog 186 [.slice 1 (s.map aB), .int .i64 v] [.int .i64 r_] := by
 refine zh Tryz.func186 Z Z Z Z ?_;unfold vK at hr;refine zQ<|zR<|zM Z<|zN<|zT<|zQ<|zQ<|zR<|zM Z<|yS Z (cC Z Z (by kernel_rfl))<|zM Z<|zN<|zT ?_;obtain ⟨b_v1, hb_v1, ho_v1⟩ := zB hr;clear hr;refine LW.tailB (b := b_v1) (E := fun v1 => [(4, (iQ 0))]) (O := fun v1 => []) ?_<|fun v1 e_v1 env_v1 H_v1 hw_v1 => ?_
 ·refine LW.block ?_;refine LW.iterB (E := fun x1 : dQ => [(0, (kI s)), (1, (iQ v)), (4, (iQ 0)), (7, .p (.int .i64 (s.length : Int))), (8, (iQ x1.t8))]) (O := fun x1 => []) hb_v1 (zW 0 ⟨rfl, rfl, rfl, rfl, rfl, trivial⟩ Z Z Z Z)<|fun x1 z_x1 hr hb_x1 => ?_;unfold ic at hr;refine zQ<|zR<|yS Z (ax Z Z Z Z)<|zN<|zT<|zQ ?_;refine zX Z (fun g1 => ?_)<|fun g1 => ?_
  ·
   refine zi g1 hr fun hr => zk<|zT<|zQ<|zl<|zQ<|zR<|zM Z<|zM Z<|zN<|zT<|zQ<|zR<|zM Z<|zM Z<|zM Z<|zb hr fun y1 h_y1 hr => yS Z (zx Z Z Z EY h_y1 Z)<|yS Z (cT Z Z Z aX Z Z)<|yS Z (ax Z Z Z Z)<|zN<|zT ?_;refine zX Z (fun g2 => ?_)<|fun g2 => ?_
   ·
    refine zi g2 hr fun hr => zQ<|zR<|zM Z<|zM Z<|zN<|zT<|zr<|aq<|af<|af<|aq<|af<|af ?_;obtain rfl := zJ hr;have hr := congrArg some (hb_x1 _ rfl);obtain rfl := zJ hr;have hr := ck ho_v1;obtain rfl := zJ hr;exact zf (.one (.tmp Z)) zv
   ·
    refine zo g2 hr fun hr => zk<|ai<|zT<|zR<|yS Z (ax Z Z Z Z)<|zM Z<|zN<|zT ?_;obtain rfl := zJ hr;exact ⟨_, rfl, zW 0 ⟨rfl, rfl, rfl, rfl, rfl, trivial⟩ Z Z Z rfl⟩
  ·
   refine zo g1 hr fun hr => zq<|ao<|ao<|zy<|zT ?_;obtain rfl := zJ hr;have hr := congrArg some (hb_x1 _ rfl);obtain rfl := zJ hr;exact ⟨_, rfl, zW 0 ⟨rfl, trivial⟩ Z Z Z rfl⟩
 ·obtain rfl := e_v1;have hr := dK ho_v1;clear hb_v1;refine zT<|LW.weak hw_v1<|zQ<|zR<|zM Z<|zN<|zT<|zr ?_;obtain rfl := zJ hr;exact zf (.one (.tmp Z)) zv
def sd (s : List Int) (v : Int) : Option Bool :=
 (vK s v).bind fun v1 =>
 some (decide (v1 ≥ 0))
theorem FJ {s : List Int} {v : Int} {r_ : Bool} (hr : sd s v = some r_) : aw Tryz.prog 169 [.slice 1 (s.map aB), .int .i64 v] [.bool r_] := by
 refine zh Tryz.func169 Z Z Z Z ?_;unfold sd at hr;refine zQ<|zR<|zM Z<|zN<|zT<|zQ<|zR<|zM Z<|zM Z<|zb hr fun v1 h_v1 hr => yS Z (zC Z Z Z (by kernel_rfl) (zp (FK h_v1) (.cons zv (.cons zv .nil))))<|yS Z (ax Z Z Z Z)<|zM Z<|zN<|zT<|zr ?_;obtain rfl := zJ hr;exact zf (.one (.tmp Z)) zv
def qh (b : List Int) (v : Vt) : Option Bool :=
 (sd b v.From).bind fun v1 =>
 some (!v1)
theorem Dc {b : List Int} {v : Vt} {r_ : Bool} (hr : qh b v = some r_) : aw Tryz.prog 149 [.slice 1 (b.map aB), aD v] [.bool r_] := by
 refine zh Tryz.func149 Z Z Z Z ?_;unfold qh at hr;refine zQ<|zR<|yS Z (bV Z Z Z Z Z)<|zM Z<|zN<|zT<|zQ<|zR<|zM Z<|yS Z (zA Z Z pn)<|yS Z (zD Z Z Z aX Z Z)<|zb hr fun v1 h_v1 hr => yS Z (zC Z Z Z (by kernel_rfl) (zp (FJ h_v1) (.cons zv (.cons zv .nil))))<|yS Z (ab.not Z Z)<|zM Z<|zN<|zT<|zr ?_;obtain rfl := zJ hr;exact zf (.one (.tmp Z)) zv
structure fY where
 t8 : Int
def ii (lV : List Vt) (kk : Nat) (cm : List Int) (x1 : fY) : Option (fY ⊕ (fY ⊕ Int)) :=
 bif decide (x1.t8 < (kk : Int)) then
  (ix (lV.take kk) x1.t8).bind fun y1 =>
  (qh cm y1).bind fun v2 =>
  bif v2 then
   some (.inr (.inr x1.t8))
  else
   some (.inl (fY.mk (IntKind.i64.wrap (x1.t8 + 1))))
 else
  some (.inr (.inl (fY.mk x1.t8)))
def sj (lV : List Vt) (kk : Nat) (cm : List Int) : Option Int :=
 (iter (ii lV kk cm) bH (fY.mk 0)).bind fun b_v1 => Sum.elim (fun _ =>
  some (-1)) some b_v1
theorem Ew {c : Cf} {lV : List Vt} {kk : Nat} {cm : List Int} {r_ : Int} (hr : sj lV kk cm = some r_) : LC Tryz.prog 170 [.vec 4 1 (lV.map aD).length 0 kk, .fn 149 [(kI cm)] []] [.box (bN c), .vec 4 (lV.map aD)] (Is (iQ r_) [.box (bN c), .vec 4 (lV.map aD)]) := by
 refine dt Tryz.func170 Z Z Z ?_;unfold sj at hr;refine zQ<|zR<|zM Z<|zN<|zT<|zQ<|zQ<|zR<|zM Z<|yS Z (ab.lenVP Z Z Z (by kernel_rfl))<|zM Z<|zN<|zT ?_;obtain ⟨b_v1, hb_v1, ho_v1⟩ := zB hr;clear hr;refine LW.tailB (b := b_v1) (E := fun v1 => [(4, (iQ 0))]) (O := fun v1 => [.box (bN c), .vec 4 (lV.map aD)]) ?_<|fun v1 e_v1 env_v1 H_v1 hw_v1 => ?_
 ·refine LW.block ?_;refine LW.iterB (E := fun x1 : fY => [(0, .vec 4 1 (lV.map aD).length 0 kk), (1, .fn 149 [(kI cm)] []), (4, (iQ 0)), (7, .p (.int .i64 (kk : Int))), (8, (iQ x1.t8))]) (O := fun x1 => [.box (bN c), .vec 4 (lV.map aD)]) hb_v1 (zW 2 ⟨rfl, rfl, rfl, rfl, rfl, trivial⟩ Z Z Z Z)<|fun x1 z_x1 hr hb_x1 => ?_;unfold ii at hr;refine zQ<|zR<|yS Z (ax Z Z Z Z)<|zN<|zT<|zQ ?_;refine zX Z (fun g1 => ?_)<|fun g1 => ?_
  ·
   refine zi g1 hr fun hr => zk<|zT<|zQ<|zl<|zQ<|zR<|zM Z<|zM Z<|zN<|zT<|zQ<|zR<|zM Z<|zM Z<|zM Z<|zb hr fun y1 h_y1 hr => yS Z (ab.indexAddrVP Z Z Z Z cZ h_y1)<|yS Z (ab.loadVX Z Z Z co (fh h_y1).1 Z Z Z Z)<|zb hr fun v2 h_v2 hr => yS Z (zC Z Z Z (by kernel_rfl) (zp (Dc h_v2) (.cons zv (.cons zv .nil))))<|zN<|zT ?_;refine zX Z (fun g2 => ?_)<|fun g2 => ?_
   ·
    refine zi g2 hr fun hr => zQ<|zR<|zM Z<|zM Z<|zN<|zT<|zr<|aq<|af<|af<|aq<|af<|af ?_;obtain rfl := zJ hr;have hr := congrArg some (hb_x1 _ rfl);obtain rfl := zJ hr;have hr := ck ho_v1;obtain rfl := zJ hr;exact ap (.one (.tmp Z))<|⟨rfl, rfl⟩
   ·
    refine zo g2 hr fun hr => zk<|ai<|zT<|zR<|yS Z (ax Z Z Z Z)<|zM Z<|zN<|zT ?_;obtain rfl := zJ hr;exact ⟨_, rfl, zW 2 ⟨rfl, rfl, rfl, rfl, rfl, trivial⟩ Z Z Z rfl⟩
  ·
   refine zo g1 hr fun hr => zq<|ao<|ao<|zy<|zT ?_;obtain rfl := zJ hr;have hr := congrArg some (hb_x1 _ rfl);obtain rfl := zJ hr;exact ⟨_, rfl, zW 2 ⟨rfl, trivial⟩ Z Z Z rfl⟩
 ·obtain rfl := e_v1;have hr := dK ho_v1;clear hb_v1;refine zT<|LW.weak hw_v1<|zQ<|zR<|zM Z<|zN<|zT<|zr ?_;obtain rfl := zJ hr;exact ap (.one (.tmp Z))<|⟨rfl, rfl⟩
structure fm where
 i : Int
 j : Int
 o1 : List Vt
def ig (kk : Nat) (cm : List Int) (x1 : fm) : Option (fm ⊕ fm) :=
 bif decide (x1.j < (kk : Int)) then
  (ix (x1.o1.take kk) x1.j).bind fun y1 =>
  (qh cm y1).bind fun v3 =>
  bif !v3 then
   (ix (x1.o1.take kk) x1.i).bind fun _ =>
   some (.inl (fm.mk (IntKind.i64.wrap (x1.i + 1)) (IntKind.i64.wrap (x1.j + 1)) (x1.o1.set x1.i.toNat y1)))
  else
   some (.inl (fm.mk x1.i (IntKind.i64.wrap (x1.j + 1)) x1.o1))
 else
  some (.inr (fm.mk x1.i x1.j x1.o1))
def sg (lV : List Vt) (kk : Nat) (cm : List Int) : Option (Nat × List Vt) :=
 (sj lV kk cm).bind fun v1 =>
 bif v1 == (-1) then
  some (kk, lV)
 else
  (iter (ig kk cm) bH (fm.mk v1 (IntKind.i64.wrap (v1 + 1)) lV)).bind fun v2 =>
  bif decide (0 ≤ v2.i ∧ v2.i ≤ (kk : Int)) then
   bif decide (v2.i.toNat + (kk - v2.i.toNat) ≤ v2.o1.length) then
    bif decide (0 ≤ v2.i ∧ v2.i ≤ (kk : Int)) then
     some (v2.i.toNat, gV v2.o1 v2.i.toNat (kk - v2.i.toNat) (Vt.mk 0 0 (0, 0)))
    else none
   else none
  else none
theorem Es {c : Cf} {lV : List Vt} {kk : Nat} {cm : List Int} {r_ : Nat × List Vt} (hr : sg lV kk cm = some r_) : LC Tryz.prog 150 [.vec 4 1 (lV.map aD).length 0 kk, .fn 149 [(kI cm)] []] [.box (bN c), .vec 4 (lV.map aD)] (Is (.vec 4 1 (r_.2.map aD).length 0 r_.1) [.box (bN c), .vec 4 (r_.2.map aD)]) := by
 refine dt Tryz.func150 Z Z Z ?_;unfold sg at hr;refine zQ<|zR<|zM Z<|zN<|zT<|zQ<|zR<|zM Z<|zM Z<|zb hr fun v1 h_v1 hr => yS Z (zC Z Z Z (by kernel_rfl) (Ew h_v1))<|zM Z<|zN<|zT<|zQ<|zQ<|zR<|zM Z<|yS Z (ax Z Z Z Z)<|zN<|zT ?_;refine zX Z (fun g1 => ?_)<|fun g1 => ?_
 ·
  refine zi g1 hr fun hr => zQ<|zR<|zM Z<|zM Z<|zN<|zT<|zr<|af ?_;obtain rfl := zJ hr;exact ap (.one (.tmp Z))<|⟨rfl, rfl⟩
 ·
  refine zo g1 hr fun hr => zk<|zT<|zQ<|zQ<|zR<|zM Z<|yS Z (ax Z Z Z Z)<|zM Z<|zN<|zT ?_;obtain ⟨v2, hb_v2, ho_v2⟩ := zB hr;clear hr;refine LW.tail (E := [(0, .vec 4 1 (v2.o1.map aD).length 0 kk), (4, .zs), (5, (iQ v2.i))]) (O := [.box (bN c), .vec 4 (v2.o1.map aD)]) ?_<|fun env_v2 H_v2 hw_v2 => ?_
  ·refine LW.block ?_;refine LW.iterB (E := fun x1 : fm => [(0, .vec 4 1 (x1.o1.map aD).length 0 kk), (1, .fn 149 [(kI cm)] []), (4, .zs), (5, (iQ x1.i)), (6, (iQ x1.j))]) (O := fun x1 => [.box (bN c), .vec 4 (x1.o1.map aD)]) hb_v2 (zW 2 ⟨rfl, rfl, rfl, rfl, rfl, trivial⟩ Z Z Z Z)<|fun x1 z_x1 hr hb_x1 => ?_;unfold ig at hr;refine zQ<|zQ<|zR<|zM Z<|zM Z<|yS Z (ab.lenVP Z Z Z (by kernel_rfl))<|yS Z (ax Z Z Z Z)<|zN<|zT ?_;refine zX Z (fun g2 => ?_)<|fun g2 => ?_
   ·
    refine zi g2 hr fun hr => zk<|zT<|zQ<|zl<|zQ<|zR<|zM Z<|zM Z<|zb hr fun y1 h_y1 hr => yS Z (ab.indexAddrVP Z Z Z Z cZ h_y1)<|yS Z (ab.loadVX Z Z Z co (fh h_y1).1 Z Z Z Z)<|yS Z (ze Z rR Z Z)<|yS Z (zs Z Z Z Z co Z Z Z Z)<|zN<|zT<|zQ<|zR<|zM Z<|yS Z (zD Z Z Z co Z Z)<|zb hr fun v3 h_v3 hr => yS Z (zC Z Z Z (by kernel_rfl) (zp (Dc h_v3) (.cons zv (.cons zv .nil))))<|yS Z (ab.not Z Z)<|zN ?_;refine zT ?_;refine zX Z (fun g3 => ?_)<|fun g3 => ?_
    ·
     refine zi g3 hr fun hr => zQ<|zR<|zM Z<|zM Z<|yS Z (zD Z Z Z co Z Z)<|zb hr fun y2 h_y2 hr => yS Z (ab.indexAddrVP Z Z Z Z cZ h_y2) ?_;refine yS Z (ab.storeVP (f := aD) (l := x1.o1) y1 Z Z Z Z co (fun _ => rfl) (fh h_y2).1 Z Z Z Z Z Z Z) ?_;refine zN<|zT<|zR<|zM Z<|yS Z (ax Z Z Z Z)<|zM Z<|zN<|ai<|zT<|zR<|zM Z<|yS Z (ax Z Z Z Z)<|zM Z<|zN<|zT ?_;obtain rfl := zJ hr;exact ⟨_, rfl, zW 2 ⟨(EX (rfl)), rfl, rfl, rfl, rfl, trivial⟩ Z Z Z rfl⟩
    ·
     refine zo g3 hr fun hr => zk<|ai<|zT<|zR<|zM Z<|yS Z (ax Z Z Z Z)<|zM Z<|zN<|zT ?_;obtain rfl := zJ hr;exact ⟨_, rfl, zW 2 ⟨rfl, rfl, rfl, rfl, rfl, trivial⟩ Z Z Z rfl⟩
   ·
    refine zo g2 hr fun hr => zq<|ao<|ao<|zy<|zT ?_;obtain rfl := zJ hr;have hr := congrArg some (hb_x1 _ rfl);obtain rfl := zJ hr;exact zW 2 ⟨Z, Z, Z, trivial⟩ Z Z Z Z
  ·have hr := ho_v2;clear hb_v2;refine zT<|LW.weak hw_v2<|zQ<|zR<|zM Z<|zM Z<|zg hr fun q1 hr => yS Z (ab.sliceVLo Z Z Z Z cZ q1)<|zg hr fun q2 hr => ?_;refine yS Z (ab.clearVP (f := aD) (zs := [.int .i64 0, .int .i64 0, .int .u64 0, .int .u64 0]) (Vt.mk 0 0 (0, 0)) Z Z Z cZ (fun _ => rfl) (by kernel_rfl) Z q2 Z) ?_;refine zN<|zT<|zQ<|LW.ent (bJ.vlen (t := 0) (n' := ((gV v2.o1 v2.i.toNat (kk - v2.i.toNat) (Vt.mk 0 0 (0, 0))).map aD).length) Z (rl q2))<|zR<|zM Z<|zM Z<|zg hr fun q3 hr => yS Z (ab.sliceVHi Z Z Z Z cZ q3)<|zM Z<|zN<|zT<|zr ?_;obtain rfl := zJ hr;exact ap (.one (.tmp Z))<|⟨rfl, rfl⟩
def qg (c : Cf) (v : List Vt) (slot : Int) : Option (List Vt) :=
 (Cl v slot).bind fun v1 =>
 (DZ c slot).bind fun v2 =>
 (sg v1 ((v1.map aD).length) v2).bind fun v3 =>
 bif Nat.ble v3.1 v3.2.length then
  some (v3.2.take v3.1)
 else none
theorem Db {c : Cf} {v : List Vt} {slot : Int} {r_ : (List Vt)} (hr : qg c v slot = some r_) : aw Tryz.prog 110 [kG c, .slice 4 (v.map aD), .int .i64 slot] [.slice 4 (r_.map aD)] := by
 refine zh Tryz.func110 Z Z Z Z ?_;unfold qg at hr;refine zQ<|zR<|yS Z (bV Z Z Z Z Z)<|zM Z<|zN<|zT<|zQ<|zR<|zM Z<|zM Z<|zb hr fun v1 h_v1 hr => yS Z (ab.callV (qs := [(kV v), (iQ slot)]) Z Z Z (by kernel_rfl) (Gz h_v1) (.consC zv (.consC zv .nil)) Z Z)<|zM Z<|zN<|zT<|zQ<|zR<|yS Z (zD Z Z Z b6 Z Z)<|zM Z<|zb hr fun v2 h_v2 hr => yS Z (zC Z Z Z (by kernel_rfl) (zp (IB h_v2) (.cons zv (.cons zv .nil))))<|yS Z (ab.makeFunc Z Z Z)<|zM Z<|zN ?_;refine zT<|zQ<|zR<|zM Z<|zM Z<|yS Z (ab.lenVM Z Z Z (by kernel_rfl))<|zM Z<|yS Z (ab.lenVM Z Z Z (by kernel_rfl))<|yS Z (ab.sliceV3 Z Z Z Z Z cZ)<|zM Z<|zb hr fun v3 h_v3 hr => zg hr fun q1 hr => yS Z (zC Z Z Z (by kernel_rfl) (Es h_v3))<|zM Z<|zN<|zT<|zQ<|zR<|zM Z<|zM Z<|zN<|zT<|zr ?_;obtain rfl := zJ hr;exact zf (.one (.tmp Z))<|(Conv.vecTake Z q1)
def jH (c : Cf) (w : Vw) (slot : Int) : Option ID :=
 (qg c w.V slot).bind fun v1 =>
 (Fm c w.B v1).bind fun v2 =>
 some v2
theorem Da {c : Cf} {w : Vw} {slot : Int} {r_ : ID} (hr : jH c w slot = some r_) : aw Tryz.prog 61 [kG c, kZ w, .int .i64 slot] [cw r_] := by
 refine zh Tryz.func61 Z Z Z Z ?_;unfold jH at hr;refine zQ<|zR<|yS Z (bV Z Z Z Z Z)<|yS Z (bV Z Z Z Z Z)<|yS Z (ze Z ke Z Z)<|zN<|zT<|zQ<|LW.drawLast (m := 9) (by kernel_rfl) (by kernel_rfl) (by kernel_rfl)<|yE Z (zD Z Z Z b6 Z Z)<|yE Z (zA Z Z br)<|yE Z (zD Z Z Z dr Z Z)<|yE Z (zD Z Z Z b6 Z Z)<|yE Z (zA Z Z bG)<|yE Z (zD Z Z Z dP Z Z)<|zH Z<|zb hr fun v1 h_v1 hr => yE Z (zC Z Z Z (by kernel_rfl) (zp (Db h_v1) (.cons zv (.cons zv (.cons zv .nil)))))<|zb hr fun v2 h_v2 hr => yE Z (zC Z Z Z (by kernel_rfl) (zp (Jb h_v2) (.cons zv (.cons zv (.cons zv .nil)))))<|LO.nil<|yS Z (zs Z Z Z Z aV Z Z Z Z)<|zN<|zT ?_;refine LW.ret ?_;obtain rfl := zJ hr;exact zf (.one (.cellAgg Z Z (by kernel_rfl) Z)) zv
structure Wk where
 Node : Nd
 c : Cf
 slot : Int
 told : List Of
open Go.Proofs
def rY (n : Nd) : Option Vw :=
 (zF n.V n.In).bind fun v1 =>
 some v1
theorem FE {n : Nd} {r_ : Vw} (hr : rY n = some r_) : aw Tryz.prog 40 [gW n] [kZ r_] := by
 refine zh Tryz.func40 Z Z Z Z ?_;unfold rY at hr;refine zQ<|zR<|yS Z (bV Z Z Z Z Z)<|yS Z (ze Z iS Z Z)<|zN<|zT<|zQ<|zR<|yS Z (zA Z Z bR)<|yS Z (zD Z Z Z aK Z Z)<|yS Z (zA Z Z bF)<|yS Z (zD Z Z Z aK Z Z)<|zb hr fun v1 h_v1 hr => yS Z (zC Z Z Z (by kernel_rfl) (zp (Eo h_v1) (.cons zv (.cons zv .nil))))<|yS Z (zs Z Z Z Z aK Z Z Z Z)<|zN<|zT<|zr ?_;obtain rfl := zJ hr;exact zf (.one (.cellAgg Z Z (by kernel_rfl) Z)) zv
def vZ (no : Int) : Option Nd :=
 some (Nd.mk no 3 (Vw.mk [] []) (Vw.mk [] []) [] (Cu.mk (0, 0) 0 0) false)
theorem F3 {no : Int} {r_ : Nd} (hr : vZ no = some r_) : aw Tryz.prog 49 [.int .i64 no] [gW r_] := by
 refine zh Tryz.func49 Z Z Z Z ?_;unfold vZ at hr;refine zQ<|zR<|yS Z (ze Z nl Z Z)<|zN<|zT<|zQ<|zR<|zM Z<|yS Z (ab.build Z uM Z Z Z)<|yS Z (zs Z Z Z Z bZ Z Z Z Z)<|zN<|zT<|zr ?_;obtain rfl := zJ hr;exact zf (.one (.cellAgg Z Z (by kernel_rfl) Z))<|(Conv.agg (.cons zv (.cons zv (.cons Conv.zs (.cons Conv.zs (.cons Conv.zs (.cons Conv.zs (.cons Conv.zs (.cons zv (.cons zv (.cons zv (.cons zv (.cons zv .nil)))))))))))))
def oh (v : Vw) : Option Vw :=
 bif b9 0 v.B.length 40 then
  bif b9 0 v.V.length 32 then
   some v
  else none
 else none
theorem An {v : Vw} {r_ : Vw} (hr : oh v = some r_) : aw Tryz.prog 95 [kZ v] [kZ r_] := by
 refine zh Tryz.func95 Z Z Z Z ?_;unfold oh at hr;refine zQ<|zR<|yS Z (bV Z Z Z Z Z)<|yS Z (ze Z iS Z Z)<|zN<|zT<|zQ<|LW.ent (bJ.slot Z)<|LW.ent (bJ.slot Z)<|LW.drawW (by kernel_rfl) (by kernel_rfl) ?_;refine yF (F := []) (s := none) Z (fun H _ => zA Z Z br) Z ?_;refine yF Z (zd Z Z Z dr Z Z) Z<|zg hr fun q1 hr => ?_;refine yF Z (bE.callV (id := 2) (qs := [(kB v.B)]) Z Z Z (by kernel_rfl) (sT q1) (fun H => (.consC zv .nil)) Z) Z ?_;refine yF (F := []) (s := none) Z (fun H _ => zA Z Z bG) Z ?_;refine yF Z (zd Z Z Z dP Z Z) Z<|zg hr fun q2 hr => ?_;refine yF Z (bE.callV (id := 3) (qs := [(kV v.V)]) Z Z Z (by kernel_rfl) (sU q2) (fun H => (.consC zv .nil)) Z) Z ?_;refine yF (F := []) (s := none) Z (fun H _ => ab.build Z oP Z Z Z) Z ?_;refine yF Z (zt Z Z Z Z aK Z Z Z) Z ?_;refine LF.nil ⟨by kernel_rfl, ?_⟩;refine zT<|zr ?_;obtain rfl := zJ hr;exact zf (.one (.cellAgg Z Z (by kernel_rfl) Z))<|(Conv.agg (.cons (Conv.vecAll Z Z Z) (.cons (Conv.vecAll Z Z Z) .nil)))
def oo (o : Of) : Option Of :=
 (oh o.V).bind fun v1 =>
 some (Of.mk o.Slot o.From o.B v1)
theorem Ao {o : Of} {r_ : Of} (hr : oo o = some r_) : aw Tryz.prog 96 [di o] [di r_] := by
 refine zh Tryz.func96 Z Z Z Z ?_;unfold oo at hr;refine zQ<|zR<|yS Z (bV Z Z Z Z Z)<|yS Z (ze Z np Z Z)<|zN<|zT<|zQ<|zR<|yS Z (zA Z Z eO)<|yS Z (zD Z Z Z aK Z Z)<|zb hr fun v1 h_v1 hr => yS Z (zC Z Z Z (by kernel_rfl) (zp (An h_v1) (.cons zv .nil)))<|yS Z (zA Z Z eO)<|yS Z (zs Z Z Z Z aK Z Z Z Z)<|zN<|zT<|zQ<|zR<|yS Z (zD Z Z Z dO Z Z)<|yS Z (zs Z Z Z Z dO Z Z Z Z)<|zN<|zT<|zr ?_;obtain rfl := zJ hr;exact zf (.one (.cellAgg Z Z (by kernel_rfl) Z)) zv
def qj (b : Bk) : Option Vw :=
 some (Vw.mk [b] [])
theorem Df {b : Bk} {r_ : Vw} (hr : qj b = some r_) : aw Tryz.prog 139 [ay b] [kZ r_] := by
 refine zh Tryz.func139 Z Z Z Z ?_;unfold qj at hr;refine zQ<|zR<|yS Z (bV Z Z Z Z Z)<|yS Z (ze Z iS Z Z)<|zN<|zT<|zQ<|zR<|yS Z (zD Z Z Z cj Z Z)<|yS Z (mA Z dJ Z Z Z Z Z)<|yS Z (ab.build Z oP Z Z Z)<|yS Z (zs Z Z Z Z aK Z Z Z Z)<|zN<|zT<|zr ?_;obtain rfl := zJ hr;exact zf (.one (.cellAgg Z Z (by kernel_rfl) Z))<|(Conv.agg (.cons zv (.cons Conv.zs .nil)))
open Go.Proofs
def sG (n : Int) : Option (List Of) :=
 bif decide (n < 0) then
  none
 else
  bif decide ((IntKind.i64.wrap (n - (IntKind.i64.wrap (0 - 0)))) > 0) then
   bif xF (IntKind.i64.wrap (n - (IntKind.i64.wrap (0 - 0)))) 104 then
    bif decide (0 ≤ 0 ∧ 0 ≤ (((List.replicate (IntKind.i64.wrap (n - (IntKind.i64.wrap (0 - 0)))).toNat (Of.mk 0 0 (Bk.mk 0 0 (0, 0) 0) (Vw.mk [] []) : Of)).map di).length : Int)) then
     some (List.replicate (IntKind.i64.wrap (n - (IntKind.i64.wrap (0 - 0)))).toNat (Of.mk 0 0 (Bk.mk 0 0 (0, 0) 0) (Vw.mk [] []) : Of))
    else none
   else none
  else
   some []
theorem EB {n : Int} {r_ : List Of} (hr : sG n = some r_) : LC Tryz.prog 163 [.zs, (iQ n)] [] (Is (.vec 9 0 (r_.map di).length 0 0) [.vec 9 (r_.map di)]) := by
 refine dt Tryz.func163 Z Z Z ?_;unfold sG at hr;refine zQ<|zR<|zM Z<|zN<|zT<|zQ<|zQ<|zR<|zM Z<|yS Z (ax Z Z Z Z)<|zN<|zT ?_;refine zX Z (fun g1 => ?_)<|fun g1 => ?_
 ·
  have hr := zI g1 hr;cases hr
 ·
  refine zo g1 hr fun hr => zk<|zT<|zQ<|zQ<|zR<|zM Z<|zM Z<|yS Z (ab.capZ Z Z bv)<|zM Z<|yS Z (ab.lenZ Z Z (by kernel_rfl))<|yS Z (ax Z Z Z Z)<|yS Z (ax Z Z Z Z)<|zM Z<|zN<|zT<|zQ<|zR<|zM Z<|yS Z (ax Z Z Z Z)<|zN<|zT ?_;refine zX Z (fun g2 => ?_)<|fun g2 => ?_
  ·
   refine zi g2 hr fun hr => zR<|zM Z<|zM Z<|yS Z (ab.capZ Z Z bv)<|yS Z (ab.sliceZ0 Z Z Z bv)<|zM Z<|zg hr fun q1 hr => ?_;refine yS Z (ab.appendMake (cs := [(iQ 0), (iQ 0), (iQ 0), (iQ 0), (uQ 0), (uQ 0), (uQ 0), .zs, .zs]) (zs := [.int .i64 0, .int .i64 0, .int .i64 0, .int .i64 0, .int .u64 0, .int .u64 0, .int .u64 0, .slice 5 [], .slice 4 []]) di (Of.mk 0 0 (Bk.mk 0 0 (0, 0) 0) (Vw.mk [] [])) Z Z Z bv Tryz.underlying3 (fun _ => rfl) (by kernel_rfl) Z ⟨rfl, rfl, rfl, rfl, rfl, rfl, rfl, ⟨_, rfl⟩, ⟨_, rfl⟩, trivial⟩ q1 Z Z) ?_;refine zM Z<|yS Z (ab.lenZ Z Z (by kernel_rfl))<|zg hr fun q2 hr => yS Z (ab.sliceVHi Z Z Z Z bv q2)<|zM Z<|zN<|zT<|zQ<|zR<|zM Z<|zM Z<|zN<|zT<|zr ?_;obtain rfl := zJ hr;exact ap (.one (.tmp Z))<|⟨rfl, rfl⟩
  ·
   refine zo g2 hr fun hr => zk<|zT<|zQ<|LW.ent (bJ.lazy (t := 0) (m := 9) Z Z Z)<|zR<|zM Z<|zM Z<|zN<|zT<|zr ?_;obtain rfl := zJ hr;exact ap (.one (.tmp Z))<|⟨rfl, rfl⟩
structure c9 where
 size : Int
 t11 : Int
structure da where
 newslice : Nat
 t27 : Int
 o0 : List Of
def fZ (slices : List (List Of)) (x1 : c9) : Option (c9 ⊕ c9) :=
 bif decide (x1.t11 < (slices.length : Int)) then
  (ix slices x1.t11).bind fun y1 =>
  bif decide ((IntKind.i64.wrap (x1.size + (y1.length : Int))) < 0) then
   none
  else
   some (.inl (c9.mk (IntKind.i64.wrap (x1.size + (y1.length : Int))) (IntKind.i64.wrap (x1.t11 + 1))))
 else
  some (.inr (c9.mk x1.size x1.t11))
def f3 (slices : List (List Of)) (x2 : da) : Option (da ⊕ da) :=
 bif decide (x2.t27 < (slices.length : Int)) then
  (ix slices x2.t27).bind fun y2 =>
  bif decide (x2.newslice + y2.length ≤ x2.o0.length) then
   some (.inl (da.mk (x2.newslice + y2.length) (IntKind.i64.wrap (x2.t27 + 1)) (eT x2.o0 x2.newslice y2)))
  else none
 else
  some (.inr (da.mk x2.newslice x2.t27 x2.o0))
def ss (slices : List (List Of)) : Option (List Of) :=
 (iter (fZ slices) bH (c9.mk 0 0)).bind fun v1 =>
 (sG v1.size).bind fun v2 =>
 (iter (f3 slices) bH (da.mk 0 0 v2)).bind fun v3 =>
 bif Nat.ble v3.newslice v3.o0.length then
  some (v3.o0.take v3.newslice)
 else none
theorem F5 {slices : List (List Of)} {r_ : (List Of)} (hr : ss slices = some r_) : aw Tryz.prog 136 [.slice 1 (slices.map (G3 9 di))] [.slice 9 (r_.map di)] := by
 refine zh Tryz.func136 Z Z Z Z ?_;unfold ss at hr;refine zQ<|zR<|zM Z<|zN<|zT<|zQ<|zR<|zM Z<|zN<|zT<|zQ<|zQ<|zR<|zM Z<|yS Z (cC Z Z (by kernel_rfl))<|zM Z<|zN<|zT ?_;obtain ⟨v1, hb_v1, ho_v1⟩ := zB hr;clear hr;refine LW.tail (E := [(0, .p (.slice 1 (slices.map (G3 9 di)))), (2, .zs), (3, (iQ v1.size))]) (O := []) ?_<|fun env_v1 H_v1 hw_v1 => ?_
 ·refine LW.block ?_;refine LW.iterB (E := fun x1 : c9 => [(0, .p (.slice 1 (slices.map (G3 9 di)))), (2, .zs), (3, (iQ x1.size)), (9, .p (.slice 1 (slices.map (G3 9 di)))), (10, .p (.int .i64 (slices.length : Int))), (11, (iQ x1.t11))]) (O := fun x1 => []) hb_v1 (zW 0 ⟨rfl, rfl, rfl, rfl, rfl, rfl, trivial⟩ Z Z Z Z)<|fun x1 z_x1 hr hb_x1 => ?_;unfold fZ at hr;refine zQ<|zR<|yS Z (ax Z Z Z Z)<|zN<|zT<|zQ ?_;refine zX Z (fun g1 => ?_)<|fun g1 => ?_
  ·
   refine zi g1 hr fun hr => zk<|zT<|zQ<|zl<|zQ<|zR<|zb hr fun y1 h_y1 hr => yS Z (zx Z Z Z vr h_y1 Z)<|yS Z (cT Z Z Z bl Z Z)<|zM Z<|zN<|zT<|zQ<|zR<|zM Z<|zM Z<|yS Z (cC Z Z (by kernel_rfl))<|yS Z (ax Z Z Z Z)<|zM Z<|zN<|zT<|zQ<|zR ?_;refine zM Z<|yS Z (ax Z Z Z Z)<|zN<|zT ?_;refine zX Z (fun g2 => ?_)<|fun g2 => ?_
   ·
    have hr := zI g2 hr;cases hr
   ·
    refine zo g2 hr fun hr => zk<|ai<|zT<|zR<|yS Z (ax Z Z Z Z)<|zM Z<|zN<|zT ?_;obtain rfl := zJ hr;exact ⟨_, rfl, zW 0 ⟨rfl, rfl, rfl, rfl, rfl, rfl, trivial⟩ Z Z Z rfl⟩
  ·
   refine zo g1 hr fun hr => zq<|ao<|ao<|zy<|zT ?_;obtain rfl := zJ hr;have hr := congrArg some (hb_x1 _ rfl);obtain rfl := zJ hr;exact zW 0 ⟨Z, Z, Z, trivial⟩ Z Z Z Z
 ·have hr := ho_v1;clear hb_v1;refine zT<|LW.weak hw_v1<|zQ<|zR<|zM Z<|zb hr fun v2 h_v2 hr => yS Z (zC Z Z Z (by kernel_rfl) (LC.frameX (x' := .vec 9 0 (v2.map di).length 0 0) (H' := [.vec 9 (v2.map di)]) (EB h_v2) (.consZ (.consC zv .nil)) Z Z Z))<|zM Z<|zN<|zT<|zQ<|zQ<|zR<|zM Z<|yS Z (cC Z Z (by kernel_rfl))<|zM Z<|zN<|zT ?_;obtain ⟨v3, hb_v3, ho_v3⟩ := zB hr;clear hr;refine LW.tail (E := [(2, .zs), (6, .vec 9 0 (v3.o0.map di).length 0 v3.newslice)]) (O := [.vec 9 (v3.o0.map di)]) ?_<|fun env_v3 H_v3 hw_v3 => ?_
  ·refine LW.block ?_;refine LW.iterB (E := fun x2 : da => [(2, .zs), (6, .vec 9 0 (x2.o0.map di).length 0 x2.newslice), (25, .p (.slice 1 (slices.map (G3 9 di)))), (26, .p (.int .i64 (slices.length : Int))), (27, (iQ x2.t27))]) (O := fun x2 => [.vec 9 (x2.o0.map di)]) hb_v3 (zW 1 ⟨rfl, rfl, rfl, rfl, rfl, trivial⟩ Z Z Z Z)<|fun x2 z_x2 hr hb_x2 => ?_;unfold f3 at hr;refine zQ<|zR<|yS Z (ax Z Z Z Z)<|zN<|zT<|zQ ?_;refine zX Z (fun g3 => ?_)<|fun g3 => ?_
   ·
    refine zi g3 hr fun hr => zk<|zT<|zQ<|zl<|zQ<|zR<|zb hr fun y2 h_y2 hr => yS Z (zx Z Z Z vr h_y2 Z)<|yS Z (cT Z Z Z bl Z Z)<|zM Z<|zN<|zT<|zR<|zM Z<|zM Z<|zg hr fun q1 hr => ?_;refine yS Z (ab.appendP (f := di) Z Z Z (fun _ => rfl) Z kE.p Z bv q1 Z) ?_;refine zM Z<|zN<|ai<|zT<|zR<|yS Z (ax Z Z Z Z)<|zM Z<|zN<|zT ?_;obtain rfl := zJ hr;exact ⟨_, rfl, zW 1 ⟨rfl, rfl, rfl, rfl, rfl, trivial⟩ Z Z Z rfl⟩
   ·
    refine zo g3 hr fun hr => zq<|ao<|ao<|zy<|zT ?_;obtain rfl := zJ hr;have hr := congrArg some (hb_x2 _ rfl);obtain rfl := zJ hr;exact zW 1 ⟨Z, Z, trivial⟩ Z Z Z Z
  ·have hr := ho_v3;clear hb_v3;refine zT<|LW.weak hw_v3<|zQ<|zR<|zg hr fun q2 hr => zM Z<|zM Z<|zN<|zT<|zr ?_;obtain rfl := zJ hr;exact zf (.one (.tmp Z))<|(Conv.vecTake Z q2)
end Go.Mg
