/- Logical values, how a world bears them, and the judgements of a small program logic over them. Conditions: none. -/
import Derived.WalkKit
import Derived.ChangeKeysEq
namespace Go.Mg
open IntKind (signed wrap)
open List (drop_drop drop_eq_nil_of_le foldl_cons getElem?_append getElem?_drop getElem?_eq_getElem getElem?_map getElem?_take getElem?_take_of_lt length length_cons length_drop length_take map_cons map_nil map_toArray mem_append mem_iff_getElem mem_map mem_of_getElem? mem_of_mem_take range range')
open Nat (add_mul add_zero beq ble blt eq_of_beq_eq_true le_refl le_trans mul_add mul_comm mul_one zero_add zero_le)
open Option (getD_none getD_some)
open Int (le_total)
variable {α β : Type} {G : Prop} {I I' : Nat -> Prop} {P : Program} {a : Act} {ag : Bool} {bytes i j m : Nat} {c : Code} {k : IntKind} {l : List Nat} {o : Oper} {r : β} {s t t' : TypeId} {tmps vs : Array Value} {u v : Value} {w w' : World}
theorem Z.{u}{α:Sort u}{a:α}:a=a:=rfl
theorem t_ :True:=trivial
theorem aP {p:Prop}[i:Decidable p](h:p):decide p=true:=@decide_eq_true p i h
theorem aR {p:Prop}[i:Decidable p](h:¬p):decide p=false:=@decide_eq_false p i h
theorem i1_.{u}{c:Prop}{h:Decidable c}(hc:c){α:Sort u}{t e:α}:ite c t e=t:=@if_pos c h hc α t e
theorem i0_.{u}{c:Prop}{h:Decidable c}(hc:¬c){α:Sort u}{t e:α}:ite c t e=e:=@if_neg c h hc α t e
theorem dO {a b:Int}{x y:α}(h:a<b:=by omega):(bif decide (a<b)then x else y)=x:=by rw[@decide_eq_true _ _ h];rfl
theorem ft {a:Int}{x y:α}:(bif decide (a<a)then x else y)=y:=by rw[@decide_eq_false _ _ (Int.lt_irrefl a)];rfl
theorem zb {x:Option α}{f:α->Option β}(h:x.bind f=some r)(k:∀v,x=some v->f v=some r->G):G:=
 have ⟨v,a,b⟩:=Option.bind_eq_some_iff.1 h
 k v a b
theorem zg {b:Bool}{x:Option β}(h:(bif b then x else none)=some r)(k:b=true->x=some r->G):G:=by
 cases b
 · cases h
 · exact k rfl h
theorem zi {b:Bool}{x y:Option β}(g:b=true)(h:(bif b then x else y)=some r)(k:x=some r->G):G:=by subst g;exact k h
theorem zo {b:Bool}{x y:Option β}(g:b=false)(h:(bif b then x else y)=some r)(k:y=some r->G):G:=by subst g;exact k h
open Go.RowKit (Below)
def eT :Value->Bool
 |.agg _|.tuple _=>false
 |_=>true
inductive PV where
 |int (k:IntKind) (n:Int)
 |bool (b:Bool)
 |agg (cs:List PV)
 |slice (m:Nat) (xs:List PV)
def PV.cells :PV->List PV
 |.agg cs=>cs
 |.int k n=>[.int k n]
 |.bool b=>[.bool b]
 |.slice m xs=>[.slice m xs]
def PV.one :PV->Prop
 |.agg _=>False
 |_=>True
def flat (xs:List PV):List PV:=xs.flatMap PV.cells
def b9 (m:Nat)(xs:List PV):Prop:=∀x∈xs,x.cells.length=m/\∀c∈x.cells,c.one
def aU (k:IntKind)(n:Int):Prop:=k.min<=n/\n<=k.max
inductive fA (I:Nat->Prop)(w:World):PV->Value->Prop
 |int {k:IntKind} {n:Int} (h:aU k n):fA I w (.int k n) (.int k n)
 |bool {b:Bool}:fA I w (.bool b) (.bool b)
 | agg {cs:List PV} {vs:Array Value} (hl:vs.size=cs.length) (ho:∀c∈cs,c.one)
   (h:∀(i:Nat) (c:PV) (v:Value),cs[i]?=some c->vs[i]?=some v->fA I w c v):fA I w (.agg cs) (.agg vs)
 | slice {m:Nat} {xs:List PV} {a:Option Addr} {len cap:Nat} (f:Nat->Value) (hl:len=xs.length) (hcap:len<=cap) (hmax:cap<=maxLen) (hm:b9 m xs)
   (hc:∀(i:Nat) (c:PV),(flat xs)[i]?=some c->∃b o,a=some ⟨b,o,none⟩/\I b/\w.cell? ⟨b,o+i,none⟩=some (f i))
   (hr:∀(i:Nat) (c:PV),(flat xs)[i]?=some c->fA I w c (f i)):fA I w (.slice m xs) (.slice a len cap)
theorem fA.mono {p:PV}(h:fA I w p v)
  (hI:∀b,I b->I' b/\w'.heap[b]?=w.heap[b]?):fA I' w' p v:=by
 induction h with
 |int h=>exact .int h
 |bool=>exact .bool
 |agg hl ho h ih=>exact .agg hl ho ih
 |slice f hl hcap hmax hm hc hr ih=>
  refine .slice f hl hcap hmax hm (fun i c hi=>?_) ih;obtain⟨b,o,ha,hb,hcell⟩:=hc i c hi;exact⟨b,o,ha,(hI b hb).1,by rw[World.cell?_of_block (w:=_) (hI b hb).2];exact hcell⟩
theorem fA.one {I:Nat->Prop}{w:World}{p:PV}{v:Value}(h:fA I w p v)(ho:p.one):eT v=true:=by
 cases h <;>simp_all [PV.one,eT]
inductive LV where
 |p (x:PV)
 |agg (cs:List LV)
 |tup (vs:List LV)
 |ptr (id off:Nat)
 |cptr (cs:List PV)
 |vec (m id n off len:Nat)
 |vptr (m id n j fo:Nat)
 |zs
 |map (id:Nat)
 |nilmap
 |fn (f:FuncId) (first caps:List LV)
 |any
 |yld (id:Nat)
 |fptr (x:LV)
structure ci where
 b:Option Nat
 n:Nat
def Mx (w:World)(bo:Option Nat)(m n off len:Nat)(v:Value):Prop:=(len=0/\(∃a,v=.slice a 0 0)/\(off=0->n=0))\/ ∃b cap,bo=some b/\v=.slice (some ⟨b,m*off,none⟩) len cap/\len<=cap/\cap<=maxLen/\∃c e,w.heap[b]?=some (.cells c e (0,0))/\n<=off+cap/\m*(off+cap)<=c.size
inductive aH (μ:List ci)(I:Nat->Prop)(w:World):LV->Value->Prop
 |p {x:PV} {v:Value} (h:fA I w x v):aH μ I w (.p x) v
 | agg {cs:List LV} {vs:Array Value} (hl:vs.size=cs.length) (ho:∀v∈vs,eT v=true)
   (h:∀(i:Nat) (c:LV) (v:Value),cs[i]?=some c->vs[i]?=some v->aH μ I w c v):aH μ I w (.agg cs) (.agg vs)
 | tup {cs:List LV} {vs:Array Value} (hl:vs.size=cs.length)
   (h:∀(i:Nat) (c:LV) (v:Value),cs[i]?=some c->vs[i]?=some v->aH μ I w c v):aH μ I w (.tup cs) (.tuple vs)
 |ptr {id off b:Nat} (h:μ[id]?=some ⟨some b,0⟩):aH μ I w (.ptr id off) (.pointer (some ⟨b,off,none⟩))
 | cptr {cs:List PV} {b o:Nat} (f:Nat->Value) (hI:I b)
   (hc:∀(i:Nat) (c:PV),cs[i]?=some c->c.one/\w.cell? ⟨b,o+i,none⟩=some (f i)/\fA I w c (f i)):aH μ I w (.cptr cs) (.pointer (some ⟨b,o,none⟩))
 |vec {m id n off len:Nat} {B:ci} {v:Value} (h:μ[id]?=some B) (h1:eT v=true) (hn:n<=B.n) (hf:n=B.n->Mx w B.b m n off len v):aH μ I w (.vec m id n off len) v
 | vptr {m id n j fo:Nat} {B:ci} {v:Value} (h:μ[id]?=some B) (h1:eT v=true) (hn:n<=B.n) (hf:n=B.n->∃b,B.b=some b/\v=.pointer (some ⟨b,m*j+fo,none⟩)) :
   aH μ I w (.vptr m id n j fo) v
 |zs {a:Option Addr}:aH μ I w .zs (.slice a 0 0)
 |map {id b:Nat} (h:μ[id]?=some ⟨some b,0⟩):aH μ I w (.map id) (.map (some b))
 |nilmap:aH μ I w .nilmap (.map none)
 | fn {f:FuncId} {first caps:List LV} {fs cs:Array Value} (hl:fs.size=first.length) (hl':cs.size=caps.length)
   (h:∀(i:Nat) (c:LV) (v:Value),first[i]?=some c->fs[i]?=some v->aH μ I w c v)
   (h':∀(i:Nat) (c:LV) (v:Value),caps[i]?=some c->cs[i]?=some v->aH μ I w c v):aH μ I w (.fn f first caps) (.func (.func f) fs cs)
 |any {v:Value}:aH μ I w .any v
 |yld {id b:Nat} (h:μ[id]?=some ⟨some b,0⟩):aH μ I w (.yld id) (.func (.yield b) #[] #[])
 |fptr {x:LV} {b o:Nat} {v:Value} (hI:I b) (hc:w.cell? ⟨b,o,none⟩=some v) (ho:eT v=true) (h:aH μ I w x v):aH μ I w (.fptr x) (.pointer (some ⟨b,o,none⟩))
abbrev aE :=List (Nat×LV)
def aE.get :aE->Nat->Option LV
 |[],_=>none
 |(j,v)::r,t=>match beq j t with|true=>some v|false=>aE.get r t
inductive ab where
 |box (cs:List LV)
 |vec (m:Nat) (xs:List PV)
 |map (es:List (PV×LV))
 |dead
 |slot
 |loop (busy:Bool) (n:Nat) (env:aE) (ps:Array Tmp) (assign body:Code)
 |defd
 |iter (x:LV) (n:Nat) (seen:List Nat)
inductive dN (μ:List ci)(I:Nat->Prop)(w:World):ab->ci->Prop
 | box {cs:List LV} {b:Nat} {vs:Array Value} {e:TypeId} (hb:w.heap[b]?=some (.cells vs e (0,0))) (hl:vs.size=cs.length)
   (ho:∀v∈vs,eT v=true)
   (h:∀(i:Nat) (c:LV) (v:Value),cs[i]?=some c->vs[i]?=some v->aH μ I w c v):dN μ I w (.box cs) ⟨some b,0⟩
 |vecE {m:Nat}:dN μ I w (.vec m []) ⟨none,0⟩
 | vec {m:Nat} {xs:List PV} {b:Nat} {vs:Array Value} {e:TypeId} (hb:w.heap[b]?=some (.cells vs e (0,0))) (hl:m*xs.length<=vs.size)
   (hne:xs≠[]) (hm:b9 m xs)
   (h:∀(i:Nat) (c:PV) (v:Value),(flat xs)[i]?=some c->vs[i]?=some v->fA I w c v):dN μ I w (.vec m xs) ⟨some b,xs.length⟩
 | map {es:List (PV×LV)} {b:Nat} {ms:Array MapEntry} {clock:Nat} (hb:w.heap[b]?=some (.map ms clock)) (hl:ms.size=es.length)
   (h:∀(i:Nat) (c:PV×LV) (e:MapEntry),es[i]?=some c->ms[i]?=some e->fA I w c.1 e.key/\aH μ I w c.2 e.val)
   (hclock:clock=ms.size) (hborn:∀(i:Nat) (e:MapEntry),ms[i]?=some e->e.born=i):dN μ I w (.map es) ⟨some b,0⟩
 |dead {B:ci}:dN μ I w .dead B
 |slot:dN μ I w .slot ⟨none,0⟩
 | loop {busy:Bool} {n:Nat} {env:aE} {ps:Array Tmp} {assign body:Code} {b:Nat} {r:Loop} (hb:w.heap[b]?=some (.loop r)) (hs:r.state=cond busy .busy .ready) (hp:r.pending=none)
   (hps:r.params=ps) (hA:r.assign=assign) (hB:r.body=body) (hn:r.tmps.size=n) (he:∀t x,env.get t=some x->∃v,r.tmps[t]?=some v/\aH μ I w x v):dN μ I w (.loop busy n env ps assign body) ⟨some b,0⟩
 |defd {b:Nat} (hb:w.heap[b]?=some (.deferred (some []))):dN μ I w .defd ⟨some b,0⟩
 |iter {x:LV} {n b:Nat} {seen:List Nat} {r:Option Nat} (hb:w.heap[b]?=some (.mapIter r n seen.toArray n)) (hx:aH μ I w x (.map r)):dN μ I w (.iter x n seen) ⟨some b,0⟩
def gC (μ:List ci)(b:Nat):Prop:=∃n,(⟨some b,n⟩:ci)∈μ
structure cI (k:Nat)(μ:List ci)(I:Nat->Prop)(w:World)(μ':List ci)(I':Nat->Prop)(w':World):Prop where
 get:∀(i:Nat) (B:ci),i<k->μ[i]?=some B->∃B',μ'[i]?=some B'/\B.n<=B'.n/\(B'.n=B.n->B'=B\/B.b=none)/\(B.n=0->B.b≠none->B'=B)
 len:k<=μ.length
 len':k<=μ'.length
 os:w'.os=w.os
 tape:w'.tape=w.tape
 output:w'.output=w.output
 size:w.heap.size<=w'.heap.size
 imm:∀b,I b->I' b/\w'.heap[b]?=w.heap[b]?
 shape:∀(b:Nat) c e f,w.heap[b]?=some (.cells c e f)->∃c',w'.heap[b]?=some (.cells c' e f)/\c'.size=c.size
 inew:∀b,I' b->I b\/gC μ b\/w.heap.size<=b
 mnew:∀b,gC μ' b->gC μ b\/w.heap.size<=b
 keep:∀b,b<w.heap.size->¬gC μ b->w'.heap[b]?=w.heap[b]?
theorem cI.refl (k:Nat)(μ:List ci)(I:Nat->Prop)(w:World)(h:k<=μ.length):cI k μ I w μ I w:=
 ⟨fun _ B _ h=>⟨B,h,le_refl _,fun _=>.inl rfl,fun _ _=>rfl⟩,h,h,rfl,rfl,rfl,le_refl _,fun _ hb=>⟨hb,rfl⟩,fun _ c _ _ h=>⟨c,h,rfl⟩,fun _ h=>.inl h,fun _ h=>.inl h,fun _ _ _=>rfl⟩
theorem cI.weak {k j:Nat}{μ:List ci}{μ':List ci}(h:cI k μ I w μ' I' w')(hj:j<=k) :
  cI j μ I w μ' I' w':=by
 exact⟨fun i b hi=>h.get i b (by omega),le_trans hj h.len,le_trans hj h.len',h.os,h.tape,h.output,h.size,h.imm,h.shape,h.inew,h.mnew,h.keep⟩
theorem cI.trans {k:Nat}{μ μ' μ'':List ci}{I I' I'':Nat->Prop}{w w' w'':World}(h:cI k μ I w μ' I' w')(h':cI k μ' I' w' μ'' I'' w'') :
  cI k μ I w μ'' I'' w'' where
 get:=fun i B hi hb=>by
  obtain⟨B1,h1,h2,h3,h4⟩:=h.get i B hi hb;obtain⟨B2,h5,h6,h7,h8⟩:=h'.get i B1 hi h1;refine⟨B2,h5,le_trans h2 h6,fun e=>?_,fun e e'=>?_⟩
  ·rcases h3 (by omega)with e1|e1
   ·subst e1;exact h7 e
   ·exact .inr e1
  ·have e1:=h4 e e';subst e1;exact h8 e e'
 len:=h.len
 len':=h'.len'
 os:=h'.os.trans h.os
 tape:=h'.tape.trans h.tape
 output:=h'.output.trans h.output
 size:=le_trans h.size h'.size
 imm:=fun b hb=>⟨(h'.imm b (h.imm b hb).1).1,((h'.imm b (h.imm b hb).1).2).trans (h.imm b hb).2⟩
 shape:=fun b c e f hb=>by
  obtain⟨c',h1,h2⟩:=h.shape b c e f hb;obtain⟨c'',h3,h4⟩:=h'.shape b c' e f h1;exact⟨c'',h3,h4.trans h2⟩
 inew:=fun b hb=>by
  rcases h'.inew b hb with hb|hb|hb
  ·exact h.inew b hb
  ·rcases h.mnew b hb with hb|hb
   ·exact .inr<|.inl hb
   ·exact .inr<|.inr hb
  ·exact .inr<|.inr<|le_trans h.size hb
 mnew:=fun b hb=>by
  rcases h'.mnew b hb with hb|hb
  ·exact h.mnew b hb
  ·exact .inr<|le_trans h.size hb
 keep:=fun b hb hm=>(h'.keep b (Nat.lt_of_lt_of_le hb h.size) fun hm'=>(h.mnew b hm').elim hm fun hs=>by omega).trans (h.keep b hb hm)
inductive LV.Low (k:Nat):LV->Prop
 |p {x:PV}:LV.Low k (.p x)
 |agg {cs:List LV} (h:∀c∈cs,LV.Low k c):LV.Low k (.agg cs)
 |tup {cs:List LV} (h:∀c∈cs,LV.Low k c):LV.Low k (.tup cs)
 |ptr {id off:Nat} (h:id<k):LV.Low k (.ptr id off)
 |cptr {cs:List PV}:LV.Low k (.cptr cs)
 |vec {m id n off len:Nat} (h:id<k):LV.Low k (.vec m id n off len)
 |vptr {m id n j fo:Nat} (h:id<k):LV.Low k (.vptr m id n j fo)
 |zs:LV.Low k .zs
 |map {id:Nat} (h:id<k):LV.Low k (.map id)
 |nilmap:LV.Low k .nilmap
 |fn {f:FuncId} {first caps:List LV} (h:∀c∈first,LV.Low k c) (h':∀c∈caps,LV.Low k c):LV.Low k (.fn f first caps)
 |any:LV.Low k .any
 |yld {id:Nat} (h:id<k):LV.Low k (.yld id)
 |fptr {x:LV} (h:LV.Low k x):LV.Low k (.fptr x)
theorem aH.lows {μ:List ci}{x:LV}(h:aH μ I w x v):LV.Low μ.length x:=by
 induction h with
 |p h=>exact .p
 |agg hl ho h ih=>
  refine .agg fun c hc=>?_;obtain⟨i,hi,rfl⟩:=mem_iff_getElem.1 hc;exact ih i _ _ (getElem?_eq_getElem hi)<|Array.getElem?_eq_getElem (by omega)
 |tup hl h ih=>
  refine .tup fun c hc=>?_;obtain⟨i,hi,rfl⟩:=mem_iff_getElem.1 hc;exact ih i _ _ (getElem?_eq_getElem hi)<|Array.getElem?_eq_getElem (by omega)
 |ptr h=>exact .ptr (List.getElem?_eq_some_iff.1 h).1
 |cptr=>exact .cptr
 |vec h=>exact .vec (List.getElem?_eq_some_iff.1 h).1
 |vptr h=>exact .vptr (List.getElem?_eq_some_iff.1 h).1
 |zs=>exact .zs
 |map h=>exact .map (List.getElem?_eq_some_iff.1 h).1
 |nilmap=>exact .nilmap
 |fn hl hl' h h' ih ih'=>
  refine .fn (fun c hc=>?_)<|fun c hc=>?_
  ·obtain⟨i,hi,rfl⟩:=mem_iff_getElem.1 hc;exact ih i _ _ (getElem?_eq_getElem hi)<|Array.getElem?_eq_getElem (by omega)
  ·obtain⟨i,hi,rfl⟩:=mem_iff_getElem.1 hc;exact ih' i _ _ (getElem?_eq_getElem hi)<|Array.getElem?_eq_getElem (by omega)
 |any=>exact .any
 |yld h=>exact .yld (List.getElem?_eq_some_iff.1 h).1
 |fptr _ _ _ _ ih=>exact .fptr ih
theorem aH.mono {k:Nat}{μ μ':List ci}{I I':Nat->Prop}{w w':World}{x:LV}{v:Value}(h:aH μ I w x v)
  (hE:cI k μ I w μ' I' w') (hb:LV.Low k x):aH μ' I' w' x v:=by
 induction h with
 |p h=>exact .p (h.mono hE.imm)
 |agg hl ho h ih=>
  cases hb with
  |agg hb=>exact .agg hl ho fun i c v hc hv=>ih i c v hc hv (hb c (mem_of_getElem? hc))
 |tup hl h ih=>
  cases hb with
  |tup hb=>exact .tup hl fun i c v hc hv=>ih i c v hc hv (hb c (mem_of_getElem? hc))
 | ptr h=>
  cases hb with
  |ptr hb=>
   obtain⟨B',h1,-,-,h4⟩:=hE.get _ _ hb h;have e:=h4 rfl (by simp);subst e;exact .ptr h1
 |cptr f hI hc=>
  exact .cptr f (hE.imm _ hI).1 fun i c hi=>⟨(hc i c hi).1,by rw[World.cell?_of_block (w:=w) (hE.imm _ hI).2];exact(hc i c hi).2.1,(hc i c hi).2.2.mono hE.imm⟩
 | vec h h1 hn hf=>
  cases hb with
  | vec hb=>
   obtain⟨B',h2,h3,h4,-⟩:=hE.get _ _ hb h;refine .vec h2 h1 (by omega) fun e=>?_;rcases hf (by omega)with hz|⟨b,cap,hb,hv,hc1,hc2,c,e2,h5,h6⟩
   ·exact .inl hz
   ·rcases h4 (by omega)with e'|e'
    ·subst e';obtain⟨c',h7,h8⟩:=hE.shape _ _ _ _ h5;exact .inr ⟨b,cap,hb,hv,hc1,hc2,c',e2,h7,h6.1,by rw[h8];exact h6.2⟩
    ·rw[e']at hb;cases hb
 | vptr h h1 hn hf=>
  cases hb with
  |vptr hb=>
   obtain⟨B',h2,h3,h4,-⟩:=hE.get _ _ hb h;refine .vptr h2 h1 (by omega) fun e=>?_;obtain⟨b,hb,hv⟩:=hf (by omega);rcases h4 (by omega)with e'|e'
   ·subst e';exact⟨b,hb,hv⟩
   ·rw[e']at hb;cases hb
 |zs=>exact .zs
 | map h=>
  cases hb with
  |map hb=>
   obtain⟨B',h1,-,-,h4⟩:=hE.get _ _ hb h;have e:=h4 rfl (by simp);subst e;exact .map h1
 |nilmap=>exact .nilmap
 |fn hl hl' h h' ih ih'=>
  cases hb with
  |fn hb hb'=>exact .fn hl hl' (fun i c v hc hv=>ih i c v hc hv (hb c (mem_of_getElem? hc))) (fun i c v hc hv=>ih' i c v hc hv (hb' c (mem_of_getElem? hc)))
 |any=>exact .any
 | yld h=>
  cases hb with
  |yld hb=>
   obtain⟨B',h1,-,-,h4⟩:=hE.get _ _ hb h;have e:=h4 rfl (by simp);subst e;exact .yld h1
 |fptr hI hc ho h ih=>
  cases hb with
  |fptr hb=>exact .fptr (hE.imm _ hI).1 (by rw[World.cell?_of_block (w:=w) (hE.imm _ hI).2];exact hc) ho (ih hb)
theorem aH.ext {μ μ':List ci}{x:LV}(h:aH μ I w x v)
  (hE:cI μ.length μ I w μ' I' w'):aH μ' I' w' x v:=h.mono hE h.lows
def ab.Low (k:Nat):ab->Prop
 |.box cs=>∀c∈cs,LV.Low k c
 |.vec _ _=>True
 |.map es=>∀e∈es,LV.Low k e.2
 |.dead=>True
 |.slot=>True
 |.loop _ _ env _ _ _=>∀t x,env.get t=some x->LV.Low k x
 |.defd=>True
 |.iter x _ _=>LV.Low k x
structure St (μ:List ci)(I:Nat->Prop)(w:World)(H:List ab):Prop where
 len:μ.length=H.length
 inj:∀(i j b n n':Nat),μ[i]?=some ⟨some b,n⟩->μ[j]?=some ⟨some b,n'⟩->i=j
 lt:∀b,gC μ b->b<w.heap.size
 off:∀b,gC μ b->¬I b
 ilt:∀b,I b->b<w.heap.size
 objs:∀(i:Nat) (o:ab) (B:ci),H[i]?=some o->μ[i]?=some B->dN μ I w o B
theorem dN.ext {μ μ':List ci}{I I':Nat->Prop}{w w':World}{o:ab}{B:ci}(h:dN μ I w o B)
  (hE:cI μ.length μ I w μ' I' w') (hb:∀c,B.b=some c->w'.heap[c]?=w.heap[c]?):dN μ' I' w' o B:=by
 cases h with
 |box h1 hl ho h=>exact .box ((hb _ rfl).trans h1) hl ho fun i c v hc hv=>(h i c v hc hv).ext hE
 |vecE=>exact .vecE
 |vec h1 hl hne hm h=>exact .vec ((hb _ rfl).trans h1) hl hne hm fun i c v hc hv=>(h i c v hc hv).mono hE.imm
 |map h1 hl h h2 h3=>exact .map ((hb _ rfl).trans h1) hl (fun i c e hc he=>⟨(h i c e hc he).1.mono hE.imm,(h i c e hc he).2.ext hE⟩) h2 h3
 |dead=>exact .dead
 |slot=>exact .slot
 |loop h1 hs hp hps hA hB hn he=>exact .loop ((hb _ rfl).trans h1) hs hp hps hA hB hn fun t x ht=>let ⟨v,h2,h3⟩:=he t x ht;⟨v,h2,h3.ext hE⟩
 |defd h1=>exact .defd ((hb _ rfl).trans h1)
 |iter h1 hx=>exact .iter ((hb _ rfl).trans h1) (hx.ext hE)
theorem aE.get_cons (j:Nat)(v:LV)(r:aE)(t:Nat):aE.get ((j,v)::r) t=if j=t then some v else aE.get r t:=by
 show(match beq j t with|true=>some v|false=>aE.get r t)=_;by_cases h:j=t
 ·subst h;simp
 ·have:beq j t=false:=by
   cases hb:beq j t with
   |false=>rfl
   |true=>exact absurd (eq_of_beq_eq_true hb) h
  rw[this,i0_ h]
def oH (μ:List ci)(I:Nat->Prop)(w:World)(env:aE)(tmps:Array Value):Prop:=
 ∀t x,env.get t=some x->∃v,tmps[t]?=some v/\aH μ I w x v
theorem oH.ext {μ μ':List ci}{I I':Nat->Prop}{w w':World}{env:aE}{tmps:Array Value}(h:oH μ I w env tmps)
  (hE:cI μ.length μ I w μ' I' w'):oH μ' I' w' env tmps:=fun t x ht=>
 let ⟨v,hv,hr⟩:=h t x ht
 ⟨v,hv,hr.ext hE⟩
def eS (env:aE)(dst:Option Tmp)(x:LV):aE:=
 match dst with
 |some d=>(d,x)::env
 |none=>env
theorem oH.put {μ:List ci}{I:Nat->Prop}{w:World}{env:aE}{a:Act}{dst:Option Tmp}{x:LV}{v:Value}(h:oH μ I w env a.tmps)
  (hd:∀d,dst=some d->d<a.tmps.size) (hv:aH μ I w x v):oH μ I w (eS env dst x) (a.put dst v).tmps:=by
 intro t y ht
 cases dst with
 |none=>exact h t y ht
 |some d=>
  simp only[eS,aE.get_cons]at ht;simp only[Act.put];split at ht
  ·rename_i e;subst e;cases ht;exact⟨v,by simp[hd d rfl],hv⟩
  ·rename_i e;obtain⟨u,hu,hr⟩:=h t y ht;exact⟨u,by rw[Array.getElem?_setIfInBounds_ne e];exact hu,hr⟩
def kt :Value->Option LV |.int k n=>if k.min<=n/\n<=k.max then some (.p (.int k n))else none |.bool b=>some (.p (.bool b)) |.slice none 0 0=>some .zs |.map none=>some .nilmap |.pointer none=>some .any |.nilFunc=>some .any |_=>none
def jE :List LV->Option (List PV)
 |[]=>some []
 |.p x::r=>match jE r with|some xs=>some (x::xs)|none=>none
 |_::_=>none
def uq (cs:List LV):LV:=match jE cs with|some xs=>.p (.agg xs)|none=>.agg cs
def cy :List Value->Option (List LV)
 |[]=>some []
 |v::r=>match kt v,cy r with|some x,some xs=>some (x::xs)|_,_=>none
def sZ :Value->Option LV
 |.agg cs=>match cy cs.toList with|some xs=>some (uq xs)|none=>none
 |v=>kt v
def bf (env:aE):Operand->Option LV |.tmp t=>env.get t |.const v=>sZ v |.func f=>some (.fn f [] []) |.global _=>none
theorem mF {μ:List ci}{x:LV}(h:kt v=some x):aH μ I w x v/\eT v=true:=by
 unfold kt at h;split at h
 ·split at h
  ·rename_i hk;cases h;exact⟨.p (.int hk),rfl⟩
  ·cases h
 ·cases h;exact⟨.p .bool,rfl⟩
 ·cases h;exact⟨.zs,rfl⟩
 ·cases h;exact⟨.nilmap,rfl⟩
 ·cases h;exact⟨.any,rfl⟩
 ·cases h;exact⟨.any,rfl⟩
 ·cases h
theorem ox :∀{cs:List LV} {xs:List PV},jE cs=some xs->cs=xs.map .p:=by
 intro cs
 induction cs with
 |nil=>intro xs h;simp[jE]at h;subst h;rfl
 |cons c r ih=>
  intro xs h;cases c <;>simp[jE]at h;split at h
  ·rename_i ys hy;cases h;simp[ih hy]
  ·cases h
theorem PV.one_of_rep {x:PV}(h:fA I w x v)(ho:eT v=true):x.one:=by
 cases h <;>simp_all [PV.one,eT]
theorem lH {μ:List ci}{cs:List LV}(hl:vs.size=cs.length)(ho:∀v∈vs,eT v=true)
  (h:∀(i:Nat) (c:LV) (v:Value),cs[i]?=some c->vs[i]?=some v->aH μ I w c v):aH μ I w (uq cs) (.agg vs):=by
 unfold uq;split
 ·rename_i xs hx;have e:=ox hx;subst e
  have hp:∀(i:Nat) (c:PV) (v:Value),xs[i]?=some c->vs[i]?=some v->fA I w c v:=fun i c v hc hv=>by
   have:=h i (.p c) v (by simp[hc]) hv;cases this;assumption
  refine .p<|.agg (by simpa using hl) (fun c hc=>?_) hp;obtain⟨i,hi,rfl⟩:=mem_iff_getElem.1 hc
  have hi':i<vs.size:=by simp at hl;omega
  exact PV.one_of_rep (hp i _ vs[i] (getElem?_eq_getElem hi) (Array.getElem?_eq_getElem hi'))<|ho _<|Array.getElem_mem hi'
 ·exact .agg hl ho h
theorem ca {μ:List ci}:∀{vs:List Value} {xs:List LV},cy vs=some xs->
  vs.length=xs.length/\(∀v∈vs,eT v=true)/\∀(i:Nat) (c:LV) (v:Value),xs[i]?=some c->vs[i]?=some v->aH μ I w c v:=by
 intro vs
 induction vs with
 |nil=>intro xs h;simp[cy]at h;subst h;simp
 | cons v r ih=>
  intro xs h;simp only[cy]at h;split at h
  ·rename_i x ys hx hy;cases h;obtain⟨h1,h2,h3⟩:=ih hy;obtain⟨h4,h5⟩:=mF (μ:=μ) (I:=I) (w:=w) hx;refine⟨by simp[h1],by simpa [h5]using h2,fun i c u hc hu=>?_⟩
   cases i with
   |zero=>simp at hc hu;subst hc;subst hu;exact h4
   |succ i=>simp at hc hu;exact h3 i c u hc hu
  ·cases h
theorem nu {μ:List ci}{x:LV}(h:sZ v=some x):aH μ I w x v:=by
 unfold sZ at h;split at h
 ·rename_i cs;split at h
  ·rename_i xs hx;cases h;obtain⟨h1,h2,h3⟩:=ca (μ:=μ) (I:=I) (w:=w) hx;exact lH (by simpa using h1) (fun v hv=>h2 v (by simpa using hv))<|fun i c u hc hu=>h3 i c u hc (by simpa using hu)
  ·cases h
 ·exact(mF h).1
def EI (μ:List ci)(I:Nat->Prop)(w:World)(o:Oper)(env:aE)(a:Act):Prop:=
 ∀t,Operand.tmp t∈o.op.operands->∀x,env.get t=some x->∃v,a.tmps[t]?=some v/\aH μ I w x v
theorem oH.on {μ:List ci}{env:aE}(h:oH μ I w env a.tmps)(o:Oper):EI μ I w o env a:=
 fun t _ x hx=>h t x hx
theorem EI.ev {μ:List ci}{env:aE}(h:EI μ I w o env a){x:Operand}(hx:x∈o.op.operands){l:LV}
  (hl:bf env x=some l):aH μ I w l (a.eval x):=by
 cases x with
 |tmp t=>
  obtain⟨v,hv,hr⟩:=h t hx l hl;simpa [Act.eval,hv]using hr
 |const v=>exact nu hl
 |func f=>cases hl;exact .fn (by simp) (by simp) (by simp) (by simp)
 |global g=>cases hl
open Go.RowKit (Below)
structure re (n:Nat)(μ:List ci)(I:Nat->Prop)(w:World)(H:List ab)(env:aE)(a:Act):Prop where
 size:a.tmps.size=n
 defers:a.defers=[]
 st:St μ I w H
 env:oH μ I w env a.tmps
def aa (P:Program)(o:Oper)(env:aE)(H:List ab)(R:LV->List ab->Prop):Prop:=
 ∀ (a:Act) (w:World) (μ:List ci) (I:Nat->Prop),St μ I w H->EI μ I w o env a->
  ∀(K:Act->World->Prop) (Q:Exit->Act->World->Prop),
   (∀x H' v w' μ' I',R x H'->St μ' I' w' H'->aH μ' I' w' x v->cI μ.length μ I w μ' I' w'->K (a.put o.dst v) w')->o.wp P a w K Q
def Is (x:LV)(H:List ab):LV->List ab->Prop:=fun y H'=>y=x/\H'=H
theorem aa.mono {env:aE}{H:List ab}{R R':LV->List ab->Prop}(h:aa P o env H R)(hr:∀x H',R x H'->R' x H'):aa P o env H R':=
 fun a w μ I hs he K Q k=>h a w μ I hs he K Q fun x H' v w' μ' I' r=>k x H' v w' μ' I' (hr _ _ r)
def ay (P:Program)(ops:Array Oper)(n k:Nat)(l:List Nat)(env:aE)(H:List ab)(Q:aE->List ab->Prop):Prop:=
 ∀a w μ I,re n μ I w H env a->k<=μ.length->∀Q':Exit->Act->World->Prop,
  (∀env' H' a' w' μ' I',Q env' H'->re n μ' I' w' H' env' a'->cI k μ I w μ' I' w'->Q' .normal a' w')->wpOps P ops Q' l a w
def LW (P:Program)(n k:Nat)(c:Code)(env:aE)(H:List ab)(Q:Exit->aE->List ab->Prop):Prop:=
 ∀a w μ I,re n μ I w H env a->k<=μ.length->∀Q':Exit->Act->World->Prop,
  (∀e env' H' a' w' μ' I',Q e env' H'->re n μ' I' w' H' env' a'->cI k μ I w μ' I' w'->Q' e a' w')->c.wp P Q' a w
section
variable {P : Program} {n k : Nat} {env : aE} {H : List ab} {Q : Exit -> aE -> List ab -> Prop} {ops : Array Oper}
theorem re.put {μ:List ci}{I:Nat->Prop}{w:World}{a:Act}{μ':List ci}{I':Nat->Prop}{w':World}{H':List ab}{x:LV}{v:Value}{dst:Option Tmp}
  (h:re n μ I w H env a) (hd:∀d,dst=some d->d<n) (hs:St μ' I' w' H') (hv:aH μ' I' w' x v) (hE:cI μ.length μ I w μ' I' w') :
  re n μ' I' w' H' (eS env dst x) (a.put dst v) where
 size:=by cases dst <;>simp[Act.put,h.size]
 defers:=by cases dst <;>simp[Act.put,h.defers]
 st:=hs
 env:=(h.env.ext hE).put (fun d hd'=>by rw[h.size];exact hd d hd') hv
theorem ay.nil {Q:aE->List ab->Prop}(h:Q env H):ay P ops n k [] env H Q:=
 fun a w μ I hn hk _ hq=>hq env H a w μ I h hn (cI.refl _ _ _ _ hk)
def dg (n:Nat):Option Tmp->Bool |some d=>blt d n |none=>true
theorem c9 {dst:Option Tmp}(h:dg n dst=true):∀d,dst=some d->d<n:=by
 rintro d rfl;simpa [dg]using h
theorem ay.cons {R:LV->List ab->Prop}{Q:aE->List ab->Prop}(ho:ops[i]?=some o)(hg:o.guard=none)(hd:dg n o.dst=true)
  (h:aa P o env H R) (hr:∀x H',R x H'->ay P ops n k l (eS env o.dst x) H' Q):ay P ops n k (i::l) env H Q:=by
 intro a w μ I hn hk Q' hq;simp only[wpOps,ho,Region.wanted,hg,if_true];refine .inl<|h a w μ I hn.st (hn.env.on o) _ _ fun x H' v w' μ' I' hR hs hv hE=>?_;exact hr x H' hR (a.put o.dst v) w' μ' I' (hn.put (c9 hd) hs hv hE) (le_trans hk hE.len') Q'<|fun env' H'' a' w'' μ'' I'' q hn' hE'=>hq env' H'' a' w'' μ'' I'' q hn'<|(hE.weak hk).trans hE'
theorem ay.is {x:LV}{H':List ab}{Q:aE->List ab->Prop}(ho:ops[i]?=some o)(hg:o.guard=none)(hd:dg n o.dst=true)
  (h:aa P o env H (Is x H')) (hr:ay P ops n k l (eS env o.dst x) H' Q):ay P ops n k (i::l) env H Q:=
 ay.cons ho hg hd h (by rintro y H'' ⟨rfl,rfl⟩;exact hr)
theorem mC {μ:List ci}(h:oH μ I w env a.tmps){j t:Nat}{b:Bool}
  (ht:(ops[j]?).bind (·.dst)=some t) (hb:env.get t=some (.p (.bool b))):yielded ops a.tmps j=some b:=by
 obtain⟨v,hv,hr⟩:=h t _ hb
 cases hr with
 |p hr=>cases hr;simp[yielded,ht,hv]
theorem ay.guarded {j t:Nat}{b:Bool}{R:LV->List ab->Prop}{Q:aE->List ab->Prop}(ho:ops[i]?=some o)(hg:o.guard=some (j,b))
  (ht:(ops[j]?).bind (·.dst)=some t) (hb:env.get t=some (.p (.bool b))) (hd:dg n o.dst=true)
  (h:aa P o env H R) (hr:∀x H',R x H'->ay P ops n k l (eS env o.dst x) H' Q):ay P ops n k (i::l) env H Q:=by
 intro a w μ I hn hk Q' hq;simp only[wpOps,ho,Region.wanted,hg,mC hn.env ht hb,beq_self_eq_true,if_true];refine .inl<|h a w μ I hn.st (hn.env.on o) _ _ fun x H' v w' μ' I' hR hs hv hE=>?_;exact hr x H' hR (a.put o.dst v) w' μ' I' (hn.put (c9 hd) hs hv hE) (le_trans hk hE.len') Q'<|fun env' H'' a' w'' μ'' I'' q hn' hE'=>hq env' H'' a' w'' μ'' I'' q hn'<|(hE.weak hk).trans hE'
theorem ay.skipped {j t:Nat}{b c:Bool}{Q:aE->List ab->Prop}(ho:ops[i]?=some o)(hg:o.guard=some (j,b))
  (ht:(ops[j]?).bind (·.dst)=some t) (hb:env.get t=some (.p (.bool c))) (hbc:c= !b) (hd:dg n o.dst=true)
  (hr:ay P ops n k l (eS env o.dst (.tup [])) H Q):ay P ops n k (i::l) env H Q:=by
 intro a w μ I hn hk Q' hq
 have hne:(some c==some b)=false:=by subst hbc;cases b <;>rfl
 simp only[wpOps,ho,Region.wanted,hg,mC hn.env ht hb,hne,Bool.false_eq_true,if_false];exact hr (a.put o.dst undef) w μ I (hn.put (c9 hd) hn.st (.tup Z fun i c v hc=>by simp at hc) (cI.refl _ _ _ _ (le_refl _))) hk Q' hq
theorem oF {μ:List ci}(h:oH μ I w env a.tmps){j t:Nat}
  (ht:(ops[j]?).bind (·.dst)=some t) (hb:env.get t=some (.tup [])):yielded ops a.tmps j=none:=by
 obtain⟨v,hv,hr⟩:=h t _ hb
 cases hr with
 |tup hl hr=>simp[yielded,ht,hv]
theorem ay.skippedU {j t:Nat}{b:Bool}{Q:aE->List ab->Prop}(ho:ops[i]?=some o)(hg:o.guard=some (j,b))
  (ht:(ops[j]?).bind (·.dst)=some t) (hb:env.get t=some (.tup [])) (hd:dg n o.dst=true)
  (hr:ay P ops n k l (eS env o.dst (.tup [])) H Q):ay P ops n k (i::l) env H Q:=by
 intro a w μ I hn hk Q' hq;have hne:((none:Option Bool)==some b)=false:=rfl;simp only[wpOps,ho,Region.wanted,hg,oF hn.env ht hb,hne,Bool.false_eq_true,if_false];exact hr (a.put o.dst undef) w μ I (hn.put (c9 hd) hn.st (.tup Z fun i c v hc=>by simp at hc) (cI.refl _ _ _ _ (le_refl _))) hk Q' hq
theorem LW.mono {Q':Exit->aE->List ab->Prop}(h:LW P n k c env H Q)(hq:∀e env H,Q e env H->Q' e env H):LW P n k c env H Q':=
 fun a w μ I hn hk Q'' k'=>h a w μ I hn hk Q'' fun e env' H' a' w' μ' I' q=>k' e env' H' a' w' μ' I' (hq _ _ _ q)
def wZ (R:aE->List ab->Prop)(Q:Exit->aE->List ab->Prop):Exit->aE->List ab->Prop
 |.normal,env,H=>R env H
 |e,env,H=>Q e env H
theorem LW.seq {x y:Code}(h:LW P n k x env H (wZ (fun env H=>LW P n k y env H Q) Q)):LW P n k (.seq x y) env H Q:=by
 intro a w μ I hn hk Q' hq;refine wp_seq<|h a w μ I hn hk _ fun e env' H' a' w' μ' I' q hn' hE=>?_
 cases e with
 |normal=>exact q a' w' μ' I' hn' hE.len' Q' fun e env'' H'' a'' w'' μ'' I'' q' hn'' hE'=>hq e env'' H'' a'' w'' μ'' I'' q' hn'' (hE.trans hE')
 |_=>exact hq _ _ _ _ _ _ _ q hn' hE
theorem LW.skip (h:Q .normal env H):LW P n k .skip env H Q:=
 fun _ _ _ _ hn hk _ hq=>wp_skip (hq _ _ _ _ _ _ _ h hn (cI.refl _ _ _ _ hk))
theorem LW.label {l:Nat}(h:Q .normal env H):LW P n k (.label l) env H Q:=
 fun _ _ _ _ hn hk _ hq=>wp_label (hq _ _ _ _ _ _ _ h hn (cI.refl _ _ _ _ hk))
theorem LW.exit {id:Nat}(h:Q (.exit id) env H):LW P n k (.exit id) env H Q:=
 fun _ _ _ _ hn hk _ hq=>wp_exit (hq _ _ _ _ _ _ _ h hn (cI.refl _ _ _ _ hk))
theorem LW.goto {l:Nat}(h:Q (.goto l) env H):LW P n k (.goto l) env H Q:=
 fun _ _ _ _ hn hk _ hq=>wp_goto (hq _ _ _ _ _ _ _ h hn (cI.refl _ _ _ _ hk))
theorem LW.ret (h:Q .ret env H):LW P n k .ret env H Q:=
 fun _ _ _ _ hn hk _ hq=>wp_ret (hq _ _ _ _ _ _ _ h hn (cI.refl _ _ _ _ hk))
theorem vG {μ:List ci}(h:oH μ I w env a.tmps){c:Operand}{b:Bool}(hc:bf env c=some (.p (.bool b))):a.eval c=.bool b:=by
 have hr:aH μ I w (.p (.bool b)) (a.eval c):=by
  cases c with
  |tmp t=>
   obtain⟨v,hv,hr⟩:=h t _ hc;simpa [Act.eval,hv]using hr
  |const v=>exact nu hc
  |func f=>cases hc
  |global g=>cases hc
 generalize a.eval c=v at hr
 cases hr with
 |p hr=>cases hr;rfl
theorem LW.cond {c:Operand}{x y:Code}{b:Bool}(hc:bf env c=some (.p (.bool b)))(ht:b=true->LW P n k x env H Q)(hf:b=false->LW P n k y env H Q) :
  LW P n k (.cond c x y) env H Q:=
 fun a w μ I hn hk Q' hq=>wp_cond_split (vG hn.env hc) (fun e=>ht e a w μ I hn hk Q' hq) (fun e=>hf e a w μ I hn hk Q' hq)
def ss (id:Nat)(Q:Exit->aE->List ab->Prop):Exit->aE->List ab->Prop
 |.exit id',env,H=>if id'=id then Q .normal env H else Q (.exit id') env H
 |e,env,H=>Q e env H
theorem LW.block {id:Nat}{c:Code}(h:LW P n k c env H (ss id Q)):LW P n k (.block id c) env H Q:=by
 intro a w μ I hn hk Q' hq;refine wp_block<|h a w μ I hn hk _ fun e env' H' a' w' μ' I' q hn' hE=>?_
 cases e with
 |exit id'=>
  simp only[Exit.inBlock];simp only[ss]at q;split
  ·rename_i he;simp only[he,if_true]at q;exact hq _ _ _ _ _ _ _ q hn' hE
  ·rename_i he;simp only[he,if_false]at q;exact hq _ _ _ _ _ _ _ q hn' hE
 |_=>exact hq _ _ _ _ _ _ _ q hn' hE
theorem LW.loop {c:Code}(Inv:Nat->aE->List ab->Prop)(m:Nat)(h0:Inv m env H)
  (round:∀m env H,Inv m env H->LW P n k c env H (wZ (fun env' H'=>∃m',m'<m/\Inv m' env' H') Q)):LW P n k (.loop c) env H Q:=by
 intro a w μ I hn hk Q' hq;refine wp_loop_rounds (m+1) ?_
 have key:∀m env H,Inv m env H->∀a' w' μ' I',re n μ' I' w' H env a'->cI k μ I w μ' I' w'->∀j,m<j->Code.rounds P c Q' j a' w':=by
  intro m
  induction m using Nat.strongRecOn with
  | ind m ih=>
   intro env H hi a' w' μ' I' hn' hE j hj;obtain⟨j,rfl⟩:∃i,j=i+1:=⟨j-1,by omega⟩;rw[rounds_succ];refine round m env H hi a' w' μ' I' hn' hE.len' _ fun e env'' H'' a'' w'' μ'' I'' q hn'' hE'=>?_
   cases e with
   |normal=>
    obtain⟨m',hm',hi'⟩:=q;exact ih m' hm' _ _ hi' a'' w'' μ'' I'' hn'' (hE.trans hE') j (by omega)
   |_=>exact hq _ _ _ _ _ _ _ q hn'' (hE.trans hE')
 exact key m env H h0 a w μ I hn (cI.refl _ _ _ _ hk) (m+1) (by omega)
def Ou (Q:Exit->aE->List ab->Prop):Exit->aE->List ab->Prop
 |.goto _,_,_=>False
 |e,env,H=>Q e env H
theorem LW.scope {c:Code}(h:LW P n k c env H (Ou Q)):LW P n k (.scope c) env H Q:=by
 intro a w μ I hn hk Q' hq;refine wp_scope_straight<|h a w μ I hn hk _ fun e env' H' a' w' μ' I' q hn' hE=>?_
 cases e with
 |goto l=>exact q
 |_=>exact hq _ _ _ _ _ _ _ q hn' hE
def Kc (l:Nat)(R:aE->List ab->Prop)(Q:Exit->aE->List ab->Prop):Exit->aE->List ab->Prop
 |.goto l',env,H=>l'=l/\R env H
 |e,env,H=>Q e env H
theorem Ab {p:Nat->Prop}(h:∃m,p m):∃m,p m/\∀j,p j->m<=j:=by
 obtain⟨m,hm⟩:=h
 induction m using Nat.strongRecOn with
 |ind m ih=>
  by_cases hx:∃j,j<m/\p j
  ·obtain⟨j,hj,hp⟩:=hx;exact ih j hj hp
  ·exact⟨m,hm,fun j hj=>Nat.le_of_not_lt fun hlt=>hx ⟨j,hlt,hj⟩⟩
open Classical in
noncomputable def sY (p:Nat->Prop):Nat:=if h:∃m,p m then(Ab h).choose else 0
theorem un {p:Nat->Prop}(h:p m):sY p<=m/\p (sY p):=by
 have hx:∃m,p m:=⟨m,h⟩;unfold sY;rw[dif_pos hx];exact⟨(Ab hx).choose_spec.2 m h,(Ab hx).choose_spec.1⟩
theorem LW.jumps {c rest:Code}{l:Nat}(Inv:Nat->aE->List ab->Prop)(hf:findLabel c l=some rest)
  (first:LW P n k c env H (Kc l (fun env' H'=>∃m,Inv m env' H') Q))
  (pass:∀m env H,Inv m env H->LW P n k rest env H (Kc l (fun env' H'=>∃m',m'<m/\Inv m' env' H') Q)):LW P n k (.scope c) env H Q:=by
 intro a w μ I hn hk Q' hq
 let J:Nat->Act->World->Prop:=fun m a' w'=>∃env' H' μ' I',Inv m env' H'/\re n μ' I' w' H' env' a'/\cI k μ I w μ' I' w'
 refine wp_scope_jumps l (fun a' w'=>∃m,J m a' w') (fun a' w'=>sY fun m=>J m a' w') hf ?_ ?_
 ·refine first a w μ I hn hk _ fun e env' H' a' w' μ' I' q hn' hE=>?_
  cases e with
  |goto l'=>
   obtain⟨rfl,m,hm⟩:=q;exact⟨rfl,m,env',H',μ',I',hm,hn',hE⟩
  |_=>exact hq _ _ _ _ _ _ _ q hn' hE
 ·rintro a' w' ⟨m,hm⟩;obtain⟨-,env',H',μ',I',hi,hn',hE⟩:=un (p:=fun m=>J m a' w') hm;refine pass _ _ _ hi a' w' μ' I' hn' hE.len' _ fun e env'' H'' a'' w'' μ'' I'' q hn'' hE'=>?_
  cases e with
  |goto l'=>
   obtain⟨rfl,m',hlt,hi'⟩:=q;have hJ:J m' a'' w'':=⟨env'',H'',μ'',I'',hi',hn'',hE.trans hE'⟩;exact⟨rfl,⟨m',hJ⟩,Nat.lt_of_le_of_lt (un (p:=fun m=>J m a'' w'') hJ).1 hlt⟩
  |_=>exact hq _ _ _ _ _ _ _ q hn'' (hE.trans hE')
def sE :aE->aE->Prop
 |[],_=>True
 |(t,x)::r,env=>env.get t=some x/\sE r env
theorem sE.get :∀{e env:aE},sE e env->∀t x,e.get t=some x->env.get t=some x:=by
 intro e
 induction e with
 |nil=>intro env _ t x h;cases h
 |cons p r ih=>
  obtain⟨j,y⟩:=p;intro env h t x ht;rw[aE.get_cons]at ht;split at ht
  ·rename_i e;subst e;cases ht;exact h.1
  ·exact ih h.2 t x ht
mutual
def LV.lowB (k:Nat):LV->Bool
 |.p _=>true
 |.agg cs=>LV.lowsB k cs
 |.tup cs=>LV.lowsB k cs
 |.ptr id _=>blt id k
 |.cptr _=>true
 |.vec _ id _ _ _=>blt id k
 |.vptr _ id _ _ _=>blt id k
 |.zs=>true
 |.map id=>blt id k
 |.nilmap=>true
 |.fn _ f c=>match LV.lowsB k f with|true=>LV.lowsB k c|false=>false
 |.any=>true
 |.yld id=>blt id k
 |.fptr x=>LV.lowB k x
def LV.lowsB (k:Nat):List LV->Bool
 |[]=>true
 |x::r=>match LV.lowB k x with|true=>LV.lowsB k r|false=>false
end
mutual
theorem LV.low_of :∀{k:Nat} {x:LV},LV.lowB k x=true->LV.Low k x
 |_,.p _,_=>.p
 |k,.agg cs,h=>.agg (LV.lows_of (by simpa [LV.lowB]using h))
 |k,.tup cs,h=>.tup (LV.lows_of (by simpa [LV.lowB]using h))
 |k,.ptr id o,h=>.ptr (by simpa [LV.lowB]using h)
 |_,.cptr _,_=>.cptr
 |k,.vec m id n o l,h=>.vec (by simpa [LV.lowB]using h)
 |k,.vptr m id n j f,h=>.vptr (by simpa [LV.lowB]using h)
 |_,.zs,_=>.zs
 |k,.map id,h=>.map (by simpa [LV.lowB]using h)
 |_,.nilmap,_=>.nilmap
 |k,.fn f a c,h=>by
  simp only[LV.lowB]at h;split at h
  ·rename_i h1;exact .fn (LV.lows_of h1) (LV.lows_of h)
  ·cases h
 |_,.any,_=>.any
 |k,.yld id,h=>.yld (by simpa [LV.lowB]using h)
 |k,.fptr x,h=>.fptr (LV.low_of (by simpa [LV.lowB]using h))
theorem LV.lows_of :∀{k:Nat} {xs:List LV},LV.lowsB k xs=true->∀c∈xs,LV.Low k c
 |_,[],_=>by simp
 | k,x::r,h=>by
  simp only[LV.lowsB]at h;split at h
  ·rename_i h1;intro c hc
   cases hc with
   |head=>exact LV.low_of h1
   |tail _ hc=>exact LV.lows_of h c hc
  ·cases h
end
def pp (k:Nat):aE->Bool
 |[]=>true
 |(_,x)::r=>match LV.lowB k x with|true=>pp k r|false=>false
theorem nr {k:Nat}:∀{env:aE},pp k env=true->∀t x,env.get t=some x->LV.Low k x:=by
 intro env
 induction env with
 |nil=>intro _ t x h;cases h
 | cons p r ih=>
  obtain⟨j,y⟩:=p;intro h t x ht;simp only[pp]at h;split at h
  ·rename_i h1;rw[aE.get_cons]at ht;split at ht
   ·cases ht;exact LV.low_of h1
   ·exact ih h t x ht
  ·cases h
def pq (k:Nat):List (PV×LV)->Bool
 |[]=>true
 |(_,x)::r=>match LV.lowB k x with|true=>pq k r|false=>false
def ab.lowB (k:Nat):ab->Bool
 |.box cs=>LV.lowsB k cs
 |.vec _ _=>true
 |.map es=>pq k es
 |.dead=>true
 |.slot=>true
 |.loop _ _ env _ _ _=>pp k env
 |.defd=>true
 |.iter x _ _=>LV.lowB k x
theorem Ad {k:Nat}:∀{es:List (PV×LV)},pq k es=true->∀e∈es,LV.Low k e.2:=by
 intro es
 induction es with
 |nil=>simp
 | cons p r ih=>
  obtain⟨j,y⟩:=p;intro h e he;simp only[pq]at h;split at h
  ·rename_i h1
   cases he with
   |head=>exact LV.low_of h1
   |tail _ he=>exact ih h e he
  ·cases h
theorem ab.low_of {k:Nat}{o:ab}(h:o.lowB k=true):o.Low k:=by
 cases o with
 |box cs=>exact LV.lows_of (by simpa [ab.lowB]using h)
 |vec=>trivial
 |map es=>exact Ad (by simpa [ab.lowB]using h)
 |dead=>trivial
 |slot=>trivial
 |loop busy n env ps assign body=>exact nr (by simpa [ab.lowB]using h)
 |defd=>trivial
 |iter x n s=>exact LV.low_of (by simpa [ab.lowB]using h)
structure dW (k:Nat)(env':aE)(H':List ab)(env:aE)(H:List ab):Prop where
 sub:sE env' env
 objs:∃j,k<=j/\j<=H.length/\H'=H.take j/\(∀t x,env'.get t=some x->LV.Low j x)/\∀o∈H',o.Low j
theorem aH.cut {μ:List ci}{x:LV}(h:aH μ I w x v)(hj:j<=μ.length)(hl:LV.Low j x):aH (μ.take j) I w x v:=
 h.mono (k:=j) (μ':=μ.take j) ⟨fun i B hi hb=>⟨B,by rw[getElem?_take_of_lt hi];exact hb,le_refl _,fun _=>.inl rfl,fun _ _=>rfl⟩,hj,by rw[length_take];omega,rfl,rfl,rfl,le_refl _,fun _ h=>⟨h,rfl⟩,
  fun _ c _ _ h=>⟨c,h,rfl⟩,fun _ h=>.inl h,fun _ ⟨n,h⟩=>.inl ⟨n,mem_of_mem_take h⟩,fun _ _ _=>rfl⟩ hl
theorem St.cut {μ:List ci}{I:Nat->Prop}{w:World}{j:Nat}(h:St μ I w H)(hj:j<=H.length)(hl:∀o∈H.take j,o.Low j):St (μ.take j) I w (H.take j) where
 len:=by simp[h.len]
 inj:=fun i i' b n n' hi hi'=>by
  have h1:=(List.getElem?_eq_some_iff.1 hi).1;have h2:=(List.getElem?_eq_some_iff.1 hi').1;rw[length_take]at h1 h2;rw[getElem?_take_of_lt (by omega)]at hi hi';exact h.inj i i' b n n' hi hi'
 lt:=fun b ⟨n,hb⟩=>h.lt b ⟨n,mem_of_mem_take hb⟩
 off:=fun b ⟨n,hb⟩=>h.off b ⟨n,mem_of_mem_take hb⟩
 ilt:=h.ilt
 objs:=fun i o b ho hb=>by
  have hi:i<j:=by
   by_cases hi:i<j
   ·exact hi
   ·rw[List.getElem?_eq_none (by simp;omega)]at ho;cases ho
  have hlo:o.Low j:=hl o (mem_of_getElem? ho);rw[getElem?_take_of_lt hi]at ho hb
  have hj':j<=μ.length:=by rw[h.len];exact hj
  have:=h.objs i o b ho hb
  cases this with
  |box h1 h2 h3 h4=>exact .box h1 h2 h3 fun i c v hc hv=>(h4 i c v hc hv).cut hj' (hlo c (mem_of_getElem? hc))
  |vecE=>exact .vecE
  |vec h1 h2 h3 h4 h5=>exact .vec h1 h2 h3 h4 h5
  |map h1 h2 h3 h4 h5=>exact .map h1 h2 (fun i c e hc he=>⟨(h3 i c e hc he).1,(h3 i c e hc he).2.cut hj' (hlo c (mem_of_getElem? hc))⟩) h4 h5
  |dead=>exact .dead
  |slot=>exact .slot
  |loop h1 hs hp hps hA hB hn he=>exact .loop h1 hs hp hps hA hB hn fun t x ht=>let ⟨v,h2,h3⟩:=he t x ht;⟨v,h2,h3.cut hj' (hlo t x ht)⟩
  |defd h1=>exact .defd h1
  |iter h1 hx=>exact .iter h1 (hx.cut hj' hlo)
theorem re.weak {μ:List ci}{env':aE}{H':List ab}(h:re n μ I w H env a)(hw:dW k env' H' env H)(hk:k<=μ.length) :
  ∃μ',re n μ' I w H' env' a/\cI k μ I w μ' I w:=by
 obtain⟨hs,j,hkj,hjl,rfl,hel,hol⟩:=hw
 have hjm:j<=μ.length:=by rw[h.st.len];exact hjl
 refine⟨μ.take j,⟨h.size,h.defers,h.st.cut hjl hol,fun t x ht=>?_⟩,⟨fun i B hi hb=>⟨B,by rw[getElem?_take_of_lt (by omega)];exact hb,le_refl _,fun _=>.inl rfl,fun _ _=>rfl⟩,hk,by rw[length_take];omega,rfl,rfl,rfl,le_refl _,fun _ h=>⟨h,rfl⟩,fun _ c _ _ h=>⟨c,h,rfl⟩,fun _ h=>.inl h,fun _ ⟨n,h⟩=>.inl ⟨n,mem_of_mem_take h⟩,fun _ _ _=>rfl⟩⟩;obtain⟨v,hv,hr⟩:=h.env t x (hs.get t x ht);exact⟨v,hv,hr.cut hjm (hel t x ht)⟩
theorem LW.weak {c:Code}{env':aE}{H':List ab}(hw:dW k env' H' env H)(h:LW P n k c env' H' Q):LW P n k c env H Q:=by
 intro a w μ I hn hk Q' hq;obtain⟨μ',hn',hE⟩:=hn.weak hw hk;exact h a w μ' I hn' hE.len' Q' fun e env'' H'' a' w' μ'' I'' q hn'' hE'=>hq e env'' H'' a' w' μ'' I'' q hn''<|hE.trans hE'
theorem LW.loopOf (E:α->aE)(O:α->List ab)(G:α->Prop)(meas:α->Nat)(x0:α)(hw:dW k (E x0) (O x0) env H)(h0:G x0)
  (round:∀x,G x->LW P n k c (E x) (O x) (wZ (fun env' H'=>∃y,meas y<meas x/\G y/\dW k (E y) (O y) env' H') Q)):LW P n k (.loop c) env H Q:=by
 refine LW.loop (fun m env H=>∃x,m=meas x/\G x/\dW k (E x) (O x) env H) (meas x0) ⟨x0,rfl,h0,hw⟩ ?_;rintro m env H ⟨x,rfl,hg,hw⟩;refine LW.weak hw<|(round x hg).mono fun e env' H' q=>?_
 cases e with
 |normal=>
  obtain⟨y,hm,hy,hw'⟩:=q;exact⟨_,hm,y,rfl,hy,hw'⟩
 |_=>exact q
end
def A2 (P:Program)(ops:Array Oper)(draws:Bool)(Q:Exit->Act->World->Prop)(a:Act)(w:World):Prop:=
 match draws with
 |true=>P.follows .mixedOrders=true/\wpAny P .any ops Q ops.size (Array.replicate ops.size false) a { w with drawn:=w.drawn+1}
 |false=>wpOps P ops Q (range ops.size) a w
theorem A2.wp {P:Program}{id:Nat}{ops:Array Oper}{draws:Bool}{Q:Exit->Act->World->Prop}{a:Act}{w:World}(h:A2 P ops draws Q a w):(Code.region id ops draws).wp P Q a w:=by
 cases draws with
 |true=>exact wp_region_any h.1 h.2
 |false=>exact wp_region h
def vv (P:Program)(n k:Nat)(ops:Array Oper)(draws:Bool)(env:aE)(H:List ab)(Q:Exit->aE->List ab->Prop):Prop:=
 ∀a w μ I,re n μ I w H env a->k<=μ.length->∀Q':Exit->Act->World->Prop,
  (∀e env' H' a' w' μ' I',Q e env' H'->re n μ' I' w' H' env' a'->cI k μ I w μ' I' w'->Q' e a' w')->A2 P ops draws Q' a w
theorem vv.toLW {n k id:Nat}{ops:Array Oper}{draws:Bool}{env:aE}{H:List ab}{Q:Exit->aE->List ab->Prop}(h:vv P n k ops draws env H Q):LW P n k (.region id ops draws) env H Q:=
 fun a w μ I hn hk Q' hq=>(h a w μ I hn hk Q' hq).wp
open Go.RowKit (Below)
section
variable {P : Program} {n k : Nat} {env : aE} {H : List ab} {Q : Exit -> aE -> List ab -> Prop} {ops : Array Oper}
theorem LW.region {id:Nat}(h:ay P ops n k (range ops.size) env H (fun env H=>Q .normal env H)):LW P n k (.region id ops false) env H Q:=
 fun a w μ I hn hk Q' hq=>wp_region (h a w μ I hn hk Q' fun env' H' a' w' μ' I' q=>hq .normal env' H' a' w' μ' I' q)
def dw (ops:Array Oper)(o:Oper)(env:aE)(b:Bool):Prop:=
 (o.guard=none/\b=true)\/(∃j t c want,o.guard=some (j,want)/\(ops[j]?).bind (·.dst)=some t/\env.get t=some (.p (.bool c))/\b=(c==want))\/
  ∃j t want,o.guard=some (j,want)/\(ops[j]?).bind (·.dst)=some t/\env.get t=some (.tup [])/\b=false
inductive tI (P:Program)(ops:Array Oper)(n:Nat)(H:List ab):List Nat->aE->aE->Prop
 |nil {env:aE}:tI P ops n H [] env env
 | run {i:Nat} {l:List Nat} {env env':aE} {o:Oper} {x:LV} (ho:ops[i]?=some o) (hw:dw ops o env true) (hd:dg n o.dst=true)
   (h:aa P o env H (Is x H)) (r:tI P ops n H l (eS env o.dst x) env'):tI P ops n H (i::l) env env'
 | skip {i:Nat} {l:List Nat} {env env':aE} {o:Oper} (ho:ops[i]?=some o) (hw:dw ops o env false) (hd:dg n o.dst=true)
   (r:tI P ops n H l (eS env o.dst (.tup [])) env'):tI P ops n H (i::l) env env'
def LO (P:Program)(ops:Array Oper)(n:Nat)(l:List Nat)(env:aE)(H:List ab)(Q:aE->Prop):Prop:=∃env',tI P ops n H l env env'/\Q env'
theorem LO.nil {Q:aE->Prop}(h:Q env):LO P ops n [] env H Q:=⟨env,.nil,h⟩
theorem LO.is {x:LV}{Q:aE->Prop}(ho:ops[i]?=some o)(hg:o.guard=none)(hd:dg n o.dst=true)
  (h:aa P o env H (Is x H)) (hr:LO P ops n l (eS env o.dst x) H Q):LO P ops n (i::l) env H Q:=
 let ⟨env',r,q⟩:=hr
 ⟨env',.run ho (.inl ⟨hg,rfl⟩) hd h r,q⟩
theorem LO.guarded {j t:Nat}{b:Bool}{x:LV}{Q:aE->Prop}(ho:ops[i]?=some o)(hg:o.guard=some (j,b))
  (ht:(ops[j]?).bind (·.dst)=some t) (hb:env.get t=some (.p (.bool b))) (hd:dg n o.dst=true)
  (h:aa P o env H (Is x H)) (hr:LO P ops n l (eS env o.dst x) H Q):LO P ops n (i::l) env H Q:=
 let ⟨env',r,q⟩:=hr
 ⟨env',.run ho (.inr (.inl ⟨j,t,b,b,hg,ht,hb,by simp⟩)) hd h r,q⟩
theorem LO.skipped {j t:Nat}{b c:Bool}{Q:aE->Prop}(ho:ops[i]?=some o)(hg:o.guard=some (j,b))
  (ht:(ops[j]?).bind (·.dst)=some t) (hb:env.get t=some (.p (.bool c))) (hbc:c= !b) (hd:dg n o.dst=true)
  (hr:LO P ops n l (eS env o.dst (.tup [])) H Q):LO P ops n (i::l) env H Q:=
 let ⟨env',r,q⟩:=hr
 ⟨env',.skip ho (.inr (.inl ⟨j,t,c,b,hg,ht,hb,by subst hbc;cases b <;>rfl⟩)) hd r,q⟩
theorem LO.skippedU {j t:Nat}{b:Bool}{Q:aE->Prop}(ho:ops[i]?=some o)(hg:o.guard=some (j,b))
  (ht:(ops[j]?).bind (·.dst)=some t) (hb:env.get t=some (.tup [])) (hd:dg n o.dst=true)
  (hr:LO P ops n l (eS env o.dst (.tup [])) H Q):LO P ops n (i::l) env H Q:=
 let ⟨env',r,q⟩:=hr
 ⟨env',.skip ho (.inr (.inr ⟨j,t,b,hg,ht,hb,rfl⟩)) hd r,q⟩
def gn (x:Oper)(j:Nat):Bool:=x.after.toList.any fun e=>Region.binds .any e&&beq e.on j
def mu (ops:Array Oper)(oi:Oper)(i:Nat)(oj:Oper)(j:Nat):Bool:=
 match oj.dst with
 |some t=>(oi.dst != some t)&&(if (oi.looksAt ops).contains t then(if blt j i then gn oi j else gn oj i)else true)
 |none=>true
def s4 (ops:Array Oper)(oi:Oper)(i:Nat):List Oper->Nat->Bool
 |[],_=>true
 |oj::r,j=>(if beq i j then true else mu ops oi i oj j)&&s4 ops oi i r (j+1)
def oo (ops:Array Oper):List Oper->Nat->Bool
 |[],_=>true
 |oi::r,i=>(oi.after.toList.all fun e=> !Region.binds .any e||blt e.on i)&&s4 ops oi i ops.toList 0&&oo ops r (i+1)
def qE (ops:Array Oper):Bool:=oo ops ops.toList 0
theorem wX {oi:Oper}:∀{l:List Oper} {s:Nat},s4 ops oi i l s=true->∀(j:Nat) (oj:Oper),l[j]?=some oj->i≠s+j->mu ops oi i oj (s+j)=true:=by
 intro l
 induction l with
 |nil=>intro s _ j oj hj;simp at hj
 | cons o r ih=>
  intro s h j oj hj hne;simp only[s4,Bool.and_eq_true]at h
  cases j with
  |zero=>
   simp at hj;subst hj;have h1:=h.1;split at h1
   ·rename_i he;exact absurd (eq_of_beq_eq_true he) (by simpa using hne)
   ·exact h1
  |succ j=>
   have:=ih h.2 j oj (by simpa using hj) (by omega);rw[show s+(j+1)=s+1+j by omega];exact this
theorem nw :∀{l:List Oper} {s:Nat},oo ops l s=true->∀(i:Nat) (oi:Oper),l[i]?=some oi->
  (∀e∈oi.after,Region.binds .any e=true->e.on<s+i)/\∀(j:Nat) (oj:Oper),ops[j]?=some oj->s+i≠j->mu ops oi (s+i) oj j=true:=by
 intro l
 induction l with
 |nil=>intro s _ i oi hi;simp at hi
 | cons o r ih=>
  intro s h i oi hi;simp only[oo,Bool.and_eq_true,List.all_eq_true]at h
  cases i with
  |zero=>
   simp at hi;subst hi;refine⟨fun e he hb=>?_,fun j oj hj hne=>?_⟩
   ·have:=h.1.1 e (by simpa using he);simpa [hb]using this
   ·have:=wX h.1.2 j oj (by simpa using hj) (by simpa using hne);simpa using this
  |succ i=>
   have:=ih h.2 i oi (by simpa using hi);rw[show s+(i+1)=s+1+i by omega];exact this
theorem fC {x:Oper}(h:gn x j=true):∃e∈x.after,Region.binds .any e=true/\e.on=j:=by
 simp only[gn,List.any_eq_true,Bool.and_eq_true]at h;obtain⟨e,he,h1,h2⟩:=h;exact⟨e,by simpa using he,h1,eq_of_beq_eq_true h2⟩
structure sD (P:Program)(ops:Array Oper)(n:Nat)(H:List ab)(env0:aE)(X:Nat->LV)(i:Nat)(env:aE):Prop where
 at_:∀t y,env.get t=some y->(∃j o,j<i/\ops[j]?=some o/\o.dst=some t/\X j=y)\/(env0.get t=some y/\∀j o,j<i->ops[j]?=some o->o.dst≠some t)
theorem tI.steps {X0:Nat->LV}{env0:aE}:∀{l:List Nat} {s:Nat} {env env':aE},tI P ops n H l env env'->l=(range' s l.length)->
  sD P ops n H env0 X0 s env->
  ∃ X:Nat->LV,(∀j,j<s->X j=X0 j)/\sD P ops n H env0 X (s+l.length) env'/\
   ∀i,s<=i->i<s+l.length->∃o envi,ops[i]?=some o/\dg n o.dst=true/\sD P ops n H env0 X i envi/\
    ((dw ops o envi true/\aa P o envi H (Is (X i) H))\/(dw ops o envi false/\X i=.tup [])):=by
 intro l
 induction l generalizing X0 with
 |nil=>
  intro s env env' h _ hs;cases h;exact⟨X0,fun _ _=>rfl,by simpa using hs,fun i h1 h2=>by simp at h2;omega⟩
 | cons i l ih=>
  intro s env env' h hl hs;rw[length_cons,List.range'_succ,List.cons.injEq]at hl;obtain⟨rfl,hl⟩:=hl
  have go:∀(o:Oper) (x:LV),ops[i]?=some o->dg n o.dst=true->tI P ops n H l (eS env o.dst x) env'->
    ((dw ops o env true/\aa P o env H (Is x H))\/(dw ops o env false/\x=.tup []))->
    ∃ X:Nat->LV,(∀j,j<i->X j=X0 j)/\sD P ops n H env0 X (i+(i::l).length) env'/\
     ∀j,i<=j->j<i+(i::l).length->∃o envi,ops[j]?=some o/\dg n o.dst=true/\sD P ops n H env0 X j envi/\
      ((dw ops o envi true/\aa P o envi H (Is (X j) H))\/(dw ops o envi false/\X j=.tup [])):=by
   intro o x ho hd r hx
   let X1:Nat->LV:=fun j=>if j=i then x else X0 j
   have h1:∀j,j<i->X1 j=X0 j:=fun j hj=>by simp[X1];omega
   have hs1:sD P ops n H env0 X1 (i+1) (eS env o.dst x):=⟨fun t y ht=>by
    have old:env.get t=some y->o.dst≠some t->(∃j o,j<i+1/\ops[j]?=some o/\o.dst=some t/\X1 j=y)\/(env0.get t=some y/\∀j o,j<i+1->ops[j]?=some o->o.dst≠some t):=by
     intro ht hne;rcases hs.at_ t y ht with⟨j,o',hj,ho',hd',hX⟩|⟨h0,hno⟩
     ·exact .inl ⟨j,o',by omega,ho',hd',by rw[h1 j hj];exact hX⟩
     ·refine .inr ⟨h0,fun j o' hj ho'=>?_⟩;by_cases e:j=i
      ·subst e;rw[ho]at ho';cases ho';exact hne
      ·exact hno j o' (by omega) ho'
    cases hdst:o.dst with
    |none=>rw[hdst]at ht;exact old ht (by simp[hdst])
    |some d=>
     rw[hdst]at ht;simp only[eS,aE.get_cons]at ht;split at ht
     ·rename_i e;subst e;cases ht;exact .inl ⟨i,o,by omega,ho,hdst,by simp[X1]⟩
     ·rename_i e;exact old ht (by rw[hdst];simpa using e)⟩
   obtain⟨X,hX,hfin,hall⟩:=ih (X0:=X1) (s:=i+1) r hl hs1;refine⟨X,fun j hj=>by rw[hX j (by omega),h1 j hj],by rw[length_cons,show i+(l.length+1)=i+1+l.length by omega];exact hfin,fun j hij hj=>?_⟩;by_cases e:j=i
   ·subst e
    have hXi:X j=x:=by rw[hX j (by omega)];simp[X1]
    refine⟨o,env,ho,hd,⟨fun t y ht=>?_⟩,by rw[hXi];exact hx⟩;rcases hs.at_ t y ht with⟨j',o',hj',ho',hd',hX'⟩|hh
    ·exact .inl ⟨j',o',hj',ho',hd',by rw[hX j' (by omega),h1 j' hj'];exact hX'⟩
    ·exact .inr hh
   ·exact hall j (by omega) (by rw[length_cons]at hj;omega)
  cases h with
  |run ho hw hd h r=>exact go _ _ ho hd r (.inl ⟨hw,h⟩)
  |skip ho hw hd r=>exact go _ _ ho hd r (.inr ⟨hw,rfl⟩)
theorem count_set {l:Array Bool}{f:Nat}(h:l.toList.count false=f+1)(hi:l[i]?=some false):(l.setIfInBounds i true).toList.count false=f:=by
 rw[Array.toList_setIfInBounds]
 have hlt:i<l.toList.length:=by
  have:=(Array.getElem?_eq_some_iff.1 hi).1;simpa using this
 have hget:l.toList[i]=false:=by
  have:=(Array.getElem?_eq_some_iff.1 hi).2;simpa using this
 have:=List.count_set (l:=l.toList) (i:=i) (a:=true) (b:=false) hlt;rw[this];simp[hget,h]
def Bu (ops:Array Oper)(m:Nat):Bool:=
 beq ops.size (m+1)&&(match ops[m]? with|some o=>(range m).all fun j=>gn o j|none=>false)
theorem vv.drawLast (hm:P.follows .mixedOrders=true)(hok:qE ops=true)(hlast:Bu ops m=true)
  (h:LO P ops n (range m) env H (fun env=>ay P ops n k [m] env H fun env H=>Q .normal env H)) :
  vv P n k ops true env H Q:=by
 obtain⟨env',hc,hq0⟩:=h;intro a w μ I hn hk Q' hq;simp only[Bu,Bool.and_eq_true]at hlast;have hsize:ops.size=m+1:=eq_of_beq_eq_true hlast.1;obtain⟨om,hom⟩:∃om,ops[m]?=some om:=⟨_,Array.getElem?_eq_getElem (by omega)⟩
 have hdep:∀j,j<m->gn om j=true:=by
  have:=hlast.2;rw[hom]at this;intro j hj;exact List.all_eq_true.1 this j (by simpa using hj)
 have hrange:range m=range' 0 (range m).length:=by rw[List.length_range,List.range_eq_range']
 obtain⟨X,-,hfin,hall⟩:=hc.steps (X0:=fun _=>.any) (env0:=env) hrange ⟨fun t y ht=>.inr ⟨ht,fun j o hj=>absurd hj (by omega)⟩⟩;simp only[List.length_range,zero_add]at hfin hall;have hsp:=fun i oi (hi:ops[i]?=some oi)=>nw (s:=0) hok i oi (by simpa using hi);simp only[zero_add]at hsp;refine⟨hm,?_⟩
 have key:∀(f:Nat) (listed:Array Bool) (a':Act) (w':World) (μ':List ci) (I':Nat->Prop),listed.size=ops.size->listed.toList.count false=f->
   a'.tmps.size=n->a'.defers=[]->St μ' I' w' H->cI k μ I w μ' I' w'->
   (∀(j:Nat) (o:Oper),ops[j]?=some o->listed[j]?=some true->∀t,o.dst=some t->∃v,a'.tmps[t]?=some v/\aH μ' I' w' (X j) v)->
   (∀t y,env.get t=some y->(∀(j:Nat) (o:Oper),ops[j]?=some o->listed[j]?=some true->o.dst≠some t)->∃v,a'.tmps[t]?=some v/\aH μ' I' w' y v)->
   (∀(j:Nat) (o:Oper),ops[j]?=some o->listed[j]?=some true->∀e∈o.after,Region.binds .any e=true->listed[e.on]?=some true)->
   listed[m]?=some false->wpAny P .any ops Q' f listed a' w':=by
  intro f
  induction f with
  | zero=>
   intro listed a' w' μ' I' hsz hcnt hsize' hdef hst hE hA hB hC hmf;exfalso;have hml:m<listed.size:=(Array.getElem?_eq_some_iff.1 hmf).1
   have hmem:false∈listed.toList:=by
    have:=(Array.getElem?_eq_some_iff.1 hmf).2;rw[<-this];simp
   have:=List.count_pos_iff.2 hmem;omega
  | succ f ih=>
   intro listed a' w' μ' I' hsz hcnt hsize' hdef hst hE hA hB hC hmf;refine⟨fun hnil=>?_,fun i hi=>?_⟩
   ·exfalso;have hmem:false∈listed.toList:=List.count_pos_iff.1 (by omega);obtain⟨j,hj,hjf⟩:=mem_iff_getElem.1 hmem
    obtain⟨m,hm',hmin⟩:=Ab (p:=fun j=>listed[j]?=some false) ⟨j,by
     rw[Array.getElem?_eq_getElem (by simpa using hj)];simpa using hjf⟩
    have hmlt:m<ops.size:=by have:=(Array.getElem?_eq_some_iff.1 hm').1;omega
    have hr:m∈Region.ready .any ops listed:=mem_ready.2 ⟨by rw[Array.getD_eq_getD_getElem?,hm'];rfl,ops[m],Array.getElem?_eq_getElem hmlt,fun e he hb=>by
     have hlt:=(hsp m _ (Array.getElem?_eq_getElem hmlt)).1 e he hb
     have hes:e.on<listed.size:=by omega
     rw[Array.getD_eq_getD_getElem?,Array.getElem?_eq_getElem hes]
     cases hb':listed[e.on]with
     |true=>rfl
     |false=>
      have:=hmin e.on (by rw[Array.getElem?_eq_getElem hes,hb'])
      omega⟩
    rw[hnil]at hr;cases hr
   ·obtain⟨hun,o,ho,hpre⟩:=mem_ready.1 hi;have hilt:i<ops.size:=(Array.getElem?_eq_some_iff.1 ho).1
    have hif:listed[i]?=some false:=by
     have hi':i<listed.size:=by omega
     rw[Array.getElem?_eq_getElem hi'];rw[Array.getD_eq_getD_getElem?,Array.getElem?_eq_getElem hi']at hun;simpa using hun
    by_cases him:i=m
    ·subst him;rw[hom]at ho;cases ho
     have hpre2:∀j,j<i->listed[j]?=some true:=by
      intro j hj;obtain⟨e,he,hb,rfl⟩:=fC (hdep j hj);have:=hpre e he hb;rw[Array.getD_eq_getD_getElem?]at this
      cases hx:listed[e.on]? with
      |none=>rw[hx]at this;cases this
      |some b=>rw[hx]at this;simpa using this
     have hnow:re n μ' I' w' H env' a':=⟨hsize',hdef,hst,fun t y ht=>by
      rcases hfin.at_ t y ht with⟨j,oj,hj,hoj,hdj,rfl⟩|⟨h0,hno⟩
      ·exact hA j oj hoj (hpre2 j hj) t hdj
      ·refine hB t y h0 fun j oj hoj hl=>hno j oj ?_ hoj;have:=(Array.getElem?_eq_some_iff.1 hoj).1;by_cases e:j=i
       ·subst e;rw[hmf]at hl;cases hl
       ·omega⟩
     have hwp:=hq0 a' w' μ' I' hnow hE.len' Q' fun env'' H'' a'' w'' μ'' I'' q hn'' hE'=>hq .normal env'' H'' a'' w'' μ'' I'' q hn'' (hE.trans hE');rw[wpOps_cons]at hwp;refine wpOp_mono (fun a'' w'' hh=>?_) hwp
     have hallL:∀j,j<ops.size->(listed.setIfInBounds i true)[j]?=some true:=by
      intro j hj;by_cases e:j=i
      ·subst e;simp[show j<listed.size by omega]
      ·rw[Array.getElem?_setIfInBounds_ne (fun h=>e h.symm)];exact hpre2 j (by omega)
     have hready:Region.ready .any ops (listed.setIfInBounds i true)=[]:=by
      cases hr:Region.ready .any ops (listed.setIfInBounds i true)with
      |nil=>rfl
      |cons q r=>
       exfalso
       have hq':q∈Region.ready .any ops (listed.setIfInBounds i true):=by rw[hr];exact .head _
       obtain⟨h1,o,h2,_⟩:=mem_ready.1 hq';have:=hallL q (Array.getElem?_eq_some_iff.1 h2).1;rw[Array.getD_eq_getD_getElem?,this]at h1;cases h1
     have hf0:f=0\/0<f:=Nat.eq_zero_or_pos f;rcases hf0 with rfl|hf
     ·exact⟨hready,hh⟩
     ·obtain⟨f,rfl⟩:∃g,f=g+1:=⟨f-1,by omega⟩;exact⟨fun _=>hh,fun q hq'=>by rw[hready]at hq';cases hq'⟩
    have hilm:i<m:=by omega
    obtain⟨o',envi,ho',hd,hst',hcase⟩:=hall i (zero_le _) hilm;rw[ho]at ho';cases ho'
    have hpre':∀j,gn o j=true->listed[j]?=some true:=by
     intro j hj;obtain⟨e,he,hb,rfl⟩:=fC hj;have:=hpre e he hb;rw[Array.getD_eq_getD_getElem?]at this
     cases hx:listed[e.on]? with
     |none=>rw[hx]at this;cases this
     |some b=>rw[hx]at this;simpa using this
    -- what the slots that it looks at hold
    have look:∀t∈o.looksAt ops,∀y,envi.get t=some y->∃v,a'.tmps[t]?=some v/\aH μ' I' w' y v:=by
     intro t ht y hy;rcases hst'.at_ t y hy with⟨j,oj,hj,hoj,hdj,rfl⟩|⟨h0,hno⟩
     ·have hp:=(hsp i o ho).2 j oj hoj (by omega);simp only[mu,hdj,Bool.and_eq_true]at hp;have hp2:=hp.2;rw[i1_ (by simpa using ht),i1_ (by simpa using hj)]at hp2;exact hA j oj hoj (hpre' j hp2) t hdj
     ·refine hB t y h0 fun j oj hoj hl hdj=>?_;by_cases hji:j<i
      ·exact hno j oj hji hoj hdj
      ·have hne:i≠j:=fun e=>by subst e;rw[hif]at hl;cases hl
       have hp:=(hsp i o ho).2 j oj hoj hne;simp only[mu,hdj,Bool.and_eq_true]at hp;have hp2:=hp.2;rw[i1_ (by simpa using ht),i0_ (by simpa using hji)]at hp2;obtain⟨e,he,hb,he'⟩:=fC hp2;have:=hC j oj hoj hl e he hb;rw[he',hif]at this;cases this
    have hwant:∀b,dw ops o envi b->Region.wanted o (yielded ops a'.tmps)=b:=by
     intro b hb;rcases hb with⟨hg,rfl⟩|⟨j,t,c,want,hg,hjt,hc',rfl⟩|⟨j,t,want,hg,hjt,hc',rfl⟩
     ·simp[Region.wanted,hg]
     ·have htl:t∈o.looksAt ops:=by simp[Oper.looksAt,hg,hjt]
      obtain⟨v,hv,hr⟩:=look t htl _ hc'
      cases hr with
      |p hr=>cases hr;simp[Region.wanted,hg,yielded,hjt,hv]
     ·have htl:t∈o.looksAt ops:=by simp[Oper.looksAt,hg,hjt]
      obtain⟨v,hv,hr⟩:=look t htl _ hc'
      cases hr with
      |tup hl hr=>simp[Region.wanted,hg,yielded,hjt,hv]
    -- what follows
    have follow:∀v w'' μ'' I'',St μ'' I'' w'' H->aH μ'' I'' w'' (X i) v->cI μ'.length μ' I' w' μ'' I'' w''->
      wpAny P .any ops Q' f (listed.setIfInBounds i true) (a'.put o.dst v) w'':=by
     intro v w'' μ'' I'' hst2 hv hE2;have hkl:k<=μ'.length:=hE.len'
     have hget:∀j,(listed.setIfInBounds i true)[j]?=some true↔j=i\/listed[j]?=some true:=by
      intro j;by_cases e:j=i
      ·subst e;simp[show j<listed.size by omega]
      ·rw[Array.getElem?_setIfInBounds_ne (fun h=>e h.symm)];simp[e]
     have hputs:∀t,o.dst≠some t->(a'.put o.dst v).tmps[t]?=a'.tmps[t]?:=by
      intro t ht
      cases hdst:o.dst with
      |none=>rfl
      |some d=>simp only[Act.put];rw[Array.getElem?_setIfInBounds_ne (by rw[hdst]at ht;simpa using ht)]
     refine ih _ _ _ μ'' I'' (by simp[hsz]) (count_set hcnt hif) ?_ ?_ hst2 (hE.trans (hE2.weak hkl)) ?_ ?_ ?_ ?_
     ·cases o.dst <;>simp[Act.put,hsize']
     ·cases o.dst <;>simp[Act.put,hdef]
     ·intro j oj hoj hl t hdj;rcases(hget j).1 hl with e|hl
      ·subst e;rw[ho]at hoj;cases hoj;refine⟨v,?_,hv⟩;have:=c9 hd t hdj;simp[hdj,Act.put,hsize',this]
      ·have hne:i≠j:=fun e=>by subst e;rw[hif]at hl;cases hl
       have hp:=(hsp i o ho).2 j oj hoj hne;simp only[mu,hdj,Bool.and_eq_true]at hp;obtain⟨u,hu,hr⟩:=hA j oj hoj hl t hdj;exact⟨u,by rw[hputs t (by simpa using hp.1)];exact hu,hr.ext hE2⟩
     ·intro t y hy hno;have hnd:o.dst≠some t:=hno i o ho ((hget i).2 (.inl rfl));obtain⟨u,hu,hr⟩:=hB t y hy fun j oj hoj hl=>hno j oj hoj ((hget j).2 (.inr hl));exact⟨u,by rw[hputs t hnd];exact hu,hr.ext hE2⟩
     ·intro j oj hoj hl e he hb;rcases(hget j).1 hl with e'|hl
      ·subst e';rw[ho]at hoj;cases hoj
       exact(hget _).2 (.inr (hpre' e.on (by
        simp only[gn,List.any_eq_true,Bool.and_eq_true]
        exact⟨e,by simpa using he,hb,by simp⟩)))
      ·exact(hget _).2 (.inr (hC j oj hoj hl e he hb))
     ·rw[Array.getElem?_setIfInBounds_ne him];exact hmf
    unfold wpOp;simp only[ho];rcases hcase with⟨hw',hop⟩|⟨hw',hany⟩
    ·rw[hwant true hw'];simp only[if_true];refine .inl<|hop a' w' μ' I' hst (fun t ht y hy=>look t (List.mem_append_left _ (List.mem_filterMap.2 ⟨.tmp t,by simpa using ht,rfl⟩)) y hy) _ _ ?_;rintro x H' v w'' μ'' I'' ⟨rfl,rfl⟩ hs2 hv2 hE2;exact follow v w'' μ'' I'' hs2 hv2 hE2
    ·rw[hwant false hw'];simp only[Bool.false_eq_true,if_false];exact follow undef w' μ' I' hst (by rw[hany];exact(.tup Z fun i c v hc=>by simp at hc)) (cI.refl _ _ _ _ (le_refl _))
 have hE0:cI k μ I w μ I { w with drawn:=w.drawn+1}:=
  ⟨fun _ B _ h=>⟨B,h,le_refl _,fun _=>.inl rfl,fun _ _=>rfl⟩,hk,hk,rfl,rfl,rfl,le_refl _,fun _ h=>⟨h,rfl⟩,fun _ c _ _ h=>⟨c,h,rfl⟩,fun _ h=>.inl h,fun _ h=>.inl h,fun _ _ _=>rfl⟩
 have hE1:cI μ.length μ I w μ I { w with drawn:=w.drawn+1}:=
  ⟨fun _ B _ h=>⟨B,h,le_refl _,fun _=>.inl rfl,fun _ _=>rfl⟩,le_refl _,le_refl _,rfl,rfl,rfl,le_refl _,fun _ h=>⟨h,rfl⟩,fun _ c _ _ h=>⟨c,h,rfl⟩,fun _ h=>.inl h,fun _ h=>.inl h,fun _ _ _=>rfl⟩
 have hst0:St μ I { w with drawn:=w.drawn+1} H:=⟨hn.st.len,hn.st.inj,hn.st.lt,hn.st.off,hn.st.ilt,fun i o b ho hb=>(hn.st.objs i o b ho hb).ext hE1 fun _ _=>rfl⟩;refine key ops.size _ a _ μ I (by simp) (by simp) hn.size hn.defers hst0 hE0 ?_ ?_ ?_ (by simp[hsize])
 ·intro j o ho hl;simp[Array.getElem?_replicate]at hl
 ·intro t y hy _;obtain⟨v,hv,hr⟩:=hn.env t y hy;exact⟨v,hv,hr.ext hE1⟩
 ·intro j o ho hl;simp[Array.getElem?_replicate]at hl
end
section
variable {P : Program} {n k : Nat} {env : aE} {H : List ab} {Q : Exit -> aE -> List ab -> Prop} {ops : Array Oper}
theorem LW.drawLast {id m:Nat}(hm:P.follows .mixedOrders=true)(hok:qE ops=true)(hlast:Bu ops m=true)
  (h:LO P ops n (range m) env H (fun env=>ay P ops n k [m] env H fun env H=>Q .normal env H)):LW P n k (.region id ops true) env H Q:=(vv.drawLast hm hok hlast h).toLW
end
open Go.RowKit (Below)
theorem dm (x:PV)(xs:List PV):flat (x::xs)=x.cells++flat xs:=by simp[flat]
theorem iM (xs ys:List PV):flat (xs++ys)=flat xs++flat ys:=by simp[flat]
theorem b9.nil {m:Nat}:b9 m []:=fun x hx=>by simp at hx
theorem b9.cons {x:PV}{xs:List PV}(h:x.cells.length=m/\∀c∈x.cells,c.one)(hs:b9 m xs):b9 m (x::xs):=by
 intro y hy
 cases hy with
 |head=>exact h
 |tail _ hy=>exact hs y hy
theorem b9.tail {m:Nat}{x:PV}{xs:List PV}(h:b9 m (x::xs)):b9 m xs:=fun y hy=>h y (.tail _ hy)
theorem b9.append {xs ys:List PV}(h:b9 m xs)(h':b9 m ys):b9 m (xs++ys):=by
 intro y hy;rcases mem_append.1 hy with hy|hy
 ·exact h y hy
 ·exact h' y hy
theorem b9.take {m:Nat}{xs:List PV}(h:b9 m xs)(n:Nat):b9 m (xs.take n):=fun y hy=>h y (mem_of_mem_take hy)
theorem b9.drop {m:Nat}{xs:List PV}(h:b9 m xs)(n:Nat):b9 m (xs.drop n):=fun y hy=>h y (List.mem_of_mem_drop hy)
theorem cF {m:Nat}:∀{xs:List PV},b9 m xs->(flat xs).length=m*xs.length
 |[],_=>by simp[flat]
 |x::xs,h=>by
  rw[dm,List.length_append,cF h.tail,(h x (.head _)).1,length_cons,mul_add,mul_one];omega
theorem jj {m:Nat}:∀{xs:List PV} (n:Nat),b9 m xs->flat (xs.drop n)=(flat xs).drop (m*n)
 |xs,0,_=>by simp
 |[],n+1,_=>by simp[flat]
 |x::xs,n+1,h=>by
  have hx:=(h x (.head _)).1
  have e:m*(n+1)=m*n+m:=by rw[mul_add,mul_one]
  rw[List.drop_succ_cons,jj n h.tail,dm,List.drop_append,hx,drop_eq_nil_of_le (as:=x.cells) (by omega),List.nil_append];congr 1;omega
theorem lw {m:Nat}:∀{xs:List PV} (n:Nat),b9 m xs->flat (xs.take n)=(flat xs).take (m*n)
 |xs,0,_=>by simp[flat]
 |[],n+1,_=>by simp[flat]
 |x::xs,n+1,h=>by
  have hx:=(h x (.head _)).1
  have e:m*(n+1)=m*n+m:=by rw[mul_add,mul_one]
  rw[List.take_succ_cons,dm,lw n h.tail,dm,List.take_append,hx,List.take_of_length_le (l:=x.cells) (by omega)];congr 2;omega
theorem od {xs:List PV}(h:b9 m xs):∀c∈flat xs,c.one:=by
 intro c hc;obtain⟨x,hx,hc⟩:=List.mem_flatMap.1 hc;exact(h x hx).2 c hc
def Conv (b:Bool)(H:List ab)(x:LV)(p:PV):Prop:=
 ∀μ I w v,St μ I w H->aH μ I w x v->fA (fun c=>I c\/(b=true/\gC μ c)) w p v
theorem Conv.p {b:Bool}{H:List ab}{x:PV}:Conv b H (.p x) x:=fun μ I w v _ h=>by
 cases h with
 |p h=>exact h.mono fun c hc=>⟨.inl hc,rfl⟩
theorem Conv.zs {b:Bool}{H:List ab}{m:Nat}:Conv b H .zs (.slice m []):=fun μ I w v _ h=>by
 cases h;exact .slice (fun _=>undef) Z (le_refl _) (zero_le _) .nil (fun i c h=>by simp[flat]at h) (fun i c h=>by simp[flat]at h)
theorem Conv.vec {H:List ab}{m id n off len:Nat}{xs:List PV}(hH:H[id]?=some (.vec m xs))(hn:n=xs.length)(hl:off+len<=n):Conv true H (.vec m id n off len) (.slice m ((xs.drop off).take len)):=by
 intro μ I w v hs h
 cases h with
 | @vec _ _ _ _ _ B _ hid h1 hnB hf=>
  have ho:=hs.objs id _ _ hH hid
  have hBn:n=B.n:=by cases ho <;>simp_all
  rcases hf hBn with⟨rfl,⟨a,rfl⟩,-⟩|⟨b,cap,hB,rfl,hlc,hmax,c',e',hsz⟩
  ·simp only[List.take_zero];exact .slice (fun _=>undef) Z (le_refl _) (zero_le _) .nil (fun i c h=>by simp[flat]at h) (fun i c h=>by simp[flat]at h)
  ·cases ho with
   |vecE=>cases hB
   | @vec _ _ b' vs e hb hl' hne hm hr=>
    cases hB
    have hlen:((xs.drop off).take len).length=len:=by simp;omega
    have hidx:∀(i:Nat) c,(flat ((xs.drop off).take len))[i]?=some c->(flat xs)[m*off+i]?=some c:=by
     intro i c hi;rw[lw _ (hm.drop off),jj _ hm]at hi;rw[getElem?_take]at hi;split at hi
     ·rwa [getElem?_drop]at hi
     ·cases hi
    have hcell:∀(i:Nat) c,(flat xs)[i]?=some c->∃u,vs[i]?=some u:=by
     intro i c hi;have h1:=(List.getElem?_eq_some_iff.1 hi).1;rw[cF hm]at h1;exact⟨_,Array.getElem?_eq_getElem (by omega)⟩
    refine .slice (fun i=>vs.getD (m*off+i) undef) hlen.symm hlc hmax ((hm.drop off).take len) (fun i c hi=>?_)<|fun i c hi=>?_
    ·obtain⟨u,hu⟩:=hcell _ c (hidx i c hi);refine⟨b,m*off,rfl,.inr ⟨rfl,⟨_,mem_of_getElem? hid⟩⟩,?_⟩;simp[World.cell?,hb,hu]
    ·obtain⟨u,hu⟩:=hcell _ c (hidx i c hi);have:=hr _ c u (hidx i c hi) hu;simp only[Array.getD_eq_getD_getElem?,hu,getD_some];exact this.mono fun c hc=>⟨.inl hc,rfl⟩
theorem Conv.vecAll {H:List ab}{m id n len:Nat}{xs:List PV}(hH:H[id]?=some (.vec m xs))(hn:n=xs.length)(hl:len=xs.length):Conv true H (.vec m id n 0 len) (.slice m xs):=by
 have:=Conv.vec (off:=0) (len:=len) hH hn (by omega)
 rwa [List.drop_zero,List.take_of_length_le (by omega)]at this
def eX (b:Bool)(H:List ab):List LV->List PV->Prop
 |[],[]=>True
 |x::xs,p::ps=>Conv b H x p/\eX b H xs ps
 |_,_=>False
theorem eX.nil {b:Bool}{H:List ab}:eX b H [] []:=trivial
theorem eX.cons {b:Bool}{H:List ab}{x:LV}{xs:List LV}{p:PV}{ps:List PV}(h:Conv b H x p)(hs:eX b H xs ps):eX b H (x::xs) (p::ps):=⟨h,hs⟩
theorem eX.get {b:Bool}{H:List ab}:∀{xs:List LV} {ps:List PV},eX b H xs ps->xs.length=ps.length/\∀(i:Nat) x p,xs[i]?=some x->ps[i]?=some p->Conv b H x p
 |[],[],_=>⟨rfl,fun i x p h=>by simp at h⟩
 |x::xs,p::ps,h=>by
  obtain⟨h1,h2⟩:=eX.get h.2;refine⟨by simp[h1],fun i y q hy hq=>?_⟩
  cases i with
  |zero=>simp at hy hq;subst hy;subst hq;exact h.1
  |succ i=>simp at hy hq;exact h2 i y q hy hq
 |[],_::_,h=>h.elim
 |_::_,[],h=>h.elim
theorem Conv.agg {b:Bool}{H:List ab}{cs:List LV}{ps:List PV}(h:eX b H cs ps):Conv b H (.agg cs) (.agg ps):=by
 intro μ I w v hs hr;obtain⟨h1,h2⟩:=h.get
 cases hr with
 | @agg _ vs hl ho hr=>
  have key:∀(i:Nat) c u,ps[i]?=some c->vs[i]?=some u->fA (fun c=>I c\/(b=true/\gC μ c)) w c u:=by
   intro i c u hc hu;have hi:=(List.getElem?_eq_some_iff.1 hc).1;have hx:cs[i]?=some cs[i]:=getElem?_eq_getElem (by omega);exact h2 i _ c hx hc μ I w u hs<|hr i _ u hx hu
  refine .agg (by omega) (fun c hc=>?_) key;obtain⟨i,hi,rfl⟩:=mem_iff_getElem.1 hc
  have hi':i<vs.size:=by omega
  exact PV.one_of_rep (key i _ vs[i] (getElem?_eq_getElem hi) (Array.getElem?_eq_getElem hi'))<|ho _<|Array.getElem_mem hi'
def yw (I:Nat->Prop)(w:World):List PV->List Value->Prop
 |[],[]=>True
 |a::as,v::vs=>fA I w a v/\yw I w as vs
 |_,_=>False
def cC (μ:List ci)(I:Nat->Prop)(w:World):List LV->List Value->Prop
 |[],[]=>True
 |a::as,v::vs=>aH μ I w a v/\cC μ I w as vs
 |_,_=>False
theorem cC.len {μ:List ci}{I:Nat->Prop}{w:World}:∀{as:List LV} {vs:List Value},cC μ I w as vs->vs.length=as.length
 |[],[],_=>rfl
 |_::_,_::_,h=>by simp[cC.len h.2]
 |[],_::_,h=>h.elim
 |_::_,[],h=>h.elim
theorem cC.get {μ:List ci}{I:Nat->Prop}{w:World}:∀{as:List LV} {vs:List Value},cC μ I w as vs->∀(i:Nat) x v,as[i]?=some x->vs[i]?=some v->aH μ I w x v
 |[],[],_,i,x,v,hx,_=>by simp at hx
 |a::as,u::vs,h,i,x,v,hx,hv=>by
  cases i with
  |zero=>simp at hx hv;subst hx;subst hv;exact h.1
  |succ i=>simp at hx hv;exact cC.get h.2 i x v hx hv
 |[],_::_,h,_,_,_,_,_=>h.elim
 |_::_,[],h,_,_,_,_,_=>h.elim
theorem cC.mk {μ:List ci}{I:Nat->Prop}{w:World}:∀{as:List LV} {vs:List Value},vs.length=as.length->(∀(i:Nat) x v,as[i]?=some x->vs[i]?=some v->aH μ I w x v)->cC μ I w as vs
 |[],[],_,_=>trivial
 |a::as,v::vs,hl,h=>⟨h 0 a v rfl rfl,cC.mk (by simpa using hl) fun i x u hx hu=>h (i+1) x u (by simpa using hx) (by simpa using hu)⟩
 |[],_::_,hl,_=>by simp at hl
 |_::_,[],hl,_=>by simp at hl
theorem cC.append {μ:List ci}{I:Nat->Prop}{w:World}:∀{as bs:List LV} {vs us:List Value},cC μ I w as vs->cC μ I w bs us->cC μ I w (as++bs) (vs++us)
 |[],_,[],_,_,h=>h
 |_::_,_,_::_,_,h,h'=>⟨h.1,cC.append h.2 h'⟩
 |[],_,_::_,_,h,_=>h.elim
 |_::_,_,[],_,h,_=>h.elim
def qL :List PV->LV
 |[x]=>.p x
 |xs=>.tup (xs.map .p)
def aq (P:Program)(f:FuncId)(as rs:List PV):Prop:=
 ∀(args:Array Value) (w:World) (I:Nat->Prop),(∀b,I b->b<w.heap.size)->yw I w as args.toList->
  Calls P f args w fun e w'=>∃v,e=.returned v/\aH [] (fun b=>I b\/(w.heap.size<=b/\b<w'.heap.size)) w' (qL rs) v/\Below w.heap.size w w'
def LC (P:Program)(f:FuncId)(as:List LV)(H:List ab)(R:LV->List ab->Prop):Prop:=
 ∀(args:Array Value) (w:World) (μ:List ci) (I:Nat->Prop),St μ I w H->cC μ I w as args.toList->
  Calls P f args w fun e w'=>∃x v H' μ' I',e=.returned v/\R x H'/\St μ' I' w' H'/\aH μ' I' w' x v/\cI μ.length μ I w μ' I' w'
theorem LC.mono {P:Program}{f:FuncId}{as:List LV}{H:List ab}{R R':LV->List ab->Prop}(h:LC P f as H R)(hr:∀x H',R x H'->R' x H'):LC P f as H R':=
 fun args w μ I hs ha=>(h args w μ I hs ha).mono fun _ _ ⟨x,v,H',μ',I',he,hR,rest⟩=>⟨x,v,H',μ',I',he,hr _ _ hR,rest⟩
theorem jH {b:Bool}{H:List ab}{μ:List ci}{I:Nat->Prop}{w:World}(hs:St μ I w H) :
  ∀{xs:List LV} {ps:List PV} {vs:List Value},eX b H xs ps->cC μ I w xs vs->yw (fun c=>I c\/(b=true/\gC μ c)) w ps vs
 |[],[],[],_,_=>trivial
 |_::_,_::_,v::_,hc,hr=>⟨hc.1 μ I w v hs hr.1,jH hs hc.2 hr.2⟩
 |[],_::_,_,hc,_=>hc.elim
 |_::_,[],_,hc,_=>hc.elim
 |[],[],_::_,_,hr=>hr.elim
 |_::_,_::_,[],_,hr=>hr.elim
theorem cI.of_below {μ:List ci}{H:List ab}(hs:St μ I w H)(hb:Below w.heap.size w w') :
  cI μ.length μ I w μ (fun b=>I b\/(w.heap.size<=b/\b<w'.heap.size)) w' where
 get:=fun _ B _ h=>⟨B,h,le_refl _,fun _=>.inl rfl,fun _ _=>rfl⟩
 len:=le_refl _
 len':=le_refl _
 os:=hb.os
 tape:=hb.tape
 output:=hb.output
 size:=hb.size
 imm:=fun b h=>⟨.inl h,hb.block b (hs.ilt b h)⟩
 shape:=fun b c e f h=>⟨c,by rw[hb.block b (Array.getElem?_eq_some_iff.1 h).1];exact h,rfl⟩
 inew:=fun b h=>h.elim .inl fun h=>.inr (.inr h.1)
 mnew:=fun b h=>.inl h
 keep:=fun b h _=>hb.block b h
theorem St.of_below {μ:List ci}{I:Nat->Prop}{w w':World}{H:List ab}(hs:St μ I w H)(hb:Below w.heap.size w w') :
  St μ (fun b=>I b\/(w.heap.size<=b/\b<w'.heap.size)) w' H where
 len:=hs.len
 inj:=hs.inj
 lt:=fun b h=>Nat.lt_of_lt_of_le (hs.lt b h) hb.size
 off:=fun b h hi=>hi.elim (hs.off b h) fun h'=>by have:=hs.lt b h;omega
 ilt:=fun b h=>h.elim (fun h=>Nat.lt_of_lt_of_le (hs.ilt b h) hb.size) fun h=>h.2
 objs:=fun i o b ho hbm=>(hs.objs i o b ho hbm).ext (cI.of_below hs hb) fun c hc=>hb.block c (hs.lt c ⟨b.n,by rw[show(⟨some c,b.n⟩:ci)=b from by rw[<-hc]];exact mem_of_getElem? hbm⟩)
theorem aH.wide {rs:List PV}{μ:List ci}(h:aH [] I w (qL rs) v)(hI:∀b,I b->I' b):aH μ I' w (qL rs) v:=by
 have one:∀{x:PV} {v:Value},aH [] I w (.p x) v->aH μ I' w (.p x) v:=fun h=>by
  cases h with
  |p h=>exact .p (h.mono fun b hb=>⟨hI b hb,rfl⟩)
 have many:∀{xs:List PV} {v:Value},aH [] I w (.tup (xs.map .p)) v->aH μ I' w (.tup (xs.map .p)) v:=fun h=>by
  cases h with
  |tup hl h=>
   refine .tup hl fun i c v hc hv=>?_;have:=h i c v hc hv;obtain⟨x,-,rfl⟩:=mem_map.1 (mem_of_getElem? hc);exact one this
 unfold qL at h⊢;split at h
 ·exact one h
 ·exact many h
theorem LC.pure {P:Program}{f:FuncId}{as rs:List PV}{xs:List LV}{H:List ab}(h:aq P f as rs)(hc:eX false H xs as):LC P f xs H (Is (qL rs) H):=by
 intro args w μ I hs ha
 have ha':yw I w as args.toList:=by
  have:=jH hs hc ha
  have e:(fun c=>I c\/(false=true/\gC μ c))=I:=by funext c;simp
  rwa [e]at this
 refine(h args w I hs.ilt ha').mono ?_;rintro e w' ⟨v,rfl,hv,hb⟩;exact⟨_,v,H,μ,_,rfl,⟨rfl,rfl⟩,hs.of_below hb,hv.wide fun _ h=>h,cI.of_below hs hb⟩
mutual
def PV.scal :PV->Bool
 |.int _ _=>true
 |.bool _=>true
 |.agg cs=>PV.scals cs
 |.slice _ _=>false
def PV.scals :List PV->Bool
 |[]=>true
 |x::r=>match PV.scal x with|true=>PV.scals r|false=>false
end
theorem PV.scals_spec :∀{cs:List PV},PV.scals cs=true->∀c∈cs,c.scal=true
 |[],_,c,hc=>by simp at hc
 | x::r,h,c,hc=>by
  simp only[PV.scals]at h;split at h
  ·rename_i h1
   cases hc with
   |head=>exact h1
   |tail _ hc=>exact PV.scals_spec h c hc
  ·cases h
theorem fA.scal {I I':Nat->Prop}{w w':World}{x:PV}{v:Value}(h:fA I w x v)(hs:x.scal=true):fA I' w' x v:=by
 induction h with
 |int h=>exact .int h
 |bool=>exact .bool
 |agg hl ho h ih=>exact .agg hl ho fun i c v hc hv=>ih i c v hc hv (PV.scals_spec (by simpa [PV.scal]using hs) c (mem_of_getElem? hc))
 |slice=>simp[PV.scal]at hs
theorem aH.scals {I I':Nat->Prop}{w w':World}{rs:List PV}{v:Value}{μ:List ci}(h:aH [] I w (qL rs) v)(hs:PV.scals rs=true):aH μ I' w' (qL rs) v:=by
 have hs':=PV.scals_spec hs;unfold qL at h⊢;split at h
 ·cases h with
  |p h=>exact .p (h.scal (hs' _ (.head _)))
 ·cases h with
  |tup hl h=>
   refine .tup hl fun i c v hc hv=>?_;have:=h i c v hc hv;obtain⟨x,hx,rfl⟩:=mem_map.1 (mem_of_getElem? hc)
   cases this with
   |p h=>exact .p (h.scal (hs' _ hx))
theorem LC.lend {f:FuncId}{as rs:List PV}{xs:List LV}{H:List ab}(h:aq P f as rs)(hc:eX true H xs as)(hr:PV.scals rs=true) :
  LC P f xs H (Is (qL rs) H):=by
 intro args w μ I hs ha;refine(h args w _ (fun b hb=>hb.elim (hs.ilt b) fun h=>hs.lt b h.2) (jH hs hc ha)).mono ?_;rintro e w' ⟨v,rfl,hv,hb⟩;exact⟨_,v,H,μ,_,rfl,⟨rfl,rfl⟩,hs.of_below hb,hv.scals hr,cI.of_below hs hb⟩
def eI (P : Program) (f : FuncId) : Bool := (P.funcs[f]?).any fun fn => fn.name != "runtime.NumGoroutine" && fn.body.isSome
def lE (env:aE):List Operand->Option (List LV)
 |[]=>some []
 |x::r=>match bf env x,lE env r with|some y,some ys=>some (y::ys)|_,_=>none
theorem lF {μ:List ci}{I:Nat->Prop}{w:World}{o:Oper}{env:aE}{a:Act}(h:EI μ I w o env a) :
  ∀{xs:List Operand} {ls:List LV},(∀x∈xs,x∈o.op.operands)->lE env xs=some ls->cC μ I w ls (xs.map a.eval)
 |[],ls,_,hl=>by simp[lE]at hl;subst hl;trivial
 |x::xs,ls,hx,hl=>by
  simp only[lE]at hl;split at hl
  ·rename_i y ys hy hys;cases hl;exact⟨h.ev (hx x (.head _)) hy,lF h (fun z hz=>hx z (.tail _ hz)) hys⟩
  ·cases hl
theorem aa.call {P:Program}{o:Oper}{env:aE}{H:List ab}{R:LV->List ab->Prop}{fo:Operand}{args:Array Operand}{ats:Array TypeId}{f:FuncId}{first caps ls:List LV}
  (ho:o.op=.call { callee:=.value fo,args:=args,argTypes:=ats}) (hf:bf env fo=some (.fn f first caps)) (hl:lE env args.toList=some ls)
  (hc:eI P f=true) (h:LC P f (first++ls++caps) H R):aa P o env H R:=by
 intro a w μ I hs he K Q hK;have hfo:aH μ I w (.fn f first caps) (a.eval fo):=he.ev (by rw[ho];simp[Op.operands,Call.operands]) hf;have hargs:=lF he (xs:=args.toList) (by intro x hx;rw[ho];simp[Op.operands,Call.operands];exact .inr (by simpa using hx)) hl;generalize hv:a.eval fo=v at hfo
 cases hfo with
 | @fn _ _ _ fs cs h1 h2 h3 h4=>
  have hrun:(execOp a.eval o).run P w=.ok (.enter f (fs++args.map a.eval++cs)) w:=by
   unfold eI at hc
   cases hfn:P.funcs[f]? with
   |none=>rw[hfn]at hc;simp at hc
   |some fn=>
    rw[hfn]at hc;simp only[Option.any_some,Bool.and_eq_true,bne_iff_ne,ne_eq]at hc
    have hn:¬fn.body=none:=by intro hb;rw[hb]at hc;simp at hc
    simp[execOp,ho,resolve,Deferred.ofValue,hv,invoke,callFunc,hfn];rw[i0_ hc.1,i0_ hn]
  unfold Oper.wp;rw[hrun];simp only[Oper.upon];refine(h _ w μ I hs ?_).mono ?_
  ·have e:(fs++args.map a.eval++cs).toList=fs.toList++args.toList.map a.eval++cs.toList:=by simp
   rw[e];exact((cC.mk (by simpa using h1) (fun i x v hx hv=>h3 i x v hx (by simpa using hv))).append hargs).append (cC.mk (by simpa using h2) (fun i x v hx hv=>h4 i x v hx (by simpa using hv)))
  ·rintro e w' ⟨x,u,H',μ',I',rfl,hR,hs',hr,hE⟩;exact hK x H' u w' μ' I' hR hs' hr hE
def BA :Nat->List LV->aE
 |_,[]=>[]
 |i,a::r=>(i,a)::BA (i+1) r
theorem Am :∀{as:List LV} {i t:Nat} {x:LV},(BA i as).get t=some x->i<=t/\as[t-i]?=some x
 |[],i,t,x,h=>by cases h
 |a::r,i,t,x,h=>by
  simp only[BA,aE.get_cons]at h;split at h
  ·rename_i e;subst e;cases h;simp
  ·obtain⟨h1,h2⟩:=Am h;refine⟨by omega,?_⟩;rw[show t-i=(t-(i+1))+1 by omega];simpa using h2
def va (P:Program)(t:TypeId)(n:Nat):Bool:=
 (match P.underlying t with|some (.struct _)=>true|some (.array _ _)=>true|_=>false)&&((P.info? t).map (·.size))==some n
def Jq (P:Program)(t:TypeId):Bool:=
 (match P.underlying t with|none=>false|some (.struct _)=>false|some (.array _ _)=>false|_=>true)&&((P.info? t).map (·.size))==some 1
theorem uy {n:Nat}(h:va P t n=true)(w:World):(isAgg t).run P w=.ok true w:=by
 simp only[va,Bool.and_eq_true]at h;unfold isAgg
 cases hu:P.underlying t with
 |none=>simp[hu]at h
 |some d=>cases d <;>simp[hu]at h <;>simp[Sem.run_bind,run_underlying hu,Result.andThen]
theorem sJ (h:Jq P t=true)(w:World):(isAgg t).run P w=.ok false w:=by
 simp only[Jq,Bool.and_eq_true]at h;unfold isAgg
 cases hu:P.underlying t with
 |none=>simp[hu]at h
 |some d=>cases d <;>simp[hu]at h <;>simp[Sem.run_bind,run_underlying hu,Result.andThen]
theorem uz {n:Nat}(h:va P t n=true)(w:World):(sizeOf t).run P w=.ok n w:=by
 simp only[va,Bool.and_eq_true,beq_iff_eq]at h
 cases hi:P.info? t with
 |none=>simp[hi]at h
 |some i=>simp[hi]at h;simp[sizeOf,typeInfo,hi,h.2]
theorem dX (b o i:Nat):(⟨b,o,none⟩:Addr).add i=⟨b,o+i,none⟩:=by unfold Addr.add;split <;>simp_all
theorem sK {n:Nat}(h:va P t n=true)(w:World)(b o:Nat)(f:Nat->Value)(hc:∀i,i<n->w.cell? ⟨b,o+i,none⟩=some (f i)) :
  (loadVar t ⟨b,o,none⟩).run P w=.ok (.agg ((range n).map f).toArray) w:=by
 unfold loadVar;simp only[Sem.run_bind,uy h,Result.andThen,if_true,uz h];rw[run_loadCells w ⟨b,o,none⟩ n f (fun j hj=>by rw[dX];exact hc j hj)];rfl
theorem sL (h:Jq P t=true)(w:World)(b o:Nat)(v:Value)(hc:w.cell? ⟨b,o,none⟩=some v) :
  (loadVar t ⟨b,o,none⟩).run P w=.ok v w:=by
 unfold loadVar;simp[Sem.run_bind,sJ h,Result.andThen,load,Sem.run,hc]
inductive EF (P:Program)(env:aE)(H:List ab):ResultVar->LV->Prop
 |tmp {t:Tmp} {x:LV} (h:env.get t=some x):EF P env H (.tmp t) x
 | cellAgg {t:Tmp} {ty:TypeId} {id n:Nat} {cs:List LV} (h:env.get t=some (.ptr id 0)) (hH:H[id]?=some (.box cs)) (hn:va P ty n=true) (hl:cs.length=n) :
   EF P env H (.cell t ty) (uq cs)
 | cellOne {t:Tmp} {ty:TypeId} {id:Nat} {x:LV} (h:env.get t=some (.ptr id 0)) (hH:H[id]?=some (.box [x])) (hn:Jq P ty=true) :
   EF P env H (.cell t ty) x
def jW (tmps:Array Value):ResultVar->Sem Value
  |.tmp t=>pure (tmps.getD t undef)
  |.cell a t=>do loadVar t (<-asAddr (tmps.getD a undef))
theorem EF.run {P:Program}{n:Nat}{μ:List ci}{I:Nat->Prop}{w:World}{H:List ab}{env:aE}{a:Act}(hn:re n μ I w H env a){r:ResultVar}{x:LV}(h:EF P env H r x) :
  ∃v,(jW a.tmps r).run P w=.ok v w/\aH μ I w x v:=by
 cases h with
 |tmp h=>
  obtain⟨v,hv,hr⟩:=hn.env _ _ h;exact⟨v,by simp[jW,hv],hr⟩
 | @cellAgg t ty id n cs h hH hT hl=>
  obtain⟨v,hv,hr⟩:=hn.env _ _ h
  cases hr with
  | @ptr _ _ b hid=>
   have ho:=hn.st.objs _ _ _ hH hid
   cases ho with
   | @box _ _ vs e hb hl' ho hr=>
    have hvs:vs.size=n:=by omega
    have:=sK hT w b 0 (fun i=>vs.getD i undef) (fun i hi=>by simp[World.cell?,hb,Array.getElem?_eq_getElem (show i<vs.size by omega)])
    have e:((range n).map fun i=>vs.getD i undef).toArray=vs:=by
     apply Array.ext
     ·simp[hvs]
     ·intro i h1 h2;simp[h2]
    rw[e]at this;refine⟨.agg vs,by simp[jW,hv,asAddr,this],?_⟩;exact lH (by omega) ho hr
 | @cellOne t ty id x h hH hT=>
  obtain⟨v,hv,hr⟩:=hn.env _ _ h
  cases hr with
  | @ptr _ _ b hid=>
   have ho:=hn.st.objs _ _ _ hH hid
   cases ho with
   |@box _ _ vs e hb hl' ho hr=>
    have hvs:vs.size=1:=by simpa using hl'
    have h0:vs[0]?=some vs[0]:=Array.getElem?_eq_getElem (by omega);have:=sL hT w b 0 vs[0] (by simp[World.cell?,hb,h0]);exact⟨vs[0],by simp[jW,hv,asAddr,this],hr 0 x vs[0] rfl h0⟩
theorem mw (fn:Func)(tmps:Array Value):results fn tmps=(do
    let vs <-fn.results.mapM (jW tmps)
    pure (if h:vs.size=1 then vs[0]else .tuple vs)):=by
  unfold results;congr 1
theorem As {fn:Func}{r:ResultVar}(h:fn.results=#[r])(hr:(jW tmps r).run P w=.ok v w) :
  (results fn tmps).run P w=.ok v w:=by
 rw[mw,h];simp[hr]
theorem At {fn:Func}{r s:ResultVar}(h:fn.results=#[r,s])(hr:(jW tmps r).run P w=.ok v w)
  (hs:(jW tmps s).run P w=.ok u w):(results fn tmps).run P w=.ok (.tuple #[v,u]) w:=by
 rw[mw,h];simp[hr,hs]
theorem u8 {fn:Func}{r s q:ResultVar}(h:fn.results=#[r,s,q]){v u t:Value}(hr:(jW tmps r).run P w=.ok v w)
  (hs:(jW tmps s).run P w=.ok u w) (hq:(jW tmps q).run P w=.ok t w):(results fn tmps).run P w=.ok (.tuple #[v,u,t]) w:=by
 rw[mw,h];simp[hr,hs,hq]
theorem qK {fn:Func}(h:fn.results=#[]):(results fn tmps).run P w=.ok (.tuple #[]) w:=by
 rw[mw,h];simp
inductive ec (P:Program)(env:aE)(H:List ab):Array ResultVar->LV->Prop
 |none:ec P env H #[] (.tup [])
 |one {r:ResultVar} {x:LV} (h:EF P env H r x):ec P env H #[r] x
 |two {r s:ResultVar} {x y:LV} (h:EF P env H r x) (h':EF P env H s y):ec P env H #[r,s] (.tup [x,y])
 |three {r s q:ResultVar} {x y z:LV} (h:EF P env H r x) (h':EF P env H s y) (h'':EF P env H q z):ec P env H #[r,s,q] (.tup [x,y,z])
theorem qz {μ:List ci}{x y:LV}(h:aH μ I w x v)(h':aH μ I w y u):aH μ I w (.tup [x,y]) (.tuple #[v,u]):=by
 refine .tup Z fun i c z hc hz=>?_
 match i with
 |0=>simp at hc hz;subst hc;subst hz;exact h
 |1=>simp at hc hz;subst hc;subst hz;exact h'
 |i+2=>simp at hc
theorem Bv {μ:List ci}{x y z:LV}{v u t:Value}(h:aH μ I w x v)(h':aH μ I w y u)(h'':aH μ I w z t) :
  aH μ I w (.tup [x,y,z]) (.tuple #[v,u,t]):=by
 refine .tup Z fun i c s hc hs=>?_
 match i with
 |0=>simp at hc hs;subst hc;subst hs;exact h
 |1=>simp at hc hs;subst hc;subst hs;exact h'
 |2=>simp at hc hs;subst hc;subst hs;exact h''
 |i+3=>simp at hc
theorem ec.run {P:Program}{n:Nat}{μ:List ci}{I:Nat->Prop}{w:World}{H:List ab}{env:aE}{a:Act}(hn:re n μ I w H env a){fn:Func}{x:LV}
  (h:ec P env H fn.results x):∃v,(results fn a.tmps).run P w=.ok v w/\aH μ I w x v:=by
 generalize hr:fn.results=rs at h
 cases h with
 |none=>exact⟨_,qK hr,.tup rfl (fun i c v hc=>by simp at hc)⟩
 |one h=>
  obtain⟨v,h1,h2⟩:=h.run hn;exact⟨v,As hr h1,h2⟩
 |two h h'=>
  obtain⟨v,h1,h2⟩:=h.run hn;obtain⟨u,h3,h4⟩:=h'.run hn;exact⟨_,At hr h1 h3,qz h2 h4⟩
 |three h h' h''=>
  obtain⟨v,h1,h2⟩:=h.run hn;obtain⟨u,h3,h4⟩:=h'.run hn;obtain⟨t,h5,h6⟩:=h''.run hn;exact⟨_,u8 hr h1 h3 h5,Bv h2 h4 h6⟩
def DK (P:Program)(fn:Func)(k:Nat)(env:aE)(H:List ab)(env':aE)(H':List ab)(x:LV):Prop:=ec P env' H' fn.results x\/ec P env H fn.results x/\LV.Low k x
theorem DK.run {P:Program}{fn:Func}{k n:Nat}{env env':aE}{H H':List ab}{x:LV}{μ μ':List ci}{I:Nat->Prop}{w:World}{a:Act}(hn:re n μ I w H env a)(hn':re n μ' I w H' env' a)(hE:cI k μ I w μ' I w)
  (h:DK P fn k env H env' H' x):∃v,(results fn a.tmps).run P w=.ok v w/\aH μ' I w x v:=by
 rcases h with h|⟨h,hl⟩
 ·exact h.run hn'
 ·obtain⟨v,h1,h2⟩:=h.run hn;exact⟨v,h1,h2.mono hE hl⟩
def IN (P:Program)(fn:Func)(k:Nat)(R:LV->List ab->Prop):Exit->aE->List ab->Prop:=fun e env H=>
 (e=.normal\/e=.ret)/\((∃x,ec P env H fn.results x/\R x H)\/∃env' H' x,dW k env' H' env H/\DK P fn k env H env' H' x/\R x H')
theorem jn {fn:Func}{as:List LV}{args:Array Value}{μ:List ci}{H:List ab}(hs:St μ I w H)
  (ha:cC μ I w as args.toList) (hn:as.length<=fn.ntmps) :
  re fn.ntmps μ I w H (BA 0 as) { tmps:=args++Array.replicate (fn.ntmps-args.size) undef,defers:=[]} where
 size:=by have:=ha.len;simp at this⊢;omega
 defers:=rfl
 st:=hs
 env:=fun t x ht=>by
  obtain⟨-,h2⟩:=Am ht;simp only[Nat.sub_zero]at h2;have hlen:=ha.len;have hlt:=(List.getElem?_eq_some_iff.1 h2).1
  have hlt':t<args.size:=by simp at hlen;omega
  refine⟨args[t],by simp[Array.getElem?_append,hlt'],ha.get t x _ h2 (by simp[hlt'])⟩
theorem LC.of {P:Program}{f:FuncId}{fn:Func}{c:Code}{as:List LV}{H:List ab}{R:LV->List ab->Prop}(hf:P.funcs[f]?=some fn)(hb:fn.body=some c)
  (hn:ble as.length fn.ntmps=true) (h:LW P fn.ntmps H.length c (BA 0 as) H (IN P fn H.length R)):LC P f as H R:=by
 intro args w μ I hs ha;have hnow:=jn (fn:=fn) hs ha (by simpa using hn);refine calls_of_wp hf hb<|h _ w μ I hnow (by rw[hs.len];exact le_refl _) _ ?_;rintro e env' H' a' w' μ' I' ⟨he,⟨x,hres,hR⟩|⟨env'',H'',x,hw,hres,hR⟩⟩ hn' hE
 ·obtain⟨v,hrun,hv⟩:=hres.run hn';have hE2:=hE;rw[<-hs.len]at hE2;rcases he with rfl|rfl <;>exact⟨hn'.defers,v,hrun,x,v,H',μ',I',rfl,hR,hn'.st,hv,hE2⟩
 obtain⟨μ'',hn'',hE'⟩:=hn'.weak hw hE.len';obtain⟨v,hrun,hv⟩:=DK.run hn' hn'' hE' hres;have hE2:=hE.trans hE';rw[<-hs.len]at hE2;rcases he with rfl|rfl <;>exact⟨hn'.defers,v,hrun,x,v,H'',μ'',I',rfl,hR,hn''.st,hv,hE2⟩
def xb (H:List ab)(x:LV)(rs:List PV):Prop:=
 match rs with
 |[p]=>Conv true H x p
 |ps=>∃xs,x=.tup xs/\eX true H xs ps
theorem xb.rep {H:List ab}{x:LV}{rs:List PV}(h:xb H x rs){μ:List ci}(hs:St μ I w H)(hr:aH μ I w x v) :
  aH [] (fun c=>I c\/gC μ c) w (qL rs) v:=by
 have e:(fun c=>I c\/(true=true/\gC μ c))=fun c=>I c\/gC μ c:=by funext c;simp
 have many:∀ps,(∃xs,x=.tup xs/\eX true H xs ps)->aH [] (fun c=>I c\/gC μ c) w (.tup (ps.map .p)) v:=by
  rintro ps ⟨xs,rfl,hc⟩
  cases hr with
  | tup hl hr=>
   obtain⟨h1,h2⟩:=hc.get;refine .tup (by simp;omega) fun i c u hc' hu=>?_;rw[getElem?_map]at hc'
   cases hp:ps[i]? with
   |none=>rw[hp]at hc';cases hc'
   |some p=>
    rw[hp]at hc';cases hc';have hi:=(List.getElem?_eq_some_iff.1 hp).1;have hx:xs[i]?=some xs[i]:=getElem?_eq_getElem (by omega);have:=h2 i _ p hx hp μ I w u hs (hr i _ u hx hu);rw[e]at this;exact .p this
 unfold xb at h;unfold qL;split at h
 ·have:=h μ I w v hs hr;rw[e]at this;exact .p this
 ·exact many _ h
def Zz (P:Program)(fn:Func)(rs:List PV):Exit->aE->List ab->Prop:=fun e env H=>
 (e=.normal\/e=.ret)/\∃x,ec P env H fn.results x/\xb H x rs
theorem cC.of_repL {I:Nat->Prop}{w:World}{μ:List ci}:∀{as:List PV} {vs:List Value},yw I w as vs->cC μ I w (as.map .p) vs
 |[],[],_=>trivial
 |_::_,_::_,h=>⟨.p h.1,cC.of_repL h.2⟩
 |[],_::_,h=>h.elim
 |_::_,[],h=>h.elim
theorem aq.of {P:Program}{f:FuncId}{fn:Func}{c:Code}{as rs:List PV}(hf:P.funcs[f]?=some fn)(hb:fn.body=some c)
  (hn:ble as.length fn.ntmps=true) (h:LW P fn.ntmps 0 c (BA 0 (as.map .p)) [] (Zz P fn rs)):aq P f as rs:=by
 intro args w I hI ha
 have hnil:∀b,¬gC [] b:=fun b ⟨n,h⟩=>by cases h
 have hs:St [] I w []:=⟨rfl,by simp,fun b h=>absurd h (hnil b),fun b h=>absurd h (hnil b),hI,by simp⟩;have hnow:=jn (fn:=fn) (as:=as.map .p) hs (cC.of_repL ha) (by simpa using hn);refine calls_of_wp hf hb<|h _ w [] I hnow (le_refl _) _ ?_;rintro e env' H' a' w' μ' I' ⟨he,x,hres,hR⟩ hn' hE;obtain⟨v,hrun,hv⟩:=hres.run hn';have hrep:=hR.rep hn'.st hv
 have hsub:∀c,(I' c\/gC μ' c)->I c\/(w.heap.size<=c/\c<w'.heap.size):=by
  intro c hc;rcases hc with hc|hc
  ·rcases hE.inew c hc with h|h|h
   ·exact .inl h
   ·exact absurd h<|hnil c
   ·exact .inr ⟨h,hn'.st.ilt c hc⟩
  ·rcases hE.mnew c hc with h|h
   ·exact absurd h<|hnil c
   ·exact .inr ⟨h,hn'.st.lt c hc⟩
 have hgood:e=.normal\/e=.ret->bodyPost P fn (fun e w'=>∃v,e=.returned v/\aH [] (fun b=>I b\/(w.heap.size<=b/\b<w'.heap.size)) w' (qL rs) v/\Below w.heap.size w w') e a' w':=by
  intro he
  have hp:∃v,(results fn a'.tmps).run P w'=.ok v w'/\∃u,Ending.returned v=.returned u/\aH [] (fun b=>I b\/(w.heap.size<=b/\b<w'.heap.size)) w' (qL rs) u/\Below w.heap.size w w':=by
   refine⟨v,hrun,v,rfl,hrep.wide hsub,⟨hE.os,hE.tape,hE.output,hE.size,fun b hb=>hE.keep b hb (hnil b)⟩⟩
  rcases he with rfl|rfl <;>exact⟨hn'.defers,hp⟩
 exact hgood he
section
variable {P : Program} {o : Oper} {env : aE} {H : List ab}
theorem aa.val {x:LV}(h:∀a w μ I,St μ I w H->EI μ I w o env a->∃v,(execOp a.eval o).run P w=.ok (.value v) w/\aH μ I w x v):aa P o env H (Is x H):=by
 intro a w μ I hs he K Q hK;obtain⟨v,hrun,hv⟩:=h a w μ I hs he;unfold Oper.wp;rw[hrun];exact hK x H v w μ I ⟨rfl,rfl⟩ hs hv<|cI.refl _ _ _ _<|le_refl _
theorem aa.move {x:Operand}{l:LV}(ho:o.op=.move x)(hx:bf env x=some l):aa P o env H (Is l H):=
 aa.val fun a w μ I _ he=>⟨a.eval x,by simp[execOp,ho],he.ev (by simp[ho,Op.operands]) hx⟩
theorem aa.assign {x:Operand}{l:LV}(ho:o.op=.assign x)(hx:bf env x=some l):aa P o env H (Is l H):=
 aa.val fun a w μ I _ he=>⟨a.eval x,by simp[execOp,ho],he.ev (by simp[ho,Op.operands]) hx⟩
theorem lG {μ:List ci}{b:Bool}(h:aH μ I w (.p (.bool b)) v):v=.bool b:=by
 cases h with
 |p h=>cases h;rfl
theorem bE {μ:List ci}{n:Int}(h:aH μ I w (.p (.int k n)) v):v=.int k n/\aU k n:=by
 cases h with
 |p h=>cases h with|int h=>exact⟨rfl,h⟩
theorem aa.pickT {c x y:Operand}{l:LV}(ho:o.op=.pick c x y)(hc:bf env c=some (.p (.bool true)))(hx:bf env x=some l):aa P o env H (Is l H):=
 aa.val fun a w μ I _ he=>by
  have h1:=lG (he.ev (x:=c) (by simp[ho,Op.operands]) hc);exact⟨a.eval x,by simp[execOp,ho,h1,asBool],he.ev (by simp[ho,Op.operands]) hx⟩
theorem aa.pickF {c x y:Operand}{l:LV}(ho:o.op=.pick c x y)(hc:bf env c=some (.p (.bool false)))(hx:bf env y=some l):aa P o env H (Is l H):=
 aa.val fun a w μ I _ he=>by
  have h1:=lG (he.ev (x:=c) (by simp[ho,Op.operands]) hc);exact⟨a.eval y,by simp[execOp,ho,h1,asBool],he.ev (by simp[ho,Op.operands]) hx⟩
theorem aa.extract {t:Operand}{i:Nat}{ls:List LV}{l:LV}(ho:o.op=.extract t i)(ht:bf env t=some (.tup ls))(hi:ls[i]?=some l):aa P o env H (Is l H):=
 aa.val fun a w μ I _ he=>by
  have h1:=he.ev (x:=t) (by simp[ho,Op.operands]) ht;generalize hv:a.eval t=v at h1
  cases h1 with
  |@tup _ vs hl h=>
   have hlt:=(List.getElem?_eq_some_iff.1 hi).1;have hg:vs[i]?=some vs[i]:=Array.getElem?_eq_getElem (by omega);exact⟨vs[i],by simp[execOp,ho,hv,Instr.extract,hg],h i l _ hi hg⟩
theorem aa.not {x:Operand}{t:TypeId}{b:Bool}(ho:o.op=.unOp .not t x)(hx:bf env x=some (.p (.bool b))):aa P o env H (Is (.p (.bool (!b))) H):=
 aa.val fun a w μ I _ he=>by
  have h1:=lG (he.ev (x:=x) (by simp[ho,Op.operands]) hx);exact⟨.bool (!b),by simp[execOp,ho,h1,Op.unary],.p .bool⟩
theorem cS (k:IntKind)(n:Int):aU k (k.wrap n):=by
 unfold aU wrap IntKind.min IntKind.max;cases k <;>simp[signed,IntKind.bits] <;>omega
def KY (op:BinOp)(k:IntKind)(m n:Int):Option PV:=
 match op with
 |.add=>some (.int k (k.wrap (m+n)))
 |.sub=>some (.int k (k.wrap (m-n)))
 |.mul=>some (.int k (k.wrap (m*n)))
 |.and=>some (.int k (bits .and k m n))
 |.or=>some (.int k (bits .or k m n))
 |.xor=>some (.int k (bits .xor k m n))
 |.andNot=>some (.int k (bits .andNot k m n))
 |.eql=>some (.bool (m==n))
 |.neq=>some (.bool (m != n))
 |.lss=>some (.bool (decide (m<n)))
 |.leq=>some (.bool (decide (m<=n)))
 |.gtr=>some (.bool (decide (m>n)))
 |.geq=>some (.bool (decide (m>=n)))
 |_=>none
theorem Gr {op:BinOp}{m n:Int}{r:PV}(h:KY op k m n=some r)(t:TypeId)(I:Nat->Prop)(w:World) :
  ∃v,(binOp op t (.int k m) (.int k n)).run P w=.ok v w/\fA I w r v:=by
 cases op <;>simp only[KY,Option.some.injEq,reduceCtorEq]at h <;>subst h
 case and=>exact⟨.int k (bits .and k m n),by simp[binOp,Op.intBits,bits],.int (cS _ _)⟩
 case or=>exact⟨.int k (bits .or k m n),by simp[binOp,Op.intBits,bits],.int (cS _ _)⟩
 case xor=>exact⟨.int k (bits .xor k m n),by simp[binOp,Op.intBits,bits],.int (cS _ _)⟩
 case andNot=>exact⟨.int k (bits .andNot k m n),by simp[binOp,Op.intBits,bits],.int (cS _ _)⟩
 all_goals simp[binOp,Op.intArith,Op.intCmp]
 all_goals first
  |exact .bool
  |exact .int (cS k _)
theorem aa.bin {op:BinOp}{t t':TypeId}{x y:Operand}{k:IntKind}{m n:Int}{r:PV}(ho:o.op=.binOp op t x y t')(hx:bf env x=some (.p (.int k m)))
  (hy:bf env y=some (.p (.int k n))) (h:KY op k m n=some r):aa P o env H (Is (.p r) H):=
 aa.val fun a w μ I _ he=>by
  have h1:=(bE (he.ev (x:=x) (by simp[ho,Op.operands]) hx)).1;have h2:=(bE (he.ev (x:=y) (by simp[ho,Op.operands]) hy)).1;obtain⟨v,hv,hr⟩:=Gr (P:=P) h t I w;exact⟨v,by simp[execOp,ho,h1,h2,hv,eqGuard_at_int],.p hr⟩
theorem aa.rem {t t':TypeId}{x y:Operand}{k:IntKind}{m n:Int}(ho:o.op=.binOp .rem t x y t')(hx:bf env x=some (.p (.int k m)))
  (hy:bf env y=some (.p (.int k n))) (h:n≠0):aa P o env H (Is (.p (.int k (m.tmod n))) H):=
 aa.val fun a w μ I _ he=>by
  obtain⟨h1,h1'⟩:=bE (he.ev (x:=x) (by simp[ho,Op.operands]) hx);have h2:=(bE (he.ev (x:=y) (by simp[ho,Op.operands]) hy)).1;refine⟨.int k (m.tmod n),by simp[execOp,ho,h1,h2,eqGuard_at_int,binOp,Op.intDiv,h],.p (.int ?_)⟩;unfold aU at *
  have hk:k.min<=0/\0<=k.max:=by unfold IntKind.min IntKind.max;cases k <;>simp[signed,IntKind.bits]
  rcases le_total 0 m with hm|hm
  ·have:=Int.tmod_nonneg n hm
   have h3:m.tmod n<=m:=by
    have e:=Int.tmod_add_mul_tdiv m n
    have:0<=n*m.tdiv n:=by
     rcases le_total 0 n with hn|hn
     ·exact Int.mul_nonneg hn<|Int.tdiv_nonneg hm hn
     ·have:m.tdiv n<=0:=Int.tdiv_nonpos_of_nonneg_of_nonpos hm hn;exact Int.mul_nonneg_of_nonpos_of_nonpos hn this
    omega
   omega
  ·have e:=Int.neg_tmod (a:= -m) (b:=n);rw[Int.neg_neg]at e;have h0:=Int.tmod_nonneg n (show 0≤-m by omega)
   have h3:(-m).tmod n≤-m:=by
    have e:=Int.tmod_add_mul_tdiv (-m) n
    have:0<=n*(-m).tdiv n:=by
     rcases le_total 0 n with hn|hn
     ·exact Int.mul_nonneg hn<|Int.tdiv_nonneg (by omega) hn
     ·have:(-m).tdiv n<=0:=Int.tdiv_nonpos_of_nonneg_of_nonpos (by omega) hn;exact Int.mul_nonneg_of_nonpos_of_nonpos hn this
    omega
   omega
theorem aa.quo {t t':TypeId}{x y:Operand}{k:IntKind}{m n:Int}(ho:o.op=.binOp .quo t x y t')(hx:bf env x=some (.p (.int k m)))
  (hy:bf env y=some (.p (.int k n))) (h:n≠0):aa P o env H (Is (.p (.int k (k.wrap (m.tdiv n)))) H):=
 aa.val fun a w μ I _ he=>by
  obtain⟨h1,h1'⟩:=bE (he.ev (x:=x) (by simp[ho,Op.operands]) hx);have h2:=(bE (he.ev (x:=y) (by simp[ho,Op.operands]) hy)).1;exact⟨.int k (k.wrap (m.tdiv n)),by simp[execOp,ho,h1,h2,eqGuard_at_int,binOp,Op.intDiv,h],.p (.int (cS _ _))⟩
theorem aa.shr {t t':TypeId}{x y:Operand}{k yk:IntKind}{m n:Int}(ho:o.op=.binOp .shr t x y t')(hx:bf env x=some (.p (.int k m)))
  (hy:bf env y=some (.p (.int yk n))) (h:0<=n):aa P o env H (Is (.p (.int k (m.fdiv (2 ^ (min n.toNat k.bits))))) H):=
 aa.val fun a w μ I _ he=>by
  obtain⟨h1,h1'⟩:=bE (he.ev (x:=x) (by simp[ho,Op.operands]) hx);have h2:=(bE (he.ev (x:=y) (by simp[ho,Op.operands]) hy)).1;refine⟨.int k (m.fdiv (2 ^ (min n.toNat k.bits))),by simp[execOp,ho,h1,h2,eqGuard_at_int,binOp,Op.shift,show¬n<0 by omega],.p (.int ?_)⟩;unfold aU at *
  have hk:k.min<=0/\0<=k.max:=by unfold IntKind.min IntKind.max;cases k <;>simp[signed,IntKind.bits]
  have h2p:(0:Int)<2 ^ (min n.toNat k.bits):=Int.pow_pos (by omega);generalize (2:Int) ^ (min n.toNat k.bits)=q at h2p;rw[Int.fdiv_eq_ediv_of_nonneg _ (by omega)];rcases le_total 0 m with hm|hm
  ·have:=Int.ediv_nonneg hm (show 0<=q by omega);have:=Int.ediv_le_self q hm;omega
  ·have h5:m / q<=0:=Int.ediv_nonpos_of_nonpos_of_neg hm (by omega)
   have h6:m<=m / q:=by
    rw[Int.le_ediv_iff_mul_le h2p];have h7:0<=(-m)*(q-1):=Int.mul_nonneg (by omega) (by omega)
    have h8:(-m)*(q-1)=m-m*q:=by rw[Int.mul_sub,Int.mul_one,Int.neg_mul];omega
    omega
   omega
theorem aa.compl {x:Operand}{n:Int}(ho:o.op=.unOp .xor t x)(hx:bf env x=some (.p (.int k n))) :
  aa P o env H (Is (.p (.int k (bits .xor k (if k.signed then -1 else k.max) n))) H):=
 aa.val fun a w μ I _ he=>by
  have h1:=(bE (he.ev (x:=x) (by simp[ho,Op.operands]) hx)).1;exact⟨_,by simp[execOp,ho,h1,Op.unary,Op.intBits];rfl,.p (.int (cS _ _))⟩
def GM (P:Program)(s d:TypeId)(k:IntKind):Bool:=
 (P.underlying s).isSome&&(match P.underlying d with|some (.int k')=>decide (k'=k)|_=>false)
theorem aa.convert {s d:TypeId}{x:Operand}{k k':IntKind}{n:Int}(ho:o.op=.convert s d x)(hx:bf env x=some (.p (.int k n)))(hT:GM P s d k'=true) :
  aa P o env H (Is (.p (.int k' (k'.wrap n))) H):=
 aa.val fun a w μ I _ he=>by
  have h1:=(bE (he.ev (x:=x) (by simp[ho,Op.operands]) hx)).1;simp only[GM,Bool.and_eq_true]at hT
  have hd:P.underlying d=some (.int k'):=by
   cases hu:P.underlying d with
   |none=>simp[hu]at hT
   |some q=>cases q <;>simp[hu]at hT;rw[hT.2]
  have hk:P.intKind d=k':=by simp[Program.intKind,hd]
  have:=run_convert_int (P:=P) w s d k n hT.1 (by rw[hk];exact hd);rw[hk]at this;exact⟨.int k' (k'.wrap n),by simp[execOp,ho,h1,this],.p (.int (cS _ _))⟩
theorem aa.eqlBool {x y:Operand}{a b:Bool}(ho:o.op=.binOp .eql t x y t')(hx:bf env x=some (.p (.bool a)))(hy:bf env y=some (.p (.bool b)))
  (hT:P.underlying t=some .bool):aa P o env H (Is (.p (.bool (a==b))) H):=
 aa.val fun ac w μ I _ he=>by
  have h1:=lG (he.ev (x:=x) (by simp[ho,Op.operands]) hx);have h2:=lG (he.ev (x:=y) (by simp[ho,Op.operands]) hy);exact⟨.bool (a==b),by simp only[execOp,ho,h1,h2,eqGuard_at_bool,binOp];simp[run_equal_bool w t a b hT],.p .bool⟩
def Jb :Value->Value->Option Bool |.int k a,.int k' b=>if k=k' then some (a==b)else none |_,_=>none
def cz :List Value->List Value->Option Bool
 |[],[]=>some true
 |x::xs,y::ys=>match Jb x y,cz xs ys with|some a,some b=>some (a&&b)|_,_=>none
 |_,_=>none
theorem mi :∀(n:Nat) {xs ys:List Value} {r:Bool},cz xs ys=some r->
  ∃a b,cz (xs.take n) (ys.take n)=some a/\cz (xs.drop n) (ys.drop n)=some b/\r=(a&&b)
 |0,xs,ys,r,h=>⟨true,r,by simp[cz],by simpa using h,by simp⟩
 |n+1,[],[],r,h=>⟨true,true,by simp[cz],by simp[cz],by simp[cz]at h;simp[h]⟩
 |n+1,x::xs,y::ys,r,h=>by
  simp only[cz]at h;split at h
  ·rename_i c d hc hd;cases h;obtain⟨a,b,h1,h2,h3⟩:=mi n hd;exact⟨c&&a,b,by simp[cz,hc,h1],by simpa using h2,by rw[h3,Bool.and_assoc]⟩
  ·cases h
 |n+1,[],_::_,r,h=>by simp[cz]at h
 |n+1,_::_,[],r,h=>by simp[cz]at h
theorem tV :∀{xs ys:List Value} {r:Bool},cz xs ys=some r->xs.length=ys.length
 |[],[],_,_=>rfl
 |x::xs,y::ys,r,h=>by
  simp only[cz]at h;split at h
  ·rename_i hd;simp[tV hd]
  ·cases h
 |[],_::_,r,h=>by simp[cz]at h
 |_::_,[],r,h=>by simp[cz]at h
def u9 (P:Program):Nat->TypeId->Option Nat
 |0,_=>none
 | d+1,t=>
  match P.underlying t with
  |some (.int _)=>if ((P.info? t).map (·.size))==some 1 then some 1 else none
  |some (.array n e)=>
   match u9 P d e with
   |some m=>if ((P.info? e).map (·.size))==some m&&((P.info? t).map (·.size))==some (n*m)then some (n*m)else none
   |none=>none
  | some (.struct fs)=>
   if P.stoodInHeld t then none else
   match fs.toList.foldl (fun acc f=>match acc with
    | some off => if f.name != "_" && f.offset == off then (match u9 P d f.type with | some m => some (off + m) | none => none) else none
    |none=>none) (some 0)with
   |some n=>if ((P.info? t).map (·.size))==some n then some n else none
   |none=>none
  |_=>none
theorem qQ {d:Nat}{n:Nat}(h:u9 P d t=some n):(P.info? t).map (·.size)=some n:=by
 cases d with
 |zero=>cases h
 | succ d=>
  unfold u9 at h;split at h
  ·split at h
   ·rename_i h1;cases h;simpa using h1
   ·cases h
  ·split at h
   ·split at h
    ·rename_i h1;cases h;simp only[Bool.and_eq_true,beq_iff_eq]at h1;exact h1.2
    ·cases h
   ·cases h
  ·split at h
   ·cases h
   ·split at h
    ·split at h
     ·rename_i h1;cases h;simpa using h1
     ·cases h
    ·cases h
  ·cases h
def i3 (P:Program)(t:TypeId)(xs:List Value):Value:=
 match P.underlying t with
 |some (.struct _)=>.agg xs.toArray
 |some (.array _ _)=>.agg xs.toArray
 |_=>xs.headD undef
theorem nz {d:Nat}(h:u9 P d t=some m)(w:World)(xs:Array Value)(off:Nat)(hl:off+m<=xs.size:=by omega) :
  (part t xs off).run P w=.ok (i3 P t ((xs.toList.drop off).take m)) w:=by
 have hsz:=qQ h
 have hso:(sizeOf t).run P w=.ok m w:=by
  cases hi:P.info? t with
  |none=>simp[hi]at hsz
  |some i=>simp[hi]at hsz;simp[sizeOf,typeInfo,hi,hsz]
 have hex:∀n,xs.extract off (off+n)=((xs.toList.drop off).take n).toArray:=by
  intro n;apply Array.ext';simp[List.extract_eq_take_drop]
 cases d with
 |zero=>cases h
 | succ d=>
  unfold u9 at h;unfold part i3 isAgg
  cases hu:P.underlying t with
  |none=>simp[hu]at h
  | some q=>
   cases q with
   | int k=>
    simp[hu]at h;obtain⟨-,rfl⟩:=h;have hg:xs[off]?=some xs[off]:=Array.getElem?_eq_getElem (by omega)
    have he:(xs.toList.drop off).take 1=[xs[off]]:=by
     rw[List.drop_eq_getElem_cons (by simpa using(show off<xs.size by omega))];simp
    simp[run_underlying hu,hg,he]
   |array n e=>simp[run_underlying hu,hso,hex]
   |struct fs=>simp[run_underlying hu,hso,hex]
   |_=>simp[hu]at h
theorem qi {D:Nat}{e:TypeId}{m:Nat}
  (ih:∀(w:World) (xs ys:List Value) (r:Bool),xs.length=m->cz xs ys=some r->(Op.equalIn D e (i3 P e xs) (i3 P e ys)).run P w=.ok r w)
  (hp:∀(w:World) (xs:Array Value) (off:Nat),off+m<=xs.size->(part e xs off).run P w=.ok (i3 P e ((xs.toList.drop off).take m)) w) (hc:P.cellsOf e=m)
  (w:World) (xs ys:Array Value):∀(k s:Nat) (r:Bool),s*m+k*m=xs.size->xs.size=ys.size->cz (xs.toList.drop (s*m)) (ys.toList.drop (s*m))=some r->
   (Op.eqItems D e (P.cellsOf e) xs ys (range' s k)).run P w=.ok r w
 |0,s,r,h1,h2,h3=>by
  rw[drop_eq_nil_of_le (by simp;omega),drop_eq_nil_of_le (by simp;omega)]at h3;simp[cz]at h3;subst h3;simp[Op.eqItems]
 |k+1,s,r,h1,h2,h3=>by
  have hm:s*m+m<=xs.size:=by rw[<-h1,add_mul];omega
  obtain⟨a,b,ha,hb,rfl⟩:=mi m h3;rw[drop_drop,drop_drop]at hb
  have hs1:(s+1)*m=s*m+m:=by rw[add_mul,Nat.one_mul]
  rw[<-hs1]at hb;have hrec:=qi ih hp hc w xs ys k (s+1) b (by rw[hs1,<-h1,add_mul];omega) h2 hb;have hx:=ih w _ _ a (by rw[length_take,length_drop,Array.length_toList];omega) ha;rw[List.range'_succ];simp only[Op.eqItems,Sem.run_bind,hc,hp w xs _ hm,hp w ys (s*m) (by omega),Result.andThen_ok,hx];rw[hc]at hrec;cases a
  ·simp
  ·simpa using hrec
theorem oy {D d:Nat}
  (ih:∀{t:TypeId} {m:Nat},u9 P d t=some m->∀(w:World) (xs ys:List Value) (r:Bool),xs.length=m->cz xs ys=some r->(Op.equalIn D t (i3 P t xs) (i3 P t ys)).run P w=.ok r w)
  (w:World) (xs ys:Array Value):∀(fs:List Field) (s n:Nat) (r:Bool),
   fs.foldl (fun acc f=>match acc with
    | some off => if f.name != "_" && f.offset == off then (match u9 P d f.type with | some m => some (off + m) | none => none) else none
    |none=>none) (some s)=some n->n=xs.size->xs.size=ys.size->cz (xs.toList.drop s) (ys.toList.drop s)=some r->
   (Op.eqFields D xs ys fs).run P w=.ok r w
 |[],s,n,r,h0,h1,h2,h3=>by
  simp at h0;subst h0;rw[drop_eq_nil_of_le (by simp;omega),drop_eq_nil_of_le (by simp;omega)]at h3;simp[cz]at h3;subst h3;simp[Op.eqFields]
 | f ::fs,s,n,r,h0,h1,h2,h3=>by
  have none_fold:∀(fs:List Field),fs.foldl (fun acc f=>match acc with
    | some off => if f.name != "_" && f.offset == off then (match u9 P d f.type with | some m => some (off + m) | none => none) else none
    |none=>none) none=none:=by
   intro fs
   induction fs with
   |nil=>rfl
   |cons f fs ih=>simpa using ih
  have mono:∀(fs:List Field) (s n:Nat),fs.foldl (fun acc f=>match acc with
    | some off => if f.name != "_" && f.offset == off then (match u9 P d f.type with | some m => some (off + m) | none => none) else none
    |none=>none) (some s)=some n->s<=n:=by
   intro fs
   induction fs with
   |nil=>intro s n h;simp at h;omega
   | cons f fs ih=>
    intro s n h;rw[foldl_cons]at h;dsimp only at h;split at h
    ·split at h
     ·have:=ih _ _ h;omega
     ·rw[none_fold]at h;cases h
    ·rw[none_fold]at h;cases h
  rw[foldl_cons]at h0;dsimp only at h0;split at h0
  ·rename_i hnm;simp only[Bool.and_eq_true,bne_iff_ne,ne_eq,beq_iff_eq]at hnm;split at h0
   ·rename_i m hm;have hle:=mono _ _ _ h0;obtain⟨a,b,ha,hb,rfl⟩:=mi m h3;rw[drop_drop,drop_drop]at hb;have hrec:=oy ih w xs ys fs (s+m) n b h0 h1 h2 hb;have hx:=ih hm w _ _ a (by rw[length_take,length_drop,Array.length_toList];omega) ha;have p1:=nz hm w xs s;have p2:=nz hm w ys s;simp only[Op.eqFields,hnm.1,hnm.2,ne_eq,not_false_eq_true,if_true,Sem.run_bind,p1,p2,Result.andThen_ok,hx];cases a
    ·simp
    ·simpa using hrec
   ·rw[none_fold]at h0;cases h0
  ·rw[none_fold]at h0;cases h0
theorem rU :∀{d:Nat} {t:TypeId} {n:Nat},u9 P d t=some n->∀(D:Nat),d<=D->∀(w:World) (xs ys:List Value) (r:Bool),xs.length=n->cz xs ys=some r->
  (Op.equalIn D t (i3 P t xs) (i3 P t ys)).run P w=.ok r w:=by
 intro d
 induction d with
 |zero=>intro t n h;cases h
 | succ d ih=>
  intro t n h D hD w xs ys r hl hr;obtain⟨D,rfl⟩:∃E,D=E+1:=⟨D-1,by omega⟩;have hyl:=tV hr;have hsz:=qQ h;unfold u9 at h;unfold i3
  cases hu:P.underlying t with
  |none=>simp[hu]at h
  | some q=>
   cases q with
   | int k=>
    simp[hu]at h;obtain⟨-,rfl⟩:=h
    match xs,ys,hl,hyl with
    | [x],[y],_,_=>
     simp only[cz]at hr;split at hr
     ·rename_i a b ha hb;cases hb;cases hr;unfold Jb at ha;split at ha
      ·split at ha
       ·cases ha;rename_i hk;subst hk;simp[Op.equalIn,run_underlying hu]
       ·cases ha
      ·cases ha
     ·cases hr
   | array len e=>
    simp only[hu]at h;split at h
    ·rename_i m hm;split at h
     ·rename_i hs;cases h;have hse:=qQ hm
      obtain⟨i,hi⟩:∃i,P.info? e=some i:=by
       cases hi:P.info? e with
       |none=>simp[hi]at hse
       |some i=>exact⟨i,rfl⟩
      have hc:P.cellsOf e=m:=by simp[Program.cellsOf,hse]
      dsimp only;rw[run_equalIn_array w D _ _ hu hi,List.range_eq_range']
      exact qi (fun w xs ys r hl hr=>ih hm D (by omega) w xs ys r hl hr) (fun w xs off hle=>nz hm w xs off hle) hc w xs.toArray ys.toArray len 0 r
       (by simp;omega) (by simp;omega) (by simpa using hr)
     ·cases h
    ·cases h
   | struct fs=>
    simp only[hu]at h;split at h
    ·cases h
    ·rename_i hst;split at h
     ·rename_i n' hf;split at h
      ·cases h;dsimp only
       have hfo:P.fieldsOf t=fs:=by simp[Program.fieldsOf,hu]
       rw[run_equalIn_struct w D t _ _ (by rw[hfo];exact hu) (by simpa using hst),hfo];exact oy (fun hm w xs ys r hl hr=>ih hm D (by omega) w xs ys r hl hr) w xs.toArray ys.toArray fs.toList 0 n r hf (by simp;omega) (by simp;omega) (by simpa using hr)
      ·cases h
     ·cases h
   |_=>simp[hu]at h
def dc :List PV->List PV->Option Bool
 |[],[]=>some true
 |.int k a::xs,.int k' b::ys=>if k=k' then(match dc xs ys with|some r=>some ((a==b)&&r)|none=>none)else none
 |_,_=>none
theorem i6 {I:Nat->Prop}{w:World}:∀{ps qs:List PV} {r:Bool} {xs ys:List Value},dc ps qs=some r->xs.length=ps.length->ys.length=qs.length->
  (∀(i:Nat) c v,ps[i]?=some c->xs[i]?=some v->fA I w c v)->(∀(i:Nat) c v,qs[i]?=some c->ys[i]?=some v->fA I w c v)->cz xs ys=some r
 |[],[],r,xs,ys,h,hx,hy,_,_=>by
  simp[dc]at h;subst h;obtain rfl:=List.length_eq_zero_iff.1 hx;obtain rfl:=List.length_eq_zero_iff.1 hy;rfl
 | .int k a::ps,.int k' b::qs,r,x::xs,y::ys,h,hx,hy,h1,h2=>by
  simp only[dc]at h;split at h
  ·rename_i hk;split at h
   ·rename_i r' hr;cases h;have e1:=h1 0 _ x rfl rfl;have e2:=h2 0 _ y rfl rfl;cases e1;cases e2
    have:=i6 (xs:=xs) (ys:=ys) hr (by simpa using hx) (by simpa using hy) (fun i c v hc hv=>h1 (i+1) c v (by simpa using hc) (by simpa using hv))
     (fun i c v hc hv=>h2 (i+1) c v (by simpa using hc) (by simpa using hv))
    simp[cz,Jb,hk,this]
   ·cases h
  ·cases h
 |.int _ _::_,_,_,[],_,_,hx,_,_,_=>by simp at hx
 |.int _ _::_,.int _ _::_,_,_::_,[],_,_,hy,_,_=>by simp at hy
 |[],_::_,_,_,_,h,_,_,_,_=>by simp[dc]at h
 |.int _ _::_,[],_,_,_,h,_,_,_,_=>by simp[dc]at h
 |.int _ _::_,.bool _::_,_,_,_,h,_,_,_,_=>by simp[dc]at h
 |.int _ _::_,.agg _::_,_,_,_,h,_,_,_,_=>by simp[dc]at h
 |.int _ _::_,.slice _ _::_,_,_,_,h,_,_,_,_=>by simp[dc]at h
 |.bool _::_,_,_,_,_,h,_,_,_,_=>by simp[dc]at h
 |.agg _::_,_,_,_,_,h,_,_,_,_=>by simp[dc]at h
 |.slice _ _::_,_,_,_,_,h,_,_,_,_=>by simp[dc]at h
def ni (P:Program)(t:TypeId)(n:Nat):Bool:=u9 P 9 t==some n&&va P t n&& !P.eqGuardType P.depth t
theorem kN {n:Nat}(hT:ni P t n=true)(w:World){xs ys:Array Value}{r:Bool}(hl:xs.size=n)(h:cz xs.toList ys.toList=some r) :
  (Op.equal t (.agg xs) (.agg ys)).run P w=.ok r w:=by
 simp only[ni,Bool.and_eq_true,beq_iff_eq]at hT;have:=rU hT.1.1 Op.maxDepth (by decide) w xs.toList ys.toList r (by simpa using hl) h
 have e:∀(zs:Array Value),i3 P t zs.toList=.agg zs:=by
  intro zs;have h2:=hT.1.2;unfold va at h2;unfold i3
  cases hu:P.underlying t with
  |none=>simp[hu]at h2
  |some q=>cases q <;>simp[hu]at h2 <;>simp
 rw[e,e]at this;exact this
theorem qH {μ:List ci}{cs:List PV}(h:aH μ I w (.p (.agg cs)) v) :
  ∃vs:Array Value,v=.agg vs/\vs.size=cs.length/\(∀c∈cs,c.one)/\∀(i:Nat) c u,cs[i]?=some c->vs[i]?=some u->fA I w c u:=by
 cases h with
 |p h=>cases h with|agg hl ho h=>exact⟨_,rfl,hl,ho,h⟩
theorem mI {n:Nat}(hT:ni P t n=true)(op:BinOp)(x y:Operand)(w:World)(xs ys:Array Value):(eqGuard op t x y (.agg xs) (.agg ys)).run P w=.ok () w:=by
 simp only[ni,Bool.and_eq_true]at hT
 have h3:P.eqGuardType P.depth t=false:=by simpa using hT.2
 cases op <;>simp[eqGuard,h3]
theorem aa.eqlAgg {x y:Operand}{ps qs:List PV}{n:Nat}{r:Bool}(ho:o.op=.binOp .eql t x y t')(hx:bf env x=some (.p (.agg ps)))(hy:bf env y=some (.p (.agg qs)))
  (h:dc ps qs=some r) (hn:ps.length=n) (hT:ni P t n=true):aa P o env H (Is (.p (.bool r)) H):=
 aa.val fun ac w μ I _ he=>by
  obtain⟨xs,e1,hl1,-,h1⟩:=qH (he.ev (x:=x) (by simp[ho,Op.operands]) hx);obtain⟨ys,e2,hl2,-,h2⟩:=qH (he.ev (x:=y) (by simp[ho,Op.operands]) hy);have hv:cz xs.toList ys.toList=some r:=i6 h (by simpa using hl1) (by simpa using hl2) (fun i c v hc hv=>h1 i c v hc (by simpa using hv)) (fun i c v hc hv=>h2 i c v hc (by simpa using hv));refine⟨.bool r,?_,.p .bool⟩;simp only[execOp,ho,e1,e2];simp[mI hT,binOp,kN hT w (by omega) hv]
theorem aa.neqAgg {x y:Operand}{ps qs:List PV}{n:Nat}{r:Bool}(ho:o.op=.binOp .neq t x y t')(hx:bf env x=some (.p (.agg ps)))(hy:bf env y=some (.p (.agg qs)))
  (h:dc ps qs=some r) (hn:ps.length=n) (hT:ni P t n=true):aa P o env H (Is (.p (.bool (!r))) H):=
 aa.val fun ac w μ I _ he=>by
  obtain⟨xs,e1,hl1,-,h1⟩:=qH (he.ev (x:=x) (by simp[ho,Op.operands]) hx);obtain⟨ys,e2,hl2,-,h2⟩:=qH (he.ev (x:=y) (by simp[ho,Op.operands]) hy);have hv:cz xs.toList ys.toList=some r:=i6 h (by simpa using hl1) (by simpa using hl2) (fun i c v hc hv=>h1 i c v hc (by simpa using hv)) (fun i c v hc hv=>h2 i c v hc (by simpa using hv));refine⟨.bool (!r),?_,.p .bool⟩;simp only[execOp,ho,e1,e2];simp[mI hT,binOp,kN hT w (by omega) hv]
end
def br {α:Type}:List α->Nat->Option α |[],_=>none |x::_,0=>some x |_::r,n+1=>br r n
theorem bj {α:Type}:∀(l:List α) (n:Nat),br l n=l[n]?
 |[],n=>by simp[br]
 |x::r,0=>by simp[br]
 |x::r,n+1=>by simp[br,bj r n]
def kC {α:Type}:List α->Nat->Option (List α)
 |_,0=>some []
 |[],_+1=>none
 |x::r,n+1=>match kC r n with|some s=>some (x::s)|none=>none
theorem lQ {α:Type}:∀{l:List α} {n:Nat} {s:List α},kC l n=some s->s=l.take n/\n<=l.length
 |l,0,s,h=>by simp[kC]at h;subst h;simp
 |[],n+1,s,h=>by simp[kC]at h
 |x::r,n+1,s,h=>by
  simp only[kC]at h;split at h
  ·rename_i q hq;cases h;obtain⟨h1,h2⟩:=lQ hq;exact⟨by simp[h1],by simp;omega⟩
  ·cases h
def sM {α:Type}:List α->Nat->Nat->Option (List α) |l,0,n=>kC l n |[],_+1,_=>none |_::r,o+1,n=>sM r o n
theorem s8 {α:Type}:∀{l:List α} {o n:Nat} {s:List α},sM l o n=some s->s=(l.drop o).take n/\(0<n->o+n<=l.length)/\s.length=n/\o<=l.length
 | l,0,n,s,h=>by
  cases l with
  |nil=>cases n with
   |zero=>simp[sM,kC]at h;subst h;simp
   |succ n=>simp[sM,kC]at h
  |cons x r=>
   have h':kC (x::r) n=some s:=h;obtain⟨h1,h2⟩:=lQ h';subst h1;exact⟨rfl,fun _=>by omega,by simp at h2⊢;omega,by simp⟩
 |[],o+1,n,s,h=>by simp[sM]at h
 |x::r,o+1,n,s,h=>by
  obtain⟨h1,h2,h3,h4⟩:=s8 (show sM r o n=some s from h);exact⟨by simpa using h1,fun hn=>by have:=h2 hn;simp;omega,h3,by simp;omega⟩
theorem Az {l:List α}{o n:Nat}{s:List α}(h:sM l o n=some s){x:α}(hx:s[i]?=some x):l[o+i]?=some x/\i<n:=by
 obtain⟨h1,-,-,-⟩:=s8 h;subst h1;rw[getElem?_take]at hx;split at hx
 ·rename_i hlt;rw[getElem?_drop]at hx;exact⟨hx,hlt⟩
 ·cases hx
def bK {α:Type}:List α->Nat->α->Option (List α)
 |[],_,_=>none
 |_::r,0,y=>some (y::r)
 |x::r,n+1,y=>match bK r n y with|some s=>some (x::s)|none=>none
theorem bH {α:Type}:∀{l:List α} {n:Nat} {y:α} {s:List α},bK l n y=some s->s=l.set n y/\n<l.length
 |[],_,_,_,h=>by simp[bK]at h
 |x::r,0,y,s,h=>by simp[bK]at h;subst h;simp
 |x::r,n+1,y,s,h=>by
  simp only[bK]at h;split at h
  ·rename_i q hq;cases h;obtain⟨h1,h2⟩:=bH hq;exact⟨by simp[h1],by simp;omega⟩
  ·cases h
def uu {α:Type}:List α->List α->Option (List α)
 |l,[]=>some l
 |[],_::_=>none
 |_::r,y::ys=>match uu r ys with|some s=>some (y::s)|none=>none
def uD {α:Type}:List α->Nat->List α->Option (List α)
 |l,0,ys=>uu l ys
 |[],_+1,_=>none
 |x::r,o+1,ys=>match uD r o ys with|some s=>some (x::s)|none=>none
theorem Aj {α:Type}:∀{l ys s:List α},uu l ys=some s->s=ys++l.drop ys.length/\ys.length<=l.length
 |l,[],s,h=>by cases l <;>simp[uu]at h <;>subst h <;>simp
 |[],y::ys,s,h=>by simp[uu]at h
 |x::r,y::ys,s,h=>by
  simp only[uu]at h;split at h
  ·rename_i q hq;cases h;obtain⟨h1,h2⟩:=Aj hq;exact⟨by simp[h1],by simpa using h2⟩
  ·cases h
theorem s6 {α:Type}:∀{l:List α} {o:Nat} {ys s:List α},uD l o ys=some s->s=l.take o++ys++l.drop (o+ys.length)/\o+ys.length<=l.length
 |l,0,ys,s,h=>by
  have h':uu l ys=some s:=by cases l <;>exact h
  obtain⟨h1,h2⟩:=Aj h';exact⟨by simp[h1],by omega⟩
 |[],o+1,ys,s,h=>by simp[uD]at h
 |x::r,o+1,ys,s,h=>by
  simp only[uD]at h;split at h
  ·rename_i q hq;cases h;obtain⟨h1,h2⟩:=s6 hq;refine⟨?_,by simp;omega⟩;rw[h1,show o+1+ys.length=(o+ys.length)+1 by omega];simp
  ·cases h
def jF {α:Type}:List α->α->Option (List α)
 |[],y=>some [y]
 |x::r,y=>match jF r y with|some s=>some (x::s)|none=>none
theorem dC {α:Type}:∀{l:List α} {y:α} {s:List α},jF l y=some s->s=l++[y]
 |[],y,s,h=>by simp[jF]at h;subst h;rfl
 |x::r,y,s,h=>by
  simp only[jF]at h;split at h
  ·rename_i q hq;cases h;simp[dC hq]
  ·cases h
def dq {α:Type}:List α->Option Nat
 |[]=>some 0
 |_::r=>match dq r with|some n=>some (n+1)|none=>none
theorem cd {α:Type}:∀{l:List α} {n:Nat},dq l=some n->n=l.length
 |[],n,h=>by simp[dq]at h;subst h;rfl
 |x::r,n,h=>by
  simp only[dq]at h;split at h
  ·rename_i q hq;cases h;simp[cd hq]
  ·cases h
def ow :List PV->Option (List LV)
 |[]=>some []
 |x::r=>match ow r with|some s=>some (.p x::s)|none=>none
theorem jc :∀{l:List PV} {s:List LV},ow l=some s->s=l.map .p
 |[],s,h=>by simp[ow]at h;subst h;rfl
 |x::r,s,h=>by
  simp only[ow]at h;split at h
  ·rename_i q hq;cases h;simp[jc hq]
  ·cases h
def wC :LV->Option (List LV) |.agg cs=>some cs |.p (.agg ps)=>ow ps |_=>none
def iX :LV->Option (List LV) |.agg cs=>some cs |.p (.agg ps)=>ow ps |.p (.int k n)=>some [.p (.int k n)] |.p (.bool b)=>some [.p (.bool b)] |.p (.slice m xs)=>some [.p (.slice m xs)] |.tup _=>none |.any=>none |x=>some [x]
def IT (cs:List LV):Option LV:=match jE cs with|some xs=>some (.p (.agg xs))|none=>some (.agg cs)
theorem wx {cs:List LV}{x:LV}(h:IT cs=some x):x=uq cs:=by
 unfold IT at h;unfold uq;split at h <;>simp_all
def uN (agg:Bool)(cs:List LV):Option LV:=
 match agg with
 |true=>IT cs
 |false=>match cs with|[x]=>some x|_=>none
section
variable {μ : List ci} {I : Nat -> Prop} {w : World}
theorem tO {x:LV}{cs:List LV}(h:wC x=some cs)(hr:aH μ I w x v) :
  ∃vs:Array Value,v=.agg vs/\vs.size=cs.length/\(∀u∈vs,eT u=true)/\∀(i:Nat) c u,cs[i]?=some c->vs[i]?=some u->aH μ I w c u:=by
 unfold wC at h;split at h
 ·cases h
  cases hr with
  |agg hl ho hr=>exact⟨_,rfl,hl,ho,hr⟩
 ·rename_i ps;have e:=jc h;subst e;obtain⟨vs,rfl,hl,ho,hr⟩:=qH hr
  have hp:∀(i:Nat) c u,(List.map LV.p ps)[i]?=some c->vs[i]?=some u->aH μ I w c u:=fun i c u hc hu=>by
   rw[getElem?_map]at hc
   cases hx:ps[i]? with
   |none=>rw[hx]at hc;cases hc
   |some y=>rw[hx]at hc;cases hc;exact .p (hr i y u hx hu)
  refine⟨vs,rfl,by simpa using hl,fun u hu=>?_,hp⟩;obtain⟨i,hi,rfl⟩:=Array.mem_iff_getElem.1 hu;have hc:ps[i]?=some (ps[i]'(by omega)):=getElem?_eq_getElem (by omega);exact(hr i _ _ hc (Array.getElem?_eq_getElem hi)).one (ho _ (List.getElem_mem _))
 ·cases h
theorem jG {x:LV}{cs:List LV}(h:iX x=some cs)(hr:aH μ I w x v) :
  v.cells.size=cs.length/\(∀u∈v.cells,eT u=true)/\∀(i:Nat) c u,cs[i]?=some c->v.cells[i]?=some u->aH μ I w c u:=by
 have single:∀{y:LV} {v:Value},aH μ I w y v->eT v=true->v.cells.size=[y].length/\(∀u∈v.cells,eT u=true)/\∀(i:Nat) c u,[y][i]?=some c->v.cells[i]?=some u->aH μ I w c u:=by
  intro y v hr ho
  have e:v.cells=#[v]:=by cases v <;>simp_all [Value.cells,eT]
  rw[e];refine⟨rfl,fun u hu=>by simp at hu;subst hu;exact ho,fun i c u hc hu=>?_⟩
  cases i with
  |zero=>simp at hc hu;subst hc;subst hu;exact hr
  |succ i=>simp at hc
 unfold iX at h;split at h
 ·obtain⟨vs,rfl,h1,h2,h3⟩:=tO (show wC (.agg _)=some cs from h) hr;exact⟨h1,h2,h3⟩
 ·obtain⟨vs,rfl,h1,h2,h3⟩:=tO (show wC (.p (.agg _))=some cs from h) hr;exact⟨h1,h2,h3⟩
 ·cases h;exact single hr (by cases hr with|p h=>cases h;rfl)
 ·cases h;exact single hr (by cases hr with|p h=>cases h;rfl)
 ·cases h;exact single hr (by cases hr with|p h=>cases h;rfl)
 ·cases h
 ·cases h
 ·rename_i h1 h2 h3 h4 h5 h6 h7;cases h;refine single hr ?_
  cases hr with
  |p h=>cases h with
   |int=>exact absurd rfl (h3 _ _)
   |bool=>exact absurd rfl (h4 _)
   |agg=>exact absurd rfl (h2 _)
   |slice=>exact absurd rfl (h5 _ _)
  |agg=>exact absurd rfl (h1 _)
  |tup=>exact absurd rfl (h6 _)
  |any=>exact absurd rfl h7
  |vec _ h1=>exact h1
  |vptr _ h1=>exact h1
  |_=>rfl
theorem r6 {agg:Bool}{cs:List LV}{x:LV}(h:uN agg cs=some x)(hl:vs.size=cs.length)(ho:∀u∈vs,eT u=true)
  (hr:∀(i:Nat) c u,cs[i]?=some c->vs[i]?=some u->aH μ I w c u):aH μ I w x (if agg then .agg vs else vs.getD 0 undef):=by
 unfold uN at h;split at h
 ·rw[wx h];exact lH hl ho hr
 ·split at h
  ·cases h
   have hl0:0<vs.size:=by simp at hl;omega
   have h0:vs[0]?=some vs[0]:=Array.getElem?_eq_getElem hl0;have:=hr 0 _ _ rfl h0;simpa [h0]using this
  ·cases h
end
def bl (P:Program)(t:TypeId):Option (Nat×Bool):=
 match P.underlying t,(P.info? t).map (·.size)with
 |some (.struct _),some n=>some (n,true)
 |some (.array _ _),some n=>some (n,true)
 |some _,some n=>if n==1 then some (1,false)else none
 |_,_=>none
def aB (P:Program)(s:TypeId)(i:Nat):Option (Nat×Nat×Bool):=
 match P.underlying s with
 |some (.struct fs)=>match fs[i]? with
  |some f=>match bl P f.type with|some (n,a)=>if n==0 then none else some (f.offset,n,a)|none=>none
  |none=>none
 |_=>none
section
variable {P : Program} {w : World}
theorem dk {n:Nat}{a:Bool}(h:bl P t=some (n,a)):(isAgg t).run P w=.ok a w/\(sizeOf t).run P w=.ok n w/\(a=false->n=1):=by
 unfold bl at h
 have hs:∀m,(P.info? t).map (·.size)=some m->(sizeOf t).run P w=.ok m w:=fun m hm=>by
  cases hi:P.info? t with
  |none=>simp[hi]at hm
  |some i=>simp[hi]at hm;simp[sizeOf,typeInfo,hi,hm]
 split at h
 ·rename_i hu hm;cases h;exact⟨by simp[isAgg,run_underlying hu],hs _ hm,by simp⟩
 ·rename_i hu hm;cases h;exact⟨by simp[isAgg,run_underlying hu],hs _ hm,by simp⟩
 ·rename_i d m h1 h2 hu hm;split at h
  ·rename_i he;cases h;simp only[beq_iff_eq]at he;subst he;refine⟨?_,hs _ hm,by simp⟩;unfold isAgg;simp only[Sem.run_bind,run_underlying hu,Result.andThen_ok];cases d <;>simp_all
  ·cases h
 ·cases h
theorem kz {n:Nat}{a:Bool}(h:bl P t=some (n,a))(b o:Nat)(f:Nat->Value)(hc:∀i,i<n->w.cell? ⟨b,o+i,none⟩=some (f i)) :
  (loadVar t ⟨b,o,none⟩).run P w=.ok (if a then .agg ((range n).map f).toArray else f 0) w:=by
 obtain⟨h1,h2,h3⟩:=dk (w:=w) h;unfold loadVar;simp only[Sem.run_bind,h1,Result.andThen]
 cases a with
 |true=>
  simp only[if_true,Sem.run_bind,h2,Result.andThen];rw[run_loadCells w ⟨b,o,none⟩ n f (fun j hj=>by rw[dX];exact hc j hj)];rfl
 |false=>
  have:=h3 rfl;subst this;have h0:=hc 0 (by omega);simp only[add_zero]at h0;simp[load,Sem.run,h0]
end
theorem mj {i off n:Nat}(h:aB P s i=some (off,n,ag)) :
  ∃fs f,P.underlying s=some (.struct fs)/\fs[i]?=some f/\off=f.offset/\(sizeOf f.type).run P w=.ok n w/\n≠0:=by
 unfold aB at h;split at h
 ·rename_i fs hu;split at h
  ·rename_i f hf;split at h
   ·rename_i n' a hv;split at h
    ·cases h
    ·rename_i hn;cases h;exact⟨fs,f,hu,hf,rfl,(dk hv).2.1,by simpa using hn⟩
   ·cases h
  ·cases h
 ·cases h
section
variable {μ : List ci} {I : Nat -> Prop} {w : World} {H : List ab}
theorem mq {l:List α}{x:α}(h:x∈l):∃i:Nat,l[i]?=some x:=by
 obtain⟨i,hi,e⟩:=mem_iff_getElem.1 h;exact⟨i,by rw[getElem?_eq_getElem hi,e]⟩
theorem gC.get {μ:List ci}{b:Nat}(h:gC μ b):∃(i n:Nat),μ[i]?=some ⟨some b,n⟩:=let ⟨n,hm⟩:=h;let ⟨i,hi⟩:=mq hm;⟨i,n,hi⟩
theorem gC.mk {μ:List ci}{b i n:Nat}(h:μ[i]?=some ⟨some b,n⟩):gC μ b:=⟨n,mem_of_getElem? h⟩
theorem gC.of {μ:List ci}{i b:Nat}{B:ci}(h:μ[i]?=some B)(hb:B.b=some b):gC μ b:=⟨B.n,by rw[<-hb];exact mem_of_getElem? h⟩
theorem St.push (hs:St μ I w H)(b:Obj)(o:ab)(n:Nat)(ho:∀μ' w',cI μ.length μ I w μ' I w'->w'.heap[w.heap.size]?=some b->dN μ' I w' o ⟨some w.heap.size,n⟩) :
    St (μ++[⟨some w.heap.size,n⟩]) I (w.alloc b) (H++[o])/\cI μ.length μ I w (μ++[⟨some w.heap.size,n⟩]) I (w.alloc b):=by
  have hE:cI μ.length μ I w (μ++[⟨some w.heap.size,n⟩]) I (w.alloc b):=
    { get:=fun i B hi hc=>⟨B,by rw[List.getElem?_append_left hi];exact hc,le_refl _,fun _=>.inl rfl,fun _ _=>rfl⟩
      len:=le_refl _
      len':=by simp
      os:=rfl
      tape:=rfl
      output:=rfl
      size:=by simp
      imm:=fun c hc=>⟨hc,heap_alloc_old w b (hs.ilt c hc)⟩
      shape:=fun c cs e f hc=>⟨cs,by rw[heap_alloc_old w b (Array.getElem?_eq_some_iff.1 hc).1];exact hc,rfl⟩
      inew:=fun _ h=>.inl h
      mnew:=fun c ⟨q,hc⟩=>by
        rcases mem_append.1 hc with h|h
        · exact .inl ⟨q,h⟩
        · simp at h;exact .inr (by omega)
      keep:=fun c hc _=>heap_alloc_old w b hc}
  refine⟨{ len:=by simp[hs.len],inj:=?_,lt:=?_,off:=?_,ilt:=?_,objs:=?_},hE⟩
  · intro i j c q q' hi hj;rw[getElem?_append]at hi hj;split at hi <;>split at hj
    · exact hs.inj i j c q q' hi hj
    · have h1:=hs.lt c (.mk hi);have:=mem_of_getElem? hj;simp at this;omega
    · have h1:=hs.lt c (.mk hj);have:=mem_of_getElem? hi;simp at this;omega
    · have h1:=(List.getElem?_eq_some_iff.1 hi).1;have h2:=(List.getElem?_eq_some_iff.1 hj).1;simp at h1 h2;omega
  · rintro c ⟨q,hc⟩;rcases mem_append.1 hc with h|h
    · have:=hs.lt c ⟨q,h⟩;simp;omega
    · simp at h;simp;omega
  · rintro c ⟨q,hc⟩ hi;rcases mem_append.1 hc with h|h
    · exact hs.off c ⟨q,h⟩ hi
    · simp at h;have:=hs.ilt c hi;omega
  · intro c hc;have:=hs.ilt c hc;simp;omega
  · intro i ob c hob hc;rw[getElem?_append]at hob hc;rw[hs.len]at hc;split at hob
    · rename_i hlt;rw[i1_ hlt]at hc;exact(hs.objs i ob c hob hc).ext hE fun d hd=>heap_alloc_old w b<|hs.lt d<|.of hc hd
    · rename_i hge;rw[i0_ hge]at hc;have h1:=(List.getElem?_eq_some_iff.1 hob).1;simp at h1;rw[show i-H.length=0 by omega]at hob hc;simp at hob hc;subst hob;subst hc;exact ho _ _ hE<|heap_alloc_new w b
theorem St.write (hs:St μ I w H){id b n:Nat}{o:ab}(hid:μ[id]?=some ⟨some b,n⟩)(hk:∀c,c≠b->w'.heap[c]?=w.heap[c]?)(hsz:w'.heap.size=w.heap.size)
    (hos:w'.os=w.os) (htp:w'.tape=w.tape) (hout:w'.output=w.output)
    (hsh:∀c e f,w.heap[b]?=some (.cells c e f)->∃c',w'.heap[b]?=some (.cells c' e f)/\c'.size=c.size)
    (ho:cI μ.length μ I w μ I w'->dN μ I w' o ⟨some b,n⟩):St μ I w' (H.set id o)/\cI μ.length μ I w μ I w':=by
  have hbm:gC μ b:=.mk hid
  have hE:cI μ.length μ I w μ I w':=
    { get:=fun _ B _ h=>⟨B,h,le_refl _,fun _=>.inl rfl,fun _ _=>rfl⟩
      len:=le_refl _
      len':=le_refl _
      os:=hos
      tape:=htp
      output:=hout
      size:=by omega
      imm:=fun c hc=>⟨hc,hk c fun e=>hs.off b hbm (e▸hc)⟩
      shape:=fun c cs e f hc=>by
        by_cases hcb:c=b
        · subst hcb;exact hsh cs e f hc
        · exact⟨cs,by rw[hk c hcb];exact hc,rfl⟩
      inew:=fun _ h=>.inl h
      mnew:=fun _ h=>.inl h
      keep:=fun c _ hc=>hk c fun e=>hc (e▸hbm)}
  refine⟨{ len:=by simp[hs.len],inj:=hs.inj,lt:=fun c hc=>by have:=hs.lt c hc;omega,off:=hs.off,ilt:=fun c hc=>by have:=hs.ilt c hc;omega,objs:=?_},hE⟩;intro i ob c hob hc;rw[List.getElem?_set]at hob;split at hob
  · rename_i e;subst e;split at hob
    · cases hob;rw[hid]at hc;cases hc;exact ho hE
    · cases hob
  · rename_i hne;refine(hs.objs i ob c hob hc).ext hE fun d hd=>hk d fun e=>?_;subst e;obtain⟨cb,cn⟩:=c;simp only at hd;subst hd;exact hne<|hs.inj id i _ _ _ hid hc
end
section
variable {P : Program} {o : Oper} {env : aE} {H : List ab}
theorem aa.step {x:LV}{H':List ab}(h:∀a w μ I,St μ I w H->EI μ I w o env a->∃v w' μ',(execOp a.eval o).run P w=.ok (.value v) w'/\St μ' I w' H'/\aH μ' I w' x v/\cI μ.length μ I w μ' I w') :
  aa P o env H (Is x H'):=by
 intro a w μ I hs he K Q hK;obtain⟨v,w',μ',hrun,hs',hv,hE⟩:=h a w μ I hs he;unfold Oper.wp;rw[hrun];exact hK x H' v w' μ' I ⟨rfl,rfl⟩ hs' hv hE
theorem aa.unit {H':List ab}(h:∀a w μ I,St μ I w H->EI μ I w o env a->∃w' μ',(execOp a.eval o).run P w=.ok .skip w'/\St μ' I w' H'/\cI μ.length μ I w μ' I w') :
  aa P o env H (Is .any H'):=by
 intro a w μ I hs he K Q hK;obtain⟨w',μ',hrun,hs',hE⟩:=h a w μ I hs he;unfold Oper.wp;rw[hrun];exact hK .any H' undef w' μ' I ⟨rfl,rfl⟩ hs' .any hE
theorem aa.box {t:TypeId}{x:Operand}{l:LV}{cs:List LV}{id:Nat}{H':List ab}(ho:o.op=.box t x)(hx:bf env x=some l)(hc:iX l=some cs)
  (hid:dq H=some id) (hH:jF H (.box cs)=some H'):aa P o env H (Is (.ptr id 0) H'):=
 aa.step fun a w μ I hs he=>by
  have hr:=he.ev (x:=x) (by simp[ho,Op.operands]) hx;obtain⟨h1,h2,h3⟩:=jG hc hr;have hid':=cd hid;have hH':=dC hH;subst hH';obtain⟨hs',hE⟩:=hs.push (.cells (a.eval x).cells t) (.box cs) 0 fun μ' w' hE hb=>.box hb h1 h2 fun i c v hc hv=>(h3 i c v hc hv).ext hE;refine⟨.pointer (some ⟨w.heap.size,0,none⟩),_,_,by simp[execOp,ho,Instr.box,newVar,newRow],hs',.ptr ?_,hE⟩;rw[List.getElem?_append_right (by rw[hs.len];omega),hid',hs.len];simp
def cL (P:Program)(t:TypeId):Option (List LV):=
 match P.info? t with
 |some i=>match i.zero with|some z=>cy z.cells.toList|none=>none
 |none=>none
theorem aa.alloc {t:TypeId}{cs:List LV}{id:Nat}{H':List ab}(ho:o.op=.alloc t)(hz:cL P t=some cs)
  (hid:dq H=some id) (hH:jF H (.box cs)=some H'):aa P o env H (Is (.ptr id 0) H'):=
 aa.step fun a w μ I hs he=>by
  have hid':=cd hid;have hH':=dC hH;subst hH';unfold cL at hz;split at hz
  ·rename_i i hi;split at hz
   ·rename_i z hz0;obtain⟨h1,h2,h3⟩:=ca (μ:=μ) (I:=I) (w:=w) hz;obtain⟨hs',hE⟩:=hs.push (.cells z.cells t) (.box cs) 0 fun μ' w' hE hb=>.box hb (by simpa using h1) (fun u hu=>h2 u (by simpa using hu)) fun i c v hc hv=>(h3 i c v hc (by simpa using hv)).ext hE;refine⟨.pointer (some ⟨w.heap.size,0,none⟩),_,_,by simp[execOp,ho,Instr.alloc,zeroValue,typeInfo,hi,hz0,newVar,newRow],hs',.ptr ?_,hE⟩;rw[List.getElem?_append_right (by rw[hs.len];omega),hid',hs.len];simp
   ·cases hz
  ·cases hz
theorem oz (vs:Array Value)(o n:Nat)(h:o+n<=vs.size):((range n).map fun i=>vs.getD (o+i) undef).toArray=vs.extract o (o+n):=by
 apply Array.ext
 ·simp;omega
 ·intro i h1 h2
  have:o+i<vs.size:=by simp at h1;omega
  simp[this]
theorem aa.load {t:TypeId}{x:Operand}{id off n:Nat}{ag:Bool}{cs s:List LV}{l:LV}(ho:o.op=.load t x)(hx:bf env x=some (.ptr id off))(hH:br H id=some (.box cs))
  (hT:bl P t=some (n,ag)) (hs:sM cs off n=some s) (hl:uN ag s=some l):aa P o env H (Is l H):=
 aa.val fun a w μ I hst he=>by
  have hr:=he.ev (x:=x) (by simp[ho,Op.operands]) hx;generalize hv:a.eval x=v at hr;rw[bj]at hH
  cases hr with
  | @ptr _ _ b hid=>
   have hob:=hst.objs id _ _ hH hid
   cases hob with
   | @box _ _ vs e hb hlen hone hrep=>
    obtain⟨hs1,hs2,hs3,hs4⟩:=s8 hs
    have hfit:off+n<=vs.size:=by
     rcases Nat.eq_zero_or_pos n with rfl|hn
     ·rw[hlen];simpa using hs4
     ·have:=hs2 hn;omega
    have hload:=kz (P:=P) (w:=w) hT b off (fun i=>vs.getD (off+i) undef) (fun i hi=>by simp[World.cell?,hb,Array.getElem?_eq_getElem (show off+i<vs.size by omega)]);rw[oz vs off n hfit]at hload;refine⟨_,by simp only[execOp,ho,Instr.loadAt,hv,Instr.sureAddr];simp[hload];rfl,?_⟩
    have:=r6 (μ:=μ) (I:=I) (w:=w) hl (vs:=vs.extract off (off+n)) (by simp;omega) (fun u hu=>by
     obtain⟨i,hi,rfl⟩:=Array.mem_iff_getElem.1 hu
     simp;exact hone _ (Array.getElem_mem _)) (fun i c u hc hu=>by
     obtain⟨h5,h6⟩:=Az hs hc;refine hrep (off+i) c u h5 ?_;rw[Array.getElem?_extract]at hu;split at hu
     ·exact hu
     ·cases hu)
    cases ag with
    |true=>simpa using this
    |false=>
     have hn1:=(dk (w:=w) hT).2.2 rfl;subst hn1;simp at this⊢;have hg:vs[off]?=some vs[off]:=Array.getElem?_eq_getElem (by omega);rw[Array.getElem?_extract]at this;simp[hg]at this⊢;rw[i1_ (by omega)]at this;simpa using this
theorem aa.loadC {t:TypeId}{x:Operand}{n:Nat}{ag:Bool}{ps:List PV}{cs s:List LV}{l:LV}(ho:o.op=.load t x)(hx:bf env x=some (.cptr ps))(hp:ow ps=some cs)
  (hT:bl P t=some (n,ag)) (hs:kC cs n=some s) (hl:uN ag s=some l):aa P o env H (Is l H):=
 aa.val fun a w μ I hst he=>by
  have hr:=he.ev (x:=x) (by simp[ho,Op.operands]) hx;generalize hv:a.eval x=v at hr;have e:=jc hp;subst e;obtain⟨e1,e2⟩:=lQ hs
  cases hr with
  | @cptr _ b off f hI hc=>
   have hget:∀i,i<n->∃c,ps[i]?=some c:=fun i hi=>⟨_,getElem?_eq_getElem (by simp at e2;omega)⟩
   have hload:=kz (P:=P) (w:=w) hT b off f (fun i hi=>by
    obtain⟨c,hci⟩:=hget i hi
    exact(hc i c hci).2.1)
   refine⟨_,by simp only[execOp,ho,Instr.loadAt,hv,Instr.sureAddr];simp[hload];rfl,?_⟩
   have hlen:s.length=n:=by rw[e1];simp at e2⊢;omega
   have:=r6 (μ:=μ) (I:=I) (w:=w) hl (vs:=((range n).map f).toArray) (by simp[hlen]) (fun u hu=>by
    simp at hu;obtain⟨i,hi,rfl⟩:=hu;obtain⟨c,hci⟩:=hget i hi
    exact(hc i c hci).2.2.one (hc i c hci).1) (fun i c u hcc hu=>by
    rw[e1,getElem?_take]at hcc;split at hcc
    ·rename_i hi;obtain⟨c',hci⟩:=hget i hi;rw[getElem?_map,hci]at hcc;cases hcc
     have:u=f i:=by simp[hi]at hu;exact hu.symm
     rw[this];exact .p (hc i c' hci).2.2
    ·cases hcc)
   cases ag with
   |true=>simpa using this
   |false=>
    have hn1:=(dk (w:=w) hT).2.2 rfl;subst hn1;simpa using this
theorem my {n:Nat}(hT:bl P t=some (n,ag)){b off:Nat}{e:TypeId}(hb:w.heap[b]?=some (.cells vs e (0,0)))(v:Value)
  (hn:v.cells.size=n) (ho:∀u∈v.cells,eT u=true) (hfit:off+n<=vs.size:=by omega) :
  (storeVar t ⟨b,off,none⟩ v).run P w=.ok () (w.setRow b (vs.toList.take off++v.cells.toList++vs.toList.drop (off+n)).toArray):=by
 obtain⟨h1,h2,h3⟩:=dk (w:=w) hT
 have h4:=run_storeCells_at P b off e v.cells.toList 0 vs w hb (by simp;omega) (fun u hu=>by
  have:=ho u (by simpa using hu)
  cases u <;>simp_all [eT,Value.oneCell'])
 unfold storeVar;simp only[Sem.run_bind,h2,Result.andThen_ok];rw[i0_ (by simp[hn])];simpa [hn]using h4
theorem aa.store {t:TypeId}{x y:Operand}{id off n:Nat}{ag:Bool}{cs ys s:List LV}{l:LV}{H':List ab}(ho:o.op=.store t x y)(hx:bf env x=some (.ptr id off))(hy:bf env y=some l)
  (hH:br H id=some (.box cs)) (hT:bl P t=some (n,ag)) (hys:iX l=some ys) (hn:dq ys=some n) (hs:uD cs off ys=some s) (hH':bK H id (.box s)=some H') :
  aa P o env H (Is .any H'):=
 aa.unit fun a w μ I hst he=>by
  have hr:=he.ev (x:=x) (by simp[ho,Op.operands]) hx;have hry:=he.ev (x:=y) (by simp[ho,Op.operands]) hy;obtain⟨hy1,hy2,hy3⟩:=jG hys hry;generalize hv:a.eval x=v at hr;rw[bj]at hH;obtain⟨e1,e2⟩:=s6 hs;obtain⟨e3,e4⟩:=bH hH';have hn':=cd hn;subst e3
  cases hr with
  | @ptr _ _ b hid=>
   have hob:=hst.objs id _ _ hH hid
   cases hob with
   | @box _ _ vs e hb hlen hone hrep=>
    have hst':=my (P:=P) hT (off:=off) hb (a.eval y) (by omega) hy2;obtain⟨nv,hnv⟩:∃nv,nv=(vs.toList.take off++(a.eval y).cells.toList++vs.toList.drop (off+n)).toArray:=⟨_,rfl⟩
    have hnl:nv.size=vs.size:=by rw[hnv];simp;omega
    rw[<-hnv]at hst'
    obtain⟨hs',hE⟩:=hst.write (o:=.box s) hid (w':=w.setRow b nv) (fun c hc=>setRow_other w b c _ hc) (by simp[World.setRow]) rfl rfl rfl
     (fun c e' f hc=>by
      rw[hb]at hc;cases hc
      exact⟨_,setRow_heap w b vs nv e (0,0) hb,hnl⟩)
     (fun hE=>by
      refine .box (setRow_heap w b vs nv e (0,0) hb) ?_ ?_ ?_
      ·rw[hnl,e1];simp;omega
      ·intro u hu;rw[hnv]at hu;simp at hu;rcases hu with hu|hu|hu
       ·exact hone u (by simpa using mem_of_mem_take hu)
       ·exact hy2 u hu
       ·exact hone u (by simpa using List.mem_of_mem_drop hu)
      ·intro i c u hc hu;rw[e1]at hc;rw[hnv]at hu;simp only[List.getElem?_toArray]at hu;rw[List.append_assoc,getElem?_append]at hc hu
       have l1:(List.take off vs.toList).length=off:=by simp;omega
       have l2:(List.take off cs).length=off:=by simp;omega
       rw[l1]at hu;rw[l2]at hc;split at hc
       ·rename_i hi;rw[i1_ hi,getElem?_take_of_lt hi]at hu;rw[getElem?_take_of_lt hi]at hc;exact(hrep i c u hc (by simpa using hu)).ext hE
       ·rename_i hi;rw[i0_ hi]at hu;rw[getElem?_append]at hc hu
        have l3:(a.eval y).cells.toList.length=ys.length:=by simpa using hy1
        rw[l3]at hu;split at hc
        ·rename_i hj;rw[i1_ hj]at hu;exact(hy3 _ c u hc (by simpa using hu)).ext hE
        ·rename_i hj;rw[i0_ hj]at hu;rw[getElem?_drop]at hc hu;rw[<-hn']at hc hu
         exact(hrep _ c u hc (by simpa using hu)).ext hE)
    exact⟨_,μ,by simp only[execOp,ho,Instr.storeAt,hv,Instr.sureAddr];simp[hst'],hs',hE⟩
theorem aa.fieldAddr {s:TypeId}{x:Operand}{i id off fo n:Nat}{ag:Bool}(ho:o.op=.fieldAddr s x i)(hx:bf env x=some (.ptr id off))(hT:aB P s i=some (fo,n,ag)) :
  aa P o env H (Is (.ptr id (off+fo)) H):=
 aa.val fun a w μ I hst he=>by
  have hr:=he.ev (x:=x) (by simp[ho,Op.operands]) hx;generalize hv:a.eval x=v at hr
  cases hr with
  |@ptr _ _ b hid=>
   obtain⟨fs,f,hu,hf,rfl,hsz,hv0⟩:=mj hT (w:=w);exact⟨.pointer (some ⟨b,off+f.offset,none⟩),by simp[execOp,ho,hv,Instr.fieldAt,run_underlying hu,hf,Instr.sureAddr,fieldPlace,dX,hsz,hv0],.ptr hid⟩
end
def vF {α:Type}:List α->Nat->Option (List α) |l,0=>some l |[],_+1=>none |_::r,n+1=>vF r n
theorem yM {α:Type}:∀{l:List α} {n:Nat} {s:List α},vF l n=some s->s=l.drop n
 |l,0,s,h=>by cases l <;>simp[vF]at h <;>subst h <;>simp
 |[],n+1,s,h=>by simp[vF]at h
 |x::r,n+1,s,h=>by have:=yM (show vF r n=some s from h);simpa using this
def eR :PV->Option (List PV) |.agg cs=>some cs |.int k n=>some [.int k n] |.bool b=>some [.bool b] |.slice m xs=>some [.slice m xs]
theorem gx {x:PV}{ps:List PV}(h:eR x=some ps):ps=x.cells:=by
 cases x <;>simp[eR]at h <;>subst h <;>rfl
theorem lv {xs:List PV}(h:b9 m xs){y:PV}(hi:xs[i]?=some y){c:PV}(hj:y.cells[j]?=some c):(flat xs)[m*i+j]?=some c:=by
 have hd:=jj i h;have hlt:=(List.getElem?_eq_some_iff.1 hi).1;rw[List.drop_eq_getElem_cons hlt,(List.getElem?_eq_some_iff.1 hi).2,dm]at hd;have:=congrArg (·[j]?) hd;simp only[getElem?_drop]at this;rw[<-this,List.getElem?_append_left (List.getElem?_eq_some_iff.1 hj).1];exact hj
def dn (P:Program)(t:TypeId):Option (Nat×Nat):=
 match P.underlying t with
 | some (.slice e)=>match P.info? e with
  |some i=>match i.zero with
   |some z=>if z.cells.size==i.size&&blt 0 i.size then some (i.size,i.bytes)else none
   |none=>none
  |none=>none
 |_=>none
theorem cA (h:dn P t=some (m,bytes)) :
  ∃e i z,P.underlying t=some (.slice e)/\P.info? e=some i/\i.zero=some z/\z.cells.size=i.size/\i.size=m/\i.bytes=bytes/\0<m:=by
 unfold dn at h;split at h
 ·rename_i e hu;split at h
  ·rename_i i hi;split at h
   ·rename_i z hz;split at h
    ·rename_i hc;simp only[Bool.and_eq_true,beq_iff_eq]at hc;cases h;exact⟨e,i,z,hu,hi,hz,hc.1,rfl,rfl,by simpa using hc.2⟩
    ·cases h
   ·cases h
  ·cases h
 ·cases h
theorem fF {xs:List PV}(h:fA I w (.slice m xs) v) :
  ∃(a:Option Addr) (cap:Nat) (f:Nat->Value),v=.slice a xs.length cap/\xs.length<=cap/\cap<=maxLen/\b9 m xs/\
   (∀(i:Nat) (c:PV),(flat xs)[i]?=some c->∃b o,a=some ⟨b,o,none⟩/\I b/\w.cell? ⟨b,o+i,none⟩=some (f i))/\
   (∀(i:Nat) (c:PV),(flat xs)[i]?=some c->fA I w c (f i)):=by
 cases h with
 |slice f hl hcap hmax hm hc hr=>subst hl;exact⟨_,_,f,rfl,hcap,hmax,hm,hc,hr⟩
theorem jS {μ:List ci}{xs:List PV}(h:aH μ I w (.p (.slice m xs)) v):fA I w (.slice m xs) v:=by
 cases h with
 |p h=>exact h
section
variable {P : Program} {o : Oper} {env : aE} {H : List ab}
theorem aa.fieldAddrC {x:Operand}{i fo n:Nat}{ps qs:List PV}(ho:o.op=.fieldAddr s x i)(hx:bf env x=some (.cptr ps))(hT:aB P s i=some (fo,n,ag))
  (hq:vF ps fo=some qs):aa P o env H (Is (.cptr qs) H):=
 aa.val fun a w μ I hst he=>by
  have hr:=he.ev (x:=x) (by simp[ho,Op.operands]) hx;generalize hv:a.eval x=v at hr;have e:=yM hq;subst e
  cases hr with
  |@cptr _ b off f hI hc=>
   obtain⟨fs,g,hu,hf,rfl,hsz,hv0⟩:=mj hT (w:=w);refine⟨.pointer (some ⟨b,off+g.offset,none⟩),by simp[execOp,ho,hv,Instr.fieldAt,run_underlying hu,hf,Instr.sureAddr,fieldPlace,dX,hsz,hv0],.cptr (fun j=>f (g.offset+j)) hI fun j c hj=>?_⟩;rw[getElem?_drop]at hj;have:=hc _ c hj
   rwa [show off+g.offset+j=off+(g.offset+j) by omega]
def p9 (P:Program)(t:TypeId):Option (Nat×Nat×Bool):=
 match P.underlying t with
 |some (.array n e)=>match bl P e with|some (m,a)=>some (n,m,a)|none=>none
 |_=>none
theorem tL {n m:Nat}(h:p9 P t=some (n,m,ag)):∃e,P.underlying t=some (.array n e)/\bl P e=some (m,ag):=by
 unfold p9 at h;split at h
 ·rename_i n' e hu;split at h
  ·rename_i hv;cases h;exact⟨e,hu,hv⟩
  ·cases h
 ·cases h
theorem aa.indexAddrA {x y:Operand}{n m id off:Nat}{j:Int}(ho:o.op=.indexAddr t x y)(hx:bf env x=some (.ptr id off))
  (hy:bf env y=some (.p (.int k j))) (hT:p9 P t=some (n,m,ag)) (h0:0<=j) (hn:j<n):aa P o env H (Is (.ptr id (off+j.toNat*m)) H):=
 aa.val fun a w μ I hst he=>by
  have hr:=he.ev (x:=x) (by simp[ho,Op.operands]) hx;have hyv:=(bE (he.ev (x:=y) (by simp[ho,Op.operands]) hy)).1;generalize hv:a.eval x=v at hr;obtain⟨e,hu,hvar⟩:=tL hT;have hsz:=(dk (P:=P) (w:=w) hvar).2.1
  cases hr with
  |@ptr _ _ b hid=>
   exact⟨.pointer (some ⟨b,off+j.toNat*m,none⟩),by simp only[execOp,ho,hv,hyv,Instr.indexAt];simp[run_underlying hu,asIntOf,Instr.sureAddr,h0,hn,hsz,dX],.ptr hid⟩
theorem aa.indexAddr {t:TypeId}{x y:Operand}{m bytes:Nat}{xs:List PV}{k:IntKind}{j:Int}{z:PV}{ps:List PV}(ho:o.op=.indexAddr t x y)(hx:bf env x=some (.p (.slice m xs)))
  (hy:bf env y=some (.p (.int k j))) (hT:dn P t=some (m,bytes)) (h0:0<=j) (hz:xs[j.toNat]?=some z) (hp:eR z=some ps):aa P o env H (Is (.cptr ps) H):=
 aa.val fun a w μ I hst he=>by
  obtain⟨ad,cap,f,hv,hcap,hmax,hm,hc,hr⟩:=fF (jS (he.ev (x:=x) (by simp[ho,Op.operands]) hx));have hyv:=(bE (he.ev (x:=y) (by simp[ho,Op.operands]) hy)).1;obtain⟨e,i,zz,hu,hi,hz0,hzs,rfl,rfl,hpos⟩:=cA hT;have e1:=gx hp;subst e1;have hjl:=(List.getElem?_eq_some_iff.1 hz).1;have hzc:=hm z (mem_of_getElem? hz);have hidx:=fun(j':Nat) c (h:z.cells[j']?=some c)=>lv hm hz h;obtain⟨c0,hc0⟩:∃c0,z.cells[0]?=some c0:=⟨_,getElem?_eq_getElem (by omega)⟩;obtain⟨b,off,rfl,hI,-⟩:=hc _ _ (hidx 0 c0 hc0);refine⟨.pointer (some ⟨b,off+j.toNat*i.size,none⟩),?_,?_⟩
  ·simp only[execOp,ho,hv,hyv,Instr.indexAt];simp[run_underlying hu,asIntOf,sizeOf,typeInfo,hi,h0,show j<(xs.length:Int) by omega,dX]
  ·refine .cptr (fun q=>f (i.size*j.toNat+q)) hI fun q c hq=>?_;have h1:=hidx q c hq;obtain⟨b',off',hb',hI',hcell⟩:=hc _ _ h1;cases hb';refine⟨od hm c (mem_of_getElem? h1),?_,hr _ _ h1⟩;rw[show off+j.toNat*i.size+q=off+(i.size*j.toNat+q) by rw[mul_comm];omega];exact hcell
theorem kD {μ:List ci}{H:List ab}(hs:St μ I w H){m id n off len:Nat}{xs:List PV}(hH:br H id=some (.vec m xs))(hn:n=xs.length)
  (hr:aH μ I w (.vec m id n off len) v):∃B,μ[id]?=some B/\B.n=n/\dN μ I w (.vec m xs) B/\Mx w B.b m n off len v:=by
 rw[bj]at hH
 cases hr with
 |@vec _ _ _ _ _ B _ hid h1 hnB hf=>
  have ho:=hs.objs id _ _ hH hid
  have hBn:n=B.n:=by cases ho <;>simp_all
  exact⟨B,hid,hBn.symm,ho,hf hBn⟩
theorem aa.indexAddrV {x y:Operand}{m bytes id n off len:Nat}{j:Int}{xs:List PV}(ho:o.op=.indexAddr t x y)(hx:bf env x=some (.vec m id n off len))
  (hy:bf env y=some (.p (.int k j))) (hH:br H id=some (.vec m xs)) (hn:n=xs.length) (hT:dn P t=some (m,bytes)) (h0:0<=j) (hj:j<len) :
  aa P o env H (Is (.vptr m id n (off+j.toNat) 0) H):=
 aa.val fun a w μ I hst he=>by
  have hr:=he.ev (x:=x) (by simp[ho,Op.operands]) hx;have hyv:=(bE (he.ev (x:=y) (by simp[ho,Op.operands]) hy)).1;generalize hv:a.eval x=v at hr;obtain⟨e,i,zz,hu,hi,hz0,hzs,rfl,rfl,hpos⟩:=cA hT;obtain⟨B,hid,hBn,hob,hf⟩:=kD hst hH hn hr;rcases hf with⟨rfl,-⟩|⟨b,cap,hB,rfl,hlc,hmax,hs⟩
  ·omega
  ·refine⟨.pointer (some ⟨b,i.size*(off+j.toNat),none⟩),?_,.vptr hid Z (by omega) fun _=>⟨b,hB,rfl⟩⟩;simp only[execOp,ho,hv,hyv,Instr.indexAt];simp[run_underlying hu,asIntOf,sizeOf,typeInfo,hi,h0,hj,dX,mul_add,mul_comm]
theorem aa.fieldAddrV {x:Operand}{i m id n j fo go q:Nat}(ho:o.op=.fieldAddr s x i)(hx:bf env x=some (.vptr m id n j fo)){xs:List PV}(hH:br H id=some (.vec m xs))(hn:n=xs.length)
  (hT:aB P s i=some (go,q,ag)):aa P o env H (Is (.vptr m id n j (fo+go)) H):=
 aa.val fun a w μ I hst he=>by
  have hr:=he.ev (x:=x) (by simp[ho,Op.operands]) hx;generalize hv:a.eval x=v at hr;rw[bj]at hH
  cases hr with
  |@vptr _ _ _ _ _ B _ hid h1 hnB hf=>
   have hob:=hst.objs id _ _ hH hid
   have hBn:n=B.n:=by cases hob <;>simp_all
   obtain⟨b,hB,rfl⟩:=hf hBn;obtain⟨fs,g,hu,hgf,rfl,hsz,hv0⟩:=mj hT (w:=w);exact⟨.pointer (some ⟨b,m*j+(fo+g.offset),none⟩),by simp[execOp,ho,hv,Instr.fieldAt,run_underlying hu,hgf,Instr.sureAddr,fieldPlace,dX,hsz,hv0,Nat.add_assoc],.vptr hid Z hnB fun _=>⟨b,hB,rfl⟩⟩
theorem aa.loadV {x:Operand}{m id ver j fo n:Nat}{xs:List PV}{y:PV}{ps:List PV}{cs q:List LV}{l:LV}(ho:o.op=.load t x)
  (hx:bf env x=some (.vptr m id ver j fo)) (hH:br H id=some (.vec m xs)) (hver:ver=xs.length) (hT:bl P t=some (n,ag)) (hy:xs[j]?=some y) (hp:eR y=some ps) (hcs:ow ps=some cs)
  (hq:sM cs fo n=some q) (hl:uN ag q=some l):aa P o env H (Is l H):=
 aa.val fun a w μ I hst he=>by
  have hr:=he.ev (x:=x) (by simp[ho,Op.operands]) hx;generalize hv:a.eval x=v at hr;rw[bj]at hH;have e1:=gx hp;subst e1;have e2:=jc hcs;subst e2;obtain⟨q1,q2,q3,q4⟩:=s8 hq
  cases hr with
  | @vptr _ _ _ _ _ B _ hid h1 hnB hf=>
   have hob:=hst.objs id _ _ hH hid
   have hBn:ver=B.n:=by cases hob <;>simp_all
   obtain⟨b,hB,rfl⟩:=hf hBn
   cases hob with
   |vecE=>cases hB
   | @vec _ _ b' vs e hb hlen hne hm hrep=>
    cases hB;have hycl:=(hm y (mem_of_getElem? hy)).1;have hjl:=(List.getElem?_eq_some_iff.1 hy).1
    have hfit:m*j+fo+n<=vs.size:=by
     have h5:m*(j+1)<=m*xs.length:=Nat.mul_le_mul_left _ hjl;rw[mul_add]at h5;simp at q4;rcases Nat.eq_zero_or_pos n with rfl|hn
     ·omega
     ·have:=q2 hn;simp at this;omega
    have hload:=kz (P:=P) (w:=w) hT b (m*j+fo) (fun i=>vs.getD (m*j+fo+i) undef) (fun i hi=>by simp[World.cell?,hb,Array.getElem?_eq_getElem (show m*j+fo+i<vs.size by omega)]);rw[oz vs _ n hfit]at hload;refine⟨_,by simp only[execOp,ho,Instr.loadAt,hv,Instr.sureAddr];simp[hload];rfl,?_⟩
    have hpt:∀(i:Nat) c u,q[i]?=some c->vs[m*j+fo+i]?=some u->∃x,c=.p x/\x.one/\fA I w x u:=fun i c u hc hu=>by
     obtain⟨h5,h6⟩:=Az hq hc;rw[getElem?_map]at h5
     cases hx:y.cells[fo+i]? with
     |none=>rw[hx]at h5;cases h5
     |some z=>
      rw[hx]at h5;cases h5;have h7:=lv hm hy hx;exact⟨z,rfl,od hm z (mem_of_getElem? h7),hrep _ z u h7 (by rw[show m*j+(fo+i)=m*j+fo+i by omega];exact hu)⟩
    have:=r6 (μ:=μ) (I:=I) (w:=w) hl (vs:=vs.extract (m*j+fo) (m*j+fo+n)) (by simp;omega) (fun u hu=>by
     obtain⟨i,hi,rfl⟩:=Array.mem_iff_getElem.1 hu
     have hin:i<n:=by simp at hi;omega
     have hc:q[i]?=some (q[i]'(by omega)):=getElem?_eq_getElem (by omega);obtain⟨z,-,hz,hrz⟩:=hpt i _ _ hc (Array.getElem?_eq_getElem (show m*j+fo+i<vs.size by omega))
     simpa using hrz.one hz) (fun i c u hc hu=>by
     rw[Array.getElem?_extract]at hu;split at hu
     ·obtain⟨z,rfl,-,hrz⟩:=hpt i c u hc hu;exact .p hrz
     ·cases hu)
    cases ag with
    |true=>simpa using this
    |false=>
     have hn1:=(dk (w:=w) hT).2.2 rfl;subst hn1;have hg:vs[m*j+fo]?=some vs[m*j+fo]:=Array.getElem?_eq_getElem (by omega);simp only[Bool.false_eq_true,if_false,Array.getD_eq_getD_getElem?]at this⊢;rw[Array.getElem?_extract]at this;rw[i1_ (by omega)]at this;simpa [hg]using this
def wR (P:Program)(t:TypeId):Bool:=match P.underlying t with|some (.slice _)=>true|_=>false
theorem rW {t ty:TypeId}(hT:wR P t=true)(b:Option Addr)(n c:Nat):(Builtin.len_ #[t] ty #[.slice b n c]).run P w=.ok (goInt n) w:=by
 unfold wR at hT;split at hT
 ·rename_i e hu;simp[Builtin.len_,run_underlying hu]
 ·cases hT
theorem uj {n:Nat}(h:n<=maxLen):aU .i64 (n:Int):=by
 unfold maxLen at h;unfold aU IntKind.min IntKind.max;simp[signed,IntKind.bits];omega
theorem aa.len {t:TypeId}{x:Operand}{m:Nat}{xs:List PV}(ho:o.op=.call { callee:=.builtin .len,args:=#[x],argTypes:=#[t]})(hx:bf env x=some (.p (.slice m xs)))
  (hT:wR P t=true):aa P o env H (Is (.p (.int .i64 xs.length)) H):=
 aa.val fun a w μ I hst he=>by
  obtain⟨ad,cap,f,hv,hcap,hmax,hm,hc,hr⟩:=fF (jS (he.ev (x:=x) (by simp[ho,Op.operands,Call.operands]) hx));refine⟨goInt xs.length,?_,.p (.int (uj (by omega)))⟩;simp only[execOp,ho,resolve,invoke,builtin,Sem.run_bind,Sem.run_pure,Result.andThen_ok,map_toArray,map_cons,map_nil,hv,rW hT]
theorem aa.lenZ {x:Operand}(ho:o.op=.call { callee:=.builtin .len,args:=#[x],argTypes:=#[t]})(hx:bf env x=some .zs)
  (hT:wR P t=true):aa P o env H (Is (.p (.int .i64 0)) H):=
 aa.val fun a w μ I hst he=>by
  have hr:=he.ev (x:=x) (by simp[ho,Op.operands,Call.operands]) hx;generalize hv:a.eval x=v at hr;cases hr;refine⟨goInt (0:Nat),?_,.p (.int (by unfold aU;decide))⟩;simp only[execOp,ho,resolve,invoke,builtin,Sem.run_bind,Sem.run_pure,Result.andThen_ok,map_toArray,map_cons,map_nil,hv,rW hT]
theorem aa.lenV {x:Operand}{m id n off len:Nat}{xs:List PV}(ho:o.op=.call { callee:=.builtin .len,args:=#[x],argTypes:=#[t]})(hx:bf env x=some (.vec m id n off len))
  (hH:br H id=some (.vec m xs)) (hn:n=xs.length) (hT:wR P t=true):aa P o env H (Is (.p (.int .i64 len)) H):=
 aa.val fun a w μ I hst he=>by
  have hr:=he.ev (x:=x) (by simp[ho,Op.operands,Call.operands]) hx;generalize hv:a.eval x=v at hr;obtain⟨B,hid,hBn,hob,hf⟩:=kD hst hH hn hr
  have:∃b c,v=.slice b len c/\len<=maxLen:=by
   rcases hf with⟨rfl,⟨a',rfl⟩,-⟩|⟨b,cap,hB,rfl,hlc,hmax,hs⟩
   ·exact⟨_,_,rfl,by simp⟩
   ·exact⟨_,_,rfl,by omega⟩
  obtain⟨b,c,rfl,hl⟩:=this;refine⟨goInt len,?_,.p (.int (uj hl))⟩;simp only[execOp,ho,resolve,invoke,builtin,Sem.run_bind,Sem.run_pure,Result.andThen_ok,map_toArray,map_cons,map_nil,hv,rW hT]
theorem Hw {xs:List PV}{a:Option Addr}{cap:Nat}(h:fA I w (.slice m xs) (.slice a xs.length cap))(lo hi mx:Nat)(h1:lo<=hi)(h2:hi<=xs.length)(h3:hi<=mx)(h4:mx<=cap) :
  fA I w (.slice m ((xs.drop lo).take (hi-lo))) (.slice (if mx=lo then a else a.map (·.add (lo*m))) (hi-lo) (mx-lo)):=by
 obtain⟨a',cap',f,hv,hcap,hmax,hm,hc,hr⟩:=fF h;cases hv
 have hidx:∀(i:Nat) c,(flat ((xs.drop lo).take (hi-lo)))[i]?=some c->(flat xs)[m*lo+i]?=some c/\i<m*(hi-lo):=by
  intro i c hi';rw[lw _ (hm.drop lo),jj _ hm,getElem?_take]at hi';split at hi'
  ·rename_i hlt;rw[getElem?_drop]at hi';exact⟨hi',hlt⟩
  ·cases hi'
 refine .slice (fun i=>f (m*lo+i)) (by simp;omega) (by omega) (by omega) ((hm.drop lo).take _) (fun i c hi'=>?_)<|fun i c hi'=>hr _ c (hidx i c hi').1;obtain⟨h5,h6⟩:=hidx i c hi';obtain⟨b,off,rfl,hI,hcell⟩:=hc _ c h5
 have hne:¬mx=lo:=by
  intro e
  have:hi-lo=0:=by omega
  rw[this]at h6;simp at h6
 rw[i0_ hne];refine⟨b,off+lo*m,by simp[dX],hI,?_⟩;rw[show off+lo*m+i=off+(m*lo+i) by rw[mul_comm];omega];exact hcell
def jT (env:aE):Option Operand->Option (Option Int)
 |none=>some none
 |some x=>match bf env x with|some (.p (.int _ n))=>some (some n)|_=>none
theorem mt {μ:List ci}{x:Option Operand}{r:Option Int}(he:EI μ I w o env a)(hm:∀y,x=some y->y∈o.op.operands)(h:jT env x=some r) :
  ∃kv,x.map a.eval=kv/\(r=none->kv=none)/\∀n,r=some n->∃k,kv=some (.int k n):=by
 cases x with
 |none=>simp[jT]at h;subst h;exact⟨none,rfl,by simp,by simp⟩
 |some y=>
  simp only[jT]at h;split at h
  ·rename_i k n hy;cases h;have:=(bE (he.ev (hm y rfl) hy)).1;exact⟨_,rfl,by simp,fun n' hn=>by cases hn;exact⟨k,by simp[this]⟩⟩
  ·cases h
theorem aa.slice {t:TypeId}{x:Operand}{lo hi:Option Operand}{m bytes:Nat}{xs:List PV}{l h:Option Int}(ho:o.op=.slice t x lo hi none)(hx:bf env x=some (.p (.slice m xs)))
  (hlo:jT env lo=some l) (hhi:jT env hi=some h) (hT:dn P t=some (m,bytes)) (h0:0<=l.getD 0) (h1:l.getD 0<=h.getD xs.length) (h2:h.getD xs.length<=xs.length) :
  aa P o env H (Is (.p (.slice m ((xs.drop (l.getD 0).toNat).take ((h.getD xs.length).toNat-(l.getD 0).toNat)))) H):=
 aa.val fun a w μ I hst he=>by
  have hrep:=jS (he.ev (x:=x) (by simp[ho,Op.operands]) hx);obtain⟨ad,cap,f,hv,hcap,hmax,hm,hc,hr⟩:=fF hrep;rw[hv]at hrep;obtain⟨kl,hkl,hl1,hl2⟩:=mt he (fun y hy=>by subst hy;simp[ho,Op.operands]) hlo;obtain⟨kh,hkh,hh1,hh2⟩:=mt he (fun y hy=>by subst hy;simp[ho,Op.operands]) hhi;obtain⟨e,i,zz,hu,hi',hz0,hzs,rfl,rfl,hpos⟩:=cA hT
  have hb:(Instr.sliceBounds true xs.length cap kl kh none).run P w=.ok ((l.getD 0).toNat,(h.getD xs.length).toNat,cap) w:=by
   cases l with
   | none=>
    rw[hl1 rfl]
    cases h with
    |none=>rw[hh1 rfl];simp[Instr.sliceBounds]
    |some n=>
     obtain⟨k,hk⟩:=hh2 n rfl;simp only[getD_some,getD_none]at h0 h1 h2;rw[hk];simp[Instr.sliceBounds,Instr.sliceBound,asIntOf,h1,show n<=(cap:Int) by omega]
   | some q=>
    obtain⟨k,hk⟩:=hl2 q rfl;rw[hk]
    cases h with
    |none=>
     simp only[getD_some,getD_none]at h0 h1 h2;rw[hh1 rfl];simp[Instr.sliceBounds,Instr.sliceBound,asIntOf,h0,h1]
    |some n=>
     obtain⟨k',hk'⟩:=hh2 n rfl;simp only[getD_some]at h0 h1 h2;rw[hk'];simp[Instr.sliceBounds,Instr.sliceBound,asIntOf,h0,show n<=(cap:Int) by omega,show 0<=n by omega]
     try (intro hh;exfalso;omega)
  refine⟨_,?_,.p (Hw hrep (l.getD 0).toNat (h.getD xs.length).toNat cap (by omega) (by omega) (by omega) (le_refl _))⟩;simp only[execOp,ho,hv,hkl,hkh,Option.map_none,Instr.sliceAt];simp[run_underlying hu,Instr.slice,hb,sizeOf,typeInfo,hi']
theorem aa.makeFunc {f:FuncId}{first caps:Array Operand}{ls qs:List LV}(ho:o.op=.makeFunc (.func f) first caps)(hl:lE env first.toList=some ls)(hq:lE env caps.toList=some qs) :
  aa P o env H (Is (.fn f ls qs) H):=
 aa.val fun a w μ I hst he=>by
  have h1:=lF he (xs:=first.toList) (by intro x hx;rw[ho];simp[Op.operands];exact .inl (by simpa using hx)) hl;have h2:=lF he (xs:=caps.toList) (by intro x hx;rw[ho];simp[Op.operands];exact .inr (by simpa using hx)) hq;refine⟨.func (.func f) (first.map a.eval) (caps.map a.eval),by simp[execOp,ho,Instr.makeFunc],.fn ?_ ?_ ?_ ?_⟩
  ·have:=h1.len;simpa using this
  ·have:=h2.len;simpa using this
  ·exact fun i c v hc hv=>h1.get i c v hc (by rw[<-Array.toList_map];simpa using hv)
  ·exact fun i c v hc hv=>h2.get i c v hc (by rw[<-Array.toList_map];simpa using hv)
theorem aa.nilCheck {x:Operand}{id off:Nat}(ho:o.op=.nilCheck x)(hx:bf env x=some (.ptr id off)):aa P o env H (Is (.ptr id off) H):=
 aa.val fun a w μ I hst he=>by
  have hr:=he.ev (x:=x) (by simp[ho,Op.operands]) hx;generalize hv:a.eval x=v at hr
  cases hr with
  |ptr h=>exact⟨_,by simp[execOp,ho,hv],.ptr h⟩
end
section
variable {μ : List ci} {I : Nat -> Prop} {w : World} {H : List ab}
theorem St.fresh (hs:St μ I w H)(b:Obj):St μ (fun c=>I c\/c=w.heap.size) (w.alloc b) H/\cI μ.length μ I w μ (fun c=>I c\/c=w.heap.size) (w.alloc b):=by
  have hE:cI μ.length μ I w μ (fun c=>I c\/c=w.heap.size) (w.alloc b):=
    { get:=fun _ B _ h=>⟨B,h,le_refl _,fun _=>.inl rfl,fun _ _=>rfl⟩
      len:=le_refl _
      len':=le_refl _
      os:=rfl
      tape:=rfl
      output:=rfl
      size:=by simp
      imm:=fun c hc=>⟨.inl hc,heap_alloc_old w b (hs.ilt c hc)⟩
      shape:=fun c cs e f hc=>⟨cs,by rw[heap_alloc_old w b (Array.getElem?_eq_some_iff.1 hc).1];exact hc,rfl⟩
      inew:=fun c hc=>by
        rcases hc with h|h
        · exact .inl h
        · exact .inr<|.inr (by omega)
      mnew:=fun _ h=>.inl h
      keep:=fun c hc _=>heap_alloc_old w b hc}
  refine⟨{ len:=hs.len,inj:=hs.inj,lt:=fun c hc=>by have:=hs.lt c hc;simp;omega,off:=fun c hc hi=>?_,ilt:=fun c hc=>?_,objs:=fun i o c ho hc=>?_},hE⟩
  · rcases hi with hi|hi
    · exact hs.off c hc hi
    · have:=hs.lt c hc;omega
  · rcases hc with hc|hc
    · have:=hs.ilt c hc;simp;omega
    · simp;omega
  · exact(hs.objs i o c ho hc).ext hE fun d hd=>heap_alloc_old w b<|hs.lt d<|.of hc hd
theorem St.drew (hs:St μ I w H):St μ I w.drew H/\cI μ.length μ I w μ I w.drew:=by
 have hE:cI μ.length μ I w μ I w.drew:=
  ⟨fun _ B _ h=>⟨B,h,le_refl _,fun _=>.inl rfl,fun _ _=>rfl⟩,le_refl _,le_refl _,rfl,rfl,rfl,le_refl _,fun _ h=>⟨h,rfl⟩,fun _ c _ _ h=>⟨c,h,rfl⟩,fun _ h=>.inl h,fun _ h=>.inl h,fun _ _ _=>rfl⟩
 exact⟨⟨hs.len,hs.inj,hs.lt,hs.off,hs.ilt,fun i o b ho hb=>(hs.objs i o b ho hb).ext hE fun _ _=>rfl⟩,hE⟩
end
section
variable {P : Program} {o : Oper} {env : aE} {H : List ab}
def jR (env:aE):List (Nat×Operand)->Option (List (Nat×LV))
 |[]=>some []
 |(i,x)::r=>match bf env x,jR env r with|some y,some ys=>some ((i,y)::ys)|_,_=>none
def yR (places:List (Nat×Nat)):List LV->List (Nat×LV)->Option (List LV)
 |cells,[]=>some cells
 | cells,(i,l)::r=>
  match br places i,iX l with
  | some (off,size),some cs=>
   match dq cs with
   |some n=>match beq n size with
    |true=>match uD cells off cs with|some c=>yR places c r|none=>none
    |false=>none
   |none=>none
  |_,_=>none
theorem pj (off:Nat):∀(vs:List Value) (j:Nat) (cs:Array Value),off+j+vs.length<=cs.size->
  ((vs.zipIdx j).foldl (fun cs (c,j)=>cs.setIfInBounds (off+j) c) cs).toList=cs.toList.take (off+j)++vs++cs.toList.drop (off+j+vs.length)
 |[],j,cs,_=>by simp
 |v::vs,j,cs,h=>by
  rw[List.zipIdx_cons,foldl_cons,pj off vs (j+1) _ (by simp at h⊢;omega)]
  have hlt:off+j<cs.toList.length:=by simp at h⊢;omega
  simp only[Array.toList_setIfInBounds,length_cons];rw[show off+(j+1)=off+j+1 by omega,List.take_set,List.drop_set,i1_ (by omega),List.take_succ_eq_append_getElem hlt];rw[List.set_append,i0_ (by simp;omega)];simp only[length_take];rw[show off+j-min (off+j) cs.toList.length=0 by omega];simp;omega
theorem tY {μ:List ci}{I:Nat->Prop}{w:World}{places:List (Nat×Nat)}{pf:Nat->Option (Nat×Nat)}(hpf:∀i r,br places i=some r->pf i=some r) :
  ∀{ls:List (Nat×LV)} {vs:List (Nat×Value)} {zs cs:List LV} {cells:Array Value},ls.length=vs.length->
   (∀(i:Nat) a b,ls[i]?=some a->vs[i]?=some b->a.1=b.1/\aH μ I w a.2 b.2)->
   cells.size=zs.length->(∀u∈cells,eT u=true)->(∀(i:Nat) c u,zs[i]?=some c->cells[i]?=some u->aH μ I w c u)->
   yR places zs ls=some cs->
   ∃out,Instr.fill pf cells vs=some out/\out.size=cs.length/\(∀u∈out,eT u=true)/\∀(i:Nat) c u,cs[i]?=some c->out[i]?=some u->aH μ I w c u
 |[],[],zs,cs,cells,_,_,h1,h2,h3,hf=>by
  simp[yR]at hf;subst hf;exact⟨cells,rfl,h1,h2,h3⟩
 | (i, l)::ls,(i',v)::vs,zs,cs,cells,hl,hr,h1,h2,h3,hf=>by
  obtain⟨e,hv⟩:=hr 0 _ _ rfl rfl;simp only at e hv;subst e;simp only[yR]at hf;split at hf
  ·rename_i off size ps hp hc;split at hf
   ·rename_i n hn;split at hf
    ·rename_i hb;split at hf
     ·rename_i c hcc;obtain⟨c1,c2,c3⟩:=jG hc hv;have hn':=cd hn;have hb':=eq_of_beq_eq_true hb;obtain⟨s1,s2⟩:=s6 hcc
      have hsz:v.cells.size=size:=by omega
      have hfold:=pj off v.cells.toList 0 cells (by simp;omega);simp only[add_zero]at hfold;obtain⟨nc,hnc⟩:∃nc,nc=(v.cells.toList.zipIdx).foldl (fun cs (c,j)=>cs.setIfInBounds (off+j) c) cells:=⟨_,rfl⟩;rw[<-hnc]at hfold
      have hncs:nc.size=cells.size:=by
       have:=congrArg length hfold;simp at this;omega
      have hzip:(v.cells.zipIdx).foldl (fun cs (c,j)=>cs.setIfInBounds (off+j) c) cells=nc:=by
       rw[hnc,<-Array.foldl_toList,Array.toList_zipIdx]
      have hone:∀u∈nc,eT u=true:=by
       intro u hu
       have hu':u∈nc.toList:=by simpa using hu
       rw[hfold]at hu';simp at hu';rcases hu' with hu'|hu'|hu'
       ·exact h2 u (by simpa using mem_of_mem_take hu')
       ·exact c2 u (by simpa using hu')
       ·exact h2 u (by simpa using List.mem_of_mem_drop hu')
      have hrep:∀(i:Nat) d u,c[i]?=some d->nc[i]?=some u->aH μ I w d u:=by
       intro i d u hd hu
       have hu':nc.toList[i]?=some u:=by simpa using hu
       rw[hfold]at hu';rw[s1]at hd;rw[List.append_assoc,getElem?_append]at hd hu'
       have l1:(List.take off cells.toList).length=off:=by simp;omega
       have l2:(List.take off zs).length=off:=by simp;omega
       rw[l1]at hu';rw[l2]at hd;split at hd
       ·rename_i hi;rw[i1_ hi,getElem?_take_of_lt hi]at hu';rw[getElem?_take_of_lt hi]at hd;exact h3 i d u hd (by simpa using hu')
       ·rename_i hi;rw[i0_ hi]at hu';rw[getElem?_append]at hd hu'
        have l3:v.cells.toList.length=ps.length:=by simpa using c1
        rw[l3]at hu';split at hd
        ·rename_i hj;rw[i1_ hj]at hu';exact c3 _ d u hd (by simpa using hu')
        ·rename_i hj;rw[i0_ hj]at hu';rw[getElem?_drop]at hd hu';exact h3 _ d u hd (by simpa using hu')
      obtain⟨out,o1,o2⟩:=tY hpf (ls:=ls) (vs:=vs) (zs:=c) (cs:=cs) (cells:=nc) (by simpa using hl) (fun i a b ha hb=>hr (i+1) a b (by simpa using ha) (by simpa using hb)) (by rw[hncs,h1,s1];simp;omega) hone hrep hf;refine⟨out,?_,o2⟩;simp only[Instr.fill,hpf i _ hp];rw[i0_ (by simp;omega),hzip];exact o1
     ·cases hf
    ·cases hf
   ·cases hf
  ·cases hf
 |[],_::_,_,_,_,hl,_,_,_,_,_=>by simp at hl
 |_::_,[],_,_,_,hl,_,_,_,_,_=>by simp at hl
theorem jb {μ:List ci}{I:Nat->Prop}{w:World}{a:Act}(he:EI μ I w o env a):∀{ps:List (Nat×Operand)} {ls:List (Nat×LV)},(∀p∈ps,p.2∈o.op.operands)->jR env ps=some ls->
  ls.length=(ps.map fun p=>(p.1,a.eval p.2)).length/\∀(i:Nat) x y,ls[i]?=some x->(ps.map fun p=>(p.1,a.eval p.2))[i]?=some y->x.1=y.1/\aH μ I w x.2 y.2
 |[],ls,_,h=>by simp[jR]at h;subst h;simp
 | (j,x)::ps,ls,hm,h=>by
  simp only[jR]at h;split at h
  ·rename_i y ys hy hys;cases h;obtain⟨h1,h2⟩:=jb he (ps:=ps) (fun p hp=>hm p (.tail _ hp)) hys;refine⟨by simp at h1⊢;omega,fun i u v hu hv=>?_⟩
   cases i with
   |zero=>simp at hu hv;subst hu;subst hv;exact⟨rfl,he.ev (hm _ (.head _)) hy⟩
   |succ i=>exact h2 i u v (by simpa using hu) (by simpa using hv)
  ·cases h
def cO (P:Program)(t:TypeId):Option (List LV×List (Nat×Nat)):=
 match P.info? t,P.underlying t with
 |some it,some (.struct fields)=>
  match it.zero,fields.toList.mapM (fun f=>(P.info? f.type).map fun i=>(f.offset,i.size))with
  |some z,some places=>match cy z.cells.toList with|some zs=>some (zs,places)|none=>none
  |_,_=>none
 |some it,some (.array n e)=>
  match it.zero,P.info? e with
  |some z,some ie=>match cy z.cells.toList with|some zs=>some (zs,(range n).map fun i=>(i*ie.size,ie.size))|none=>none
  |_,_=>none
 |_,_=>none
theorem aa.build {t:TypeId}{parts:Array (Nat×Operand)}{zs cs:List LV}{places:List (Nat×Nat)}{ls:List (Nat×LV)}{r:LV}(ho:o.op=.build t parts)(hT:cO P t=some (zs,places))
  (hl:jR env parts.toList=some ls) (hf:yR places zs ls=some cs) (hr:IT cs=some r):aa P o env H (Is r H):=
 aa.val fun a w μ I hst he=>by
  obtain⟨l1,l2⟩:=jb he (ps:=parts.toList) (fun p hp=>by
   rw[ho];simp[Op.operands]
   exact⟨p.1,by simpa using hp⟩) hl
  have e:(parts.map fun(i,x)=>(i,a.eval x)).toList=parts.toList.map fun p=>(p.1,a.eval p.2):=by simp
  unfold cO at hT;split at hT
  ·rename_i it fields hi hu;split at hT
   ·rename_i z pl hz hpl;split at hT
    ·rename_i zs' hzs;cases hT;obtain⟨z1,z2,z3⟩:=ca (μ:=μ) (I:=I) (w:=w) hzs
     obtain⟨out,o1,o2,o3,o4⟩:=tY (μ:=μ) (I:=I) (w:=w) (places:=places) (pf:=(places.toArray[·]?)) (fun i r h=>by rw[bj]at h;simpa using h) l1 l2 (cells:=z.cells) (by simpa using z1)
      (fun u hu=>z2 u (by simpa using hu)) (fun i c u hc hu=>z3 i c u hc (by simpa using hu)) hf
     have hb:P.built t (parts.map fun(i,x)=>(i,a.eval x)).toList=some out:=by
      unfold Program.built;simp only[hi,hu,hz,hpl,e,o1]
     exact⟨.agg out,by simp only[execOp,ho];simp[run_build w t _ out hb],by rw[wx hr];exact lH o2 o3 o4⟩
    ·cases hT
   ·cases hT
  ·rename_i it n el hi hu;split at hT
   ·rename_i z ie hz hie;split at hT
    ·rename_i zs' hzs;cases hT;obtain⟨z1,z2,z3⟩:=ca (μ:=μ) (I:=I) (w:=w) hzs
     obtain⟨out,o1,o2,o3,o4⟩:=tY (μ:=μ) (I:=I) (w:=w) (pf:=fun i=>some (i*ie.size,ie.size)) (fun i r h=>by
      rw[bj,getElem?_map]at h
      cases hx:(range n)[i]? with
      |none=>rw[hx]at h;cases h
      |some j=>
       rw[hx]at h;cases h;have:=(List.getElem?_eq_some_iff.1 hx).2
       simp at this;subst this;rfl) l1 l2 (cells:=z.cells) (by simpa using z1)
      (fun u hu=>z2 u (by simpa using hu)) (fun i c u hc hu=>z3 i c u hc (by simpa using hu)) hf
     have hb:P.built t (parts.map fun(i,x)=>(i,a.eval x)).toList=some out:=by
      unfold Program.built;simp only[hi,hu,hz,hie,e,o1]
     exact⟨.agg out,by simp only[execOp,ho];simp[run_build w t _ out hb],by rw[wx hr];exact lH o2 o3 o4⟩
    ·cases hT
   ·cases hT
  ·cases hT
end
def PV.oneB :PV->Bool
 |.agg _=>false
 |_=>true
def sv :List PV->Bool
 |[]=>true
 |x::r=>match PV.oneB x with|true=>sv r|false=>false
def kJ (m:Nat):List PV->Bool
 |[]=>true
 | x::r=>match eR x with
  | some ps=>match dq ps with
   |some n=>match beq n m with
    |true=>match sv ps with|true=>kJ m r|false=>false
    |false=>false
   |none=>false
  |none=>false
theorem mr :∀{ps:List PV},sv ps=true->∀c∈ps,c.one
 |[],_,c,hc=>by simp at hc
 | x::r,h,c,hc=>by
  simp only[sv]at h;split at h
  ·rename_i h1
   cases hc with
   |head=>cases x <;>simp_all [PV.oneB,PV.one]
   |tail _ hc=>exact mr h c hc
  ·cases h
theorem fk {m:Nat}:∀{xs:List PV},kJ m xs=true->b9 m xs
 |[],_=>.nil
 | x ::r,h=>by
  simp only[kJ]at h;split at h
  ·rename_i ps hp;have e:=gx hp;subst e;split at h
   ·rename_i n hn;split at h
    ·rename_i hb;split at h
     ·rename_i ho;exact .cons ⟨by rw[<-cd hn];exact eq_of_beq_eq_true hb,mr ho⟩ (fk h)
     ·cases h
    ·cases h
   ·cases h
  ·cases h
theorem b9.map {α:Type}{m:Nat}{f:α->PV}(h:∀a,(f a).cells.length=m/\∀c∈(f a).cells,c.one)(l:List α):b9 m (l.map f):=by
 intro x hx;obtain⟨a,-,rfl⟩:=mem_map.1 hx;exact h a
def nq :Nat->List (Nat×LV)->Option (List PV)
 |_,[]=>some []
 |i,(j,.p y)::r=>match beq j i with|true=>(match nq (i+1) r with|some s=>some (y::s)|none=>none)|false=>none
 |_,_::_=>none
theorem rL :∀{ls:List (Nat×LV)} {i:Nat} {ys:List PV},nq i ls=some ys->ls.length=ys.length/\∀(q:Nat) x,ls[q]?=some x->∃y,ys[q]?=some y/\x=(i+q,.p y)
 |[],i,ys,h=>by simp[nq]at h;subst h;simp
 | (j,.p y)::r,i,ys,h=>by
  simp only[nq]at h;split at h
  ·rename_i hb;split at h
   ·rename_i s hs;cases h;obtain⟨h1,h2⟩:=rL hs;refine⟨by simp[h1],fun q x hq=>?_⟩
    cases q with
    |zero=>simp at hq;subst hq;exact⟨y,rfl,by rw[eq_of_beq_eq_true hb];rfl⟩
    |succ q=>
     obtain⟨z,hz,e⟩:=h2 q x (by simpa using hq);exact⟨z,by simpa using hz,by rw[e,show i+1+q=i+(q+1) by omega]⟩
   ·cases h
  ·cases h
 |(j,.agg _)::_,_,_,h=>by simp[nq]at h
 |(j,.tup _)::_,_,_,h=>by simp[nq]at h
 |(j,.ptr _ _)::_,_,_,h=>by simp[nq]at h
 |(j,.cptr _)::_,_,_,h=>by simp[nq]at h
 |(j,.vec _ _ _ _ _)::_,_,_,h=>by simp[nq]at h
 |(j,.vptr _ _ _ _ _)::_,_,_,h=>by simp[nq]at h
 |(j,.zs)::_,_,_,h=>by simp[nq]at h
 |(j,.map _)::_,_,_,h=>by simp[nq]at h
 |(j,.nilmap)::_,_,_,h=>by simp[nq]at h
 |(j,.fn _ _ _)::_,_,_,h=>by simp[nq]at h
 |(j,.any)::_,_,_,h=>by simp[nq]at h
section
variable {μ : List ci} {I : Nat -> Prop} {w : World}
theorem tX {m:Nat}(hm:0<m):∀{vs:List (Nat×Value)} {i:Nat} {ys:List PV} {cells:Array Value},vs.length=ys.length->b9 m ys->
  (∀(q:Nat) y v,ys[q]?=some y->vs[q]?=some v->v.1=i+q/\fA I w y v.2)->m*(i+ys.length)=cells.size->
  ∃out,Instr.fill (fun i=>some (i*m,m)) cells vs=some out/\out.size=cells.size/\(∀q,q<m*i->out[q]?=cells[q]?)/\
   ∀(q:Nat) c u,(flat ys)[q]?=some c->out[m*i+q]?=some u->fA I w c u
 |[],i,[],cells,_,_,_,_=>⟨cells,rfl,rfl,fun _ _=>rfl,fun q c u hc=>by simp[flat]at hc⟩
 | (j,v)::vs,i,y::ys,cells,hl,he,hr,hs=>by
  obtain⟨e,hv⟩:=hr 0 y (j,v) rfl rfl;simp only[add_zero]at e hv;subst e;have hye:=he y (.head _)
  have hvc:v.cells.size=m/\(∀(q:Nat) c u,y.cells[q]?=some c->v.cells[q]?=some u->fA I w c u):=by
   cases hv with
   |int h=>exact⟨by have:=hye.1;simp only[PV.cells,List.length_singleton]at this;simpa [Value.cells]using this,fun q c u hc hu=>by cases q <;>simp[PV.cells,Value.cells]at hc hu;subst hc;subst hu;exact .int h⟩
   |bool=>exact⟨by have:=hye.1;simp only[PV.cells,List.length_singleton]at this;simpa [Value.cells]using this,fun q c u hc hu=>by cases q <;>simp[PV.cells,Value.cells]at hc hu;subst hc;subst hu;exact .bool⟩
   |agg hl' ho h=>exact⟨by simp only[Value.cells];rw[hl'];exact hye.1,h⟩
   |slice f h1 h2 h3 h4 h5 h6=>exact⟨by have:=hye.1;simp only[PV.cells,List.length_singleton]at this;simpa [Value.cells]using this,fun q c u hc hu=>by cases q <;>simp[PV.cells,Value.cells]at hc hu;subst hc;subst hu;exact .slice f h1 h2 h3 h4 h5 h6⟩
  have hmi:m*(j+(y::ys).length)=m*j+m+m*ys.length:=by rw[length_cons,mul_add,mul_add,mul_one];omega
  have hfold:=pj (j*m) v.cells.toList 0 cells (by simp only[add_zero,Array.length_toList];rw[mul_comm];omega);simp only[add_zero]at hfold;obtain⟨nc,hnc⟩:∃nc,nc=(v.cells.toList.zipIdx).foldl (fun cs (c,q)=>cs.setIfInBounds (j*m+q) c) cells:=⟨_,rfl⟩;rw[<-hnc]at hfold
  have hzip:(v.cells.zipIdx).foldl (fun cs (c,q)=>cs.setIfInBounds (j*m+q) c) cells=nc:=by
   rw[hnc,<-Array.foldl_toList,Array.toList_zipIdx]
  have hncs:nc.size=cells.size:=by
   have:=congrArg length hfold;simp only[List.length_append,length_take,length_drop,Array.length_toList]at this;rw[mul_comm j m]at this;omega
  have hmj:j*m=m*j:=mul_comm _ _
  have hget:∀q,nc[q]?=if q<m*j then cells[q]? else if q<m*j+m then v.cells[q-m*j]? else cells[q]?:=by
   intro q
   have h1:nc.toList[q]?=nc[q]?:=by simp
   rw[<-h1,hfold,hmj,List.append_assoc,getElem?_append,getElem?_append];simp only[length_take,Array.length_toList];rw[Nat.min_eq_left (show m*j<=cells.size by omega)];split
   ·rw[getElem?_take_of_lt (by assumption)];simp
   ·rw[hvc.1];split
    ·rw[i1_ (by omega)];simp
    ·rw[i0_ (by omega),getElem?_drop];simp;congr 1;omega
  obtain⟨out,o1,o2,o3,o4⟩:=tX hm (vs:=vs) (i:=j+1) (ys:=ys) (cells:=nc) (by simpa using hl) he.tail
   (fun q z u hz hu=>by have:=hr (q+1) z u (by simpa using hz) (by simpa using hu);exact⟨by omega,this.2⟩) (by rw[hncs,<-hs,hmi,mul_add,mul_add,mul_one])
  have hm1:m*(j+1)=m*j+m:=by rw[mul_add,mul_one]
  refine⟨out,?_,by omega,fun q hq=>?_,fun q c u hc hu=>?_⟩
  ·simp only[Instr.fill];rw[i0_ (by rw[hvc.1,hmj];simp;omega),hzip];exact o1
  ·rw[o3 q (by omega),hget q,i1_ hq]
  ·rw[dm,getElem?_append]at hc;rw[hye.1]at hc;split at hc
   ·rename_i hq;rw[o3 _ (by omega),hget,i0_ (by omega),i1_ (by omega)]at hu;exact hvc.2 q c u hc (by rw[show m*j+q-m*j=q by omega]at hu;exact hu)
   ·rename_i hq;exact o4 (q-m) c u hc (by rw[hm1,show m*j+m+(q-m)=m*j+q by omega];exact hu)
 |[],_,_::_,_,hl,_,_,_=>by simp at hl
 |_::_,_,[],_,hl,_,_,_=>by simp at hl
end
section
variable {P : Program} {o : Oper} {env : aE} {H : List ab}
theorem tN (w:World)(cs:Array Value)(e:TypeId)(i:Nat):(w.alloc (.cells cs e)).cell? ⟨w.heap.size,i,none⟩=cs[i]?:=by
 unfold World.cell?;rw[show(w.alloc (.cells cs e)).heap[(⟨w.heap.size,i,none⟩:Addr).block]?=some (.cells cs e)from heap_alloc_new w _];rfl
theorem aa.buildSlice {t:TypeId}{len m bytes:Nat}{parts:Array (Nat×Operand)}{ls:List (Nat×LV)}{ys:List PV}(ho:o.op=.buildSlice t len parts)(hT:dn P t=some (m,bytes))
  (hl:jR env parts.toList=some ls) (hy:nq 0 ls=some ys) (hlen:dq ys=some len) (he:kJ m ys=true) (hsm:ble (len*m) 16777216=true) :
  aa P o env H (Is (.p (.slice m ys)) H):=by
 intro a w μ I hs hE K Q hK
 obtain⟨l1,l2⟩:=jb hE (ps:=parts.toList) (fun p hp=>by
  rw[ho];simp[Op.operands]
  exact⟨p.1,by simpa using hp⟩) hl
 have e:(parts.map fun(i,x)=>(i,a.eval x)).toList=parts.toList.map fun p=>(p.1,a.eval p.2):=by simp
 obtain⟨p1,p2⟩:=rL hy;have hlen':=cd hlen;obtain⟨el,i,z,hu,hi,hz,hzs,rfl,rfl,hpos⟩:=cA hT;have hel:=fk he
 have hcz:((Array.range (len*i.size)).map (z.cells[· % z.cells.size]!)).size=len*i.size:=by simp
 obtain⟨out,o1,o2,-,o4⟩:=tX (I:=I) (w:=w) hpos (vs:=parts.toList.map fun p=>(p.1,a.eval p.2)) (i:=0) (ys:=ys) (cells:=(Array.range (len*i.size)).map (z.cells[· % z.cells.size]!))
  (by omega) hel (fun q y v hy hv=>by
   have hq:=(List.getElem?_eq_some_iff.1 hy).1;have hx:ls[q]?=some (ls[q]'(by omega)):=getElem?_eq_getElem (by omega);obtain⟨y',hy',e'⟩:=p2 q _ hx;obtain⟨h5,h6⟩:=l2 q _ v hx hv;rw[hy]at hy';cases hy';rw[e']at h5 h6;refine⟨h5.symm,?_⟩
   cases h6;assumption) (by rw[hcz,<-hlen',zero_add,mul_comm])
 have hrun:(execOp a.eval o).run P w=.ok (.value (.slice (some ⟨w.heap.size,0,none⟩) len len)) (w.alloc (.cells out el)):=by
  simp only[execOp,ho,Instr.buildSlice]
  have h1:¬(len*i.size>16777216):=by have:=Nat.le_of_ble_eq_true hsm;omega
  simp only[Sem.run_bind,run_underlying hu,Result.andThen_ok,Sem.run_pure]
  have hso:(sizeOf el).run P w=.ok i.size w:=by simp[sizeOf,typeInfo,hi]
  simp only[hso,Result.andThen_ok];rw[i0_ (by simpa using h1)];by_cases h0:len*i.size=0
  ·have hl0:len=0:=by
    rcases Nat.mul_eq_zero.1 h0 with h|h
    ·exact h
    ·omega
   subst hl0;rw[i1_ h0]
   have hp0:parts.toList.map (fun p=>(p.1,a.eval p.2))=[]:=by
    apply List.eq_nil_of_length_eq_zero;omega
   rw[hp0]at o1;simp[Instr.fill]at o1;have hr0:Array.range 0=#[]:=rfl
   have ho1:out=#[]:=by rw[<-o1,hr0];simp
   simp[hp0,Instr.fill,newRow,ho1,hr0]
  ·rw[i0_ h0]
   have hzv:(zeroValue el).run P w=.ok z w:=by simp[zeroValue,typeInfo,hi,hz]
   simp only[Sem.run_bind,hzv,Result.andThen_ok,Sem.run_pure,e,o1];simp[newRow]
 unfold Oper.wp;rw[hrun];obtain⟨hs',hE'⟩:=hs.fresh (.cells out el);refine hK (.p (.slice i.size ys)) H _ _ μ _ ⟨rfl,rfl⟩ hs' (.p ?_) hE';have hfl:=cF hel;refine .slice (fun q=>out.getD q undef) hlen' (le_refl _) ?_ hel (fun q c hc=>?_)<|fun q c hc=>?_
 ·have:=Nat.le_of_ble_eq_true hsm;have h2:len<=len*i.size:=Nat.le_mul_of_pos_right _ hpos;unfold maxLen;omega
 ·have hq:=(List.getElem?_eq_some_iff.1 hc).1;refine⟨w.heap.size,0,rfl,.inr rfl,?_⟩
  have hqs:q<out.size:=by rw[o2,hcz,hlen',mul_comm];omega
  rw[zero_add,tN];simp[Array.getElem?_eq_getElem hqs]
 ·have hq:=(List.getElem?_eq_some_iff.1 hc).1
  have hqs:q<out.size:=by rw[o2,hcz,hlen',mul_comm];omega
  have hg:out[0+q]?=some out[q]:=by rw[zero_add];exact Array.getElem?_eq_getElem hqs
  have:=o4 q c _ hc (by rw[Nat.mul_zero];exact hg);simp only[Array.getD_eq_getD_getElem?,Array.getElem?_eq_getElem hqs,getD_some];exact this.mono hE'.imm
end
end Go.Mg
