/- Plain laws of weights on blocks, and of the head: the program's side. Conditions: none. -/
import Derived.Test.YtfbigoipfbiliaaGreatX7
set_option maxRecDepth 100000
set_option linter.unusedSimpArgs false
set_option linter.unusedVariables false
namespace Go.Mg
open IntKind (i64)
open Go.Proofs.Tryz (prog)
open List (any_eq_true append_assoc append_nil cons_append find?_some getElem?_of_mem getElem?_take_of_lt length_append length_cons length_filter_le length_map length_singleton length_take map_cons map_nil mem_append mem_append_left mem_cons mem_filter mem_singleton nil_append take_length take_of_length_le)
open Nat (ble le_refl le_trans zero_le)
open Option (getD_some isSome_none isSome_some)
open Int (toNat_natCast)
open Go.Proofs
variable {α β : Type} {BB l : List Bk} {b : Bk} {c : Cf} {cm : List Int} {f r_ : Bool} {i j kk : Nat} {id : ID} {m sm0 : List (ID × Int)} {o w : Vw} {p : α -> Bool} {slot upto : Int} {v x : Vt} {y : α}
theorem mp {step:α->Option (α⊕β)}{n:Nat}{x y:α}(h:step x=some (.inl y)):iter step (n+1) x=iter step n y:=by
 rw[iter,h]
theorem eK {step:α->Option (α⊕β)}{n:Nat}{x:α}{b:β}(h:step x=some (.inr b)):iter step (n+1) x=some b:=by
 rw[iter,h]
theorem KX :aY=4611686018427387901+1+1+1:=rfl
def qx (a b:ID):Bool:=decide (a.1<b.1\/a.1=b.1/\a.2<b.2)
def mh (x y:Int):Int:=if x<y then -1 else if x>y then 1 else 0
theorem Cm (x y:Int):Fh x y=some (mh x y):=by
 have h:∀z:Int,Dw z=some false:=fun z=>by unfold Dw;rw[show(z != z)=false by simp]
 unfold Fh mh;rw[h x,ob,h y,ob,cf,cf];by_cases h1:x<y
 ·rw[aP h1,ct,i1_ h1]
 ·rw[aR h1,cf,i0_ h1];by_cases h2:x>y
  ·rw[aP h2,ct,i1_ h2]
  ·rw[aR h2,cf,i0_ h2]
theorem xu (a1 a2 b1 b2:Int):Dp [a1,a2] [b1,b2]=some (if mh a1 b1≠0 then mh a1 b1 else mh a2 b2):=by
 unfold Dp
 have h0:∀i:Int,i=0->kj [a1,a2] [b1,b2] (fz.mk i)=if mh a1 b1≠0 then some (.inr (.inr (mh a1 b1)))else some (.inl (fz.mk 1)):=by
  rintro i rfl;unfold kj;simp only;rw[show decide ((0:Int)<(([a1,a2]:List Int).length:Int))=true from rfl,ct,show ix [a1,a2] 0=some a1 from rfl,ob,show decide ((0:Int)>=(([b1,b2]:List Int).length:Int))=false from rfl,cf,show ix [b1,b2] 0=some b1 from rfl,ob,Cm,ob,show i64.wrap (0+1)=1 from cX];by_cases h:mh a1 b1=0
  ·rw[show(mh a1 b1 != 0)=false by simp[h],cf,i0_ (not_not_intro h)]
  ·rw[show(mh a1 b1 != 0)=true by simp[h],ct,i1_ h]
 have h1:kj [a1,a2] [b1,b2] (fz.mk 1)=if mh a2 b2≠0 then some (.inr (.inr (mh a2 b2)))else some (.inl (fz.mk 2)):=by
  unfold kj;simp only;rw[show decide ((1:Int)<(([a1,a2]:List Int).length:Int))=true from rfl,ct,show ix [a1,a2] 1=some a2 from rfl,ob,show decide ((1:Int)>=(([b1,b2]:List Int).length:Int))=false from rfl,cf,show ix [b1,b2] 1=some b2 from rfl,ob,Cm,ob,show i64.wrap (1+1)=2 from cX];by_cases h:mh a2 b2=0
  ·rw[show(mh a2 b2 != 0)=false by simp[h],cf,i0_ (not_not_intro h)]
  ·rw[show(mh a2 b2 != 0)=true by simp[h],ct,i1_ h]
 have h2:kj [a1,a2] [b1,b2] (fz.mk 2)=some (.inr (.inl (fz.mk 2))):=by
  unfold kj;simp only;rw[show decide ((2:Int)<(([a1,a2]:List Int).length:Int))=false from rfl,cf]
 rw[KX];by_cases c1:mh a1 b1=0
 ·have e1:=h0 0 rfl;rw[i0_ (not_not_intro c1)]at e1;rw[mp e1,i0_ (not_not_intro c1)];by_cases c2:mh a2 b2=0
  ·rw[i0_ (not_not_intro c2)]at h1;rw[mp h1,eK h2,ob,sl,show decide ((([a1,a2]:List Int).length:Int)<(([b1,b2]:List Int).length:Int))=false from rfl,cf,c2]
  ·rw[i1_ c2]at h1;rw[eK h1,ob,sr]
 ·have e1:=h0 0 rfl;rw[i1_ c1]at e1;rw[eK e1,i1_ c1,ob,sr]
theorem Id (a b:ID):EU a b=some (qx a b):=by
 unfold EU qx;rw[xu,ob];congr 1;refine decide_eq_decide.2 ?_;unfold mh;by_cases h1:a.1<b.1
 ·simp[h1]
 ·by_cases h2:a.1>b.1
  ·have:a.1≠b.1:=by omega
   simp[h1,h2,this]
  ·have:a.1=b.1:=by omega
   by_cases h3:a.2<b.2
   ·simp[this,h3]
   ·by_cases h4:a.2>b.2 <;>simp[this,h3,h4]
theorem D7 (a:ID):qx a a=false:=by unfold qx;exact aR (by omega)
def kG (a b:Rk):Bool:=if a.n=b.n then qx b.id a.id else decide (a.n>b.n)
theorem Ie (a b:Rk):EV a b=some (kG a b):=by
 unfold EV kG;by_cases h:a.n=b.n
 ·rw[show(a.n != b.n)=false by simp[h],cf,i1_ h,show(a.n==b.n)=true by simp[h],Bool.true_and,ry];by_cases h2:a.id=b.id
  ·rw[aP h2,Bool.not_true,cf,h2,D7]
  ·rw[aR h2,Bool.not_false,ct,Id,ob]
 ·rw[show(a.n != b.n)=true by simp[h],ct,i0_ h]
def gM (l:List Bk)(id h:ID):Bool:=decide (id∈ao l h)
def mL (l:List Bk)(v:List Vt)(id:ID):List Int:=(v.filter fun x=>gM l id x.Head).map Vt.From
def lJ (c:Cf)(l:List Bk)(v:List Vt)(id:ID):Int:=xa c (mL l v id)
theorem dh [DecidableEq α]{m:List (α×β)}{k q:α}{v:β}:am (bP m k v) q=if k=q then some v else am m q:=by
 induction m with
 |nil=>simp[bP,am]
 | cons p r ih=>
  obtain⟨a,b⟩:=p;unfold bP;by_cases h:a=k
  ·rw[i1_ h];subst h;by_cases h2:a=q
   ·simp[am,h2]
   ·simp[am,h2]
  ·rw[i0_ h];simp only[am];rw[ih];by_cases h2:a=q
   ·rw[i1_ h2,i1_ h2,i0_ (fun e=>h (by rw[h2,e]))]
   ·rw[i0_ h2,i0_ h2]
def A0 (l:List Bk)(id:ID)(m:List (ID×Bool)):Prop:=∀h b,am m h=some b->b=gM l id h
theorem It (hl:l.length<=1000){m:List (ID×Bool)}(hm:A0 l id m):∃m',E9 x c l id m=some (gM l id x.Head,m')/\A0 l id m':=by
 unfold E9
 have hu:decide (ap (ao l x.Head) id>=0)=gM l id x.Head:=by
  unfold gM;exact decide_eq_decide.2 ⟨fun h=>dj.1 h,fun h=>dj.2 h⟩
 cases hf:am m x.Head with
 | none=>
  refine⟨bP m x.Head (gM l id x.Head),?_,?_⟩
  ·rw[isSome_none,Bool.not_false,ct,LD hl,ct,hu]
  ·intro h b hb;rw[dh]at hb;by_cases e:x.Head=h
   ·rw[i1_ e]at hb;cases hb;rw[e]
   ·rw[i0_ e]at hb;exact hm h b hb
 |some b=>
  refine⟨m,?_,hm⟩;rw[isSome_some,Bool.not_true,cf,getD_some,hm _ _ hf]
theorem aL {l:List α}(h:l[j]?=some y):l.take (j+1)=l.take j++[y]:=by rw[List.take_add_one,h];rfl
theorem vJ {v:List Vt}{n:Nat}{y:Vt}(hy:v[n]?=some y):mL l (v.take (n+1)) id=mL l (v.take n) id++bif gM l id y.Head then[y.From]else[]:=by
 unfold mL;rw[aL hy,List.filter_append,List.map_append];cases h:gM l id y.Head <;>simp[h]
theorem qo (l:List Bk)(v:List Vt)(id:ID):(mL l v id).length<=v.length:=by
 unfold mL;rw[length_map];exact length_filter_le _ _
theorem Iu (hl:l.length<=1000){v:List Vt}(hv:v.length<=1000):∃m',Fa v c l id []=some (mL l v id,m'):=by
 unfold Fa
 have key:=bA (step:=pL v c l id) (fun x=>∃n:Nat,n<=v.length/\x.t12=n/\A0 l id x.o3/\x.out=mL l (v.take n) id) (fun x=>v.length-x.t12.toNat) (fun b=>b.out=mL l v id) (by
  rintro⟨t,m,out⟩ ⟨n,hn,h1,hm,ho⟩;simp only at h1 ho hm;subst h1 ho;by_cases hlt:n<v.length
  ·left;obtain⟨y,hy,-⟩:=az hlt;obtain⟨m',e,hm'⟩:=It hl (x:=y) (c:=c) hm;have hlen:=qo l (v.take n) id;rw[length_take]at hlen;refine⟨⟨((n+1:Nat):Int),m',mL l (v.take (n+1)) id⟩,?_,⟨n+1,hlt,rfl,hm',rfl⟩,by simp only;omega⟩;unfold pL;simp only;rw[dO,au hy,ob,e,ob,vJ hy,ah (n:=n)]
   cases hu:gM l id y.Head with
   |true=>rw[ct,show Iv y=some y.From from rfl,ob,aC (by simp only[length_singleton];omega),ct,ct]
   |false=>rw[cf,cf,append_nil]
  ·right
   obtain rfl:n=v.length:=by omega
   refine⟨⟨(v.length:Int),m,mL l (v.take v.length) id⟩,?_,by simp only[take_length]⟩;unfold pL;simp only
   rw[ft]) (n:=aY) (x:=⟨0,[],[]⟩) ⟨0,by omega,rfl,(fun h b hb=>by cases hb),by simp[mL]⟩ (cq (by simp only;omega))
 obtain⟨b,e,hp⟩:=key;exact⟨b.o3,by rw[e,ob,hp]⟩
theorem B9 (hl:l.length<=1000){v:List Vt}(hv:v.length<=1000)(c:Cf)(id:ID):Dl c l v id=some (lJ c l v id):=by
 unfold Dl;obtain⟨m',e⟩:=Iu hl hv (c:=c) (id:=id);have:=qo l v id;rw[e,ob,F2 (by simp only;omega),ob];rfl
theorem C6 (c:Cf)(l:List Bk)(v:List Vt)(id:ID):0<=lJ c l v id:=by
 unfold lJ xa;split
 ·next h=>exact(s9 h.okW.2 _).1
 ·omega
def fY (f:ID->Int):List ID->Rk->Rk
 |[],b=>b
 |k::r,b=>fY f r (bif kG ⟨f k,k⟩ b then⟨f k,k⟩else b)
theorem oZ (f:ID->Int)(k:ID):∀(a:List ID) (b:Rk),fY f (a++[k]) b=bif kG ⟨f k,k⟩ (fY f a b)then⟨f k,k⟩else fY f a b
 |[],_=>rfl
 |_::r,_=>oZ f k r _
def d7 (c:Cf)(l:List Bk)(v:List Vt)(id:ID):Rk:=fY (lJ c l v) (ba l id) ⟨-1,(0,0)⟩
theorem Aa (l:List Bk)(id:ID):(ba l id).length<=l.length:=by
 unfold ba;split
 ·simp
 ·rw[length_map];exact length_filter_le _ _
theorem F6 (hl:l.length<=1000){v:List Vt}(hv:v.length<=1000)(c:Cf)(id:ID):Ml c l v id=some ((d7 c l v id).id,decide ((d7 c l v id).n>=0)):=by
 unfold Ml;have hk:=Aa l id;rw[KA hl,ob]
 have e:=ax (step:=tA c l v (ba l id)) (n:=(ba l id).length) (fun n=>iW.mk (n:Int) (fY (lJ c l v) ((ba l id).take n) ⟨-1,(0,0)⟩)) (iW.mk ((ba l id).length:Int) (d7 c l v id)) (fun n hn=>by
  obtain⟨y,hy,-⟩:=az hn;unfold tA;simp only;rw[aP (show(n:Int)<((ba l id).length:Int) by omega),ct,au hy,ob,B9 hl hv,ob,Ie,ob,ah (n:=n),aL hy,oZ]
  cases kG ⟨lJ c l v y,y⟩ (fY (lJ c l v) ((ba l id).take n) ⟨-1,(0,0)⟩)with
  |true=>rw[ct,ct]
  |false=>rw[cf,cf]) (by
  unfold tA;simp only
  rw[aR (show¬((ba l id).length:Int)<((ba l id).length:Int) by omega),cf,take_length];rfl) (by omega)
 have e0:iW.mk ((0:Nat):Int) (fY (lJ c l v) ((ba l id).take 0) ⟨-1,(0,0)⟩)=iW.mk 0 (Rk.mk (-1) (0,0)):=rfl;rw[e0]at e;rw[e,ob]
theorem rr {f:ID->Int}(hf:∀k,0<=f k):∀(a:List ID) (b:Rk),(a=[]/\fY f a b=b)\/(fY f a b=b/\0<=b.n)\/(∃k∈a,fY f a b=⟨f k,k⟩)\/(b.n< -1)
 |[],b=>.inl ⟨rfl,rfl⟩
 | k ::r,b=>by
  by_cases hb:b.n< -1
  ·exact .inr<|.inr<|.inr hb
  ·unfold fY
   cases h:kG ⟨f k,k⟩ b with
   |true=>
    rw[ct];rcases rr hf r ⟨f k,k⟩with⟨rfl,e⟩|⟨e,-⟩|⟨k',hk',e⟩|h4
    ·exact .inr<|.inr<|.inl ⟨k,.head _,e⟩
    ·exact .inr<|.inr<|.inl ⟨k,.head _,e⟩
    ·exact .inr<|.inr<|.inl ⟨k',.tail _ hk',e⟩
    ·have:=hf k;simp only at h4;omega
   | false=>
    rw[cf]
    have hb0:0<=b.n:=by
     unfold kG at h;simp only at h;have:=hf k;by_cases e:f k=b.n
     ·omega
     ·rw[i0_ e]at h;have:=of_decide_eq_false h;omega
    rcases rr hf r b with⟨rfl,e⟩|h2|⟨k',hk',e⟩|h4
    ·exact .inr<|.inl ⟨e,hb0⟩
    ·exact .inr<|.inl h2
    ·exact .inr<|.inr<|.inl ⟨k',.tail _ hk',e⟩
    ·omega
theorem nf (c:Cf)(l:List Bk)(v:List Vt)(id:ID):(ba l id=[]/\d7 c l v id=⟨-1,(0,0)⟩)\/∃k∈ba l id,d7 c l v id=⟨lJ c l v k,k⟩:=by
 unfold d7;rcases rr (C6 c l v) (ba l id) ⟨-1,(0,0)⟩with h|⟨e,h2⟩|h3|h4
 ·exact .inl h
 ·simp only at h2;omega
 ·exact .inr h3
 ·simp only at h4;omega
def oB (c:Cf)(l:List Bk)(v:List Vt):Nat->ID->ID
 |0,id=>id
 |n+1,id=>if (d7 c l v id).n>=0 then oB c l v n (d7 c l v id).id else id
def gX (c:Cf)(l:List Bk)(v:List Vt):ID:=oB c l v (l.length+1) (0,0)
theorem LJ (hp:places l=some m){id k:ID}{i:Int}(hi:am m id=some i)(hk:k∈ba l id):∃j,am m k=some j/\i<j/\j<l.length:=by
 unfold ba at hk;rw[hp]at hk;obtain⟨b,hb,rfl⟩:=List.mem_map.1 hk;rw[mem_filter]at hb;obtain⟨n,hn⟩:=getElem?_of_mem hb.1;have hI:=bd hp;have hnl:=(List.getElem?_eq_some_iff.1 hn).1;have h1:=hI.names n b hnl hn;refine⟨n,h1,?_,by omega⟩;rcases hI.known _ _ h1 with⟨h2,-⟩|⟨b',p,h2,h3,h4,h5,h6,h7,h8,h9⟩
 ·omega
 ·rw[toNat_natCast,hn]at h4;cases h4;have hpar:b.Parent=id:=of_decide_eq_true hb.2;rw[hpar,hi]at h6;cases h6;exact h7
theorem vL {l:List Bk}(hl:l.length<=1000){v:List Vt}(hv:v.length<=1000)(c:Cf){m:List (ID×Int)}(hp:places l=some m):∀(n f:Nat) (id:ID) (i:Int),am m id=some i->(l.length:Int)-i<=n->n<f->
  iter (oS c l v) f ⟨id⟩=some ⟨oB c l v n id⟩
 |0,f,id,i,hi,hn,_=>by
  rcases(bd hp).known _ _ hi with⟨h,-⟩|⟨b,p,h0,h1,-⟩ <;>omega
 | n+1,f,id,i,hi,hn,hf=>by
  obtain⟨f,rfl⟩:∃g,f=g+1:=⟨f-1,by omega⟩
  have hs:oS c l v ⟨id⟩=if (d7 c l v id).n>=0 then some (.inl ⟨(d7 c l v id).id⟩)else some (.inr ⟨id⟩):=by
   unfold oS;simp only;rw[F6 hl hv,ob];by_cases h:(d7 c l v id).n>=0
   ·rw[aP h,Bool.not_true,cf,i1_ h]
   ·rw[aR h,Bool.not_false,ct,i0_ h]
  unfold oB;rcases nf c l v id with⟨-,e⟩|⟨k,hk,e⟩
  ·have:¬(d7 c l v id).n>=0:=by rw[e];simp
   rw[i0_ this]at hs⊢;exact eK hs
  ·have hpos:(d7 c l v id).n>=0:=by rw[e];exact C6 c l v k
   rw[i1_ hpos]at hs⊢;rw[mp hs,e];obtain⟨j,hj,h1,h2⟩:=LJ hp hi hk;exact vL hl hv c hp n f k j hj (by omega) (by omega)
theorem KH (hl:l.length<=1000){v:List Vt}(hv:v.length<=1000)(c:Cf):Mm c l v=some (gX c l v):=by
 unfold Mm gX
 cases hp:places l with
 |some m=>
  rw[vL hl hv c hp (l.length+1) aY (0,0) (-1) (bd hp).zero (by omega) (cq),ob]
 | none=>
  have hk:ba l (0,0)=[]:=by unfold ba;rw[hp]
  have hb:d7 c l v (0,0)=⟨-1,(0,0)⟩:=by unfold d7;rw[hk];rfl
  have hs:oS c l v ⟨(0,0)⟩=some (.inr ⟨(0,0)⟩):=by
   unfold oS;simp only;rw[F6 hl hv,ob,hb];rfl
  rw[KX,eK hs,ob];unfold oB;rw[hb,i0_ (by simp)]
def cW {R:Type}(f:Nat->Option R):Nat->Nat->Option R
 |_,0=>none
 |k,d+1=>match f k with
  |some r=>some r
  |none=>cW f (k+1) d
theorem gA {R:Type}{f:Nat->Option R}:∀{d k:Nat},cW f k d=none↔∀j,k<=j->j<k+d->f j=none
 |0,k=>⟨fun _ j h1 h2=>by omega,fun _=>rfl⟩
 | d+1,k=>by
  unfold cW
  cases h:f k with
  |some r=>exact⟨fun h=>(by cases h),fun h2=>(by rw[h2 k (le_refl _) (by omega)]at h;cases h)⟩
  |none=>
   rw[gA (k:=k+1)];refine⟨fun h2 j h3 h4=>?_,fun h2 j h3 h4=>h2 j (by omega) (by omega)⟩;by_cases e:j=k
   ·subst e;exact h
   ·exact h2 j (by omega) (by omega)
theorem fl {R:Type}{f:Nat->Option R}{r:R}:∀{d k:Nat},cW f k d=some r->∃j,k<=j/\j<k+d/\f j=some r/\∀i,k<=i->i<j->f i=none
 |0,k,h=>by cases h
 | d+1,k,h=>by
  unfold cW at h
  cases hk:f k with
  |some q=>
   rw[hk]at h;cases h;exact⟨k,le_refl _,by omega,hk,fun i h1 h2=>by omega⟩
  |none=>
   rw[hk]at h;obtain⟨j,h1,h2,h3,h4⟩:=fl h;refine⟨j,by omega,by omega,h3,fun i h5 h6=>?_⟩;by_cases e:i=k
   ·subst e;exact hk
   ·exact h4 i (by omega) h6
def lK {S R:Type}(s:S):Option R->S⊕R |some r=>.inr r |none=>.inl s
theorem d9 {S R:Type}{step:S->Option (S⊕(S⊕R))}{n:Nat}(mk:Nat->S)(f:Nat->Option R)(hs:∀j,j<n->step (mk j)=match f j with|some r=>some (.inr (.inr r))|none=>some (.inl (mk (j+1))))
  (he:step (mk n)=some (.inr (.inl (mk n)))) (hn:n<4000000000000000000:=by omega):iter step aY (mk 0)=some (lK (mk n) (cW f 0 n)):=by
 have key:∀(d k q:Nat),k+d=n->d<q->iter step q (mk k)=some (lK (mk n) (cW f k d)):=by
  intro d
  induction d with
  |zero=>
   intro k q hk hq;obtain⟨q,rfl⟩:∃p,q=p+1:=⟨q-1,by omega⟩
   obtain rfl:k=n:=by omega
   exact eK he
  | succ d ih=>
   intro k q hk hq;obtain⟨q,rfl⟩:∃p,q=p+1:=⟨q-1,by omega⟩;have h1:=hs k (by omega);unfold cW
   cases hf:f k with
   |some r=>
    rw[hf]at h1;exact eK h1
   |none=>
    rw[hf]at h1;rw[mp h1];exact ih (k+1) q (by omega) (by omega)
 exact key n 0 aY (by omega)<|cq hn
def gW {α:Type}[DecidableEq α](l:List α)(v:α)(j:Nat):Option Int:=if l[j]?=some v then some (j:Int)else none
theorem nk [DecidableEq α]{l:List α}{v:α}:(cW (gW l v) 0 l.length).isSome=decide (v∈l):=by
 cases h:cW (gW l v) 0 l.length with
 |none=>
  rw[gA]at h;refine(aR fun hm=>?_).symm;obtain⟨j,hj⟩:=getElem?_of_mem hm;have:=h j (zero_le _) (by have:=(List.getElem?_eq_some_iff.1 hj).1;omega);unfold gW at this;rw[i1_ hj]at this;cases this
 |some r=>
  obtain⟨j,-,-,h3,-⟩:=fl h;refine(aP ?_).symm;unfold gW at h3;split at h3
  ·rename_i e;exact List.mem_of_getElem? e
  ·cases h3
theorem uh [DecidableEq α]{l:List α}{v:α}{n:Nat}{r:Int}(h:cW (gW l v) 0 n=some r):0<=r:=by
 obtain⟨j,-,-,h3,-⟩:=fl h;unfold gW at h3;split at h3
 ·cases h3;omega
 ·cases h3
theorem Ck (hl:l.length<=100000)(v:Bk):Ds l v=some (decide (v∈l)):=by
 have e:=d9 (step:=nX l v) (n:=l.length) (fun k=>iu.mk (k:Int)) (gW l v) (fun j hj=>by
  obtain⟨y,hy,-⟩:=az hj;unfold nX gW;simp only;rw[dO,au hy,ob,GP,ah (n:=j),hy];by_cases h:v=y
  ·rw[aP h,ct,i1_ (by rw[h])]
  ·rw[aR h,cf,i0_ (fun e=>h (Option.some.inj e).symm)]) (by
  unfold nX;simp only
  rw[ft])
 unfold Ds IB;rw[<-nk];have e':iter (nX l v) aY (iu.mk 0)=some (lK (iu.mk (l.length:Int)) (cW (gW l v) 0 l.length)):=e;rw[e',ob]
 cases h:cW (gW l v) 0 l.length with
 |none=>rw[lK,sl,ob];rfl
 |some r=>rw[lK,sr,ob,aP (uh h)];rfl
theorem Cl {l:List Vt}(hl:l.length<=100000)(v:Vt):Dt l v=some (decide (v∈l)):=by
 have e:=d9 (step:=nY l v) (n:=l.length) (fun k=>iv.mk (k:Int)) (gW l v) (fun j hj=>by
  obtain⟨y,hy,-⟩:=az hj;unfold nY gW;simp only;rw[dO,au hy,ob,GR,ah (n:=j),hy];by_cases h:v=y
  ·rw[aP h,ct,i1_ (by rw[h])]
  ·rw[aR h,cf,i0_ (fun e=>h (Option.some.inj e).symm)]) (by
  unfold nY;simp only
  rw[ft])
 unfold Dt IC;rw[<-nk];have e':iter (nY l v) aY (iv.mk 0)=some (lK (iv.mk (l.length:Int)) (cW (gW l v) 0 l.length)):=e;rw[e',ob]
 cases h:cW (gW l v) 0 l.length with
 |none=>rw[lK,sl,ob];rfl
 |some r=>rw[lK,sr,ob,aP (uh h)];rfl
section
variable {α : Type} [DecidableEq α]
def db (a:List α):List α->List α
 |[]=>a
 |x::r=>db (if x∈a then a else a++[x]) r
theorem kb (x:α):∀(b a:List α),db a (b++[x])=if x∈db a b then db a b else db a b++[x]
 |[],_=>rfl
 |_::r,_=>kb x r _
theorem r8 (x:α):∀(b a:List α),x∈db a b↔x∈a\/x∈b
 |[],a=>by simp[db]
 |y::r,a=>by
  unfold db;rw[r8 x r];by_cases h:y∈a
  ·rw[i1_ h,mem_cons];exact⟨fun h2=>h2.elim .inl (fun h3=>.inr (.inr h3)),fun h2=>h2.elim .inl fun h3=>h3.elim (fun e=>.inl (e▸h)) .inr⟩
  ·rw[i0_ h,mem_append,mem_singleton,mem_cons,or_assoc]
theorem dp :∀(b a:List α),(db a b).length<=a.length+b.length
 |[],a=>by simp[db]
 |y::r,a=>by
  unfold db;have:=dp r (if y∈a then a else a++[y])
  have h2:(if y∈a then a else a++[y]).length<=a.length+1:=by split <;>simp
  simp only[length_cons];omega
end
theorem Ip {a b:List Bk}(h:a.length+b.length<=90000):E6 a b=some (db a b):=by
 unfold E6;rw[aC,ct]
 have e:=ax (step:=nN b) (n:=b.length) (fun k=>gg.mk (k:Int) (db a (b.take k))) (gg.mk (b.length:Int) (db a b)) (fun k hk=>by
  obtain⟨y,hy,-⟩:=az hk;have hlen:=dp (b.take k) a;rw[length_take]at hlen;unfold nN;simp only;rw[dO,au hy,ob,Ck (by omega),ob,aL hy,kb,ah (n:=k)];by_cases hm:y∈db a (b.take k)
  ·rw[aP hm,Bool.not_true,cf,i1_ hm]
  ·rw[aR hm,Bool.not_false,ct,aC (by simp only[length_singleton];omega),ct,i0_ hm]) (by
  unfold nN;simp only
  rw[ft,take_length]) (by omega)
 have e':iter (nN b) aY (gg.mk 0 a)=some (gg.mk (b.length:Int) (db a b)):=e;rw[e',ob]
theorem Iq {a b:List Vt}(h:a.length+b.length<=90000):E7 a b=some (db a b):=by
 unfold E7;rw[aC,ct]
 have e:=ax (step:=nO b) (n:=b.length) (fun k=>gh.mk (k:Int) (db a (b.take k))) (gh.mk (b.length:Int) (db a b)) (fun k hk=>by
  obtain⟨y,hy,-⟩:=az hk;have hlen:=dp (b.take k) a;rw[length_take]at hlen;unfold nO;simp only;rw[dO,au hy,ob,Cl (by omega),ob,aL hy,kb,ah (n:=k)];by_cases hm:y∈db a (b.take k)
  ·rw[aP hm,Bool.not_true,cf,i1_ hm]
  ·rw[aR hm,Bool.not_false,ct,aC (by simp only[length_singleton];omega),ct,i0_ hm]) (by
  unfold nO;simp only
  rw[ft,take_length]) (by omega)
 have e':iter (nO b) aY (gh.mk 0 a)=some (gh.mk (b.length:Int) (db a b)):=e;rw[e',ob]
def c8 (a b:Vw):Vw:=⟨db a.B b.B,db a.V b.V⟩
theorem oU {a b:Vw}(h1:a.B.length+b.B.length<=90000:=by omega)(h2:a.V.length+b.V.length<=90000:=by omega):F9 a b=some (c8 a b):=by
 unfold F9;rw[Ip h1,ob,Iq h2,ob];rfl
section
variable {α : Type} [DecidableEq α]
def iY (a b:List α)(j:Nat):Option Bool:=if a[j]?=b[j]? then none else some false
theorem qe {a b:List α}(hl:a.length=b.length):(match cW (iY a b) 0 a.length with|some r=>r|none=>true)=decide (a=b):=by
 cases h:cW (iY a b) 0 a.length with
 | none=>
  rw[gA]at h;refine(aP ?_).symm;apply List.ext_getElem?;intro j;by_cases hj:j<a.length
  ·have:=h j (zero_le _) (by omega);unfold iY at this;split at this
   ·assumption
   ·cases this
  ·rw[List.getElem?_eq_none (by omega),List.getElem?_eq_none (by omega)]
 |some r=>
  obtain⟨j,-,-,h3,-⟩:=fl h;unfold iY at h3;split at h3
  ·cases h3
  ·rename_i hne;cases h3;exact(aR fun e=>hne (by rw[e])).symm
end
theorem Ig {a b:List Bk}(h:a.length<=100000):EX a b=some (decide (a=b)):=by
 unfold EX;by_cases hl:a.length=b.length
 ·rw[show((a.length:Int) != (b.length:Int))=false by simp[hl],cf]
  have e:=d9 (step:=nH a b) (n:=a.length) (fun k=>iq.mk (k:Int)) (iY a b) (fun j hj=>by
   obtain⟨y,hy,-⟩:=az hj;obtain⟨z,hz,-⟩:=az (l:=b) (n:=j);unfold nH iY;simp only;rw[dO,au hy,ob,au hz,ob,GP,ah (n:=j),hy,hz];by_cases e:y=z
   ·rw[aP e,Bool.not_true,cf,i1_ (by rw[e])]
   ·rw[aR e,Bool.not_false,ct,i0_ (fun q=>e (Option.some.inj q))]) (by
   unfold nH;simp only
   rw[ft])
  have e':iter (nH a b) aY (iq.mk 0)=some (lK (iq.mk (a.length:Int)) (cW (iY a b) 0 a.length)):=e;rw[e',ob,<-qe hl]
  cases cW (iY a b) 0 a.length with
  |none=>rw[lK,sl]
  |some r=>rw[lK,sr]
 ·rw[show((a.length:Int) != (b.length:Int))=true by rw[bne_iff_ne];omega,ct,aR fun e=>hl (by rw[e])]
theorem Ih {a b:List Vt}(h:a.length<=100000):EY a b=some (decide (a=b)):=by
 unfold EY;by_cases hl:a.length=b.length
 ·rw[show((a.length:Int) != (b.length:Int))=false by simp[hl],cf]
  have e:=d9 (step:=nI a b) (n:=a.length) (fun k=>ir.mk (k:Int)) (iY a b) (fun j hj=>by
   obtain⟨y,hy,-⟩:=az hj;obtain⟨z,hz,-⟩:=az (l:=b) (n:=j);unfold nI iY;simp only;rw[dO,au hy,ob,au hz,ob,GR,ah (n:=j),hy,hz];by_cases e:y=z
   ·rw[aP e,Bool.not_true,cf,i1_ (by rw[e])]
   ·rw[aR e,Bool.not_false,ct,i0_ (fun q=>e (Option.some.inj q))]) (by
   unfold nI;simp only
   rw[ft])
  have e':iter (nI a b) aY (ir.mk 0)=some (lK (ir.mk (a.length:Int)) (cW (iY a b) 0 a.length)):=e;rw[e',ob,<-qe hl]
  cases cW (iY a b) 0 a.length with
  |none=>rw[lK,sl]
  |some r=>rw[lK,sr]
 ·rw[show((a.length:Int) != (b.length:Int))=true by rw[bne_iff_ne];omega,ct,aR fun e=>hl (by rw[e])]
theorem KK {a b:Vw}(h1:a.B.length<=100000)(h2:a.V.length<=100000):JB a b=some (decide (a.B=b.B/\a.V=b.V)):=by
 unfold JB;rw[Ig h1,ob,Ih h2,ob];by_cases h:a.B=b.B
 ·rw[aP h,ct];congr 1;exact decide_eq_decide.2 ⟨fun h3=>⟨h,h3⟩,fun h3=>h3.2⟩
 ·rw[aR h,cf,aR fun h3=>h h3.1]
theorem AR (w:Vw)(n:Int):KJ w n=some (decide ((w.B.length:Int)<=n/\(w.V.length:Int)<=n)):=by
 unfold KJ;by_cases h:(w.B.length:Int)<=n
 ·rw[aP h,ct];congr 1;exact decide_eq_decide.2 ⟨fun h2=>⟨h,h2⟩,fun h2=>h2.2⟩
 ·rw[aR h,cf,aR fun h2=>h h2.1]
def mayB (c:Cf)(b:Bk):Bool:=decide (0<=rf c b.Slot/\rf c b.Slot=b.From/\nm b≠(0,0))
def mayV (c:Cf)(v:Vt):Bool:=decide (v.From∈pF c v.Slot)
theorem KL (c:Cf)(b:Bk):Mo c b=some (mayB c b):=by
 unfold Mo mayB;rw[wo,ob];by_cases h1:rf c b.Slot>=0
 ·rw[aP h1,ct];by_cases h2:rf c b.Slot=b.From
  ·rw[show(rf c b.Slot==b.From)=true by simp[h2],ct,yO];by_cases h3:nm b=(0,0)
   ·rw[aP h3,Bool.not_true,aR fun h=>h.2.2 h3]
   ·rw[aR h3,Bool.not_false,aP ⟨h1,h2,h3⟩]
  ·rw[show(rf c b.Slot==b.From)=false by simp[h2],cf,aR fun h=>h2 h.2.1]
 ·rw[aR h1,cf,aR fun h=>h1 h.1]
theorem KM (c:Cf)(v:Vt):Mp c v=some (mayV c v):=by
 unfold Mp mayV;rw[F4,ob]
theorem bg {l:List α}{n:Nat}(hy:l[n]?=some y):(l.take (n+1)).filter p=(l.take n).filter p++bif p y then[y]else[]:=by
 rw[aL hy,List.filter_append];cases h:p y <;>simp[h]
theorem bW {l:List α}(n:Nat):((l.take n).filter p).length<=n:=
 le_trans (length_filter_le _ _) (by rw[length_take];omega)
theorem Cb (hl:l.length<=100000):Dm c l=some (l.filter (mayB c)):=by
 unfold Dm
 have e:=ax (step:=nF c l) (n:=l.length) (fun k=>gc.mk (k:Int) ((l.take k).filter (mayB c))) (gc.mk (l.length:Int) (l.filter (mayB c))) (fun k hk=>by
  obtain⟨y,hy,-⟩:=az hk;have hlen:=bW (p:=mayB c) (l:=l) k;unfold nF;simp only;rw[dO,au hy,ob,KL,ob,bg hy,ah (n:=k)]
  cases mayB c y with
  |true=>rw[ct,aC (by simp only[length_singleton];omega),ct,ct]
  |false=>rw[cf,cf,append_nil]) (by
  unfold nF;simp only
  rw[ft,take_length]) (by omega)
 have e':iter (nF c l) aY (gc.mk 0 [])=some (gc.mk (l.length:Int) (l.filter (mayB c))):=e;rw[e',ob]
theorem Cc {l:List Vt}(hl:l.length<=100000):Dn c l=some (l.filter (mayV c)):=by
 unfold Dn
 have e:=ax (step:=nG c l) (n:=l.length) (fun k=>ge.mk (k:Int) ((l.take k).filter (mayV c))) (ge.mk (l.length:Int) (l.filter (mayV c))) (fun k hk=>by
  obtain⟨y,hy,-⟩:=az hk;have hlen:=bW (p:=mayV c) (l:=l) k;unfold nG;simp only;rw[dO,au hy,ob,KM,ob,bg hy,ah (n:=k)]
  cases mayV c y with
  |true=>rw[ct,aC (by simp only[length_singleton];omega),ct,ct]
  |false=>rw[cf,cf,append_nil]) (by
  unfold nG;simp only
  rw[ft,take_length]) (by omega)
 have e':iter (nG c l) aY (ge.mk 0 [])=some (ge.mk (l.length:Int) (l.filter (mayV c))):=e;rw[e',ob]
def bF (c:Cf)(w:Vw):Vw:=⟨w.B.filter (mayB c),w.V.filter (mayV c)⟩
theorem F8 (h1:w.B.length<=100000:=by omega)(h2:w.V.length<=100000:=by omega):L8 c w=some (bF c w):=by
 unfold L8;rw[Cb h1,ob,Cc h2,ob];rfl
theorem IF (h1:w.B.length<=100000)(h2:w.V.length<=100000):F7 c w=some ((bF c w).B,(bF c w).V):=by
 unfold F7;rw[Cb h1,ob,Cc h2,ob];rfl
def Ec (l:List Bk)(n:Nat):Prop:=∃y p,l[n]?=some y/\am (lT l n) y.Parent=some p/\¬y.Slot<=cD l p/\am (lT l n) (nm y)=none
theorem GZ {l:List Bk}:∀(r n:Nat),l.length-n=r->n<=l.length->((dt l (l.drop n) n (lT l n)).isSome=true↔∀i,n<=i->i<l.length->Ec l i)
 |0,n,hr,hn=>by
  have:n=l.length:=by omega
  subst this;rw[List.drop_length];exact⟨fun _ i h1 h2=>by omega,fun _=>rfl⟩
 | r +1,n,hr,hn=>by
  obtain⟨y,hy,-⟩:=az (l:=l) (n:=n);have ih:=GZ (l:=l) r (n+1) (by omega) (by omega)
  have e:lT l (n+1)=lT l n++[(nm y,(n:Int))]:=by simp only[lT,hy]
  rw[e]at ih;rw[d8 hy];constructor
  ·intro h i h1 h2
   cases hp:am (lT l n) y.Parent with
   |none=>rw[hp]at h;cases h
   | some p=>
    rw[hp]at h;simp only at h;by_cases hs:y.Slot<=cD l p
    ·rw[i1_ hs]at h;cases h
    ·rw[i0_ hs]at h
     cases hq:am (lT l n) (nm y)with
     |some q=>rw[hq]at h;cases h
     |none=>
      rw[hq]at h;by_cases hin:i=n
      ·subst hin;exact⟨y,p,hy,hp,hs,hq⟩
      ·exact ih.1 h i (by omega) h2
  ·intro h;obtain⟨y',p,hy',hp,hs,hq⟩:=h n (le_refl _) (by omega);rw[hy]at hy';cases hy';rw[hp];simp only;rw[i0_ hs,hq];exact ih.2 fun i h1 h2=>h i (by omega) h2
theorem wT :(places l).isSome=true↔∀i,i<l.length->Ec l i:=by
 have:=GZ (l:=l) l.length 0 (by omega) (zero_le _);rw[show(places l)=dt l (l.drop 0) 0 (lT l 0)from rfl,this];exact⟨fun h i hi=>h i (zero_le _) hi,fun h i _ hi=>h i hi⟩
theorem pr {l m:List Bk}:∀n,(∀i,i<n->l[i]?=m[i]?)->lT l n=lT m n
 |0,_=>rfl
 |n+1,h=>by
  simp only[lT,h n (by omega),pr n fun i hi=>h i (by omega)]
theorem su {l m:List Bk}{n:Nat}(h:∀i,i<=n->l[i]?=m[i]?)(ho:Ec l n)(hn:n<l.length:=by omega):Ec m n:=by
 obtain⟨y,p,h1,h2,h3,h4⟩:=ho;have e:=pr n fun i hi=>h i (by omega);refine⟨y,p,by rw[<-h n (le_refl _)];exact h1,by rw[<-e];exact h2,?_,by rw[<-e];exact h4⟩
 have hp:p= -1\/0<=p/\p<n:=by
  rw[ns _ n (by omega)]at h2;split at h2
  ·cases h2;exact .inl rfl
  ·split at h2
   ·rename_i hi;obtain⟨j,b,g1,g2,-⟩:=Ae hi;cases h2;exact .inr ⟨by omega,by omega⟩
   ·cases h2
 rcases hp with rfl|⟨h5,h6⟩
 ·simpa [cD]using h3
 ·have:cD m p=cD l p:=by
   simp only[cD,h p.toNat (by omega)]
  rw[this];exact h3
theorem Ah {k:Nat}(h:(places l).isSome=true)(hk:k<=l.length):(places (l.take k)).isSome=true:=by
 rw[wT]at h⊢;intro i hi;simp only[length_take]at hi;refine su (fun j hj=>?_) (h i (by omega));rw[getElem?_take_of_lt (by omega)]
def CI (l:List Bk)(b:Bk):Bool:=(kA l b.Parent).2&&decide (b.Slot>(kA l b.Parent).1)&& !decide (nm b=(0,0))&&decide (rA l (nm b)<0)
theorem Ha (h:places l=some m):(places (l++[b])).isSome=CI l b:=by
 have hl:∀i,i<l.length->Ec l i:=wT.1 (by rw[h];rfl)
 have hpre:∀i,i<l.length->l[i]?=(l++[b])[i]?:=fun i hi=>by rw[List.getElem?_append_left hi]
 have hm:lT (l++[b]) l.length=m:=by rw[<-pr l.length hpre,<-vV h]
 have hb:(l++[b])[l.length]?=some b:=by simp
 have hslot:∀p i,am m p=some i->cD (l++[b]) i=cD l i:=by
  intro p i hf;rcases np h hf with⟨rfl,-⟩|⟨c,h0,h1,h2,-⟩
  ·rfl
  ·have:¬i= -1:=by omega
   simp only[cD,i0_ this,<-hpre i.toNat (by omega)]
 have key:(places (l++[b])).isSome=true↔Ec (l++[b]) l.length:=by
  rw[wT];constructor
  ·intro h1;exact h1 l.length (by simp)
  ·intro h1 i hi;simp only[length_append,length_singleton]at hi;by_cases e:i=l.length
   ·subst e;exact h1
   ·exact su (fun j hj=>hpre j (by omega)) (hl i (by omega))
 rw[Bool.eq_iff_iff,key];constructor
 ·rintro⟨y,p,h1,h2,h3,h4⟩;rw[hb]at h1;cases h1;rw[hm]at h2 h4;rw[hslot _ _ h2]at h3
  have hz:¬nm b=(0,0):=fun e=>by rw[e,(bd h).zero]at h4;cases h4
  have g1:kA l b.Parent=(cD l p,true):=by simp only[kA,h,h2]
  have g2:rA l (nm b)= -1:=by simp only[rA,h,h4];rfl
  unfold CI;rw[g1,g2,aP (show b.Slot>cD l p by omega),aR hz];rfl
 ·intro hf;unfold CI at hf;simp only[Bool.and_eq_true,Bool.not_eq_true',decide_eq_true_eq,decide_eq_false_iff_not]at hf;obtain⟨⟨⟨h1,h2⟩,h3⟩,h4⟩:=hf
  cases hp:am m b.Parent with
  |none=>simp only[kA,h,hp]at h1;cases h1
  | some p=>
   simp only[kA,h,hp]at h2;refine⟨b,p,hb,by rw[hm];exact hp,by rw[hslot _ _ hp];omega,?_⟩;rw[hm];rcases Option.eq_none_or_eq_some (am m (nm b))with h5|⟨i,h5⟩
   ·exact h5
   ·exfalso;simp only[rA,h,h5,getD_some]at h4;rcases np h h5 with⟨-,e⟩|⟨c,h0,-⟩
    ·exact h3 e
    ·omega
def EZ (v:Vt)(sm:List (ID×Int)):Option Bool:=bif !((am sm v.Head).isSome)then some true else some (decide (((am sm v.Head).getD 0)>v.Slot))
theorem NS {sm:List (ID×Int)}{hm:List (Vt×Bool)}(h:EZ v sm=some r_):LC prog 191 [.p (aO v),.ptr 9 0] [.dead,.box (cH w),.dead,.dead,.dead,.dead,(mQ sm),(mR hm),.box [(jB 4 w.B),(jV 5 w.V),.map 6,.map 7,(iQ 0),(bQ false)],.box [.ptr 8 0]] (Is (bQ r_) [.dead,.box (cH w),.dead,.dead,.dead,.dead,(mQ sm),(mR hm),.box [(jB 4 w.B),(jV 5 w.V),.map 6,.map 7,(iQ 0),(bQ false)],.box [.ptr 8 0]]):=by
 refine eN Tryz.func191 Z Z Z ?_;unfold EZ at h;refine qR<|yS Z (bx Z Z Z Z Z)<|mN Z<|zQ<|dx<|yE Z (zD Z Z Z HH Z Z)<|yE Z (zn Z Z)<|yE Z (zA Z Z og)<|yE Z (zD Z Z Z EB Z Z)<|yE Z (zA Z Z i2)<|yE Z (zD Z Z Z aF Z Z) ?_;refine yE Z (aa.getX (f:=aX) (g:=(fun v=>(iQ v))) v.Head 0 f8 Z Z Z Z mO Jz Z Z) ?_;refine zH Z<|yE Z (eW Z Z Z)<|yE Z (eW Z Z Z)<|zH Z<|zH Z<|LO.nil<|zT<|qR<|zM Z<|yS Z (aa.not Z Z)<|zM Z ?_;refine zc 18 Z (fun g1=>?_)<|fun g1=>?_
 ·refine zi g1 h fun h=>yU Z (gd g1 Z) Z<|yU Z (gd g1 Z) Z<|yU Z (gd g1 Z) Z<|yU Z (gd g1 Z) Z<|yS Z (bv Z (aJ g1 Z) Z)<|mN Z<|zr ?_;cases h;refine bT (env':=[(3,(bQ true))]) (H':=[.dead,.box (cH w),.dead,.dead,.dead,.dead,(mQ sm),(mR hm),.box [(jB 4 w.B),(jV 5 w.V),.map 6,.map 7,(iQ 0),(bQ false)],.box [.ptr 8 0]]) (zW 10 ⟨Z,t_⟩ Z Z Z (cp (zL Z (zL Z (zL (aj (fun _=>rfl) _) (zL (aj (fun _=>rfl) _) (zL Z (zL Z Z)))))))) (.one (.tmp Z)) ?_;exact⟨rfl,rfl⟩
 ·refine zo g1 h fun h=>yV Z (gd g1 Z) (zm Z Z)<|yV Z (gd g1 Z) (zA Z Z iZ)<|yV Z (gd g1 Z) (zD Z Z Z aW Z Z)<|yV Z (gd g1 Z) (an Z Z Z Z)<|yS Z (aT Z (aJ g1 Z) Z)<|mN Z<|zr ?_;cases h;refine bT (env':=[(3,.p (.bool (decide (((am sm v.Head).getD 0)>v.Slot))))]) (H':=[.dead,.box (cH w),.dead,.dead,.dead,.dead,(mQ sm),(mR hm),.box [(jB 4 w.B),(jV 5 w.V),.map 6,.map 7,(iQ 0),(bQ false)],.box [.ptr 8 0]]) (zW 10 ⟨Z,t_⟩ Z Z Z (cp (zL Z (zL Z (zL (aj (fun _=>rfl) _) (zL (aj (fun _=>rfl) _) (zL Z (zL Z Z)))))))) (.one (.tmp Z)) ?_;exact⟨rfl,rfl⟩
structure fO where
 t8:Int
def kU (l:List Vt)(sm:List (ID×Int))(x1:fO):Option (fO⊕(fO⊕Int)):=bif decide (x1.t8<(l.length:Int))then (ix l x1.t8).bind fun y1=>(EZ y1 sm).bind fun v2=>bif v2 then some (.inr (.inr x1.t8))else some (.inl (fO.mk (i64.wrap (x1.t8+1))))else some (.inr (.inl (fO.mk x1.t8)))
def Ci (l:List Vt)(sm:List (ID×Int)):Option Int:=(iter (kU l sm) aY (fO.mk 0)).bind fun b_v1=>Sum.elim (fun _=>some (-1)) some b_v1
theorem Lq {l:List Vt}{sm:List (ID×Int)}{hm:List (Vt×Bool)}{r_:Int}(h:Ci l sm=some r_):LC prog 183 [(kV l),.fn 191 [] [.ptr 9 0]] [.dead,.box (cH w),.dead,.dead,.dead,.dead,(mQ sm),(mR hm),.box [(jB 4 w.B),(jV 5 w.V),.map 6,.map 7,(iQ 0),(bQ false)],.box [.ptr 8 0]] (Is (iQ r_) [.dead,.box (cH w),.dead,.dead,.dead,.dead,(mQ sm),(mR hm),.box [(jB 4 w.B),(jV 5 w.V),.map 6,.map 7,(iQ 0),(bQ false)],.box [.ptr 8 0]]):=by
 refine eN Tryz.func183 Z Z Z ?_;unfold Ci at h;refine qR<|mN Z<|zQ<|qR<|zM Z<|yS Z (ck Z Z)<|mN Z ?_;obtain⟨w1,p1,q1⟩:=zB h;clear h;refine LW.tailB (b:=w1) (E:=fun v1=>[(4,(iQ 0))]) (O:=fun v1=>[.dead,.box (cH w),.dead,.dead,.dead,.dead,(mQ sm),(mR hm),.box [(jB 4 w.B),(jV 5 w.V),.map 6,.map 7,(iQ 0),(bQ false)],.box [.ptr 8 0]]) ?_<|fun v1 f1 e1 K1 u1=>?_
 ·refine LW.block ?_;refine LW.iterB (E:=fun x1:fO=>[(0,(kV l)),(1,.fn 191 [] [.ptr 9 0]),(4,(iQ 0)),(7,.p (.int .i64 (l.length:Int))),(8,(iQ x1.t8))]) (O:=fun x1=>[.dead,.box (cH w),.dead,.dead,.dead,.dead,(mQ sm),(mR hm),.box [(jB 4 w.B),(jV 5 w.V),.map 6,.map 7,(iQ 0),(bQ false)],.box [.ptr 8 0]]) p1 (zW 10 ⟨Z,Z,Z,Z,Z,t_⟩ Z Z Z (cp (zL Z (zL Z (zL (aj (fun _=>rfl) _) (zL (aj (fun _=>rfl) _) (zL Z (zL Z Z))))))))<|fun x1 z1 h m1=>?_;unfold kU at h;refine qR<|yS Z (an Z Z Z Z)<|nT<|zQ ?_;refine zX Z (fun g1=>?_)<|fun g1=>?_
  ·refine zi g1 h fun h=>zk<|zT<|zQ<|zl<|qR<|zM Z<|mN Z<|qR<|zM Z<|zM Z<|zM Z<|zb h fun y1 j1 h=>yS Z (zx Z Z Z bC j1 Z)<|yS Z (bR Z Z Z cB Z Z)<|zb h fun v2 a2 h=>yS Z (yC Z Z Z (NS a2))<|nT ?_;refine zX Z (fun g2=>?_)<|fun g2=>?_
   ·refine zi g2 h fun h=>qR<|zM Z<|mN Z<|zr<|ak<|ae<|ae<|ak<|ae<|ae ?_;cases h;obtain rfl:=(m1 _ rfl);have h:=bO q1;cases h;exact aD (.one (.tmp Z))<|⟨rfl,rfl⟩
   ·refine zo g2 h fun h=>zk<|af<|zT<|zR<|yS Z (an Z Z Z Z)<|mN Z ?_;cases h;exact⟨_,rfl,zW 10 ⟨Z,Z,Z,Z,Z,t_⟩ Z Z Z (cp (zL Z (zL Z (zL (aj (fun _=>rfl) _) (zL (aj (fun _=>rfl) _) (zL Z (zL Z Z)))))))⟩
  ·refine zo g1 h fun h=>zq<|ai<|ai<|zy<|zT ?_;cases h;obtain rfl:=(m1 _ rfl);exact⟨_,rfl,zW 10 ⟨Z,t_⟩ Z Z Z (cp (zL Z (zL Z (zL (aj (fun _=>rfl) _) (zL (aj (fun _=>rfl) _) (zL Z (zL Z Z)))))))⟩
 ·obtain rfl:=f1;have h:=cR q1;clear p1;refine zT<|LW.weak u1<|qR<|mN Z<|zr ?_;cases h;exact aD (.one (.tmp Z))<|⟨rfl,rfl⟩
def E0 (l:List Vt)(sm:List (ID×Int)):Option Bool:=(Ci l sm).bind fun v1=>some (decide (v1>=0))
theorem NT {l:List Vt}{sm:List (ID×Int)}{hm:List (Vt×Bool)}(h:E0 l sm=some r_):LC prog 192 [(kV l),.fn 191 [] [.ptr 9 0]] [.dead,.box (cH w),.dead,.dead,.dead,.dead,(mQ sm),(mR hm),.box [(jB 4 w.B),(jV 5 w.V),.map 6,.map 7,(iQ 0),(bQ false)],.box [.ptr 8 0]] (Is (bQ r_) [.dead,.box (cH w),.dead,.dead,.dead,.dead,(mQ sm),(mR hm),.box [(jB 4 w.B),(jV 5 w.V),.map 6,.map 7,(iQ 0),(bQ false)],.box [.ptr 8 0]]):=by
 refine eN Tryz.func192 Z Z Z ?_;unfold E0 at h;refine qR<|mN Z<|qR<|zM Z<|zM Z<|zb h fun v1 a1 h=>yS Z (yC Z Z Z (Lq a1))<|yS Z (an Z Z Z Z)<|mN Z<|zr ?_;cases h;exact aD (.one (.tmp Z))<|⟨rfl,rfl⟩
def Mq (c:Cf)(w:Vw):Option Bool:=((EC c).bind fun v2=>bif !v2 then some true else (L3 w.B).bind fun v3=>bif !v3 then some true else bif decide ((w.B.length:Int)>60)then some true else some (decide ((w.V.length:Int)>240))).bind fun v1=>bif v1 then some false else (L8 c w).bind fun v4=>(bif (v4.B.length:Int) != (w.B.length:Int)then some true else some ((v4.V.length:Int) != (w.V.length:Int))).bind fun v5=>bif v5 then some false else (Do w 0).bind fun v6=>bif wH v6.2 then bif (v6.2.length:Int)==(w.V.length:Int)then (E0 w.V v6.1).bind fun v7=>some (!v7)else some false else none
theorem QP (h:Mq c w=some r_):aq prog 154 [gQ c,iB w] [.bool r_]:=by
 refine zh Tryz.func154 Z Z Z Z ?_;unfold Mq at h;refine qR<|yS Z (bx Z Z Z Z Z)<|yS Z (bx Z Z Z Z Z)<|mN Z<|zQ ?_;obtain⟨v1,p1,b1⟩:=zB h;clear h;refine LW.cut (E:=[(2,.ptr 0 0),(3,.ptr 1 0),(4,(bQ false)),(28,(bQ v1))]) (O:=[.box (ch c),.box (cH w)]) ?_ ?_
 ·have h:=p1;refine zR<|yS Z (zD Z Z Z be Z Z)<|zb h fun v2 a2 h=>yS Z (yP Z Z Z (Mb a2) dG)<|yS Z (aa.not Z Z)<|zM Z ?_;refine zc 11 Z (fun g1=>?_)<|fun g1=>?_
  ·refine zi g1 h fun h=>yU Z (gd g1 Z) Z<|yU Z (gd g1 Z) Z<|yU Z (gd g1 Z) Z<|yU Z (gd g1 Z) Z<|yS Z (bv Z (aJ g1 Z) Z)<|zM Z<|aw Z<|aw Z<|aw Z<|aw Z<|yS Z (bv Z Z Z)<|zM Z<|aw Z<|aw Z<|aw Z<|aw Z<|yS Z (bv Z Z Z)<|nT ?_;cases h;exact av 2 ⟨Z,Z,Z,Z,t_⟩
  ·refine zo g1 h fun h=>yV Z (gd g1 Z) (zA Z Z aK)<|yV Z (gd g1 Z) (zD Z Z Z bM Z Z)<|zb h fun v3 a3 h=>yV Z (gd g1 Z) (yP Z Z Z (Qr a3) dG)<|yV Z (gd g1 Z) (aa.not Z Z)<|yS Z (aT Z (aJ g1 Z) Z)<|zM Z ?_;refine zc 17 Z (fun g2=>?_)<|fun g2=>?_
   ·refine zi g2 h fun h=>yU Z (gd g2 Z) Z<|yU Z (gd g2 Z) Z<|yU Z (gd g2 Z) Z<|yU Z (gd g2 Z) Z<|yS Z (bv Z (aJ g2 Z) Z)<|zM Z<|aw Z<|aw Z<|aw Z<|aw Z<|yS Z (bv Z Z Z)<|nT ?_;cases h;exact av 2 ⟨Z,Z,Z,Z,t_⟩
   ·refine zo g2 h fun h=>yV Z (gd g2 Z) (zA Z Z aK)<|yV Z (gd g2 Z) (zD Z Z Z bM Z Z)<|yV Z (gd g2 Z) (ck Z Z)<|yV Z (gd g2 Z) (an Z Z Z Z)<|yS Z (aT Z (aJ g2 Z) Z)<|zM Z ?_;refine zc 23 Z (fun g3=>?_)<|fun g3=>?_
    ·refine zi g3 h fun h=>yU Z (gd g3 Z) Z<|yU Z (gd g3 Z) Z<|yU Z (gd g3 Z) Z<|yU Z (gd g3 Z) Z<|yS Z (bv Z (aJ g3 Z) Z)<|nT ?_;cases h;exact av 2 ⟨Z,Z,Z,Z,t_⟩
    ·refine zo g3 h fun h=>yV Z (gd g3 Z) (zA Z Z aQ)<|yV Z (gd g3 Z) (zD Z Z Z co Z Z)<|yV Z (gd g3 Z) (ck Z Z)<|yV Z (gd g3 Z) (an Z Z Z Z)<|yS Z (aT Z (aJ g3 Z) Z)<|nT ?_;cases h;exact av 2 ⟨Z,Z,Z,Z,t_⟩
 ·have h:=b1;clear p1;refine zX Z (fun g4=>?_)<|fun g4=>?_
  ·refine zi g4 h fun h=>qR<|mN Z<|LW.ret<|ae ?_;cases h;exact aZ Z
  ·refine zo g4 h fun h=>zk<|zT<|qR<|yS Z (zD Z Z Z be Z Z)<|yS Z (zD Z Z Z aG Z Z)<|zb h fun v4 a4 h=>yS Z (yP Z Z Z (Qw a4) bG)<|yS Z (ze Z d5 Z Z)<|yS Z (zs Z Z Z Z aG Z Z Z Z)<|nT<|zQ ?_;obtain⟨v5,p5,b5⟩:=zB h;clear h;refine LW.cut (E:=[(3,.ptr 1 0),(4,(bQ false)),(47,(bQ v5))]) (O:=[.box (ch c),.box (cH w),.box (cH v4)]) ?_ ?_
   ·have h:=p5;refine zR<|yS Z (zA Z Z aK)<|yS Z (zD Z Z Z bM Z Z)<|yS Z (ck Z Z)<|yS Z (zA Z Z aK)<|yS Z (zD Z Z Z bM Z Z)<|yS Z (ck Z Z)<|yS Z (an Z Z Z Z)<|zM Z ?_;refine zc 39 Z (fun g5=>?_)<|fun g5=>?_
    ·refine zi g5 h fun h=>yU Z (gd g5 Z) Z<|yU Z (gd g5 Z) Z<|yU Z (gd g5 Z) Z<|yU Z (gd g5 Z) Z<|yU Z (gd g5 Z) Z<|yU Z (gd g5 Z) Z<|yU Z (gd g5 Z) Z<|yS Z (bv Z (aJ g5 Z) Z)<|nT ?_;cases h;exact av 3 ⟨Z,Z,Z,t_⟩
    ·refine zo g5 h fun h=>yV Z (gd g5 Z) (zA Z Z aQ)<|yV Z (gd g5 Z) (zD Z Z Z co Z Z)<|yV Z (gd g5 Z) (ck Z Z)<|yV Z (gd g5 Z) (zA Z Z aQ)<|yV Z (gd g5 Z) (zD Z Z Z co Z Z)<|yV Z (gd g5 Z) (ck Z Z)<|yV Z (gd g5 Z) (an Z Z Z Z)<|yS Z (aT Z (aJ g5 Z) Z)<|nT ?_;cases h;exact av 3 ⟨Z,Z,Z,t_⟩
   ·have h:=b5;clear p5;refine zX Z (fun g6=>?_)<|fun g6=>?_
    ·refine zi g6 h fun h=>qR<|mN Z<|LW.ret<|ae ?_;cases h;exact aZ Z
    ·refine zo g6 h fun h=>zk<|zT<|qR<|yS Z (zD Z Z Z aG Z Z)<|zb h fun v6 a6 h=>yS Z (zC Z Z Z (by kernel_rfl) (LC.frameX (x':=.ptr 8 0) (H':=[.box (ch c),.box (cH w),.box (cH v4),.box (cH w),.vec 5 (w.B.map aA),.vec 4 (w.V.map aO),(mQ v6.1),(mR v6.2),.box [(jB 4 w.B),(jV 5 w.V),.map 6,.map 7,(iQ 0),(bQ false)]]) (J1 a6) (.consC zv (.consC zv .nil)) Z Z (by simp only[map_cons,map_nil,cons_append,nil_append,ab.shift,LV.shifts,LV.shift,CD,CC] <;>rfl)))<|yS Z (ze Z O6 Z Z)<|yS Z (zs Z Z Z Z HH Z Z Z Z)<|nT<|zQ<|LW.ent (bY.kill (i:=0) Z)<|LW.ent (bY.kill (i:=2) Z)<|LW.ent (bY.kill (i:=3) Z)<|LW.ent (bY.kill (i:=4) Z)<|LW.ent (bY.kill (i:=5) Z)<|zR<|yS Z (aa.makeFunc Z Z Z)<|mN Z<|zQ<|dx<|yE Z (zD Z Z Z HH Z Z)<|yE Z (zn Z Z)<|yE Z (zA Z Z sW)<|yE Z (zD Z Z Z Dc Z Z)<|zg h fun q1 h=>yE Z (aa.lenMapX Z Z Z (by kernel_rfl) q1)<|yE Z (zA Z Z aQ)<|yE Z (zD Z Z Z co Z Z)<|yE Z (ck Z Z)<|yE Z (an Z Z Z Z)<|zH Z ?_;refine LO.cases 60 Z (fun(g7:((v6.2.length:Int)==(w.V.length:Int))=true)=>?_) (fun(g7:((v6.2.length:Int)==(w.V.length:Int))=false)=>?_)
     ·refine zi g7 h fun h=>yL Z (gd g7 Z) (zA Z Z aQ)<|yL Z (gd g7 Z) (zD Z Z Z co Z Z)<|yL Z (gd g7 Z) (zm Z Z)<|zb h fun v7 a7 h=>yL Z (gd g7 Z) (yC Z Z Z (NT a7))<|yL Z (gd g7 Z) (aa.not Z Z)<|yE Z (bv Z (aJ g7 Z) Z)<|zH Z<|LO.nil<|zT<|zr ?_;cases h;exact aZ Z
     ·refine zo g7 h fun h=>yK Z (gd g7 Z) Z<|yK Z (gd g7 Z) Z<|yK Z (gd g7 Z) Z<|yK Z (gd g7 Z) Z<|yK Z (gd g7 Z) Z<|yE Z (aT Z (aJ g7 Z) Z)<|zH Z<|LO.nil<|zT<|zr ?_;cases h;exact aZ Z
def bL (B:List Bk)(id:ID):Option Int:=if id=(0,0)then some 0 else(B.find? fun b=>decide (nm b=id)).map Bk.Slot
theorem uB (B:List Bk)(b:Bk)(id:ID):bL (B++[b]) id=(bL B id).or (if nm b=id then some b.Slot else none):=by
 unfold bL;by_cases h:id=(0,0)
 ·rw[i1_ h,i1_ h];rfl
 ·rw[i0_ h,i0_ h,List.find?_append]
  cases B.find? fun b=>decide (nm b=id)with
  |some x=>rfl
  |none=>
   by_cases h2:nm b=id
   ·simp[h2]
   ·simp[h2]
theorem mz {B:List Bk}{s:Int}(h:bL B id=some s)(t:List Bk):bL (B++t) id=some s:=by
 unfold bL at h⊢;by_cases h0:id=(0,0)
 ·rw[i1_ h0]at h⊢;exact h
 ·rw[i0_ h0]at h⊢;rw[List.find?_append]
  cases hf:B.find? fun b=>decide (nm b=id)with
  |some x=>rw[hf]at h;exact h
  |none=>rw[hf]at h;cases h
theorem Er {B:List Bk}{s:Int}(h:bL B id=some s):(id=(0,0)/\s=0)\/(id≠(0,0)/\∃b∈B,nm b=id/\b.Slot=s):=by
 unfold bL at h;by_cases h0:id=(0,0)
 ·rw[i1_ h0]at h;cases h;exact .inl ⟨h0,rfl⟩
 ·rw[i0_ h0]at h
  cases hf:B.find? fun b=>decide (nm b=id)with
  |none=>rw[hf]at h;cases h
  |some x=>
   rw[hf]at h;cases h;exact .inr ⟨h0,x,List.mem_of_find?_eq_some hf,(by simpa using find?_some hf),rfl⟩
theorem BI {B:List Bk}(h:b∈B):∃s,bL B (nm b)=some s:=by
 unfold bL;by_cases h0:nm b=(0,0)
 ·rw[i1_ h0];exact⟨_,rfl⟩
 ·rw[i0_ h0]
  cases hf:B.find? fun q=>decide (nm q=nm b)with
  |some x=>exact⟨_,rfl⟩
  |none=>
   rw[List.find?_eq_none]at hf;have:=hf b h;simp at this
def dV (B:List Bk):Prop:=(places B).isSome=true
theorem Ez :dV []:=rfl
theorem qX (h:places l=some m)(id:ID):bL l id=(am m id).map (cD l):=by
 have hI:=bd h;unfold bL;by_cases h0:id=(0,0)
 ·rw[i1_ h0,h0,hI.zero];simp[cD]
 ·rw [i0_ h0]
  cases hf:am m id with
  | none=>
   cases hq:l.find? fun b=>decide (nm b=id)with
   |none=>rfl
   |some b=>
    exfalso;have hb:=List.mem_of_find?_eq_some hq
    have hn:nm b=id:=by simpa using find?_some hq
    obtain⟨i,hi⟩:=getElem?_of_mem hb;have:=hI.names i b (List.getElem?_eq_some_iff.1 hi).1 hi;rw[hn,hf]at this;cases this
  | some i=>
   rcases hI.known _ _ hf with⟨-,h1⟩|⟨b,p,h1,h2,h3,h4,-⟩
   ·exact absurd h1 h0
   ·cases hq:l.find? fun b=>decide (nm b=id)with
    |none=>
     rw[List.find?_eq_none]at hq;have:=hq b (List.mem_of_getElem? h3);simp[h4]at this
    |some b'=>
     have hb:=List.mem_of_find?_eq_some hq
     have hn:nm b'=id:=by simpa using find?_some hq
     obtain⟨j,hj⟩:=getElem?_of_mem hb;have:=hI.names j b' (List.getElem?_eq_some_iff.1 hj).1 hj;rw[hn,hf]at this;cases this;simp[cD,hj,show¬(j:Int)= -1 by omega]
theorem Ep (h:places l=some m)(id:ID):kA l id=match bL l id with|some s=>(s,true)|none=>(0,false):=by
 rw[qX h];unfold kA;rw[h];simp only;cases am m id <;>rfl
theorem GS (h:places l=some m)(id:ID):(¬id=(0,0)/\rA l id<0)↔bL l id=none:=by
 rw[qX h];unfold rA;rw[h];simp only
 cases hf:am m id with
 |none=>
  refine⟨fun _=>rfl,fun _=>⟨fun e=>?_,by simp⟩⟩;rw[e,(bd h).zero]at hf;cases hf
 |some i=>
  refine⟨fun h1=>?_,fun h1=>by cases h1⟩;rcases(bd h).known _ _ hf with⟨-,h2⟩|⟨_,_,h2,-⟩
  ·exact absurd h2 h1.1
  ·have:=h1.2;simp at this;omega
theorem uO {B:List Bk}:dV (B++[b])↔dV B/\(∃s,bL B b.Parent=some s/\s<b.Slot)/\bL B (nm b)=none:=by
 have key:∀{m},places B=some m->(dV (B++[b])↔(∃s,bL B b.Parent=some s/\s<b.Slot)/\bL B (nm b)=none):=by
  intro m hm;unfold dV;rw[Ha hm,<-GS hm];unfold CI;rw[Ep hm]
  cases bL B b.Parent with
  |none=>simp
  |some s=>simp[and_assoc]
 cases hm:places B with
 |some m=>
  rw[key hm];exact⟨fun h=>⟨by unfold dV;rw[hm];rfl,h⟩,fun h=>h.2⟩
 |none=>
  have hno:¬dV B:=by unfold dV;rw[hm];simp
  refine⟨fun h=>absurd ?_ hno,fun h=>absurd h.1 hno⟩;have:=Ah (k:=B.length) h (by simp)
  rwa [List.take_left' rfl]at this
theorem BQ {B:List Bk}(h:dV B)(k:Nat):dV (B.take k):=by
 by_cases hk:k<=B.length
 ·exact Ah h hk
 ·rw[take_of_length_le (by omega)];exact h
def Ax :List Bk->List (ID×Int)->List (ID×Int)
 |[],m=>m
 |b::r,m=>Ax r (bP m (nm b) b.Slot)
def px (B:List Bk):List (ID×Int):=Ax B [((0,0),0)]
def zU :List Vt->List (Vt×Bool)->List (Vt×Bool)
 |[],m=>m
 |v::r,m=>zU r (bP m v true)
def mM (V:List Vt):List (Vt×Bool):=zU V []
theorem vW (b:Bk):∀(B:List Bk) (m),Ax (B++[b]) m=bP (Ax B m) (nm b) b.Slot
 |[],_=>rfl
 |_::r,_=>vW b r _
theorem vN (v:Vt):∀(V:List Vt) (m),zU (V++[v]) m=bP (zU V m) v true
 |[],_=>rfl
 |_::r,_=>vN v r _
theorem vY (B:List Bk)(b:Bk):px (B++[b])=bP (px B) (nm b) b.Slot:=vW b B _
theorem vP (V:List Vt)(v:Vt):mM (V++[v])=bP (mM V) v true:=vN v V _
theorem qW [DecidableEq α](m:List (α×β))(k:α)(v:β):(bP m k v).length=if (am m k).isSome then m.length else m.length+1:=by
 induction m with
 |nil=>simp[bP,am]
 |cons p r ih=>
  obtain⟨a,b⟩:=p;by_cases h:a=k
  ·simp[bP,am,h]
  ·cases hf:am r k <;>simp[bP,am,h,hf]at ih⊢<;>exact ih
theorem Hy (B:List Bk):(px B).length<=B.length+1:=by
 unfold px
 have:∀(B:List Bk) (m:List (ID×Int)),(Ax B m).length<=B.length+m.length:=by
  intro B
  induction B with
  |nil=>intro m;simp[Ax]
  |cons b r ih=>
   intro m;have h1:=ih (bP m (nm b) b.Slot);have h2:=qW m (nm b) b.Slot;unfold Ax;simp only[length_cons];split at h2 <;>omega
 have:=this B [((0,0),0)];simpa using this
theorem vX {B:List Bk}(h:dV B):∀id,am (px B) id=bL B id:=by
 have key:∀k,k<=B.length->∀id,am (px (B.take k)) id=bL (B.take k) id:=by
  intro k
  induction k with
  |zero=>
   intro _ id;simp only[List.take_zero];unfold px Ax bL am am;by_cases e:id=(0,0)
   ·simp[e]
   ·simp[e,Ne.symm e]
  |succ k ih=>
   intro hk id;obtain⟨b,hb,-⟩:=az (l:=B) (n:=k);have hv:=BQ h (k+1);rw[aL hb]at hv⊢;rw[uO]at hv;rw[vY,dh,uB,ih (by omega)];by_cases e:nm b=id
   ·rw[i1_ e,i1_ e,<-e,hv.2.2];rfl
   ·rw[i0_ e,i0_ e];cases bL (B.take k) id <;>rfl
 have:=key B.length (le_refl _)
 rwa [take_length]at this
theorem vO (V:List Vt)(v:Vt):am (mM V) v=if v∈V then some true else none:=by
 have:∀(V:List Vt) (m:List (Vt×Bool)),am (zU V m) v=if v∈V then some true else am m v:=by
  intro V
  induction V with
  |nil=>intro m;simp[zU]
  | cons x r ih=>
   intro m;unfold zU;rw[ih,dh];by_cases h:v∈r
   ·simp[h]
   ·by_cases h2:x=v
    ·simp[h2]
    ·simp[h,h2,Ne.symm h2]
 rw[mM,this];rfl
theorem zV (V:List Vt):(mM V).length<=V.length/\((mM V).length=V.length↔V.Nodup):=by
 have key:∀k,k<=V.length->(mM (V.take k)).length<=k/\((mM (V.take k)).length=k↔(V.take k).Nodup):=by
  intro k
  induction k with
  |zero=>intro _;simp[mM,zU]
  |succ k ih=>
   intro hk;obtain⟨v,hv,-⟩:=az (l:=V) (n:=k);obtain⟨h1,h2⟩:=ih (by omega);rw[aL hv,vP,qW,vO,List.nodup_append];by_cases hm:v∈V.take k
   ·rw[i1_ hm];refine⟨by simp;omega,⟨fun e=>by simp at e;omega,fun h=>absurd Z (h.2.2 v hm v (by simp))⟩⟩
   ·rw[i0_ hm];refine⟨by simp;omega,⟨fun e=>⟨h2.1 (by simp at e;omega),by simp,fun a ha b hb=>by rw[mem_singleton]at hb;subst hb;exact fun q=>hm (q▸ha)⟩,fun h=>?_⟩⟩;have:=h2.2 h.1;simp;omega
 have:=key V.length (le_refl _)
 rwa [take_length]at this
theorem Cd {u:Int}(h1:w.B.length<=90000:=by omega)(h2:w.V.length<=90000:=by omega):Do w u=some (px w.B,mM w.V):=by
 unfold Do;rw[aC,ct,aC,ct]
 have e1:=ax (step:=nJ w) (n:=w.B.length) (fun k=>gD.mk (k:Int) (px (w.B.take k))) (gD.mk (w.B.length:Int) (px w.B)) (fun k hk=>by
  obtain⟨y,hy,-⟩:=az hk;unfold nJ;simp only
  rw[dO,au hy,ob,aL hy,vY,ah (n:=k)]) (by
  unfold nJ;simp only
  rw[ft,take_length]) (by omega)
 have e1':iter (nJ w) aY (gD.mk 0 (bP [] (0,0) 0))=some (gD.mk (w.B.length:Int) (px w.B)):=e1
 have e2:=ax (step:=nK w) (n:=w.V.length) (fun k=>gE.mk (k:Int) (mM (w.V.take k))) (gE.mk (w.V.length:Int) (mM w.V)) (fun k hk=>by
  obtain⟨y,hy,-⟩:=az hk;unfold nK;simp only
  rw[dO,au hy,ob,aL hy,vP,ah (n:=k)]) (by
  unfold nK;simp only
  rw[ft,take_length]) (by omega)
 have e2':iter (nK w) aY (gE.mk 0 [])=some (gE.mk (w.V.length:Int) (mM w.V)):=e2;rw[e1',ob,e2',ob]
def forB (B:List Bk)(v:Vt):Prop:=∃s,bL B v.Head=some s/\s<=v.Slot
def yx (sm:List (ID×Int))(v:Vt):Bool:=match am sm v.Head with
 |none=>true
 |some s=>decide (s>v.Slot)
theorem Ii (v:Vt)(sm:List (ID×Int)):EZ v sm=some (yx sm v):=by
 unfold EZ yx
 cases am sm v.Head with
 |none=>rfl
 |some s=>rfl
def vE (sm:List (ID×Int))(l:List Vt)(j:Nat):Option Int:=match l[j]? with
 |some v=>if yx sm v=true then some (j:Int)else none
 |none=>none
theorem Ij {l:List Vt}(hl:l.length<=90000)(sm:List (ID×Int)):E0 l sm=some (l.any (yx sm)):=by
 have e:=d9 (step:=kU l sm) (n:=l.length) (fun k=>fO.mk (k:Int)) (vE sm l) (fun j hj=>by
  obtain⟨y,hy,-⟩:=az hj;unfold kU vE;simp only;rw[dO,au hy,ob,Ii,ob,ah (n:=j),hy];simp only
  cases yx sm y with
  |true=>rw[ct,i1_ rfl]
  |false=>rw[cf,i0_ (by simp)]) (by
  unfold kU;simp only
  rw[ft])
 unfold E0 Ci;have e':iter (kU l sm) aY (fO.mk 0)=some (lK (fO.mk (l.length:Int)) (cW (vE sm l) 0 l.length)):=e;rw[e',ob]
 cases h:cW (vE sm l) 0 l.length with
 |none=>
  rw[lK,sl,ob];rw[gA]at h;congr 1;rw[show decide ((-1:Int)>=0)=false from rfl];symm;rw[List.any_eq_false];intro v hv;obtain⟨j,hj⟩:=getElem?_of_mem hv;have:=h j (zero_le _) (by have:=(List.getElem?_eq_some_iff.1 hj).1;omega);unfold vE at this;rw[hj]at this;simp only at this;intro hb;rw[i1_ hb]at this;cases this
 | some r=>
  obtain⟨j,-,-,h3,-⟩:=fl h;unfold vE at h3;split at h3
  ·rename_i v hv;split at h3
   ·rename_i hb;cases h3;rw[lK,sr,ob,aP (show(j:Int)>=0 by omega)];congr 1;symm;rw[any_eq_true];exact⟨v,List.mem_of_getElem? hv,hb⟩
   ·cases h3
  ·cases h3
structure ov (c:Cf)(w:Vw):Prop where
 conf:cY c
 valid:dV w.B
 lenB:w.B.length<=60
 lenV:w.V.length<=240
 mayB:∀b∈w.B,mayB c b=true
 mayV:∀v∈w.V,mayV c v=true
 nodup:w.V.Nodup
 forB:∀v∈w.V,forB w.B v
open Classical in
theorem KN (h1:w.B.length<=1000)(h2:w.V.length<=1000):Mq c w=some (decide (ov c w)):=by
 have hno:∀h:¬ov c w,decide (ov c w)=false:=fun h=>aR h;unfold Mq;rw[l8,ob];by_cases c1:cY c
 ·rw [aP c1,Bool.not_true,cf,FZ,ob];by_cases c2:dV w.B
  ·rw [show(places w.B).isSome=true from c2,Bool.not_true,cf];by_cases c3:w.B.length<=60
   ·rw [aR (show¬(w.B.length:Int)>60 by omega),cf,ob];by_cases c4:w.V.length<=240
    ·rw [aR (show¬(w.V.length:Int)>240 by omega),cf,F8,ob]
     have hfB:(bF c w).B.length=w.B.length↔∀b∈w.B,mayB c b=true:=by unfold bF;exact List.length_filter_eq_length_iff
     have hfV:(bF c w).V.length=w.V.length↔∀v∈w.V,mayV c v=true:=by unfold bF;exact List.length_filter_eq_length_iff
     by_cases c5:∀b∈w.B,mayB c b=true
     ·rw [show(((bF c w).B.length:Int) != (w.B.length:Int))=false by rw[hfB.2 c5];simp,cf,ob];by_cases c6:∀v∈w.V,mayV c v=true
      ·have hm:=zV w.V;rw[show(((bF c w).V.length:Int) != (w.V.length:Int))=false by rw[hfV.2 c6];simp,cf,Cd,ob,show wH (mM w.V)=true from aP (by omega),ct];by_cases c7:w.V.Nodup
       ·rw[show(((mM w.V).length:Int)==(w.V.length:Int))=true by rw[hm.2.2 c7];simp,ct,Ij (by omega),ob];congr 1
        have hbad:∀v,yx (px w.B) v=false↔Go.Mg.forB w.B v:=by
         intro v;unfold yx Go.Mg.forB;rw[vX c2]
         cases bL w.B v.Head with
         |none=>simp
         |some s=>simp
        cases ha:w.V.any (yx (px w.B))with
        |true=>
         obtain⟨v,hv,hb⟩:=any_eq_true.1 ha;symm;refine hno fun h=>?_;have:=(hbad v).2 (h.forB v hv);rw[hb]at this;cases this
        |false=>
         rw[List.any_eq_false]at ha;symm;exact aP ⟨c1,c2,c3,c4,c5,c6,c7,fun v hv=>(hbad v).1 (by have:=ha v hv;simpa using this)⟩
       ·rw[show(((mM w.V).length:Int)==(w.V.length:Int))=false by
         rw[beq_eq_false_iff_ne];intro e;exact c7 (hm.2.1 (by omega)),cf,hno fun h=>c7 h.nodup]
      ·rw[show(((bF c w).V.length:Int) != (w.V.length:Int))=true by
        rw[bne_iff_ne];intro e;exact c6 (hfV.1 (by omega)),ct,hno fun h=>c6 h.mayV]
     ·rw[show(((bF c w).B.length:Int) != (w.B.length:Int))=true by
       rw[bne_iff_ne];intro e;exact c5 (hfB.1 (by omega)),ct,ob,ct,hno fun h=>c5 h.mayB]
    ·rw[aP (show(w.V.length:Int)>240 by omega),ct,hno fun h=>c4 h.lenV]
   ·rw[aP (show(w.B.length:Int)>60 by omega),ct,ob,ct,hno fun h=>c3 h.lenB]
  ·rw[show(places w.B).isSome=false from by unfold dV at c2;simpa using c2,Bool.not_false,ct,ob,ct,hno fun h=>c2 h.valid]
 ·rw[aR c1,Bool.not_false,ct,ob,ct,hno fun h=>c1 h.conf]
structure hY where
 n:Int
 o6:List Bk
 o7:List Vt
 o8:List (ID×Int)
 o9:List (Vt×Bool)
 x_5:Bool
 o14:List Bk
 o15:List Vt
 left_0:Nat
 left_1:Nat
def oT (slot:Int)(x1:hY):Option (hY⊕hY):=bif x1.n != (i64.wrap ((x1.o6.length:Int)+(x1.o7.length:Int)))then (E3 x1.o14 x1.left_0 x1.o6 x1.o8 slot x1.x_5).bind fun v5=>(E4 x1.o15 x1.left_1 x1.o7 v5.2.2.2.1 x1.o9 slot v5.2.2.2.2).bind fun v6=>some (.inl (hY.mk (i64.wrap ((x1.o6.length:Int)+(x1.o7.length:Int))) v5.2.2.1 v6.2.2.1 v5.2.2.2.1 v6.2.2.2.1 v6.2.2.2.2 v5.2.1 v6.2.1 v5.1 v6.1))else some (.inr (hY.mk x1.n x1.o6 x1.o7 x1.o8 x1.o9 x1.x_5 x1.o14 x1.o15 x1.left_0 x1.left_1))
def Mr (c:Cf)(w:Vw)(v_in:Vw)(slot:Int):Option (Vw×Vw×Bool):=(Do w slot).bind fun v1=>(Mq c w).bind fun v2=>bif !v2 then bif bJ 0 v_in.B.length 40 then bif bJ 0 v_in.V.length 32 then some (w,v_in,false)else none else none else (F7 c v_in).bind fun v3=>(iter (oT slot) aY (hY.mk (-1) w.B w.V v1.1 v1.2 false v3.1 v3.2 ((v3.1.map aA).length) ((v3.2.map aO).length))).bind fun v4=>bif ble v4.left_0 v4.o14.length then bif ble v4.left_1 v4.o15.length then some (Vw.mk v4.o6 v4.o7,Vw.mk (v4.o14.take v4.left_0) (v4.o15.take v4.left_1),v4.x_5)else none else none
theorem QQ {v_in:Vw}{r_:Vw×Vw×Bool}(h:Mr c w v_in slot=some r_):aq prog 128 [gQ c,iB w,iB v_in,.int .i64 slot] [iB r_.1,iB r_.2.1,.bool r_.2.2]:=by
 refine zh Tryz.func128 Z Z Z Z ?_;unfold Mr at h;refine qR<|yS Z (bx Z Z Z Z Z)<|yS Z (bx Z Z Z Z Z)<|yS Z (bx Z Z Z Z Z)<|yS Z (ze Z d5 Z Z)<|yS Z (ze Z d5 Z Z)<|mN Z<|qR<|yS Z (zD Z Z Z aG Z Z)<|zM Z<|zb h fun v1 a1 h=>yS Z (zC Z Z Z (by kernel_rfl) (LC.frameX (x':=.ptr 10 0) (H':=[.box (ch c),.box (cH w),.box (cH v_in),.box [.zs,.zs],.box [.zs,.zs],.box (cH w),.vec 5 (w.B.map aA),.vec 4 (w.V.map aO),(mQ v1.1),(mR v1.2),.box [(jB 6 w.B),(jV 7 w.V),.map 8,.map 9,(iQ slot),(bQ false)]]) (J1 a1) (.consC zv (.consC zv .nil)) Z Z (by simp only[map_cons,map_nil,cons_append,nil_append,ab.shift,LV.shifts,LV.shift,CD,CC] <;>rfl)))<|mN Z<|zQ<|qR<|yS Z (zD Z Z Z be Z Z)<|yS Z (zD Z Z Z aG Z Z)<|zb h fun v2 a2 h=>yS Z (yP Z Z Z (QP a2) bG)<|yS Z (aa.not Z Z)<|nT ?_;refine zX Z (fun g1=>?_)<|fun g1=>?_
 ·refine zi g1 h fun h=>zQ<|LW.ent (bY.slot Z)<|LW.ent (bY.slot Z)<|fB<|zK Z<|yG Z (fun H _=>zn Z Z)<|yG Z (fun H _=>zA Z Z gp)<|yF Z (zd Z Z Z aG Z Z) Z<|yG Z (fun H _=>zA Z Z aK)<|yF Z (zd Z Z Z bM Z Z) Z<|zg h fun q1 h=>?_;refine yF Z (cj.callV (id:=11) (qs:=[(kB v_in.B)]) Z Z Z (by kernel_rfl) (yA q1) (fun H=>(.consC zv .nil)) Z) Z ?_;refine yG Z (fun H _=>zA Z Z aQ)<|yF Z (zd Z Z Z co Z Z) Z<|zg h fun q2 h=>?_;refine yF Z (cj.callV (id:=12) (qs:=[(kV v_in.V)]) Z Z Z (by kernel_rfl) (yB q2) (fun H=>(.consC zv .nil)) Z) Z ?_;refine yG Z (fun H _=>aa.build Z nh Z Z Z)<|yF Z (zt Z Z Z Z aG Z Z Z) Z<|yF Z (zt Z Z Z Z aG Z Z Z) Z<|zK Z ?_;refine LF.nil ⟨by kernel_rfl,?_⟩;refine zT<|zr<|ae ?_;cases h;exact zf (.three (er Z Z) (er Z Z) (.tmp Z))<|⟨_,rfl,(.cons (Conv.agg (.cons (Conv.vecAll Z Z Z) (.cons (Conv.vecAll Z Z Z) .nil))) (.cons (Conv.agg (.cons (Conv.vecAll Z Z Z) (.cons (Conv.vecAll Z Z Z) .nil))) dG))⟩
 ·refine zo g1 h fun h=>zk<|zT<|qR<|zM Z<|yS Z (aa.makeFunc Z Z Z)<|zM Z<|yS Z (aa.makeFunc Z Z Z)<|zM Z<|mN Z<|qR<|yS Z (zD Z Z Z be Z Z)<|yS Z (zD Z Z Z aG Z Z)<|zb h fun v3 a3 h=>?_;refine yS Z (zC Z Z Z (by kernel_rfl) (LC.frameX (x':=.agg [(jB 14 v3.1),(jV 15 v3.2)]) (H':=[.box (ch c),.box (cH w),.box (cH v_in),.box [.zs,.zs],.box [.zs,.zs],.box (cH w),.vec 5 (w.B.map aA),.vec 4 (w.V.map aO),(mQ v1.1),(mR v1.2),.box [(jB 6 w.B),(jV 7 w.V),.map 8,.map 9,(iQ slot),(bQ false)],.box (ch c),.box (cH v_in),.box [(jB 14 v3.1),(jV 15 v3.2)],.vec 5 (v3.1.map aA),.vec 4 (v3.2.map aO)]) (N0 a3) (.consC zv (.consC zv .nil)) Z Z (by simp only[map_cons,map_nil,cons_append,nil_append,ab.shift,LV.shifts,LV.shift] <;>rfl))) ?_;refine yS Z (ze Z d5 Z Z)<|yS Z (zs Z Z Z Z aG Z Z Z Z)<|nT<|zQ<|zQ<|LW.ent (bY.kill (i:=0) Z)<|LW.ent (bY.kill (i:=1) Z)<|LW.ent (bY.kill (i:=2) Z)<|LW.ent (bY.kill (i:=5) Z)<|LW.ent (bY.kill (i:=11) Z)<|LW.ent (bY.kill (i:=12) Z)<|LW.ent (bY.kill (i:=13) Z)<|zR<|mN Z ?_;obtain⟨v4,p4,b4⟩:=zB h;clear h;refine LW.tail (E:=[(8,.ptr 3 0),(9,.ptr 4 0),(10,(bQ false)),(11,.ptr 10 0),(14,.ptr 16 0)]) (O:=[.dead,.dead,.dead,.box [.zs,.zs],.box [.zs,.zs],.dead,.vec 5 (v4.o6.map aA),.vec 4 (v4.o7.map aO),(mQ v4.o8),(mR v4.o9),.box [(jB 6 v4.o6),(jV 7 v4.o7),.map 8,.map 9,(iQ slot),(bQ v4.x_5)],.dead,.dead,.dead,.vec 5 (v4.o14.map aA),.vec 4 (v4.o15.map aO),.box [.vec 5 14 (v4.o14.map aA).length 0 v4.left_0,.vec 4 15 (v4.o15.map aO).length 0 v4.left_1]]) ?_<|fun e4 K4 u4=>?_
  ·refine LW.block ?_;refine LW.iterB (E:=fun x1:hY=>[(8,.ptr 3 0),(9,.ptr 4 0),(10,(bQ false)),(11,.ptr 10 0),(12,.fn 155 [.ptr 10 0] []),(13,.fn 156 [.ptr 10 0] []),(14,.ptr 16 0),(15,(iQ x1.n))]) (O:=fun x1=>[.dead,.dead,.dead,.box [.zs,.zs],.box [.zs,.zs],.dead,.vec 5 (x1.o6.map aA),.vec 4 (x1.o7.map aO),(mQ x1.o8),(mR x1.o9),.box [(jB 6 x1.o6),(jV 7 x1.o7),.map 8,.map 9,(iQ slot),(bQ x1.x_5)],.dead,.dead,.dead,.vec 5 (x1.o14.map aA),.vec 4 (x1.o15.map aO),.box [.vec 5 14 (x1.o14.map aA).length 0 x1.left_0,.vec 4 15 (x1.o15.map aO).length 0 x1.left_1]]) p4 (zW 17 ⟨Z,Z,Z,Z,Z,Z,Z,Z,t_⟩ Z Z Z (cp (cp (zL (aj (fun _=>rfl) _) (zL (aj (fun _=>rfl) _) (cp (zL Z (zL Z (zL Z Z)))))))))<|fun x1 z1 h m1=>?_;unfold oT at h;refine zQ<|zQ<|dx<|zH Z<|zH Z<|yE Z (zn Z Z)<|yE Z (zA Z Z gp)<|yE Z (zA Z Z aK)<|yE Z (zD Z Z Z bM Z Z)<|yE Z (aa.lenVM Z Z Z (by kernel_rfl))<|zH Z<|yE Z (zn Z Z)<|yE Z (zA Z Z gp)<|yE Z (zA Z Z aQ)<|yE Z (zD Z Z Z co Z Z)<|yE Z (aa.lenVM Z Z Z (by kernel_rfl))<|yE Z (an Z Z Z Z)<|yE Z (an Z Z Z Z)<|LO.nil<|zT ?_;refine zX Z (fun g2=>?_)<|fun g2=>?_
   ·refine zi g2 h fun h=>zk<|zT<|zl<|zQ<|dx<|zH Z<|yE Z (zn Z Z)<|yE Z (zA Z Z gp)<|yE Z (zA Z Z aK)<|yE Z (zD Z Z Z bM Z Z)<|yE Z (aa.lenVM Z Z Z (by kernel_rfl))<|zH Z<|yE Z (zn Z Z)<|yE Z (zA Z Z gp)<|yE Z (zA Z Z aQ)<|yE Z (zD Z Z Z co Z Z)<|yE Z (aa.lenVM Z Z Z (by kernel_rfl))<|yE Z (an Z Z Z Z)<|zH Z<|LO.nil<|zT<|qR<|yS Z (zA Z Z aK)<|yS Z (zD Z Z Z bM Z Z)<|zM Z<|zb h fun v5 a5 h=>yS Z (yC Z Z Z (NU a5))<|yS Z (zA Z Z aK)<|yS Z (zs Z Z Z Z bM Z Z Z Z)<|nT<|zR<|yS Z (zA Z Z aQ)<|yS Z (zD Z Z Z co Z Z)<|zM Z<|zb h fun v6 a6 h=>yS Z (yC Z Z Z (NV a6))<|yS Z (zA Z Z aQ)<|yS Z (zs Z Z Z Z co Z Z Z Z)<|zN<|af<|zT ?_;cases h;exact⟨_,rfl,zW 17 ⟨Z,Z,Z,Z,Z,Z,Z,Z,t_⟩ Z Z Z (cp (cp (zL (aj (fun _=>rfl) _) (zL (aj (fun _=>rfl) _) (cp (zL Z (zL Z (zL Z Z))))))))⟩
   ·refine zo g2 h fun h=>zq<|ai<|ai<|zy<|zT ?_;cases h;obtain rfl:=(m1 _ rfl);exact zW 17 ⟨Z,Z,Z,Z,Z,t_⟩ Z Z Z<|cp<|cp<|zL (aj (fun _=>rfl) _)<|zL (aj (fun _=>rfl) _)<|cp<|zL Z<|zL Z<|zL Z Z
  ·have h:=b4;clear p4;refine zT<|LW.weak u4<|zQ<|fB<|zK Z<|yG Z (fun H _=>zn Z Z)<|yG Z (fun H _=>zA Z Z gp)<|yF Z (zd Z Z Z aG Z Z) Z<|zg h fun q3 h=>zg h fun q4 h=>yF Z (zd Z Z Z aG Z Z) Z<|zK Z<|yG Z (fun H _=>zn Z Z)<|yG Z (fun H _=>zA Z Z sX)<|yF Z (zd Z Z Z uS Z Z) Z<|yF Z (zt Z Z Z Z aG Z Z Z) Z<|yF Z (zt Z Z Z Z aG Z Z Z) Z<|zK Z ?_;refine LF.nil ⟨by kernel_rfl,?_⟩;refine zT<|zr ?_;cases h;exact zf (.three (er Z Z) (er Z Z) (.tmp Z))<|⟨_,rfl,(.cons (Conv.agg (.cons (Conv.vecAll Z Z Z) (.cons (Conv.vecAll Z Z Z) .nil))) (.cons (Conv.agg (.cons (Conv.vecTake Z q3) (.cons (Conv.vecTake Z q4) .nil))) dG))⟩
def di (B:List Bk)(b:Bk):Bool:=(bL B (nm b)).isSome||(match bL B b.Parent with|some s=>decide (s>=b.Slot)|none=>false)
def ga (B:List Bk)(upto:Int)(b:Bk):Bool:=match bL B b.Parent with|some _=>decide (b.Slot>upto)|none=>true
def bX (upto:Int)(B:List Bk)(full:Bool)(b:Bk):Bool×List Bk×Bool:=
 if di B b then(true,B,full)else if ga B upto b then(false,B,full)else if B.length<60 then(true,B++[b],full)else(false,B,true)
def dv (B:List Bk)(V:List Vt)(v:Vt):Bool:=decide (v∈V)||(match bL B v.Head with|some s=>decide (s>v.Slot)|none=>false)
def gN (B:List Bk)(upto:Int)(v:Vt):Bool:=match bL B v.Head with|some _=>decide (v.Slot>upto)|none=>true
def bZ (upto:Int)(B:List Bk)(V:List Vt)(full:Bool)(v:Vt):Bool×List Vt×Bool:=
 if dv B V v then(true,V,full)else if gN B upto v then(false,V,full)else if V.length<240 then(true,V++[v],full)else(false,V,true)
def IQ (B:List Bk)(sm:List (ID×Int)):Prop:=∀id,am sm id=bL B id
def KS (V:List Vt)(hm:List (Vt×Bool)):Prop:=∀v,am hm v=if v∈V then some true else none
theorem Cj (n most:Int)(full:Bool):Dr n most full=some (decide (n<most),if n<most then full else true):=by
 unfold Dr
 cases full with
 |true=>rw[ct];by_cases h:n<most <;>simp[h]
 |false=>
  rw[cf];by_cases h:n<most
  ·rw[i1_ h,aR (show¬n>=most by omega)]
  ·rw[i0_ h,aP (show n>=most by omega)]
theorem Ik {B:List Bk}{sm:List (ID×Int)}{full:Bool}(hs:IQ B sm)(hB:B.length<=1000)(hl:sm.length<=900000) :
  ∃sm',AM b B sm upto full=some ((bX upto B full b).1,(bX upto B full b).2.1,sm',(bX upto B full b).2.2)/\IQ (bX upto B full b).2.1 sm'/\sm'.length<=sm.length+((bX upto B full b).2.1.length-B.length):=by
 unfold AM;rw[hs,hs]
 cases hn:bL B (nm b)with
 |some q=>
  have e:bX upto B full b=(true,B,full):=by simp[bX,di,hn]
  rw[e];refine⟨sm,?_,hs,by simp⟩;rw[isSome_some,ct,ob,ct]
 | none=>
  rw[isSome_none,cf]
  cases hp:bL B b.Parent with
  |none=>
   have e:bX upto B full b=(false,B,full):=by simp[bX,di,ga,hn,hp]
   rw[e];refine⟨sm,?_,hs,by simp⟩;rw[isSome_none,cf,ob,cf,Bool.not_false,ct,ob,ct]
  | some s=>
   rw[isSome_some,ct,ob,getD_some];by_cases h1:s>=b.Slot
   ·have e:bX upto B full b=(true,B,full):=by simp[bX,di,hn,hp,h1]
    rw[e];refine⟨sm,?_,hs,by simp⟩;rw[aP h1,ct]
   ·rw [aR h1,cf,Bool.not_true,cf];by_cases h2:b.Slot>upto
    ·have e:bX upto B full b=(false,B,full):=by simp[bX,di,ga,hn,hp,h1,h2]
     rw[e];refine⟨sm,?_,hs,by simp⟩;rw[aP h2,ct,ob,ct]
    ·rw[aR h2,cf,Cj,ob,ob];by_cases h3:B.length<60
     ·have e:bX upto B full b=(true,B++[b],full):=by simp[bX,di,ga,hn,hp,h1,h2,h3]
      rw[e];refine⟨bP sm (nm b) b.Slot,?_,fun id=>?_,?_⟩
      ·rw[aP (show(B.length:Int)<60 by omega),Bool.not_true,cf,aC (by simp only[length_singleton];omega),ct,show wH sm=true from aP (by omega),ct,i1_ (show(B.length:Int)<60 by omega)]
      ·rw[dh,uB,hs];by_cases e:nm b=id
       ·rw[i1_ e,i1_ e,<-e,hn];rfl
       ·rw[i0_ e,i0_ e];cases bL B id <;>rfl
      ·rw[qW,length_append,length_singleton];split <;>omega
     ·have e:bX upto B full b=(false,B,true):=by simp[bX,di,ga,hn,hp,h1,h2,h3]
      rw[e];refine⟨sm,?_,hs,by simp⟩;rw[aR (show¬(B.length:Int)<60 by omega),Bool.not_false,ct,i0_ (show¬(B.length:Int)<60 by omega)]
theorem Il {B:List Bk}{V:List Vt}{sm:List (ID×Int)}{hm:List (Vt×Bool)}{full:Bool}(hs:IQ B sm)(hh:KS V hm)(hV:V.length<=1000)(hl:hm.length<=900000) :
  ∃hm',AN v V sm hm upto full=some ((bZ upto B V full v).1,(bZ upto B V full v).2.1,hm',(bZ upto B V full v).2.2)/\KS (bZ upto B V full v).2.1 hm'/\hm'.length<=hm.length+((bZ upto B V full v).2.1.length-V.length):=by
 unfold AN;rw[hs,hh];by_cases hn:v∈V
 ·have e:bZ upto B V full v=(true,V,full):=by simp[bZ,dv,hn]
  rw[e];refine⟨hm,?_,hh,by simp⟩;rw[i1_ hn,getD_some,ct,ob,ct]
 ·rw [i0_ hn,Option.getD_none,cf]
  cases hp:bL B v.Head with
  |none=>
   have e:bZ upto B V full v=(false,V,full):=by simp[bZ,dv,gN,hn,hp]
   rw[e];refine⟨hm,?_,hh,by simp⟩;rw[isSome_none,cf,ob,cf,Bool.not_false,ct,ob,ct]
  | some s=>
   rw[isSome_some,ct,ob,getD_some];by_cases h1:s>v.Slot
   ·have e:bZ upto B V full v=(true,V,full):=by simp[bZ,dv,hn,hp,h1]
    rw[e];refine⟨hm,?_,hh,by simp⟩;rw[aP h1,ct]
   ·rw [aR h1,cf,Bool.not_true,cf];by_cases h2:v.Slot>upto
    ·have e:bZ upto B V full v=(false,V,full):=by simp[bZ,dv,gN,hn,hp,h1,h2]
     rw[e];refine⟨hm,?_,hh,by simp⟩;rw[aP h2,ct,ob,ct]
    ·rw[aR h2,cf,Cj,ob,ob];by_cases h3:V.length<240
     ·have e:bZ upto B V full v=(true,V++[v],full):=by simp[bZ,dv,gN,hn,hp,h1,h2,h3]
      rw[e];refine⟨bP hm v true,?_,fun id=>?_,?_⟩
      ·rw[aP (show(V.length:Int)<240 by omega),Bool.not_true,cf,aC (by simp only[length_singleton];omega),ct,show wH hm=true from aP (by omega),ct,i1_ (show(V.length:Int)<240 by omega)]
      ·rw[dh,hh];by_cases e:v=id
       ·subst e;simp
       ·simp[e,Ne.symm e]
      ·rw[qW,length_append,length_singleton];split <;>omega
     ·have e:bZ upto B V full v=(false,V,true):=by simp[bZ,dv,gN,hn,hp,h1,h2,h3]
      rw[e];refine⟨hm,?_,hh,by simp⟩;rw[aR (show¬(V.length:Int)<240 by omega),Bool.not_false,ct,i0_ (show¬(V.length:Int)<240 by omega)]
section
variable {α : Type}
def bU (step:List α->Bool->α->Bool×List α×Bool):List α->Bool->List α->List α×List α×Bool
 |B,f,[]=>([],B,f)
 |B,f,b::r=>(if (step B f b).1 then(bU step (step B f b).2.1 (step B f b).2.2 r).1 else b::(bU step (step B f b).2.1 (step B f b).2.2 r).1,(bU step (step B f b).2.1 (step B f b).2.2 r).2)
variable {step : List α -> Bool -> α -> Bool × List α × Bool}
theorem gu (b:α):∀(l B:List α) (f:Bool),bU step B f (l++[b]) =
  (if (step (bU step B f l).2.1 (bU step B f l).2.2 b).1 then(bU step B f l).1 else(bU step B f l).1++[b],(step (bU step B f l).2.1 (bU step B f l).2.2 b).2)
 |[],B,f=>by
  simp only[nil_append,bU];rfl
 |x::r,B,f=>by
  simp only[cons_append,bU,gu b r];split <;>split <;>simp_all
theorem lL :∀(l B:List α) (f:Bool),(bU step B f l).1.length<=l.length
 |[],B,f=>by simp[bU]
 |x::r,B,f=>by
  have:=lL r (step B f x).2.1 (step B f x).2.2;simp only[bU];split
  ·simp only[length_cons];omega
  ·simp only[length_cons];omega
theorem ei (h:∀B f b,B.length<=(step B f b).2.1.length/\(step B f b).2.1.length<=B.length+1):∀(l B:List α) (f:Bool),B.length<=(bU step B f l).2.1.length/\(bU step B f l).2.1.length<=B.length+l.length
 |[],B,f=>by simp[bU]
 |x::r,B,f=>by
  have h1:=h B f x;have h2:=ei h r (step B f x).2.1 (step B f x).2.2;simp only[bU,length_cons];omega
end
def aV (upto:Int):List Bk->Bool->List Bk->List Bk×List Bk×Bool:=bU (bX upto)
def bN (upto:Int)(B:List Bk):List Vt->Bool->List Vt->List Vt×List Vt×Bool:=bU (bZ upto B)
theorem j8 (upto:Int)(B:List Bk)(f:Bool)(b:Bk):B.length<=(bX upto B f b).2.1.length/\(bX upto B f b).2.1.length<=B.length+1:=by
 unfold bX;split <;>(try split) <;>(try split) <;>simp
theorem j9 (upto:Int)(B:List Bk)(V:List Vt)(f:Bool)(v:Vt):V.length<=(bZ upto B V f v).2.1.length/\(bZ upto B V f v).2.1.length<=V.length+1:=by
 unfold bZ;split <;>(try split) <;>(try split) <;>simp
structure A3 (B:List Bk)(sm:List (ID×Int)):Prop where
 find:IQ B sm
 len:sm.length<=B.length+1
structure ED (V:List Vt)(hm:List (Vt×Bool)):Prop where
 find:KS V hm
 len:hm.length<=V.length
theorem E1 {B:List Bk}{sm:List (ID×Int)}{full:Bool}(hs:A3 B sm)(hB:B.length<=1000:=by omega) :
  ∃sm',AM b B sm upto full=some ((bX upto B full b).1,(bX upto B full b).2.1,sm',(bX upto B full b).2.2)/\A3 (bX upto B full b).2.1 sm':=by
 obtain⟨sm',h1,h2,h3⟩:=Ik (b:=b) (upto:=upto) (full:=full) hs.find hB (by have:=hs.len;omega);have hg:=j8 upto B full b;exact⟨sm',h1,h2,by have:=hs.len;omega⟩
theorem E2 {B:List Bk}{V:List Vt}{sm:List (ID×Int)}{hm:List (Vt×Bool)}{full:Bool}(hs:A3 B sm)(hh:ED V hm)(hV:V.length<=1000:=by omega) :
  ∃hm',AN v V sm hm upto full=some ((bZ upto B V full v).1,(bZ upto B V full v).2.1,hm',(bZ upto B V full v).2.2)/\ED (bZ upto B V full v).2.1 hm':=by
 obtain⟨hm',h1,h2,h3⟩:=Il (v:=v) (upto:=upto) (full:=full) hs.find hh.find hV (by have:=hh.len;omega);have hg:=j9 upto B V full v;exact⟨hm',h1,h2,by have:=hh.len;omega⟩
theorem iS {l:List α}(h:l[j]?=some y):l.take (j+1)=l.take j++[y]:=aL h
theorem Iz {lB l B:List Bk}{sm:List (ID×Int)}{full:Bool}(hl:lB.take kk=l)(hk:l.length=kk)(hs:A3 B sm)(hB:B.length+kk<=900) :
  ∃i B' sm' f',Ff lB kk B sm upto full=some (i,B',sm',f')/\A3 B' sm'/\((i= -1/\aV upto B full l=(l,B',f'))\/∃j:Nat,i=j/\j<kk/\aV upto B full (l.take (j+1))=(l.take j,B',f')):=by
 unfold Ff
 have key:=bA (step:=nV lB kk upto) (fun x=>∃j:Nat,j<=kk/\x.t8=j/\aV upto B full (l.take j)=(l.take j,x.o6,x.o10_5)/\A3 x.o6 x.o8) (fun x=>kk-x.t8.toNat)
  (fun b=>(∃x,b=.inl x/\aV upto B full l=(l,x.o6,x.o10_5)/\A3 x.o6 x.o8)\/∃(j:Nat) (B':List Bk) (sm':List (ID×Int)) (f':Bool),b=.inr ((j:Int),B',sm',f')/\j<kk/\aV upto B full (l.take (j+1))=(l.take j,B',f')/\A3 B' sm') (by
   rintro⟨t,B1,sm1,f1⟩ ⟨j,hj,h1,h2,h3⟩;simp only at h1 h2 h3;subst h1;by_cases hlt:j<kk
   ·obtain⟨y,hy,-⟩:=az (l:=l) (n:=j);have hgr:=ei (step:=bX upto) (j8 upto) (l.take j) B full;have h2':bU (bX upto) B full (l.take j)=(l.take j,B1,f1):=h2;rw[h2']at hgr;simp only at hgr;rw[length_take]at hgr;obtain⟨sm',e,hr⟩:=E1 (b:=y) (upto:=upto) (full:=f1) h3
    have hsn:aV upto B full (l.take (j+1))=(if (bX upto B1 f1 y).1 then l.take j else l.take j++[y],(bX upto B1 f1 y).2):=by
     rw[iS hy];unfold aV;rw[gu,h2']
    generalize bX upto B1 f1 y=q at e hr hsn;obtain⟨g,B2,f2⟩:=q;simp only at e hr hsn
    have hstep:nV lB kk upto ⟨(j:Int),B1,sm1,f1⟩=bif g then some (.inr (.inr ((j:Int),B2,sm',f2)))else some (.inl ⟨((j+1:Nat):Int),B2,sm',f2⟩):=by
     unfold nV;simp only;rw[dO,hl,au hy,ob,e,ob,ah (n:=j)]
    cases g with
    |true=>
     right;rw[ct]at hstep;rw[i1_ rfl]at hsn;exact⟨_,hstep,.inr ⟨j,B2,sm',f2,rfl,hlt,hsn,hr⟩⟩
    |false=>
     left;rw[cf]at hstep;rw[i0_ (by simp)]at hsn;refine⟨_,hstep,⟨j+1,hlt,rfl,?_,hr⟩,by simp only;omega⟩;rw[hsn,iS hy]
   ·right
    obtain rfl:j=kk:=by omega
    refine⟨.inl ⟨(j:Int),B1,sm1,f1⟩,?_,.inl ⟨_,rfl,?_,h3⟩⟩
    ·unfold nV;simp only;rw[ft]
    ·rw[take_of_length_le (by omega)]at h2;exact h2) (n:=aY) (x:=⟨0,B,sm,full⟩) ⟨0,by omega,rfl,by simp[aV,bU],hs⟩ (cq (by simp only;omega))
 obtain⟨b,e,⟨x,rfl,h1,h2⟩|⟨j,B',sm',f',rfl,h0,h1,h2⟩⟩:=key
 ·exact⟨-1,x.o6,x.o8,x.o10_5,by rw[e,ob,sl],h2,.inl ⟨rfl,h1⟩⟩
 ·exact⟨j,B',sm',f',by rw[e,ob,sr],h2,.inr ⟨j,rfl,h0,h1⟩⟩
structure u5 {α:Type}(lB:List α)(k:Nat)(l:List α):Prop where
 take:lB.take k=l
 le:k<=lB.length
theorem u5.len {lB l:List α}{k:Nat}(h:u5 lB k l):l.length=k:=by
 rw[<-h.take,length_take];have:=h.le;omega
theorem wE {a l:List α}{z:α}(hi:i<=kk)(hk:kk<=a.length)(h:a.take i=l):u5 (kH a i (kk-i) z) i l:=by
 have hlen:=tR (l:=a) (off:=i) (k:=kk-i) (z:=z) (by omega);refine⟨?_,by omega⟩;unfold kH;rw[append_assoc,List.take_left' (by rw[length_take];omega),h]
structure Mv {α:Type}(l a:List α)(i j:Nat)(left:List α):Prop where
 ij:i<j
 jl:j<=l.length
 len:l.length<=a.length
 left:a.take i=left
 rest:∀q,j<=q->q<l.length->a[q]?=l[q]?
theorem Mv.next_gone {l a:List α}{left:List α}(h:Mv l a i j left)(hj:j<l.length):Mv l a i (j+1) left:=
 ⟨by have:=h.ij;omega,hj,h.len,h.left,fun q h1 h2=>h.rest q (by omega) h2⟩
theorem Mv.next_stay {l a:List α}{left:List α}(h:Mv l a i j left)(hj:j<l.length)(_:l[j]?=some y):Mv l (a.set i y) (i+1) (j+1) (left++[y]):=by
 have h1:=h.ij;have h2:=h.len;refine⟨by omega,hj,by rw[List.length_set];exact h2,?_,fun q h3 h4=>?_⟩
 ·have hi:(a.set i y)[i]?=some y:=by rw[List.getElem?_set];simp;omega
  rw[iS hi,List.take_set_of_le (le_refl _),h.left]
 ·rw[List.getElem?_set,i0_ (by omega)];exact h.rest q (by omega) h4
theorem Im {lB l B:List Bk}{sm:List (ID×Int)}{full:Bool}(hl:u5 lB kk l)(hs:A3 B sm)(hB:B.length+kk<=900) :
  ∃k' lB' sm',E3 lB kk B sm upto full=some (k',lB',(aV upto B full l).2.1,sm',(aV upto B full l).2.2)/\A3 (aV upto B full l).2.1 sm'/\u5 lB' k' (aV upto B full l).1:=by
 have hk:=hl.len;obtain⟨i,B0,sm0,f0,e0,hr0,h0⟩:=Iz (upto:=upto) (full:=full) hl.take hk hs hB;unfold E3;rw[e0,ob];rcases h0 with⟨rfl,hp⟩|⟨j0,rfl,hj0,hp⟩
 ·rw[hp];refine⟨kk,lB,sm0,?_,hr0,hl⟩;simp only;rw[show((-1:Int)== -1)=true from rfl,ct]
 ·simp only;rw[show((j0:Int)== -1)=false by rw[beq_eq_false_iff_ne];omega,cf,ah (n:=j0)]
  have key:=bA (step:=nL kk upto) (fun x=>∃(i j:Nat),x.i=i/\x.j=j/\A3 x.o6 x.o8/\(aV upto B full (l.take j)).2=(x.o6,x.o10_5)/\Mv l x.o14 i j (aV upto B full (l.take j)).1) (fun x=>kk-x.j.toNat)
   (fun x=>∃i:Nat,x.i=i/\i<=kk/\A3 x.o6 x.o8/\(aV upto B full l).2=(x.o6,x.o10_5)/\x.o14.take i=(aV upto B full l).1/\kk<=x.o14.length) (by
   rintro⟨i',j',B1,sm1,f1,a⟩ ⟨i,j,h1,h2,h3,h4,h5⟩;simp only at h1 h2 h3 h4 h5;subst h1 h2;have hij:=h5.ij;have hjl:=h5.jl;have hal:=h5.len;by_cases hlt:j<kk
   ·left;obtain⟨y,hy,-⟩:=az (l:=l) (n:=j)
    have hya:(a.take kk)[j]?=some y:=by rw[getElem?_take_of_lt hlt,h5.rest j (le_refl _) (by omega),hy]
    obtain⟨z,hz,-⟩:=az (l:=a.take kk) (n:=i) (by rw[length_take];omega);have hgr:=ei (step:=bX upto) (j8 upto) (l.take j) B full;have h4':(bU (bX upto) B full (l.take j)).2=(B1,f1):=h4;rw[h4']at hgr;simp only at hgr;rw[length_take]at hgr;obtain⟨sm',e,hr⟩:=E1 (b:=y) (upto:=upto) (full:=f1) h3
    have hsn:aV upto B full (l.take (j+1))=(if (bX upto B1 f1 y).1 then(aV upto B full (l.take j)).1 else(aV upto B full (l.take j)).1++[y],(bX upto B1 f1 y).2):=by
     rw[iS hy];unfold aV;rw[gu,h4']
    generalize bX upto B1 f1 y=q at e hr hsn;obtain⟨g,B2,f2⟩:=q;simp only at e hr hsn
    have hstep:nL kk upto ⟨(i:Int),(j:Int),B1,sm1,f1,a⟩=bif !g then some (.inl ⟨((i+1:Nat):Int),((j+1:Nat):Int),B2,sm',f2,a.set i y⟩)else some (.inl ⟨(i:Int),((j+1:Nat):Int),B2,sm',f2,a⟩):=by
     unfold nL;simp only;rw[dO,au hya,ob,e,ob,au hz,ob,ah (n:=j),ah (n:=i),toNat_natCast]
    cases g with
    |true=>
     rw[Bool.not_true,cf]at hstep;rw[i1_ rfl]at hsn;refine⟨_,hstep,⟨i,j+1,rfl,rfl,hr,by rw[hsn],?_⟩,by simp only;omega⟩;rw[hsn];exact h5.next_gone (by omega)
    |false=>
     rw[Bool.not_false,ct]at hstep;rw[i0_ (by simp)]at hsn;refine⟨_,hstep,⟨i+1,j+1,rfl,rfl,hr,by rw[hsn],?_⟩,by simp only;omega⟩;rw[hsn];exact h5.next_stay (by omega) hy
   ·right
    have hjk:j=kk:=by omega
    have htl:l.take j=l:=take_of_length_le (by omega);rw[htl]at h4 h5;refine⟨⟨(i:Int),(j:Int),B1,sm1,f1,a⟩,?_,i,rfl,by omega,h3,h4,h5.left,by show kk<=a.length;omega⟩;unfold nL;simp only
    rw[aR (show¬(j:Int)<(kk:Int) by omega),cf]) (n:=aY) (x:=⟨(j0:Int),((j0+1:Nat):Int),B0,sm0,f0,lB⟩)
   ⟨j0,j0+1,rfl,rfl,hr0,by rw[hp],by
    rw[hp];refine⟨by omega,by omega,by have:=hl.le;simp only;omega,?_,fun q h1 h2=>?_⟩
    ·show lB.take j0=l.take j0;rw[<-hl.take,List.take_take,Nat.min_eq_left (by omega)]
    ·rw[<-hl.take,getElem?_take_of_lt (by omega)]⟩ (cq (by simp only;omega))
  obtain⟨x,ex,i,hi,hik,hr,h1,h2,h3⟩:=key;generalize aV upto B full l=p at h1 h2⊢;obtain⟨pl,pB,pf⟩:=p;simp only at h1 h2⊢;rw[ex,ob,hi,aP (show 0<=(i:Int)/\(i:Int)<=(kk:Int) by omega),ct,toNat_natCast,aP (show i+(kk-i)<=x.o14.length by omega),ct,ct];cases h1;exact⟨i,kH x.o14 i (kk-i) ⟨0,0,(0,0),0⟩,x.o8,rfl,hr,wE hik h3 h2⟩
theorem Iy {lV l V:List Vt}{hm:List (Vt×Bool)}{full:Bool}(hl:lV.take kk=l)(hk:l.length=kk)(hsm:A3 BB sm0)(hs:ED V hm)(hB:V.length+kk<=900) :
  ∃i V' hm' f',Fd lV kk V sm0 hm upto full=some (i,V',hm',f')/\ED V' hm'/\((i= -1/\bN upto BB V full l=(l,V',f'))\/∃j:Nat,i=j/\j<kk/\bN upto BB V full (l.take (j+1))=(l.take j,V',f')):=by
 unfold Fd
 have key:=bA (step:=nU lV kk sm0 upto) (fun x=>∃j:Nat,j<=kk/\x.t8=j/\bN upto BB V full (l.take j)=(l.take j,x.o7,x.o10_5)/\ED x.o7 x.o9) (fun x=>kk-x.t8.toNat)
  (fun b=>(∃x,b=.inl x/\bN upto BB V full l=(l,x.o7,x.o10_5)/\ED x.o7 x.o9)\/∃(j:Nat) (V':List Vt) (hm':List (Vt×Bool)) (f':Bool),b=.inr ((j:Int),V',hm',f')/\j<kk/\bN upto BB V full (l.take (j+1))=(l.take j,V',f')/\ED V' hm') (by
   rintro⟨t,V1,hm1,f1⟩ ⟨j,hj,h1,h2,h3⟩;simp only at h1 h2 h3;subst h1;by_cases hlt:j<kk
   ·obtain⟨y,hy,-⟩:=az (l:=l) (n:=j);have hgr:=ei (step:=bZ upto BB) (j9 upto BB) (l.take j) V full;have h2':bU (bZ upto BB) V full (l.take j)=(l.take j,V1,f1):=h2;rw[h2']at hgr;simp only at hgr;rw[length_take]at hgr;obtain⟨hm',e,hr⟩:=E2 (v:=y) (upto:=upto) (full:=f1) hsm h3
    have hsn:bN upto BB V full (l.take (j+1))=(if (bZ upto BB V1 f1 y).1 then l.take j else l.take j++[y],(bZ upto BB V1 f1 y).2):=by
     rw[iS hy];unfold bN;rw[gu,h2']
    generalize bZ upto BB V1 f1 y=q at e hr hsn;obtain⟨g,V2,f2⟩:=q;simp only at e hr hsn
    have hstep:nU lV kk sm0 upto ⟨(j:Int),V1,hm1,f1⟩=bif g then some (.inr (.inr ((j:Int),V2,hm',f2)))else some (.inl ⟨((j+1:Nat):Int),V2,hm',f2⟩):=by
     unfold nU;simp only;rw[dO,hl,au hy,ob,e,ob,ah (n:=j)]
    cases g with
    |true=>
     right;rw[ct]at hstep;rw[i1_ rfl]at hsn;exact⟨_,hstep,.inr ⟨j,V2,hm',f2,rfl,hlt,hsn,hr⟩⟩
    |false=>
     left;rw[cf]at hstep;rw[i0_ (by simp)]at hsn;refine⟨_,hstep,⟨j+1,hlt,rfl,?_,hr⟩,by simp only;omega⟩;rw[hsn,iS hy]
   ·right
    obtain rfl:j=kk:=by omega
    refine⟨.inl ⟨(j:Int),V1,hm1,f1⟩,?_,.inl ⟨_,rfl,?_,h3⟩⟩
    ·unfold nU;simp only;rw[ft]
    ·rw[take_of_length_le (by omega)]at h2;exact h2) (n:=aY) (x:=⟨0,V,hm,full⟩) ⟨0,by omega,rfl,by simp[bN,bU],hs⟩ (cq (by simp only;omega))
 obtain⟨b,e,⟨x,rfl,h1,h2⟩|⟨j,V',hm',f',rfl,h0,h1,h2⟩⟩:=key
 ·exact⟨-1,x.o7,x.o9,x.o10_5,by rw[e,ob,sl],h2,.inl ⟨rfl,h1⟩⟩
 ·exact⟨j,V',hm',f',by rw[e,ob,sr],h2,.inr ⟨j,rfl,h0,h1⟩⟩
theorem Io {lV l V:List Vt}{hm:List (Vt×Bool)}{full:Bool}(hl:u5 lV kk l)(hsm:A3 BB sm0)(hs:ED V hm)(hB:V.length+kk<=900) :
  ∃k' lV' hm',E4 lV kk V sm0 hm upto full=some (k',lV',(bN upto BB V full l).2.1,hm',(bN upto BB V full l).2.2)/\ED (bN upto BB V full l).2.1 hm'/\u5 lV' k' (bN upto BB V full l).1:=by
 have hk:=hl.len;obtain⟨i,V0,hm0,f0,e0,hr0,h0⟩:=Iy (upto:=upto) (full:=full) hl.take hk hsm hs hB;unfold E4;rw[e0,ob];rcases h0 with⟨rfl,hp⟩|⟨j0,rfl,hj0,hp⟩
 ·rw[hp];refine⟨kk,lV,hm0,?_,hr0,hl⟩;simp only;rw[show((-1:Int)== -1)=true from rfl,ct]
 ·simp only;rw[show((j0:Int)== -1)=false by rw[beq_eq_false_iff_ne];omega,cf,ah (n:=j0)]
  have key:=bA (step:=nM kk sm0 upto) (fun x=>∃(i j:Nat),x.i=i/\x.j=j/\ED x.o7 x.o9/\(bN upto BB V full (l.take j)).2=(x.o7,x.o10_5)/\Mv l x.o15 i j (bN upto BB V full (l.take j)).1) (fun x=>kk-x.j.toNat)
   (fun x=>∃i:Nat,x.i=i/\i<=kk/\ED x.o7 x.o9/\(bN upto BB V full l).2=(x.o7,x.o10_5)/\x.o15.take i=(bN upto BB V full l).1/\kk<=x.o15.length) (by
   rintro⟨i',j',V1,hm1,f1,a⟩ ⟨i,j,h1,h2,h3,h4,h5⟩;simp only at h1 h2 h3 h4 h5;subst h1 h2;have hij:=h5.ij;have hjl:=h5.jl;have hal:=h5.len;by_cases hlt:j<kk
   ·left;obtain⟨y,hy,-⟩:=az (l:=l) (n:=j)
    have hya:(a.take kk)[j]?=some y:=by rw[getElem?_take_of_lt hlt,h5.rest j (le_refl _) (by omega),hy]
    obtain⟨z,hz,-⟩:=az (l:=a.take kk) (n:=i) (by rw[length_take];omega);have hgr:=ei (step:=bZ upto BB) (j9 upto BB) (l.take j) V full;have h4':(bU (bZ upto BB) V full (l.take j)).2=(V1,f1):=h4;rw[h4']at hgr;simp only at hgr;rw[length_take]at hgr;obtain⟨hm',e,hr⟩:=E2 (v:=y) (upto:=upto) (full:=f1) hsm h3
    have hsn:bN upto BB V full (l.take (j+1))=(if (bZ upto BB V1 f1 y).1 then(bN upto BB V full (l.take j)).1 else(bN upto BB V full (l.take j)).1++[y],(bZ upto BB V1 f1 y).2):=by
     rw[iS hy];unfold bN;rw[gu,h4']
    generalize bZ upto BB V1 f1 y=q at e hr hsn;obtain⟨g,V2,f2⟩:=q;simp only at e hr hsn
    have hstep:nM kk sm0 upto ⟨(i:Int),(j:Int),V1,hm1,f1,a⟩=bif !g then some (.inl ⟨((i+1:Nat):Int),((j+1:Nat):Int),V2,hm',f2,a.set i y⟩)else some (.inl ⟨(i:Int),((j+1:Nat):Int),V2,hm',f2,a⟩):=by
     unfold nM;simp only;rw[dO,au hya,ob,e,ob,au hz,ob,ah (n:=j),ah (n:=i),toNat_natCast]
    cases g with
    |true=>
     rw[Bool.not_true,cf]at hstep;rw[i1_ rfl]at hsn;refine⟨_,hstep,⟨i,j+1,rfl,rfl,hr,by rw[hsn],?_⟩,by simp only;omega⟩;rw[hsn];exact h5.next_gone (by omega)
    |false=>
     rw[Bool.not_false,ct]at hstep;rw[i0_ (by simp)]at hsn;refine⟨_,hstep,⟨i+1,j+1,rfl,rfl,hr,by rw[hsn],?_⟩,by simp only;omega⟩;rw[hsn];exact h5.next_stay (by omega) hy
   ·right
    have hjk:j=kk:=by omega
    have htl:l.take j=l:=take_of_length_le (by omega);rw[htl]at h4 h5;refine⟨⟨(i:Int),(j:Int),V1,hm1,f1,a⟩,?_,i,rfl,by omega,h3,h4,h5.left,by show kk<=a.length;omega⟩;unfold nM;simp only
    rw[aR (show¬(j:Int)<(kk:Int) by omega),cf]) (n:=aY) (x:=⟨(j0:Int),((j0+1:Nat):Int),V0,hm0,f0,lV⟩)
   ⟨j0,j0+1,rfl,rfl,hr0,by rw[hp],by
    rw[hp];refine⟨by omega,by omega,by have:=hl.le;simp only;omega,?_,fun q h1 h2=>?_⟩
    ·show lV.take j0=l.take j0;rw[<-hl.take,List.take_take,Nat.min_eq_left (by omega)]
    ·rw[<-hl.take,getElem?_take_of_lt (by omega)]⟩ (cq (by simp only;omega))
  obtain⟨x,ex,i,hi,hik,hr,h1,h2,h3⟩:=key;generalize bN upto BB V full l=p at h1 h2⊢;obtain⟨pl,pV,pf⟩:=p;simp only at h1 h2⊢;rw[ex,ob,hi,aP (show 0<=(i:Int)/\(i:Int)<=(kk:Int) by omega),ct,toNat_natCast,aP (show i+(kk-i)<=x.o15.length by omega),ct,ct];cases h1;exact⟨i,kH x.o15 i (kk-i) ⟨0,0,(0,0)⟩,x.o9,rfl,hr,wE hik h3 h2⟩
structure sj where
 B:List Bk
 V:List Vt
 full:Bool
 lB:List Bk
 lV:List Vt
def cg (upto:Int)(s:sj):sj:=
 ⟨(aV upto s.B s.full s.lB).2.1,(bN upto (aV upto s.B s.full s.lB).2.1 s.V (aV upto s.B s.full s.lB).2.2 s.lV).2.1,(bN upto (aV upto s.B s.full s.lB).2.1 s.V (aV upto s.B s.full s.lB).2.2 s.lV).2.2,
  (aV upto s.B s.full s.lB).1,(bN upto (aV upto s.B s.full s.lB).2.1 s.V (aV upto s.B s.full s.lB).2.2 s.lV).1⟩
def cG (s:sj):Nat:=s.B.length+s.V.length
def oE (upto:Int):Nat->sj->sj
 |0,s=>s
 |n+1,s=>if cG (cg upto s)=cG s then cg upto s else oE upto n (cg upto s)
def lR (upto:Int)(s:sj):sj:=oE upto 1000 s
open Classical in
noncomputable def aN (c:Cf)(w inp:Vw)(slot:Int):Vw×Vw×Bool:=
 if ov c w then(⟨(lR slot ⟨w.B,w.V,false,(bF c inp).B,(bF c inp).V⟩).B,(lR slot ⟨w.B,w.V,false,(bF c inp).B,(bF c inp).V⟩).V⟩,⟨(lR slot ⟨w.B,w.V,false,(bF c inp).B,(bF c inp).V⟩).lB,(lR slot ⟨w.B,w.V,false,(bF c inp).B,(bF c inp).V⟩).lV⟩,(lR slot ⟨w.B,w.V,false,(bF c inp).B,(bF c inp).V⟩).full)
 else(w,inp,false)
def oG (s:sj):Prop:=s.B.length<=60/\s.V.length<=240
theorem BM {B:List Bk}(h:B.length<=60):(bX upto B f b).2.1.length<=60:=by
 unfold bX;split <;>(try split) <;>(try split) <;>simp <;>omega
theorem BN {B:List Bk}{V:List Vt}(h:V.length<=240):(bZ upto B V f v).2.1.length<=240:=by
 unfold bZ;split <;>(try split) <;>(try split) <;>simp <;>omega
theorem rQ {α:Type}{step:List α->Bool->α->Bool×List α×Bool}{Q:List α->Prop}(h:∀B f b,Q B->Q (step B f b).2.1):∀(l B:List α) (f:Bool),Q B->Q (bU step B f l).2.1
 |[],B,f,hB=>by simpa only[bU]using hB
 |x::r,B,f,hB=>by
  have:=rQ h r (step B f x).2.1 (step B f x).2.2 (h B f x hB);simpa only[bU]using this
theorem pt {l B:List Bk}(h:B.length<=60):(aV upto B f l).2.1.length<=60:=rQ (step:=bX upto) (Q:=fun B=>B.length<=60) (fun _ _ _ h=>BM h) l B f h
theorem uw {l V:List Vt}(h:V.length<=240):(bN upto BB V f l).2.1.length<=240:=rQ (step:=bZ upto BB) (Q:=fun V=>V.length<=240) (fun _ _ _ h=>BN h) l V f h
theorem qO {s:sj}(h:oG s):oG (cg upto s):=⟨pt h.1,uw h.2⟩
theorem sx (upto:Int)(s:sj):(cg upto s).lB.length<=s.lB.length/\(cg upto s).lV.length<=s.lV.length:=⟨lL _ _ _,lL _ _ _⟩
theorem ky (upto:Int)(s:sj):s.B.length<=(cg upto s).B.length/\s.V.length<=(cg upto s).V.length:=
 ⟨(ei (j8 upto) _ _ _).1,(ei (j9 upto _) _ _ _).1⟩
structure DJ (s:sj)(x:hY):Prop where
 o6:x.o6=s.B
 o7:x.o7=s.V
 full:x.x_5=s.full
 sm:A3 s.B x.o8
 hm:ED s.V x.o9
 lB:u5 x.o14 x.left_0 s.lB
 lV:u5 x.o15 x.left_1 s.lV
theorem Dz {s:sj}{x:hY}(h:DJ s x)(hb:oG s)(hl1:s.lB.length<=800)(hl2:s.lV.length<=600)(hn:x.n≠(cG s:Int)):∃y,oT upto x=some (.inl y)/\DJ (cg upto s) y/\y.n=(cG s:Int):=by
 obtain⟨n,o6,o7,o8,o9,f,o14,o15,k0,k1⟩:=x;obtain⟨e6,e7,ef,hsm,hhm,hlB,hlV⟩:=h;simp only at e6 e7 ef hsm hhm hlB hlV hn;subst e6 e7 ef;have hb1:=hb.1;have hb2:=hb.2;obtain⟨k',lB',sm',e1,r1,p1⟩:=Im (upto:=upto) (full:=s.full) hlB hsm (by have:=hlB.len;omega);unfold cg;generalize aV upto s.B s.full s.lB=p at e1 r1 p1⊢;obtain⟨pl,pB,pf⟩:=p;simp only at e1 r1 p1⊢;obtain⟨k2,lV',hm',e2,r2,p2⟩:=Io (upto:=upto) (full:=pf) hlV r1 hhm (by have:=hlV.len;omega);generalize bN upto pB s.V pf s.lV=q at e2 r2 p2⊢;obtain⟨ql,qV,qf⟩:=q;simp only at e2 r2 p2⊢
 have hw:i64.wrap ((s.B.length:Int)+(s.V.length:Int))=(cG s:Int):=by
  unfold cG;rw[cX];omega
 refine⟨hY.mk (cG s:Int) pB qV sm' hm' qf lB' lV' k' k2,?_,⟨rfl,rfl,rfl,r1,r2,p1,p2⟩,rfl⟩;unfold oT;simp only;rw[hw,show(n != (cG s:Int))=true by rw[bne_iff_ne];exact hn,ct,e1,ob];simp only;rw[e2,ob]
theorem yj {upto:Int}:∀(m:Nat) (s:sj) (x:hY) (q:Nat),DJ s x->oG s->s.lB.length<=800->s.lV.length<=600->x.n≠(cG s:Int)->300<m+cG s->m<q->
  ∃y,iter (oT upto) (q+1) x=some y/\DJ (oE upto m s) y
 |0,s,x,q,_,hb,_,_,_,hm,_=>by
  have h1:=hb.1;have h2:=hb.2;unfold cG at hm;omega
 | m+1,s,x,q,h,hb,hl1,hl2,hn,hm,hq=>by
  obtain⟨y,e,hr,hy⟩:=Dz h hb hl1 hl2 hn;have hg:=ky upto s;have hlen:=sx upto s;have hb':=qO (upto:=upto) hb;obtain⟨q,rfl⟩:∃p,q=p+1:=⟨q-1,by omega⟩;rw[mp e];unfold oE;by_cases hs:cG (cg upto s)=cG s
  ·rw[i1_ hs];refine⟨y,eK ?_,hr⟩
   have hw:i64.wrap ((y.o6.length:Int)+(y.o7.length:Int))=(cG s:Int):=by
    rw[hr.o6,hr.o7,<-hs];have h1:=hb'.1;have h2:=hb'.2;unfold cG;rw[cX];omega
   unfold oT;rw[hw,hy,show(((cG s:Nat):Int) != (cG s:Int))=false by simp,cf,<-hy]
  ·rw[i0_ hs];exact yj m (cg upto s) y q hr hb' (by omega) (by omega) (by rw[hy];omega) (by unfold cG at *;omega) (by omega)
open Classical in
theorem KO {w inp:Vw}(h1:w.B.length<=1000)(h2:w.V.length<=1000)(h3:inp.B.length<=800)(h4:inp.V.length<=600):Mr c w inp slot=some (aN c w inp slot):=by
 unfold Mr aN;rw[Cd,ob,KN h1 h2,ob];by_cases hm:ov c w
 ·rw[aP hm,Bool.not_true,cf,i1_ hm,IF (by omega) (by omega),ob];simp only;have hfB:(bF c inp).B.length<=inp.B.length:=length_filter_le _ _;have hfV:(bF c inp).V.length<=inp.V.length:=length_filter_le _ _
  have hr:DJ ⟨w.B,w.V,false,(bF c inp).B,(bF c inp).V⟩ (hY.mk (-1) w.B w.V (px w.B) (mM w.V) false (bF c inp).B (bF c inp).V ((bF c inp).B.map aA).length ((bF c inp).V.map aO).length):=
   ⟨rfl,rfl,rfl,⟨vX hm.valid,Hy w.B⟩,⟨vO w.V,(zV w.V).1⟩,⟨by simp,by simp⟩,⟨by simp,by simp⟩⟩
  have hbel:oG ⟨w.B,w.V,false,(bF c inp).B,(bF c inp).V⟩:=⟨hm.lenB,hm.lenV⟩;generalize bF c inp=o at *;obtain⟨y,e,hy⟩:=yj (upto:=slot) 1000 _ _ 4611686018427387903 hr hbel (by simp only;omega) (by simp only;omega) (by simp only;omega) (by omega) (by omega);have e':iter (oT slot) aY (hY.mk (-1) w.B w.V (px w.B) (mM w.V) false o.B o.V (o.B.map aA).length (o.V.map aO).length)=some y:=e;rw[e',ob];change DJ (lR slot _) y at hy;generalize lR slot ⟨w.B,w.V,false,o.B,o.V⟩=s at hy⊢;rw[Nat.ble_eq_true_of_le hy.lB.le,ct,Nat.ble_eq_true_of_le hy.lV.le,ct,hy.o6,hy.o7,hy.full,hy.lB.take,hy.lV.take]
 ·rw[aR hm,Bool.not_false,ct,i0_ hm,aC,ct,aC,ct]
theorem uf {B:List Bk}(h:di B b=true)(t:List Bk):di (B++t) b=true:=by
 unfold di at h⊢;rw[Bool.or_eq_true]at h⊢;rcases h with h|h
 ·left;obtain⟨s,hs⟩:=Option.isSome_iff_exists.1 h;rw[mz hs];rfl
 ·right
  cases hp:bL B b.Parent with
  |none=>rw[hp]at h;cases h
  |some s=>rw[hp]at h;rw[mz hp];exact h
theorem pm {B:List Bk}{V:List Vt}(h:dv B V v=true)(t:List Bk)(u:List Vt):dv (B++t) (V++u) v=true:=by
 unfold dv at h⊢;rw[Bool.or_eq_true]at h⊢;rcases h with h|h
 ·left;exact aP<|mem_append_left _<|of_decide_eq_true h
 ·right
  cases hp:bL B v.Head with
  |none=>rw[hp]at h;cases h
  |some s=>rw[hp]at h;rw[mz hp];exact h
theorem Bo {B:List Bk}(h:b∈B):di B b=true:=by
 obtain⟨s,hs⟩:=BI h;unfold di;rw[hs];rfl
theorem Bp {B:List Bk}{V:List Vt}(h:v∈V):dv B V v=true:=by
 unfold dv;rw[aP h];rfl
theorem il (upto:Int)(B:List Bk)(f:Bool)(b:Bk) :
  (di B b=true/\bX upto B f b=(true,B,f))\/(di B b=false/\ga B upto b=true/\bX upto B f b=(false,B,f))\/
  (di B b=false/\ga B upto b=false/\B.length<60/\bX upto B f b=(true,B++[b],f))\/(di B b=false/\ga B upto b=false/\60<=B.length/\bX upto B f b=(false,B,true)):=by
 unfold bX
 cases h1:di B b with
 |true=>exact .inl ⟨rfl,by rw[i1_ rfl]⟩
 | false=>
  right;rw[i0_ (by simp)]
  cases h2:ga B upto b with
  |true=>exact .inl ⟨rfl,rfl,by rw[i1_ rfl]⟩
  |false=>
   right;rw[i0_ (by simp)];by_cases h3:B.length<60
   ·exact .inl ⟨rfl,rfl,h3,by rw[i1_ h3]⟩
   ·exact .inr ⟨rfl,rfl,by omega,by rw[i0_ h3]⟩
theorem ka (upto:Int)(B:List Bk)(V:List Vt)(f:Bool)(v:Vt) :
  (dv B V v=true/\bZ upto B V f v=(true,V,f))\/(dv B V v=false/\gN B upto v=true/\bZ upto B V f v=(false,V,f))\/
  (dv B V v=false/\gN B upto v=false/\V.length<240/\bZ upto B V f v=(true,V++[v],f))\/(dv B V v=false/\gN B upto v=false/\240<=V.length/\bZ upto B V f v=(false,V,true)):=by
 unfold bZ
 cases h1:dv B V v with
 |true=>exact .inl ⟨rfl,by rw[i1_ rfl]⟩
 | false=>
  right;rw[i0_ (by simp)]
  cases h2:gN B upto v with
  |true=>exact .inl ⟨rfl,rfl,by rw[i1_ rfl]⟩
  |false=>
   right;rw[i0_ (by simp)];by_cases h3:V.length<240
   ·exact .inl ⟨rfl,rfl,h3,by rw[i1_ h3]⟩
   ·exact .inr ⟨rfl,rfl,by omega,by rw[i0_ h3]⟩
section
variable {α : Type} {step : List α -> Bool -> α -> Bool × List α × Bool}
theorem jk {Q:List α->Bool->Prop}:∀{l B:List α} {f:Bool},(∀B f b,b∈l->Q B f->Q (step B f b).2.1 (step B f b).2.2)->Q B f->Q (bU step B f l).2.1 (bU step B f l).2.2
 |[],B,f,_,hB=>by simpa only[bU]using hB
 |x::r,B,f,h,hB=>by
  have:=jk (l:=r) (fun B f b hb=>h B f b (.tail _ hb)) (h B f x (.head _) hB);simpa only[bU]using this
theorem lM :∀(l B:List α) (f:Bool),(bU step B f l).1.Sublist l
 |[],B,f=>by simp[bU]
 |x::r,B,f=>by
  have:=lM r (step B f x).2.1 (step B f x).2.2;simp only[bU];split
  ·exact this.cons x
  ·exact this.cons_cons x
theorem pu {G:List α->α->Prop}(hs:∀B f b,(step B f b).1=true->G (step B f b).2.1 b)(hm:∀B f b c,G B c->G (step B f b).2.1 c):∀(l B:List α) (f:Bool) (b:α),b∈l->b∈(bU step B f l).1\/G (bU step B f l).2.1 b
 | x::r,B,f,b,hb=>by
  have hkeep:∀(r B:List α) (f:Bool) (c:α),G B c->G (bU step B f r).2.1 c:=fun r B f c hc=>jk (Q:=fun B _=>G B c) (fun B f b _ hB=>hm B f b c hB) hc;simp only[bU];rcases mem_cons.1 hb with e|hb
  ·subst e
   cases h:(step B f b).1 with
   |true=>exact .inr (hkeep _ _ _ _ (hs B f b h))
   |false=>left;rw[i0_ (by simp)];exact .head _
  ·rcases pu hs hm r (step B f x).2.1 (step B f x).2.2 b hb with h|h
   ·left;split
    ·exact h
    ·exact .tail _ h
   ·exact .inr h
end
section
variable {α : Type} {g w : List α -> α -> Bool} {cap : Nat}
def i4 (g w:List α->α->Bool)(cap:Nat)(B:List α)(f:Bool)(b:α):Bool×List α×Bool:=
 if g B b then(true,B,f)else if w B b then(false,B,f)else if B.length<cap then(true,B++[b],f)else(false,B,true)
def py (g w:List α->α->Bool)(B:List α)(f:Bool)(l:List α):List α×List α×Bool:=(l.filter fun b=> !g B b,B,f||l.any fun b=> !g B b&& !w B b)
theorem uI :∀{l B:List α} {f:Bool},(∀b∈l,g B b=false->w B b=false->cap<=B.length)->bU (i4 g w cap) B f l=py g w B f l
 |[],B,f,_=>by simp[bU,py]
 | x ::r,B,f,h=>by
  have ih:=fun f=>uI (l:=r) (f:=f) (B:=B) fun b hb=>h b (.tail _ hb);unfold py at ih⊢;simp only[bU]
  cases h1:g B x with
  |true=>
   have e:i4 g w cap B f x=(true,B,f):=by unfold i4;rw[h1,i1_ rfl]
   rw[e];simp[ih,h1]
  | false=>
   cases h2:w B x with
   |true=>
    have e:i4 g w cap B f x=(false,B,f):=by unfold i4;rw[h1,i0_ (by simp),h2,i1_ rfl]
    rw[e];simp[ih,h1,h2]
   | false=>
    have e:i4 g w cap B f x=(false,B,true):=by
     unfold i4;rw[h1,i0_ (by simp),h2,i0_ (by simp),i0_];have:=h x (.head _) h1 h2;omega
    rw[e];simp[ih,h1,h2]
theorem wa (B:List α)(f:Bool)(b:α):∃t,(i4 g w cap B f b).2.1=B++t:=by
 unfold i4;split
 ·exact⟨[],by simp⟩
 ·split
  ·exact⟨[],by simp⟩
  ·split
   ·exact⟨[b],rfl⟩
   ·exact⟨[],by simp⟩
theorem Eg (l B:List α)(f:Bool):∃u,(bU (i4 g w cap) B f l).2.1=B++u:=
 jk (Q:=fun C _=>∃u,C=B++u) (fun C f b _ ⟨u,hu⟩=>by
  obtain⟨t,ht⟩:=wa (g:=g) (w:=w) (cap:=cap) C f b
  exact⟨u++t,by rw[ht,hu,append_assoc]⟩) ⟨[],by simp⟩
theorem uH :∀{l B:List α} {f:Bool},(bU (i4 g w cap) B f l).2.1.length=B.length->∀b∈l,g B b=false->w B b=false->cap<=B.length
 | x::r,B,f,h,b,hb,h1,h2=>by
  simp only[bU]at h;obtain⟨t,ht⟩:=wa (g:=g) (w:=w) (cap:=cap) B f x;obtain⟨u,hu⟩:=Eg (g:=g) (w:=w) (cap:=cap) r (i4 g w cap B f x).2.1 (i4 g w cap B f x).2.2
  have hB:(i4 g w cap B f x).2.1=B:=by
   rw[hu,ht,length_append,length_append]at h;have:t=[]:=List.length_eq_zero_iff.1 (by omega);rw[ht,this,append_nil]
  rcases mem_cons.1 hb with e|hb
  ·subst e;refine Classical.byContradiction fun hc=>?_
   have e:i4 g w cap B f b=(true,B++[b],f):=by
    unfold i4;rw[h1,i0_ (by simp),h2,i0_ (by simp),i1_ (by omega)]
   rw[e]at hB;have:=congrArg List.length hB;simp at this
  ·rw[hB]at h;exact uH h b hb h1 h2
end
structure u4 (w o:Vw)(upto:Int)(s:sj):Prop where
 preB:∃t,s.B=w.B++t/\∀b∈t,b∈o.B/\b.Slot<=upto
 preV:∃t,s.V=w.V++t/\∀v∈t,v∈o.V/\v.Slot<=upto
 valid:dV s.B
 nodup:s.V.Nodup
 forB:∀v∈s.V,forB s.B v
 below:oG s
 subB:s.lB.Sublist o.B
 subV:s.lV.Sublist o.V
 allB:∀b∈o.B,b∈s.lB\/di s.B b=true
 allV:∀v∈o.V,v∈s.lV\/dv s.B s.V v=true
theorem BU {B:List Bk}(h1:di B b=false)(h2:ga B upto b=false):(∃s,bL B b.Parent=some s/\s<b.Slot)/\bL B (nm b)=none/\b.Slot<=upto:=by
 unfold di at h1;unfold ga at h2;rw[Bool.or_eq_false_iff]at h1
 have hn:bL B (nm b)=none:=by
  cases h:bL B (nm b)with
  |none=>rfl
  |some s=>rw[h]at h1;cases h1.1
 cases hp:bL B b.Parent with
 |none=>rw[hp]at h2;cases h2
 |some s=>
  rw[hp]at h1 h2;have a1:=of_decide_eq_false h1.2;have a2:=of_decide_eq_false h2;exact⟨⟨s,rfl,by omega⟩,hn,by omega⟩
theorem AD {B:List Bk}{V:List Vt}(h1:dv B V v=false)(h2:gN B upto v=false):forB B v/\v∉V/\v.Slot<=upto:=by
 unfold dv at h1;unfold gN at h2;rw[Bool.or_eq_false_iff]at h1;have hn:=of_decide_eq_false h1.1
 cases hp:bL B v.Head with
 |none=>rw[hp]at h2;cases h2
 |some s=>
  rw[hp]at h1 h2;have a1:=of_decide_eq_false h1.2;have a2:=of_decide_eq_false h2;exact⟨⟨s,hp,by omega⟩,hn,by omega⟩
theorem DY {B:List Bk}(h:forB B v)(t:List Bk):forB (B++t) v:=by
 obtain⟨s,h1,h2⟩:=h;exact⟨s,mz h1 t,h2⟩
theorem Ed {s:sj}(h:u4 w o upto s):u4 w o upto ⟨(aV upto s.B s.full s.lB).2.1,s.V,(aV upto s.B s.full s.lB).2.2,(aV upto s.B s.full s.lB).1,s.lV⟩:=by
 have key:∃u,(aV upto s.B s.full s.lB).2.1=s.B++u/\(∀b∈u,b∈o.B/\b.Slot<=upto)/\dV (s.B++u)/\(s.B++u).length<=60:=by
  have:=jk (step:=bX upto) (l:=s.lB) (B:=s.B) (f:=s.full) (Q:=fun C _=>∃u,C=s.B++u/\(∀b∈u,b∈o.B/\b.Slot<=upto)/\dV (s.B++u)/\(s.B++u).length<=60)
   (fun C f b hb ⟨u,hu,h1,h2,h3⟩=>by
    subst hu;rcases il upto (s.B++u) f b with⟨-,e⟩|⟨-,-,e⟩|⟨a1,a2,a3,e⟩|⟨-,-,-,e⟩
    ·rw[e];exact⟨u,rfl,h1,h2,h3⟩
    ·rw[e];exact⟨u,rfl,h1,h2,h3⟩
    ·rw[e];obtain⟨k1,k2,k3⟩:=BU a1 a2;refine⟨u++[b],by simp,fun c hc=>?_,?_,?_⟩
     ·rcases mem_append.1 hc with hc|hc
      ·exact h1 c hc
      ·rw[mem_singleton]at hc;subst hc;exact⟨h.subB.subset hb,k3⟩
     ·rw[<-append_assoc];exact uO.2 ⟨h2,k1,k2⟩
     ·rw[<-append_assoc,length_append,length_singleton];omega
    ·rw[e];exact⟨u,rfl,h1,h2,h3⟩)
   ⟨[],by simp,by simp,by simpa using h.valid,by simpa using h.below.1⟩
  exact this
 obtain⟨u,hu,h1,h2,h3⟩:=key
 have hgone:∀b∈s.lB,b∈(aV upto s.B s.full s.lB).1\/di (aV upto s.B s.full s.lB).2.1 b=true:=
  pu (step:=bX upto) (G:=fun B b=>di B b=true) (fun B f b hb=>by
   rcases il upto B f b with⟨a,e⟩|⟨-,-,e⟩|⟨-,-,-,e⟩|⟨-,-,-,e⟩ <;>rw[e]at hb⊢
   ·exact a
   ·cases hb
   ·exact Bo (by simp)
   ·cases hb) (fun B f b c hc=>by
   rcases il upto B f b with⟨a,e⟩|⟨-,-,e⟩|⟨-,-,-,e⟩|⟨-,-,-,e⟩ <;>rw[e]
   ·exact hc
   ·exact hc
   ·exact uf hc _
   ·exact hc) s.lB s.B s.full
 obtain⟨t,ht,ht2⟩:=h.preB
 refine⟨⟨t++u,by simp only;rw[hu,ht,append_assoc],fun b hb=>(mem_append.1 hb).elim (ht2 b) (h1 b)⟩,h.preV,by simp only[hu];exact h2,h.nodup,fun v hv=>?_,⟨by simp only[hu];exact h3,h.below.2⟩,
  (lM s.lB s.B s.full).trans h.subB,h.subV,fun b hb=>?_,fun v hv=>?_⟩
 ·simp only[hu];exact DY (h.forB v hv) u
 ·rcases h.allB b hb with h5|h5
  ·exact hgone b h5
  ·right;simp only[hu];exact uf h5 u
 ·rcases h.allV v hv with h5|h5
  ·exact .inl h5
  ·right;simp only[hu];have:=pm h5 u []
   rwa [append_nil]at this
theorem Ee {s:sj}(h:u4 w o upto s):u4 w o upto ⟨s.B,(bN upto s.B s.V s.full s.lV).2.1,(bN upto s.B s.V s.full s.lV).2.2,s.lB,(bN upto s.B s.V s.full s.lV).1⟩:=by
 have key:∃u,(bN upto s.B s.V s.full s.lV).2.1=s.V++u/\(∀v∈u,v∈o.V/\v.Slot<=upto)/\(s.V++u).Nodup/\(∀v∈s.V++u,Go.Mg.forB s.B v)/\(s.V++u).length<=240:=by
  have:=jk (step:=bZ upto s.B) (l:=s.lV) (B:=s.V) (f:=s.full) (Q:=fun C _=>∃u,C=s.V++u/\(∀v∈u,v∈o.V/\v.Slot<=upto)/\(s.V++u).Nodup/\(∀v∈s.V++u,Go.Mg.forB s.B v)/\(s.V++u).length<=240)
   (fun C f v hv ⟨u,hu,h1,h2,h4,h3⟩=>by
    subst hu;rcases ka upto s.B (s.V++u) f v with⟨-,e⟩|⟨-,-,e⟩|⟨a1,a2,a3,e⟩|⟨-,-,-,e⟩
    ·rw[e];exact⟨u,rfl,h1,h2,h4,h3⟩
    ·rw[e];exact⟨u,rfl,h1,h2,h4,h3⟩
    ·rw[e];obtain⟨k1,k2,k3⟩:=AD a1 a2;refine⟨u++[v],by simp,fun c hc=>?_,?_,fun c hc=>?_,?_⟩
     ·rcases mem_append.1 hc with hc|hc
      ·exact h1 c hc
      ·rw[mem_singleton]at hc;subst hc;exact⟨h.subV.subset hv,k3⟩
     ·rw[<-append_assoc,List.nodup_append];exact⟨h2,by simp,fun a ha b hb=>by rw[mem_singleton]at hb;subst hb;exact fun q=>k2 (q▸ha)⟩
     ·rw[<-append_assoc]at hc;rcases mem_append.1 hc with hc|hc
      ·exact h4 c hc
      ·rw[mem_singleton]at hc;subst hc;exact k1
     ·rw[<-append_assoc,length_append,length_singleton];omega
    ·rw[e];exact⟨u,rfl,h1,h2,h4,h3⟩)
   ⟨[],by simp,by simp,by simpa using h.nodup,by simpa using h.forB,by simpa using h.below.2⟩
  exact this
 obtain⟨u,hu,h1,h2,h4,h3⟩:=key
 have hgone:∀v∈s.lV,v∈(bN upto s.B s.V s.full s.lV).1\/dv s.B (bN upto s.B s.V s.full s.lV).2.1 v=true:=
  pu (step:=bZ upto s.B) (G:=fun V v=>dv s.B V v=true) (fun V f v hb=>by
   rcases ka upto s.B V f v with⟨a,e⟩|⟨-,-,e⟩|⟨-,-,-,e⟩|⟨-,-,-,e⟩ <;>rw[e]at hb⊢
   ·exact a
   ·cases hb
   ·exact Bp (by simp)
   ·cases hb) (fun V f v c hc=>by
   rcases ka upto s.B V f v with⟨a,e⟩|⟨-,-,e⟩|⟨-,-,-,e⟩|⟨-,-,-,e⟩ <;>rw[e]
   ·exact hc
   ·exact hc
   ·have:=pm hc [] [v];rwa [append_nil]at this
   ·exact hc) s.lV s.V s.full
 obtain⟨t,ht,ht2⟩:=h.preV
 refine⟨h.preB,⟨t++u,by simp only;rw[hu,ht,append_assoc],fun b hb=>(mem_append.1 hb).elim (ht2 b) (h1 b)⟩,h.valid,by simp only[hu];exact h2,fun v hv=>?_,⟨h.below.1,by simp only[hu];exact h3⟩,
  h.subB,(lM s.lV s.V s.full).trans h.subV,h.allB,fun v hv=>?_⟩
 ·simp only[hu]at hv;exact h4 v hv
 ·rcases h.allV v hv with h5|h5
  ·exact hgone v h5
  ·right;simp only[hu];have:=pm h5 [] u
   rwa [append_nil]at this
theorem BG {s:sj}(h:u4 w o upto s):u4 w o upto (cg upto s):=Ee (Ed h)
structure Kw (upto:Int)(s:sj):Prop where
 B:∀b∈s.lB,di s.B b=false/\(ga s.B upto b=true\/60<=s.B.length/\s.full=true)
 V:∀v∈s.lV,dv s.B s.V v=false/\(gN s.B upto v=true\/240<=s.V.length/\s.full=true)
theorem BF {s:sj}(h:cG (cg upto s)=cG s):Kw upto (cg upto s):=by
 have hg:=ky upto s
 have hB:(aV upto s.B s.full s.lB).2.1.length=s.B.length:=by unfold cG at h;have:(cg upto s).B=(aV upto s.B s.full s.lB).2.1:=rfl;rw[<-this];omega
 have h1:∀b∈s.lB,di s.B b=false->ga s.B upto b=false->60<=s.B.length:=uH (g:=di) (w:=fun B b=>ga B upto b) (cap:=60) (f:=s.full) hB;have e1:aV upto s.B s.full s.lB=py di (fun B b=>ga B upto b) s.B s.full s.lB:=uI h1
 have hV:(bN upto s.B s.V (aV upto s.B s.full s.lB).2.2 s.lV).2.1.length=s.V.length:=by
  have:(cg upto s).V=(bN upto (aV upto s.B s.full s.lB).2.1 s.V (aV upto s.B s.full s.lB).2.2 s.lV).2.1:=rfl
  have e2:(aV upto s.B s.full s.lB).2.1=s.B:=by rw[e1];rfl
  rw[e2]at this;rw[<-this];unfold cG at h;omega
 have h2:∀v∈s.lV,dv s.B s.V v=false->gN s.B upto v=false->240<=s.V.length:=uH (g:=dv s.B) (w:=fun _ v=>gN s.B upto v) (cap:=240) (f:=(aV upto s.B s.full s.lB).2.2) hV;unfold cg;rw[e1];unfold py;simp only;have e2:bN upto s.B s.V (s.full||s.lB.any fun b=> !di s.B b&& !ga s.B upto b) s.lV=py (dv s.B) (fun _ v=>gN s.B upto v) s.V (s.full||s.lB.any fun b=> !di s.B b&& !ga s.B upto b) s.lV:=uI h2;rw[e2];unfold py;refine⟨fun b hb=>?_,fun v hv=>?_⟩
 ·simp only[mem_filter,Bool.not_eq_true']at hb;refine⟨hb.2,?_⟩
  cases hw:ga s.B upto b with
  |true=>exact .inl rfl
  |false=>
   right;refine⟨h1 b hb.1 hb.2 hw,?_⟩;simp only[Bool.or_eq_true];exact .inl<|.inr<|any_eq_true.2 ⟨b,hb.1,by simp[hb.2,hw]⟩
 ·simp only[mem_filter,Bool.not_eq_true']at hv;refine⟨hv.2,?_⟩
  cases hw:gN s.B upto v with
  |true=>exact .inl rfl
  |false=>
   right;refine⟨h2 v hv.1 hv.2 hw,?_⟩;simp only[Bool.or_eq_true];exact .inr<|any_eq_true.2 ⟨v,hv.1,by simp[hv.2,hw]⟩
theorem wc {w o:Vw}{upto:Int}:∀(m:Nat) (s:sj),u4 w o upto s->300<m+cG s->u4 w o upto (oE upto m s)/\Kw upto (oE upto m s)
 |0,s,h,hm=>by
  have h1:=h.below.1;have h2:=h.below.2;unfold cG at hm;omega
 |m+1,s,h,hm=>by
  have hr:=BG h;have hg:=ky upto s;unfold oE;by_cases hs:cG (cg upto s)=cG s
  ·rw[i1_ hs];exact⟨hr,BF hs⟩
  ·rw[i0_ hs];exact wc m (cg upto s) hr (by unfold cG at *;omega)
theorem D2 (h:ov c w):u4 w o upto ⟨w.B,w.V,false,o.B,o.V⟩:=
 ⟨⟨[],by simp,by simp⟩,⟨[],by simp,by simp⟩,h.valid,h.nodup,h.forB,⟨h.lenB,h.lenV⟩,List.Sublist.refl _,List.Sublist.refl _,fun _ h=>.inl h,fun _ h=>.inl h⟩
theorem HA (h:ov c w):u4 w o upto (lR upto ⟨w.B,w.V,false,o.B,o.V⟩)/\Kw upto (lR upto ⟨w.B,w.V,false,o.B,o.V⟩):=
 wc 1000 _ (D2 h) (by omega)
structure Mw (c:Cf)(w inp:Vw)(upto:Int)(r:Vw×Vw×Bool):Prop where
 may:ov c r.1
 preB:∃t,r.1.B=w.B++t/\∀b∈t,b∈(bF c inp).B/\b.Slot<=upto
 preV:∃t,r.1.V=w.V++t/\∀v∈t,v∈(bF c inp).V/\v.Slot<=upto
 subB:r.2.1.B.Sublist (bF c inp).B
 subV:r.2.1.V.Sublist (bF c inp).V
 allB:∀b∈(bF c inp).B,b∈r.2.1.B\/di r.1.B b=true
 allV:∀v∈(bF c inp).V,v∈r.2.1.V\/dv r.1.B r.1.V v=true
 endB:∀b∈r.2.1.B,di r.1.B b=false/\(ga r.1.B upto b=true\/60<=r.1.B.length/\r.2.2=true)
 endV:∀v∈r.2.1.V,dv r.1.B r.1.V v=false/\(gN r.1.B upto v=true\/240<=r.1.V.length/\r.2.2=true)
theorem LT (h:ov c w)(inp:Vw)(upto:Int):Mw c w inp upto (aN c w inp upto):=by
 unfold aN;rw[i1_ h];have hmB:∀b∈(bF c inp).B,mayB c b=true:=fun b hb=>(mem_filter.1 hb).2;have hmV:∀v∈(bF c inp).V,mayV c v=true:=fun b hb=>(mem_filter.1 hb).2;have:=HA (o:=bF c inp) (upto:=upto) h;obtain⟨hi,he⟩:=this;generalize lR upto ⟨w.B,w.V,false,(bF c inp).B,(bF c inp).V⟩=s at hi he⊢;obtain⟨t,ht,ht2⟩:=hi.preB;obtain⟨u,hu,hu2⟩:=hi.preV;refine⟨⟨h.conf,hi.valid,hi.below.1,hi.below.2,fun b hb=>?_,fun v hv=>?_,hi.nodup,hi.forB⟩,⟨t,ht,ht2⟩,⟨u,hu,hu2⟩,hi.subB,hi.subV,hi.allB,hi.allV,he.B,he.V⟩
 ·simp only[ht]at hb;rcases mem_append.1 hb with hb|hb
  ·exact h.mayB b hb
  ·exact hmB b (ht2 b hb).1
 ·simp only[hu]at hv;rcases mem_append.1 hv with hv|hv
  ·exact h.mayV v hv
  ·exact hmV v (hu2 v hv).1
theorem qD (c:Cf)(w:Vw):(bF c w).B.length<=w.B.length/\(bF c w).V.length<=w.V.length:=⟨length_filter_le _ _,length_filter_le _ _⟩
theorem sH {l:List α}{n:Nat}(hy:l[n]?=some y):((l.take (n+1)).filter p).length=((l.take n).filter p).length+bif p y then 1 else 0:=by
 rw[bg hy,length_append];cases p y <;>rfl
theorem HC {w inp:Vw}{r:Vw×Vw×Bool}(h:Mw c w inp upto r):w.B.length<=r.1.B.length/\w.V.length<=r.1.V.length/\r.2.1.B.length<=inp.B.length/\r.2.1.V.length<=inp.V.length:=by
 obtain⟨t,ht,-⟩:=h.preB;obtain⟨u,hu,-⟩:=h.preV;exact⟨by rw[ht];simp,by rw[hu];simp,(h.subB.trans List.filter_sublist).length_le,(h.subV.trans List.filter_sublist).length_le⟩
theorem rP {α:Type}[DecidableEq α]:∀{l L:List α},l.Nodup->(∀x∈l,x∈L)->l.length<=L.length
 |[],_,_,_=>zero_le _
 |x::r,L,h,hs=>by
  rw[List.nodup_cons]at h;have hx:=hs x (.head _);have h1:=rP (L:=L.erase x) h.2 fun y hy=>(List.mem_erase_of_ne (show y≠x from fun e=>h.1 (by rw[<-e];exact hy))).2 (hs y (.tail _ hy));have h2:=List.length_erase_of_mem hx;have h3:=List.length_pos_of_mem hx;simp only[length_cons];omega
inductive CB (base o:List Bk)(upto:Int):Bk->Prop
 |base {b:Bk}:b∈base->CB base o upto b
 |root {b:Bk}:b∈o->b.Slot<=upto->b.Parent=(0,0)->0<b.Slot->CB base o upto b
 |step {b p:Bk}:b∈o->b.Slot<=upto->CB base o upto p->nm p=b.Parent->p.Slot<b.Slot->CB base o upto b
theorem CB.mono {base base' o o':List Bk}{upto upto':Int}(h1:∀b∈base,CB base' o' upto' b)(h2:∀b∈o,b∈o')(h3:upto<=upto')(h:CB base o upto b):CB base' o' upto' b:=by
 induction h with
 |base h=>exact h1 _ h
 |root a1 a2 a3 a4=>exact .root (h2 _ a1) (Int.le_trans a2 h3) a3 a4
 |step a1 a2 _ a4 a5 ih=>exact .step (h2 _ a1) (Int.le_trans a2 h3) ih a4 a5
structure Rm (U:Vw):Prop where
 inj:∀a∈U.B,∀b∈U.B,nm a=nm b->a=b
 B:U.B.length<60
 V:U.V.length<240
theorem EQ {l:List Int}(hl:l.length<=100000)(v:Int):xl l v=some (decide (v∈l)):=by
 have e:=d9 (step:=kR l v) (n:=l.length) (fun k=>fN.mk (k:Int)) (gW l v) (fun j hj=>by
  obtain⟨y,hy,-⟩:=az hj;unfold kR gW;simp only;rw[dO,au hy,ob,ah (n:=j),hy];by_cases h:v=y
  ·rw[beq_iff_eq.2 h,ct,i1_ (by rw[h])]
  ·rw[beq_eq_false_iff_ne.2 h,cf,i0_ (fun e=>h (Option.some.inj e).symm)]) (by
  unfold kR;simp only
  rw[ft])
 unfold xl B6;rw[<-nk];have e':iter (kR l v) aY (fN.mk 0)=some (lK (fN.mk (l.length:Int)) (cW (gW l v) 0 l.length)):=e;rw[e',ob]
 cases h:cW (gW l v) 0 l.length with
 |none=>rw[lK,sl,ob];rfl
 |some r=>rw[lK,sr,ob,aP (uh h)];rfl
def vQ (cm:List Int)(v:Vt):Bool:=decide (v.From∈cm)
theorem xk (hl:cm.length<=100000)(v:Vt):vc cm v=some (!vQ cm v):=by
 unfold vc;rw[EQ hl,ob];rfl
theorem Fe {l:List Vt}(hc:cm.length<=100000)(hl:l.length<=100000) :
  ∃i,xv l l.length cm=some i/\((i= -1/\l.filter (vQ cm)=l)\/∃j:Nat,i=j/\j<l.length/\(l.take (j+1)).filter (vQ cm)=l.take j):=by
 unfold xv
 have key:=bA (step:=kT l l.length cm) (fun x=>∃j:Nat,j<=l.length/\x.t8=j/\(l.take j).filter (vQ cm)=l.take j) (fun x=>l.length-x.t8.toNat)
  (fun b=>(∃x,b=.inl x/\l.filter (vQ cm)=l)\/∃j:Nat,b=.inr (j:Int)/\j<l.length/\(l.take (j+1)).filter (vQ cm)=l.take j) (by
   rintro⟨t⟩ ⟨j,hj,h1,h2⟩;simp only at h1 h2;subst h1;by_cases hlt:j<l.length
   ·obtain⟨y,hy,-⟩:=az hlt;have hsn:=bg (p:=vQ cm) hy
    have hstep:kT l l.length cm ⟨(j:Int)⟩=bif !vQ cm y then some (.inr (.inr (j:Int)))else some (.inl ⟨((j+1:Nat):Int)⟩):=by
     unfold kT;simp only;rw[dO,take_length,au hy,ob,xk hc,ob,ah (n:=j)]
    rw[h2]at hsn
    cases hp:vQ cm y with
    |true=>
     rw[hp,Bool.not_true,cf]at hstep;rw[hp,ct]at hsn;exact .inl ⟨_,hstep,⟨j+1,by omega,rfl,by rw[hsn,iS hy]⟩,by simp only;omega⟩
    |false=>
     rw[hp,Bool.not_false,ct]at hstep;rw[hp,cf,append_nil]at hsn;exact .inr ⟨_,hstep,.inr ⟨j,rfl,hlt,hsn⟩⟩
   ·right
    obtain rfl:j=l.length:=by omega
    refine⟨.inl ⟨(l.length:Int)⟩,?_,.inl ⟨_,rfl,?_⟩⟩
    ·unfold kT;simp only;rw[ft]
    ·rw[take_length]at h2;exact h2) (n:=aY) (x:=⟨0⟩) ⟨0,by omega,rfl,by simp⟩ (cq (by simp only;omega))
 obtain⟨b,e,⟨x,rfl,h1⟩|⟨j,rfl,h0,h1⟩⟩:=key
 ·exact⟨-1,by rw[e,ob,sl],.inl ⟨rfl,h1⟩⟩
 ·exact⟨j,by rw[e,ob,sr],.inr ⟨j,rfl,h0,h1⟩⟩
theorem E5 {l:List Vt}(hc:cm.length<=100000)(hl:l.length<=100000):∃k' l',xq l l.length cm=some (k',l')/\u5 l' k' (l.filter (vQ cm)):=by
 obtain⟨i,e0,h0⟩:=Fe hc hl;unfold xq;rw[e0,ob];rcases h0 with⟨rfl,hp⟩|⟨j0,rfl,hj0,hp⟩
 ·rw[hp,show((-1:Int)== -1)=true from rfl,ct];exact⟨_,_,rfl,take_length,le_refl _⟩
 ·rw [show((j0:Int)== -1)=false by rw[beq_eq_false_iff_ne];omega,cf,ah (n:=j0)]
  have key:=bA (step:=kS l.length cm) (fun x=>∃(i j:Nat),x.i=i/\x.j=j/\Mv l x.o1 i j ((l.take j).filter (vQ cm))) (fun x=>l.length-x.j.toNat)
   (fun x=>∃i:Nat,x.i=i/\i<=l.length/\x.o1.take i=l.filter (vQ cm)/\l.length<=x.o1.length) (by
   rintro⟨i',j',a⟩ ⟨i,j,h1,h2,h5⟩;simp only at h1 h2 h5;subst h1 h2;have hij:=h5.ij;have hjl:=h5.jl;have hal:=h5.len;by_cases hlt:j<l.length
   ·left;obtain⟨y,hy,-⟩:=az hlt
    have hya:(a.take l.length)[j]?=some y:=by rw[getElem?_take_of_lt hlt,h5.rest j (le_refl _) (by omega),hy]
    obtain⟨z,hz,-⟩:=az (l:=a.take l.length) (n:=i) (by rw[length_take];omega);have hsn:=bg (p:=vQ cm) hy
    have hstep:kS l.length cm ⟨(i:Int),(j:Int),a⟩=bif vQ cm y then some (.inl ⟨((i+1:Nat):Int),((j+1:Nat):Int),a.set i y⟩)else some (.inl ⟨(i:Int),((j+1:Nat):Int),a⟩):=by
     unfold kS;simp only;rw[dO,au hya,ob,xk hc,ob,au hz,ob,ah (n:=j),ah (n:=i),toNat_natCast,Bool.not_not]
    cases hp:vQ cm y with
    |false=>
     rw[hp,cf]at hstep;rw[hp,cf,append_nil]at hsn;refine⟨_,hstep,⟨i,j+1,rfl,rfl,?_⟩,by simp only;omega⟩;rw[hsn];exact h5.next_gone (by omega)
    |true=>
     rw[hp,ct]at hstep;rw[hp,ct]at hsn;refine⟨_,hstep,⟨i+1,j+1,rfl,rfl,?_⟩,by simp only;omega⟩;rw[hsn];exact h5.next_stay (by omega) hy
   ·right
    have hjk:j=l.length:=by omega
    have htl:l.take j=l:=take_of_length_le (by omega);rw[htl]at h5;refine⟨⟨(i:Int),(j:Int),a⟩,?_,i,rfl,by omega,h5.left,by show l.length<=a.length;omega⟩;unfold kS;simp only
    rw[aR (show¬(j:Int)<(l.length:Int) by omega),cf]) (n:=aY) (x:=⟨(j0:Int),((j0+1:Nat):Int),l⟩)
   ⟨j0,j0+1,rfl,rfl,by
    rw[hp]
    exact⟨by omega,by omega,le_refl _,rfl,fun q h1 h2=>rfl⟩⟩ (cq (by simp only;omega))
  obtain⟨x,ex,i,hi,hik,h2,h3⟩:=key;rw[ex,ob,hi,aP (show 0<=(i:Int)/\(i:Int)<=(l.length:Int) by omega),ct,toNat_natCast,aP (show i+(l.length-i)<=x.o1.length by omega),ct,ct];exact⟨_,_,rfl,wE hik h3 h2⟩
def dF (c:Cf)(v:List Vt)(slot:Int):List Vt:=(ut v slot).filter (vQ (pF c slot))
theorem By (v:List Vt)(slot:Int):(ut v slot).length<=v.length:=by
 unfold ut;rw[(cQ _).length_eq];exact le_trans (List.length_filterMap_le _ _) (oa v).2
theorem qu (c:Cf)(v:List Vt)(slot:Int):(dF c v slot).length<=v.length:=le_trans (length_filter_le _ _) (By v slot)
theorem xj {v:List Vt}(hv:v.length<=90000)(c:Cf)(slot:Int):vb c v slot=some (dF c v slot):=by
 have hl:=By v slot;have hc:=rx c slot;obtain⟨k',l',e,hp⟩:=E5 (l:=ut v slot) (cm:=pF c slot) (by omega) (by omega);unfold vb IL;rw[show ble v.length 90000=true from Nat.ble_eq_true_of_le hv,ct,ob,AP,ob,length_map,e,ob];simp only;rw[show ble k' l'.length=true from Nat.ble_eq_true_of_le hp.le,ct,hp.take];rfl
theorem ta (h1:w.B.length<=1000)(h2:w.V.length<=1000)(c:Cf)(slot:Int):mS c w slot=some (gX c w.B (dF c w.V slot)):=by
 have hg:=qu c w.V slot;unfold mS;rw[xj (by omega),ob,KH h1 (by omega),ob]
theorem rz {α β:Type}[DecidableEq α]:∀{m:List (α×β)},(m.map Prod.fst).Nodup->∀{k:α} {v:β},(k,v)∈m↔am m k=some v
 |[],_,k,v=>by simp[am]
 | (a,b)::r,h,k,v=>by
  rw[map_cons,List.nodup_cons]at h;have ih:=rz h.2 (k:=k) (v:=v);by_cases e:a=k
  ·subst e;simp only[am,if_true,mem_cons,Prod.mk.injEq,true_and];constructor
   ·rintro(h1|h1)
    ·rw[h1]
    ·exact absurd (List.mem_map.2 ⟨_,h1,rfl⟩) h.1
   ·intro h1;exact .inl (Option.some.inj h1).symm
  ·have e':¬k=a:=fun h=>e h.symm;simp only[am,i0_ e,mem_cons,Prod.mk.injEq,e',false_and,false_or];exact ih
structure sN (l:List Vt):Prop where
 was:∀d id,am (cK l).1 d=some id->∃v∈l,qg v=d/\v.Head=id
 has:∀v∈l,∃id,am (cK l).1 (qg v)=some id
 bad:∀d,(am (cK l).2 d).getD false=true↔∃v∈l,∃w∈l,qg v=d/\qg w=d/\v.Head≠w.Head
theorem DO {l:List Vt}(h:sN l)(y:Vt):sN (l++[y]):=by
 have e1:(cK (l++[y])).1=bP (cK l).1 (qg y) y.Head:=by rw[mg];rfl
 have e2:(cK (l++[y])).2=if wF (cK l).1 y=true then bP (cK l).2 (qg y) true else(cK l).2:=by rw[mg];rfl
 have hy:y∈l++[y]:=List.mem_append_right _ (mem_singleton.2 rfl)
 have hdbl:wF (cK l).1 y=true↔∃v∈l,qg v=qg y/\am (cK l).1 (qg y)=some v.Head/\v.Head≠y.Head:=by
  unfold wF
  cases hf:am (cK l).1 (qg y)with
  |none=>
   simp only[Bool.false_eq_true,false_iff];rintro⟨v,-,-,h2,-⟩;cases h2
  |some id=>
   obtain⟨v,h1,h2,h3⟩:=h.was _ _ hf;constructor
   ·intro h4;exact⟨v,h1,h2,by rw[h3],by rw[h3];exact of_decide_eq_true h4⟩
   ·rintro⟨w,-,-,h5,h6⟩;rw[Option.some.inj h5];exact aP h6
 refine⟨fun d id hd=>?_,fun v hv=>?_,fun d=>?_⟩
 ·rw[e1,dh]at hd;split at hd
  ·rename_i e;exact⟨y,hy,e,Option.some.inj hd⟩
  ·obtain⟨v,h1,h2⟩:=h.was d id hd;exact⟨v,mem_append_left _ h1,h2⟩
 ·rw[e1,dh];split
  ·exact⟨_,rfl⟩
  ·rename_i hne;rcases mem_append.1 hv with hv|hv
   ·exact h.has v hv
   ·rw[mem_singleton.1 hv]at hne;exact absurd Z hne
 ·rw [e2];constructor
  ·intro hb;by_cases hd:wF (cK l).1 y=true
   ·rw[i1_ hd,dh]at hb;by_cases e:qg y=d
    ·obtain⟨v,h1,h2,-,h4⟩:=hdbl.1 hd;exact⟨v,mem_append_left _ h1,y,hy,h2.trans e,e,h4⟩
    ·rw[i0_ e]at hb;obtain⟨v,h1,w,h2,h3⟩:=(h.bad d).1 hb;exact⟨v,mem_append_left _ h1,w,mem_append_left _ h2,h3⟩
   ·rw[i0_ hd]at hb;obtain⟨v,h1,w,h2,h3⟩:=(h.bad d).1 hb;exact⟨v,mem_append_left _ h1,w,mem_append_left _ h2,h3⟩
  ·have old:(am (cK l).2 d).getD false=true->(am (if wF (cK l).1 y=true then bP (cK l).2 (qg y) true else(cK l).2) d).getD false=true:=by
    intro ho;split
    ·rw[dh];split
     ·rfl
     ·exact ho
    ·exact ho
   have mix:∀v∈l,qg v=d->qg y=d->v.Head≠y.Head->(am (if wF (cK l).1 y=true then bP (cK l).2 (qg y) true else(cK l).2) d).getD false=true:=by
    intro v hv h1 h2 h3;by_cases hd:wF (cK l).1 y=true
    ·rw[i1_ hd,dh,i1_ h2];rfl
    ·refine old<|(h.bad d).2 ?_;obtain⟨id,hid⟩:=h.has v hv;rw[h1,<-h2]at hid;obtain⟨u,hu,hu2,hu3⟩:=h.was _ _ hid;have:¬u.Head≠y.Head:=fun hne=>hd (hdbl.2 ⟨u,hu,hu2,by rw[hid,hu3],hne⟩);exact⟨v,hv,u,hu,h1,hu2.trans h2,fun e=>this fun e2=>h3 (e.trans e2)⟩
   rintro⟨v,hv,w,hw,h1,h2,h3⟩;rcases mem_append.1 hv with hv|hv
   ·rcases mem_append.1 hw with hw|hw
    ·exact old<|(h.bad d).2 ⟨v,hv,w,hw,h1,h2,h3⟩
    ·rw[mem_singleton.1 hw]at h2 h3;exact mix v hv h1 h2 h3
   ·rw[mem_singleton.1 hv]at h1 h3;rcases mem_append.1 hw with hw|hw
    ·exact mix w hw h2 h1 fun e=>h3 e.symm
    ·rw[mem_singleton.1 hw]at h3;exact absurd Z h3
theorem Gu (l:List Vt):sN l:=by
 have key:∀k,k<=l.length->sN (l.take k):=by
  intro k
  induction k with
  |zero=>exact fun _=>⟨fun d id h=>(by cases h),fun v hv=>(by cases hv),fun d=>⟨fun h=>(by cases h),fun⟨v,hv,_⟩=>(by cases hv)⟩⟩
  |succ k ih=>
   intro hk;obtain⟨y,hy,-⟩:=az (l:=l) (n:=k);rw[aL hy];exact DO (ih (by omega)) y
 have:=key l.length (le_refl _)
 rwa [take_length]at this
theorem HM {x y:Vt}(h1:qg x=qg y)(h2:x.Head=y.Head):x=y:=by
 cases x;cases y;unfold qg at h1;simp only at h1 h2;cases h1;cases h2;rfl
theorem Hm {V:List Vt}:x∈ut V slot↔x∈V/\x.Slot=slot/\∀y∈V,qg y=qg x->y.Head=x.Head:=by
 have hI:=Gu V;have hk:=(oa V).1;unfold ut;rw[(cQ _).mem_iff,List.mem_filterMap];constructor
 ·rintro⟨⟨⟨f,s⟩,id⟩,he,h2⟩;unfold gZ at h2;split at h2
  ·rename_i hc;obtain⟨hs,hb⟩:=hc;simp only at hs hb h2;subst hs;cases h2;obtain⟨v,h3,h4,h5⟩:=hI.was _ _ ((rz hk).1 he);have e:v=⟨f,s,id⟩:=HM h4 h5;subst e;refine⟨h3,rfl,fun y hy h6=>?_⟩;by_cases h7:y.Head=id
   ·exact h7
   ·have:=(hI.bad ⟨f,s⟩).2 ⟨y,hy,_,h3,h6,h4,h7⟩;rw[this]at hb;cases hb
  ·cases h2
 ·rintro⟨h1,h2,h3⟩;obtain⟨id,hid⟩:=hI.has x h1;obtain⟨v,h4,h5,h6⟩:=hI.was _ _ hid;have e:id=x.Head:=h6.symm.trans (h3 v h4 h5);refine⟨(qg x,id),(rz hk).2 hid,?_⟩;unfold gZ;rw[i1_]
  ·rw[e,<-h2];rfl
  ·refine⟨h2,?_⟩
   cases hb:(am (cK V).2 (qg x)).getD false with
   |false=>rfl
   |true=>
    obtain⟨u,hu,w,hw,h7,h8,h9⟩:=(hI.bad _).1 hb;exact absurd ((h3 u hu h7).trans (h3 w hw h8).symm) h9
end Go.Mg
