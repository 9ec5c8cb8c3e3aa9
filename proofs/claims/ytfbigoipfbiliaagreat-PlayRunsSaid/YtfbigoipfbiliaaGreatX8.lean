/- Plain laws of weights on blocks, and of the head: the program's side. Conditions: none. -/
import Derived.Test.YtfbigoipfbiliaaGreatX7
set_option maxRecDepth 100000
set_option linter.all false
namespace Go.Mg
open IntKind (i64)
open Go.Proofs.Tryz (prog)
open List (any_eq_true append_assoc append_nil cons_append find?_some getElem?_of_mem getElem?_take_of_lt length_append length_cons length_filter_le length_map length_singleton length_take map_cons map_nil mem_append mem_append_left mem_cons mem_filter mem_singleton nil_append take_left' take_length take_of_length_le)
open Nat (ble le_refl le_trans zero_le)
open Option (getD_some isSome_none isSome_some)
open Int (toNat_natCast)
open Go.Proofs
variable {α β : Type} {BB l : List Bk} {b : Bk} {c : Cf} {cm : List Int} {f r_ : Bool} {i j kk : Nat} {id : ID} {inp o w : Vw} {m sm0 : List (ID × Int)} {p : α -> Bool} {r : Vw × Vw × Bool} {slot upto : Int} {v x : Vt} {y : α}
theorem mI {step:α->Option (α⊕β)}{n:Nat}{x y:α}(h:step x=some (.inl y)):iter step (n+1) x=iter step n y:=by
 rw[iter,h]
theorem eM {step:α->Option (α⊕β)}{n:Nat}{x:α}{b:β}(h:step x=some (.inr b)):iter step (n+1) x=some b:=by
 rw[iter,h]
theorem LK :aY=4611686018427387901+1+1+1:=rfl
def qX (a b:ID):Bool:=decide (a.1<b.1\/a.1=b.1/\a.2<b.2)
def mB (x y:Int):Int:=if x<y then -1 else if x>y then 1 else 0
theorem CT (x y:Int):FX x y=some (mB x y):=by
 have h:∀z:Int,D7 z=some false:=fun z=>by unfold D7;rw[show(z != z)=false by simp]
 unfold FX mB;rw[h x,ob,h y,ob,cf,cf];by_cases h1:x<y
 ·rw[aQ h1,ct,i1_ h1]
 ·rw[aR h1,cf,i0_ h1];by_cases h2:x>y
  ·rw[aQ h2,ct,i1_ h2]
  ·rw[aR h2,cf,i0_ h2]
theorem x5 (a1 a2 b1 b2:Int):D2 [a1,a2] [b1,b2]=some (if mB a1 b1≠0 then mB a1 b1 else mB a2 b2):=by
 unfold D2
 have h0:∀i:Int,i=0->ku [a1,a2] [b1,b2] (fA.mk i)=if mB a1 b1≠0 then some (.inr (.inr (mB a1 b1)))else some (.inl (fA.mk 1)):=by
  rintro i rfl;unfold ku;simp only;rw[show decide ((0:Int)<(([a1,a2]:List Int).length:Int))=true from rfl,ct,show ix [a1,a2] 0=some a1 from rfl,ob,show decide ((0:Int)>=(([b1,b2]:List Int).length:Int))=false from rfl,cf,show ix [b1,b2] 0=some b1 from rfl,ob,CT,ob,show i64.wrap (0+1)=1 from cR];by_cases h:mB a1 b1=0
  ·rw[show(mB a1 b1 != 0)=false by simp[h],cf,i0_ (not_not_intro h)]
  ·rw[show(mB a1 b1 != 0)=true by simp[h],ct,i1_ h]
 have h1:ku [a1,a2] [b1,b2] (fA.mk 1)=if mB a2 b2≠0 then some (.inr (.inr (mB a2 b2)))else some (.inl (fA.mk 2)):=by
  unfold ku;simp only;rw[show decide ((1:Int)<(([a1,a2]:List Int).length:Int))=true from rfl,ct,show ix [a1,a2] 1=some a2 from rfl,ob,show decide ((1:Int)>=(([b1,b2]:List Int).length:Int))=false from rfl,cf,show ix [b1,b2] 1=some b2 from rfl,ob,CT,ob,show i64.wrap (1+1)=2 from cR];by_cases h:mB a2 b2=0
  ·rw[show(mB a2 b2 != 0)=false by simp[h],cf,i0_ (not_not_intro h)]
  ·rw[show(mB a2 b2 != 0)=true by simp[h],ct,i1_ h]
 have h2:ku [a1,a2] [b1,b2] (fA.mk 2)=some (.inr (.inl (fA.mk 2))):=by
  unfold ku;simp only;rw[show decide ((2:Int)<(([a1,a2]:List Int).length:Int))=false from rfl,cf]
 rw[LK];by_cases c1:mB a1 b1=0
 ·have e1:=h0 0 rfl;rw[i0_ (not_not_intro c1)]at e1;rw[mI e1,i0_ (not_not_intro c1)];by_cases c2:mB a2 b2=0
  ·rw[i0_ (not_not_intro c2)]at h1;rw[mI h1,eM h2,ob,sl,show decide ((([a1,a2]:List Int).length:Int)<(([b1,b2]:List Int).length:Int))=false from rfl,cf,c2]
  ·rw[i1_ c2]at h1;rw[eM h1,ob,sr]
 ·have e1:=h0 0 rfl;rw[i1_ c1]at e1;rw[eM e1,i1_ c1,ob,sr]
theorem I0 (a b:ID):Fz a b=some (qX a b):=by
 unfold Fz qX;rw[x5,ob];congr 1;refine decide_eq_decide.2 ?_;unfold mB;by_cases h1:a.1<b.1
 ·simp[h1]
 ·by_cases h2:a.1>b.1
  ·have:a.1≠b.1:=by omega
   simp[h1,h2,this]
  ·have:a.1=b.1:=by omega
   by_cases h3:a.2<b.2
   ·simp[this,h3]
   ·by_cases h4:a.2>b.2 <;>simp[this,h3,h4]
theorem EK (a:ID):qX a a=false:=by unfold qX;exact aR (by omega)
def kP (a b:Rk):Bool:=if a.n=b.n then qX b.id a.id else decide (a.n>b.n)
theorem I4 (a b:Rk):FA a b=some (kP a b):=by
 unfold FA kP;by_cases h:a.n=b.n
 ·rw[show(a.n != b.n)=false by simp[h],cf,i1_ h,show(a.n==b.n)=true by simp[h],Bool.true_and,rV];by_cases h2:a.id=b.id
  ·rw[aQ h2,Bool.not_true,cf,h2,EK]
  ·rw[aR h2,Bool.not_false,ct,I0,ob]
 ·rw[show(a.n != b.n)=true by simp[h],ct,i0_ h]
def gP (l:List Bk)(id h:ID):Bool:=decide (id∈an l h)
def na (l:List Bk)(v:List Vt)(id:ID):List Int:=(v.filter fun x=>gP l id x.Head).map Vt.From
def lY (c:Cf)(l:List Bk)(v:List Vt)(id:ID):Int:=xK c (na l v id)
theorem di [DecidableEq α]{m:List (α×β)}{k q:α}{v:β}:ak (bK m k v) q=if k=q then some v else ak m q:=by
 induction m with
 |nil=>simp[bK,ak]
 | cons p r ih=>
  obtain⟨a,b⟩:=p;unfold bK;by_cases h:a=k
  ·rw[i1_ h];subst h;by_cases h2:a=q
   ·simp[ak,h2]
   ·simp[ak,h2]
  ·rw[i0_ h];simp only[ak];rw[ih];by_cases h2:a=q
   ·rw[i1_ h2,i1_ h2,i0_ (fun e=>h (by rw[h2,e]))]
   ·rw[i0_ h2,i0_ h2]
def BA (l:List Bk)(id:ID)(m:List (ID×Bool)):Prop:=∀h b,ak m h=some b->b=gP l id h
theorem Jh (hl:l.length<=1000){m:List (ID×Bool)}(hm:BA l id m):∃m',FO x c l id m=some (gP l id x.Head,m')/\BA l id m':=by
 unfold FO
 have hu:decide (ap (an l x.Head) id>=0)=gP l id x.Head:=by
  unfold gP;exact decide_eq_decide.2 ⟨fun h=>dk.1 h,fun h=>dk.2 h⟩
 cases hf:ak m x.Head with
 | none=>
  refine⟨bK m x.Head (gP l id x.Head),?_,?_⟩
  ·rw[isSome_none,Bool.not_false,ct,My hl,ct,hu]
  ·intro h b hb;rw[di]at hb;by_cases e:x.Head=h
   ·rw[i1_ e]at hb;cases hb;rw[e]
   ·rw[i0_ e]at hb;exact hm h b hb
 |some b=>
  refine⟨m,?_,hm⟩;rw[isSome_some,Bool.not_true,cf,getD_some,hm _ _ hf]
theorem aM {l:List α}(h:l[j]?=some y):l.take (j+1)=l.take j++[y]:=by rw[List.take_add_one,h];rfl
theorem wl {v:List Vt}{n:Nat}{y:Vt}(hy:v[n]?=some y):na l (v.take (n+1)) id=na l (v.take n) id++bif gP l id y.Head then[y.From]else[]:=by
 unfold na;rw[aM hy,List.filter_append,List.map_append];cases h:gP l id y.Head <;>simp[h]
theorem qL (l:List Bk)(v:List Vt)(id:ID):(na l v id).length<=v.length:=by
 unfold na;rw[length_map];exact length_filter_le _ _
theorem Ji (hl:l.length<=1000){v:List Vt}(hv:v.length<=1000):∃m',FQ v c l id []=some (na l v id,m'):=by
 unfold FQ
 have key:=bw (step:=qe v c l id) (fun x=>∃n:Nat,n<=v.length/\x.t12=n/\BA l id x.o3/\x.out=na l (v.take n) id) (fun x=>v.length-x.t12.toNat) (fun b=>b.out=na l v id) (by
  rintro⟨t,m,out⟩ ⟨n,hn,h1,hm,ho⟩;simp only at h1 ho hm;subst h1 ho;by_cases hlt:n<v.length
  ·left;obtain⟨y,hy,-⟩:=aA hlt;obtain⟨m',e,hm'⟩:=Jh hl (x:=y) (c:=c) hm;have hlen:=qL l (v.take n) id;rw[length_take]at hlen;refine⟨⟨((n+1:Nat):Int),m',na l (v.take (n+1)) id⟩,?_,⟨n+1,hlt,rfl,hm',rfl⟩,by simp only;omega⟩;unfold qe;simp only;rw[eN,aw hy,ob,e,ob,wl hy,ah (n:=n)]
   cases hu:gP l id y.Head with
   |true=>rw[ct,show Jj y=some y.From from rfl,ob,aC (by simp only[length_singleton];omega),ct,ct]
   |false=>rw[cf,cf,append_nil]
  ·right
   obtain rfl:n=v.length:=by omega
   refine⟨⟨(v.length:Int),m,na l (v.take v.length) id⟩,?_,by simp only[take_length]⟩;unfold qe;simp only
   rw[gt]) (n:=aY) (x:=⟨0,[],[]⟩) ⟨0,by omega,rfl,(fun h b hb=>by cases hb),by simp[na]⟩ (cj (by simp only;omega))
 obtain⟨b,e,hp⟩:=key;exact⟨b.o3,by rw[e,ob,hp]⟩
theorem CH (hl:l.length<=1000){v:List Vt}(hv:v.length<=1000)(c:Cf)(id:ID):DY c l v id=some (lY c l v id):=by
 unfold DY;obtain⟨m',e⟩:=Ji hl hv (c:=c) (id:=id);have:=qL l v id;rw[e,ob,GI (by simp only;omega),ob];rfl
theorem DG (c:Cf)(l:List Bk)(v:List Vt)(id:ID):0<=lY c l v id:=by
 unfold lY xK;split
 ·next h=>exact(tK h.okW.2 _).1
 ·omega
def fY (f:ID->Int):List ID->Rk->Rk
 |[],b=>b
 |k::r,b=>fY f r (bif kP ⟨f k,k⟩ b then⟨f k,k⟩else b)
theorem pG (f:ID->Int)(k:ID):∀(a:List ID) (b:Rk),fY f (a++[k]) b=bif kP ⟨f k,k⟩ (fY f a b)then⟨f k,k⟩else fY f a b
 |[],_=>rfl
 |_::r,_=>pG f k r _
def d9 (c:Cf)(l:List Bk)(v:List Vt)(id:ID):Rk:=fY (lY c l v) (aZ l id) ⟨-1,(0,0)⟩
theorem AI (l:List Bk)(id:ID):(aZ l id).length<=l.length:=by
 unfold aZ;split
 ·simp
 ·rw[length_map];exact length_filter_le _ _
theorem GM (hl:l.length<=1000){v:List Vt}(hv:v.length<=1000)(c:Cf)(id:ID):Nb c l v id=some ((d9 c l v id).id,decide ((d9 c l v id).n>=0)):=by
 unfold Nb;have hk:=AI l id;rw[Ll hl,ob]
 have e:=av (step:=ub c l v (aZ l id)) (n:=(aZ l id).length) (fun n=>iZ.mk (n:Int) (fY (lY c l v) ((aZ l id).take n) ⟨-1,(0,0)⟩)) (iZ.mk ((aZ l id).length:Int) (d9 c l v id)) (fun n hn=>by
  obtain⟨y,hy,-⟩:=aA hn;unfold ub;simp only;rw[aQ (show(n:Int)<((aZ l id).length:Int) by omega),ct,aw hy,ob,CH hl hv,ob,I4,ob,ah (n:=n),aM hy,pG]
  cases kP ⟨lY c l v y,y⟩ (fY (lY c l v) ((aZ l id).take n) ⟨-1,(0,0)⟩)with
  |true=>rw[ct,ct]
  |false=>rw[cf,cf]) (by
  unfold ub;simp only
  rw[aR (show¬((aZ l id).length:Int)<((aZ l id).length:Int) by omega),cf,take_length];rfl) (by omega)
 have e0:iZ.mk ((0:Nat):Int) (fY (lY c l v) ((aZ l id).take 0) ⟨-1,(0,0)⟩)=iZ.mk 0 (Rk.mk (-1) (0,0)):=rfl;rw[e0]at e;rw[e,ob]
theorem rR {f:ID->Int}(hf:∀k,0<=f k):∀(a:List ID) (b:Rk),(a=[]/\fY f a b=b)\/(fY f a b=b/\0<=b.n)\/(∃k∈a,fY f a b=⟨f k,k⟩)\/(b.n< -1)
 |[],b=>.inl ⟨rfl,rfl⟩
 | k ::r,b=>by
  by_cases hb:b.n< -1
  ·exact .inr<|.inr<|.inr hb
  ·unfold fY
   cases h:kP ⟨f k,k⟩ b with
   |true=>
    rw[ct];rcases rR hf r ⟨f k,k⟩with⟨rfl,e⟩|⟨e,-⟩|⟨k',hk',e⟩|h4
    ·exact .inr<|.inr<|.inl ⟨k,.head _,e⟩
    ·exact .inr<|.inr<|.inl ⟨k,.head _,e⟩
    ·exact .inr<|.inr<|.inl ⟨k',.tail _ hk',e⟩
    ·have:=hf k;simp only at h4;omega
   | false=>
    rw[cf]
    have hb0:0<=b.n:=by
     unfold kP at h;simp only at h;have:=hf k;by_cases e:f k=b.n
     ·omega
     ·rw[i0_ e]at h;have:=of_decide_eq_false h;omega
    rcases rR hf r b with⟨rfl,e⟩|h2|⟨k',hk',e⟩|h4
    ·exact .inr<|.inl ⟨e,hb0⟩
    ·exact .inr<|.inl h2
    ·exact .inr<|.inr<|.inl ⟨k',.tail _ hk',e⟩
    ·omega
theorem nD (c:Cf)(l:List Bk)(v:List Vt)(id:ID):(aZ l id=[]/\d9 c l v id=⟨-1,(0,0)⟩)\/∃k∈aZ l id,d9 c l v id=⟨lY c l v k,k⟩:=by
 unfold d9;rcases rR (DG c l v) (aZ l id) ⟨-1,(0,0)⟩with h|⟨e,h2⟩|h3|h4
 ·exact .inl h
 ·simp only at h2;omega
 ·exact .inr h3
 ·simp only at h4;omega
def oZ (c:Cf)(l:List Bk)(v:List Vt):Nat->ID->ID
 |0,id=>id
 |n+1,id=>if (d9 c l v id).n>=0 then oZ c l v n (d9 c l v id).id else id
def g0 (c:Cf)(l:List Bk)(v:List Vt):ID:=oZ c l v (l.length+1) (0,0)
theorem MD (hp:places l=some m){id k:ID}{i:Int}(hi:ak m id=some i)(hk:k∈aZ l id):∃j,ak m k=some j/\i<j/\j<l.length:=by
 unfold aZ at hk;rw[hp]at hk;obtain⟨b,hb,rfl⟩:=List.mem_map.1 hk;rw[mem_filter]at hb;obtain⟨n,hn⟩:=getElem?_of_mem hb.1;have hI:=bc hp;have hnl:=(List.getElem?_eq_some_iff.1 hn).1;have h1:=hI.names n b hnl hn;refine⟨n,h1,?_,by omega⟩;rcases hI.known _ _ h1 with⟨h2,-⟩|⟨b',p,h2,h3,h4,h5,h6,h7,h8,h9⟩
 ·omega
 ·rw[toNat_natCast,hn]at h4;cases h4;have hpar:b.Parent=id:=of_decide_eq_true hb.2;rw[hpar,hi]at h6;cases h6;exact h7
theorem wn {l:List Bk}(hl:l.length<=1000){v:List Vt}(hv:v.length<=1000)(c:Cf){m:List (ID×Int)}(hp:places l=some m):∀(n f:Nat) (id:ID) (i:Int),ak m id=some i->(l.length:Int)-i<=n->n<f->
  iter (px c l v) f ⟨id⟩=some ⟨oZ c l v n id⟩
 |0,f,id,i,hi,hn,_=>by
  rcases(bc hp).known _ _ hi with⟨h,-⟩|⟨b,p,h0,h1,-⟩ <;>omega
 | n+1,f,id,i,hi,hn,hf=>by
  obtain⟨f,rfl⟩:∃g,f=g+1:=⟨f-1,by omega⟩
  have hs:px c l v ⟨id⟩=if (d9 c l v id).n>=0 then some (.inl ⟨(d9 c l v id).id⟩)else some (.inr ⟨id⟩):=by
   unfold px;simp only;rw[GM hl hv,ob];by_cases h:(d9 c l v id).n>=0
   ·rw[aQ h,Bool.not_true,cf,i1_ h]
   ·rw[aR h,Bool.not_false,ct,i0_ h]
  unfold oZ;rcases nD c l v id with⟨-,e⟩|⟨k,hk,e⟩
  ·have:¬(d9 c l v id).n>=0:=by rw[e];simp
   rw[i0_ this]at hs⊢;exact eM hs
  ·have hpos:(d9 c l v id).n>=0:=by rw[e];exact DG c l v k
   rw[i1_ hpos]at hs⊢;rw[mI hs,e];obtain⟨j,hj,h1,h2⟩:=MD hp hi hk;exact wn hl hv c hp n f k j hj (by omega) (by omega)
theorem Ls (hl:l.length<=1000){v:List Vt}(hv:v.length<=1000)(c:Cf):Nc c l v=some (g0 c l v):=by
 unfold Nc g0
 cases hp:places l with
 |some m=>
  rw[wn hl hv c hp (l.length+1) aY (0,0) (-1) (bc hp).zero (by omega) (cj),ob]
 | none=>
  have hk:aZ l (0,0)=[]:=by unfold aZ;rw[hp]
  have hb:d9 c l v (0,0)=⟨-1,(0,0)⟩:=by unfold d9;rw[hk];rfl
  have hs:px c l v ⟨(0,0)⟩=some (.inr ⟨(0,0)⟩):=by
   unfold px;simp only;rw[GM hl hv,ob,hb];rfl
  rw[LK,eM hs,ob];unfold oZ;rw[hb,i0_ (by simp)]
def cW {R:Type}(f:Nat->Option R):Nat->Nat->Option R
 |_,0=>none
 |k,d+1=>match f k with
  |some r=>some r
  |none=>cW f (k+1) d
theorem gD {R:Type}{f:Nat->Option R}:∀{d k:Nat},cW f k d=none↔∀j,k<=j->j<k+d->f j=none
 |0,k=>⟨fun _ j h1 h2=>by omega,fun _=>rfl⟩
 | d+1,k=>by
  unfold cW
  cases h:f k with
  |some r=>exact⟨fun h=>(by cases h),fun h2=>(by rw[h2 k (le_refl _) (by omega)]at h;cases h)⟩
  |none=>
   rw[gD (k:=k+1)];refine⟨fun h2 j h3 h4=>?_,fun h2 j h3 h4=>h2 j (by omega) (by omega)⟩;by_cases e:j=k
   ·subst e;exact h
   ·exact h2 j (by omega) (by omega)
theorem fr {R:Type}{f:Nat->Option R}{r:R}:∀{d k:Nat},cW f k d=some r->∃j,k<=j/\j<k+d/\f j=some r/\∀i,k<=i->i<j->f i=none
 |0,k,h=>by cases h
 | d+1,k,h=>by
  unfold cW at h
  cases hk:f k with
  |some q=>
   rw[hk]at h;cases h;exact⟨k,le_refl _,by omega,hk,fun i h1 h2=>by omega⟩
  |none=>
   rw[hk]at h;obtain⟨j,h1,h2,h3,h4⟩:=fr h;refine⟨j,by omega,by omega,h3,fun i h5 h6=>?_⟩;by_cases e:i=k
   ·subst e;exact hk
   ·exact h4 i (by omega) h6
def lZ {S R:Type}(s:S):Option R->S⊕R |some r=>.inr r |none=>.inl s
theorem eb {S R:Type}{step:S->Option (S⊕(S⊕R))}{n:Nat}(mk:Nat->S)(f:Nat->Option R)(hs:∀j,j<n->step (mk j)=match f j with|some r=>some (.inr (.inr r))|none=>some (.inl (mk (j+1))))
  (he:step (mk n)=some (.inr (.inl (mk n)))) (hn:n<4000000000000000000:=by omega):iter step aY (mk 0)=some (lZ (mk n) (cW f 0 n)):=by
 have key:∀(d k q:Nat),k+d=n->d<q->iter step q (mk k)=some (lZ (mk n) (cW f k d)):=by
  intro d
  induction d with
  |zero=>
   intro k q hk hq;obtain⟨q,rfl⟩:∃p,q=p+1:=⟨q-1,by omega⟩
   obtain rfl:k=n:=by omega
   exact eM he
  | succ d ih=>
   intro k q hk hq;obtain⟨q,rfl⟩:∃p,q=p+1:=⟨q-1,by omega⟩;have h1:=hs k (by omega);unfold cW
   cases hf:f k with
   |some r=>
    rw[hf]at h1;exact eM h1
   |none=>
    rw[hf]at h1;rw[mI h1];exact ih (k+1) q (by omega) (by omega)
 exact key n 0 aY (by omega)<|cj hn
def gZ {α:Type}[DecidableEq α](l:List α)(v:α)(j:Nat):Option Int:=if l[j]?=some v then some (j:Int)else none
theorem nK [DecidableEq α]{l:List α}{v:α}:(cW (gZ l v) 0 l.length).isSome=decide (v∈l):=by
 cases h:cW (gZ l v) 0 l.length with
 |none=>
  rw[gD]at h;refine(aR fun hm=>?_).symm;obtain⟨j,hj⟩:=getElem?_of_mem hm;have:=h j (zero_le _) (by have:=(List.getElem?_eq_some_iff.1 hj).1;omega);unfold gZ at this;rw[i1_ hj]at this;cases this
 |some r=>
  obtain⟨j,-,-,h3,-⟩:=fr h;refine(aQ ?_).symm;unfold gZ at h3;split at h3
  ·rename_i e;exact List.mem_of_getElem? e
  ·cases h3
theorem uI [DecidableEq α]{l:List α}{v:α}{n:Nat}{r:Int}(h:cW (gZ l v) 0 n=some r):0<=r:=by
 obtain⟨j,-,-,h3,-⟩:=fr h;unfold gZ at h3;split at h3
 ·cases h3;omega
 ·cases h3
theorem CR (hl:l.length<=100000)(v:Bk):D5 l v=some (decide (v∈l)):=by
 have e:=eb (step:=oB l v) (n:=l.length) (fun k=>iz.mk (k:Int)) (gZ l v) (fun j hj=>by
  obtain⟨y,hy,-⟩:=aA hj;unfold oB gZ;simp only;rw[eN,aw hy,ob,Hx,ah (n:=j),hy];by_cases h:v=y
  ·rw[aQ h,ct,i1_ (by rw[h])]
  ·rw[aR h,cf,i0_ (fun e=>h (Option.some.inj e).symm)]) (by
  unfold oB;simp only
  rw[gt])
 unfold D5 Jp;rw[<-nK];have e':iter (oB l v) aY (iz.mk 0)=some (lZ (iz.mk (l.length:Int)) (cW (gZ l v) 0 l.length)):=e;rw[e',ob]
 cases h:cW (gZ l v) 0 l.length with
 |none=>rw[lZ,sl,ob];rfl
 |some r=>rw[lZ,sr,ob,aQ (uI h)];rfl
theorem CS {l:List Vt}(hl:l.length<=100000)(v:Vt):D6 l v=some (decide (v∈l)):=by
 have e:=eb (step:=oC l v) (n:=l.length) (fun k=>iA.mk (k:Int)) (gZ l v) (fun j hj=>by
  obtain⟨y,hy,-⟩:=aA hj;unfold oC gZ;simp only;rw[eN,aw hy,ob,JT,ah (n:=j),hy];by_cases h:v=y
  ·rw[aQ h,ct,i1_ (by rw[h])]
  ·rw[aR h,cf,i0_ (fun e=>h (Option.some.inj e).symm)]) (by
  unfold oC;simp only
  rw[gt])
 unfold D6 Jq;rw[<-nK];have e':iter (oC l v) aY (iA.mk 0)=some (lZ (iA.mk (l.length:Int)) (cW (gZ l v) 0 l.length)):=e;rw[e',ob]
 cases h:cW (gZ l v) 0 l.length with
 |none=>rw[lZ,sl,ob];rfl
 |some r=>rw[lZ,sr,ob,aQ (uI h)];rfl
section
variable {α : Type} [DecidableEq α]
def c8 (a:List α):List α->List α
 |[]=>a
 |x::r=>c8 (if x∈a then a else a++[x]) r
theorem kj (x:α):∀(b a:List α),c8 a (b++[x])=if x∈c8 a b then c8 a b else c8 a b++[x]
 |[],_=>rfl
 |_::r,_=>kj x r _
theorem sJ (x:α):∀(b a:List α),x∈c8 a b↔x∈a\/x∈b
 |[],a=>by simp[c8]
 |y::r,a=>by
  unfold c8;rw[sJ x r];by_cases h:y∈a
  ·rw[i1_ h,mem_cons];exact⟨fun h2=>h2.elim .inl (fun h3=>.inr (.inr h3)),fun h2=>h2.elim .inl fun h3=>h3.elim (fun e=>.inl (e▸h)) .inr⟩
  ·rw[i0_ h,mem_append,mem_singleton,mem_cons,or_assoc]
theorem dq :∀(b a:List α),(c8 a b).length<=a.length+b.length
 |[],a=>by simp[c8]
 |y::r,a=>by
  unfold c8;have:=dq r (if y∈a then a else a++[y])
  have h2:(if y∈a then a else a++[y]).length<=a.length+1:=by split <;>simp
  simp only[length_cons];omega
theorem iX :∀{b a:List α},a.Nodup->(c8 a b).Nodup
 |[],_,h=>h
 |y::r,a,h=>by
  unfold c8;refine iX ?_;split
  ·exact h
  ·rename_i hn;rw[List.nodup_append];exact⟨h,by simp,fun x hx z hz=>by rw[mem_singleton]at hz;subst hz;exact fun e=>hn (e▸hx)⟩
end
theorem Je {a b:List Bk}(h:a.length+b.length<=90000):FL a b=some (c8 a b):=by
 unfold FL;rw[aC,ct]
 have e:=av (step:=oq b) (n:=b.length) (fun k=>gi.mk (k:Int) (c8 a (b.take k))) (gi.mk (b.length:Int) (c8 a b)) (fun k hk=>by
  obtain⟨y,hy,-⟩:=aA hk;have hlen:=dq (b.take k) a;rw[length_take]at hlen;unfold oq;simp only;rw[eN,aw hy,ob,CR (by omega),ob,aM hy,kj,ah (n:=k)];by_cases hm:y∈c8 a (b.take k)
  ·rw[aQ hm,Bool.not_true,cf,i1_ hm]
  ·rw[aR hm,Bool.not_false,ct,aC (by simp only[length_singleton];omega),ct,i0_ hm]) (by
  unfold oq;simp only
  rw[gt,take_length]) (by omega)
 have e':iter (oq b) aY (gi.mk 0 a)=some (gi.mk (b.length:Int) (c8 a b)):=e;rw[e',ob]
theorem Jf {a b:List Vt}(h:a.length+b.length<=90000):FM a b=some (c8 a b):=by
 unfold FM;rw[aC,ct]
 have e:=av (step:=ot b) (n:=b.length) (fun k=>gj.mk (k:Int) (c8 a (b.take k))) (gj.mk (b.length:Int) (c8 a b)) (fun k hk=>by
  obtain⟨y,hy,-⟩:=aA hk;have hlen:=dq (b.take k) a;rw[length_take]at hlen;unfold ot;simp only;rw[eN,aw hy,ob,CS (by omega),ob,aM hy,kj,ah (n:=k)];by_cases hm:y∈c8 a (b.take k)
  ·rw[aQ hm,Bool.not_true,cf,i1_ hm]
  ·rw[aR hm,Bool.not_false,ct,aC (by simp only[length_singleton];omega),ct,i0_ hm]) (by
  unfold ot;simp only
  rw[gt,take_length]) (by omega)
 have e':iter (ot b) aY (gj.mk 0 a)=some (gj.mk (b.length:Int) (c8 a b)):=e;rw[e',ob]
def cQ (a b:Vw):Vw:=⟨c8 a.B b.B,c8 a.V b.V⟩
theorem pz {a b:Vw}(h1:a.B.length+b.B.length<=90000:=by omega)(h2:a.V.length+b.V.length<=90000:=by omega):GP a b=some (cQ a b):=by
 unfold GP;rw[Je h1,ob,Jf h2,ob];rfl
section
variable {α : Type} [DecidableEq α]
def i7 (a b:List α)(j:Nat):Option Bool:=if a[j]?=b[j]? then none else some false
theorem qF {a b:List α}(hl:a.length=b.length):(match cW (i7 a b) 0 a.length with|some r=>r|none=>true)=decide (a=b):=by
 cases h:cW (i7 a b) 0 a.length with
 | none=>
  rw[gD]at h;refine(aQ ?_).symm;apply List.ext_getElem?;intro j;by_cases hj:j<a.length
  ·have:=h j (zero_le _) (by omega);unfold i7 at this;split at this
   ·assumption
   ·cases this
  ·rw[List.getElem?_eq_none (by omega),List.getElem?_eq_none (by omega)]
 |some r=>
  obtain⟨j,-,-,h3,-⟩:=fr h;unfold i7 at h3;split at h3
  ·cases h3
  ·rename_i hne;cases h3;exact(aR fun e=>hne (by rw[e])).symm
end
theorem I6 {a b:List Bk}(h:a.length<=100000):FC a b=some (decide (a=b)):=by
 unfold FC;by_cases hl:a.length=b.length
 ·rw[show((a.length:Int) != (b.length:Int))=false by simp[hl],cf]
  have e:=eb (step:=oc a b) (n:=a.length) (fun k=>iw.mk (k:Int)) (i7 a b) (fun j hj=>by
   obtain⟨y,hy,-⟩:=aA hj;obtain⟨z,hz,-⟩:=aA (l:=b) (n:=j);unfold oc i7;simp only;rw[eN,aw hy,ob,aw hz,ob,Hx,ah (n:=j),hy,hz];by_cases e:y=z
   ·rw[aQ e,Bool.not_true,cf,i1_ (by rw[e])]
   ·rw[aR e,Bool.not_false,ct,i0_ (fun q=>e (Option.some.inj q))]) (by
   unfold oc;simp only
   rw[gt])
  have e':iter (oc a b) aY (iw.mk 0)=some (lZ (iw.mk (a.length:Int)) (cW (i7 a b) 0 a.length)):=e;rw[e',ob,<-qF hl]
  cases cW (i7 a b) 0 a.length with
  |none=>rw[lZ,sl]
  |some r=>rw[lZ,sr]
 ·rw[show((a.length:Int) != (b.length:Int))=true by rw[bne_iff_ne];omega,ct,aR fun e=>hl (by rw[e])]
theorem I7 {a b:List Vt}(h:a.length<=100000):FD a b=some (decide (a=b)):=by
 unfold FD;by_cases hl:a.length=b.length
 ·rw[show((a.length:Int) != (b.length:Int))=false by simp[hl],cf]
  have e:=eb (step:=od a b) (n:=a.length) (fun k=>iy.mk (k:Int)) (i7 a b) (fun j hj=>by
   obtain⟨y,hy,-⟩:=aA hj;obtain⟨z,hz,-⟩:=aA (l:=b) (n:=j);unfold od i7;simp only;rw[eN,aw hy,ob,aw hz,ob,JT,ah (n:=j),hy,hz];by_cases e:y=z
   ·rw[aQ e,Bool.not_true,cf,i1_ (by rw[e])]
   ·rw[aR e,Bool.not_false,ct,i0_ (fun q=>e (Option.some.inj q))]) (by
   unfold od;simp only
   rw[gt])
  have e':iter (od a b) aY (iy.mk 0)=some (lZ (iy.mk (a.length:Int)) (cW (i7 a b) 0 a.length)):=e;rw[e',ob,<-qF hl]
  cases cW (i7 a b) 0 a.length with
  |none=>rw[lZ,sl]
  |some r=>rw[lZ,sr]
 ·rw[show((a.length:Int) != (b.length:Int))=true by rw[bne_iff_ne];omega,ct,aR fun e=>hl (by rw[e])]
theorem Lu {a b:Vw}(h1:a.B.length<=100000)(h2:a.V.length<=100000):Kn a b=some (decide (a.B=b.B/\a.V=b.V)):=by
 unfold Kn;rw[I6 h1,ob,I7 h2,ob];by_cases h:a.B=b.B
 ·rw[aQ h,ct];congr 1;exact decide_eq_decide.2 ⟨fun h3=>⟨h,h3⟩,fun h3=>h3.2⟩
 ·rw[aR h,cf,aR fun h3=>h h3.1]
def mayB (c:Cf)(b:Bk):Bool:=decide (0<=oR c b.Slot/\oR c b.Slot=b.From/\nm b≠(0,0))
def mayV (c:Cf)(v:Vt):Bool:=decide (v.From∈nG c v.Slot)
theorem Lv (c:Cf)(b:Bk):Ng c b=some (mayB c b):=by
 unfold Ng mayB;rw[wT,ob];by_cases h1:oR c b.Slot>=0
 ·rw[aQ h1,ct];by_cases h2:oR c b.Slot=b.From
  ·rw[show(oR c b.Slot==b.From)=true by simp[h2],ct,Al];by_cases h3:nm b=(0,0)
   ·rw[aQ h3,Bool.not_true,aR fun h=>h.2.2 h3]
   ·rw[aR h3,Bool.not_false,aQ ⟨h1,h2,h3⟩]
  ·rw[show(oR c b.Slot==b.From)=false by simp[h2],cf,aR fun h=>h2 h.2.1]
 ·rw[aR h1,cf,aR fun h=>h1 h.1]
theorem Lw (c:Cf)(v:Vt):Nh c v=some (mayV c v):=by
 unfold Nh mayV;rw[GK,ob]
theorem bg {l:List α}{n:Nat}(hy:l[n]?=some y):(l.take (n+1)).filter p=(l.take n).filter p++bif p y then[y]else[]:=by
 rw[aM hy,List.filter_append];cases h:p y <;>simp[h]
theorem bU {l:List α}(n:Nat):((l.take n).filter p).length<=n:=
 le_trans (length_filter_le _ _) (by rw[length_take];omega)
theorem CJ (hl:l.length<=100000):DZ c l=some (l.filter (mayB c)):=by
 unfold DZ
 have e:=av (step:=n9 c l) (n:=l.length) (fun k=>gg.mk (k:Int) ((l.take k).filter (mayB c))) (gg.mk (l.length:Int) (l.filter (mayB c))) (fun k hk=>by
  obtain⟨y,hy,-⟩:=aA hk;have hlen:=bU (p:=mayB c) (l:=l) k;unfold n9;simp only;rw[eN,aw hy,ob,Lv,ob,bg hy,ah (n:=k)]
  cases mayB c y with
  |true=>rw[ct,aC (by simp only[length_singleton];omega),ct,ct]
  |false=>rw[cf,cf,append_nil]) (by
  unfold n9;simp only
  rw[gt,take_length]) (by omega)
 have e':iter (n9 c l) aY (gg.mk 0 [])=some (gg.mk (l.length:Int) (l.filter (mayB c))):=e;rw[e',ob]
theorem CK {l:List Vt}(hl:l.length<=100000):D0 c l=some (l.filter (mayV c)):=by
 unfold D0
 have e:=av (step:=oa c l) (n:=l.length) (fun k=>gh.mk (k:Int) ((l.take k).filter (mayV c))) (gh.mk (l.length:Int) (l.filter (mayV c))) (fun k hk=>by
  obtain⟨y,hy,-⟩:=aA hk;have hlen:=bU (p:=mayV c) (l:=l) k;unfold oa;simp only;rw[eN,aw hy,ob,Lw,ob,bg hy,ah (n:=k)]
  cases mayV c y with
  |true=>rw[ct,aC (by simp only[length_singleton];omega),ct,ct]
  |false=>rw[cf,cf,append_nil]) (by
  unfold oa;simp only
  rw[gt,take_length]) (by omega)
 have e':iter (oa c l) aY (gh.mk 0 [])=some (gh.mk (l.length:Int) (l.filter (mayV c))):=e;rw[e',ob]
def bx (c:Cf)(w:Vw):Vw:=⟨w.B.filter (mayB c),w.V.filter (mayV c)⟩
theorem GO (h1:w.B.length<=100000:=by omega)(h2:w.V.length<=100000:=by omega):MY c w=some (bx c w):=by
 unfold MY;rw[CJ h1,ob,CK h2,ob];rfl
theorem Js (h1:w.B.length<=100000)(h2:w.V.length<=100000):GN c w=some ((bx c w).B,(bx c w).V):=by
 unfold GN;rw[CJ h1,ob,CK h2,ob];rfl
def EP (l:List Bk)(n:Nat):Prop:=∃y p,l[n]?=some y/\ak (mh l n) y.Parent=some p/\¬y.Slot<=cB l p/\ak (mh l n) (nm y)=none
theorem HG {l:List Bk}:∀(r n:Nat),l.length-n=r->n<=l.length->((dt l (l.drop n) n (mh l n)).isSome=true↔∀i,n<=i->i<l.length->EP l i)
 |0,n,hr,hn=>by
  have:n=l.length:=by omega
  subst this;rw[List.drop_length];exact⟨fun _ i h1 h2=>by omega,fun _=>rfl⟩
 | r +1,n,hr,hn=>by
  obtain⟨y,hy,-⟩:=aA (l:=l) (n:=n);have ih:=HG (l:=l) r (n+1) (by omega) (by omega)
  have e:mh l (n+1)=mh l n++[(nm y,(n:Int))]:=by simp only[mh,hy]
  rw[e]at ih;rw[ea hy];constructor
  ·intro h i h1 h2
   cases hp:ak (mh l n) y.Parent with
   |none=>rw[hp]at h;cases h
   | some p=>
    rw[hp]at h;simp only at h;by_cases hs:y.Slot<=cB l p
    ·rw[i1_ hs]at h;cases h
    ·rw[i0_ hs]at h
     cases hq:ak (mh l n) (nm y)with
     |some q=>rw[hq]at h;cases h
     |none=>
      rw[hq]at h;by_cases hin:i=n
      ·subst hin;exact⟨y,p,hy,hp,hs,hq⟩
      ·exact ih.1 h i (by omega) h2
  ·intro h;obtain⟨y',p,hy',hp,hs,hq⟩:=h n (le_refl _) (by omega);rw[hy]at hy';cases hy';rw[hp];simp only;rw[i0_ hs,hq];exact ih.2 fun i h1 h2=>h i (by omega) h2
theorem xw :(places l).isSome=true↔∀i,i<l.length->EP l i:=by
 have:=HG (l:=l) l.length 0 (by omega) (zero_le _);rw[show(places l)=dt l (l.drop 0) 0 (mh l 0)from rfl,this];exact⟨fun h i hi=>h i (zero_le _) hi,fun h i _ hi=>h i hi⟩
theorem pW {l m:List Bk}:∀n,(∀i,i<n->l[i]?=m[i]?)->mh l n=mh m n
 |0,_=>rfl
 |n+1,h=>by
  simp only[mh,h n (by omega),pW n fun i hi=>h i (by omega)]
theorem sX {l m:List Bk}{n:Nat}(h:∀i,i<=n->l[i]?=m[i]?)(ho:EP l n)(hn:n<l.length:=by omega):EP m n:=by
 obtain⟨y,p,h1,h2,h3,h4⟩:=ho;have e:=pW n fun i hi=>h i (by omega);refine⟨y,p,by rw[<-h n (le_refl _)];exact h1,by rw[<-e];exact h2,?_,by rw[<-e];exact h4⟩
 have hp:p= -1\/0<=p/\p<n:=by
  rw[nP _ n (by omega)]at h2;split at h2
  ·cases h2;exact .inl rfl
  ·split at h2
   ·rename_i hi;obtain⟨j,b,g1,g2,-⟩:=AL hi;cases h2;exact .inr ⟨by omega,by omega⟩
   ·cases h2
 rcases hp with rfl|⟨h5,h6⟩
 ·simpa [cB]using h3
 ·have:cB m p=cB l p:=by
   simp only[cB,h p.toNat (by omega)]
  rw[this];exact h3
theorem AO {k:Nat}(h:(places l).isSome=true)(hk:k<=l.length):(places (l.take k)).isSome=true:=by
 rw[xw]at h⊢;intro i hi;simp only[length_take]at hi;refine sX (fun j hj=>?_) (h i (by omega));rw[getElem?_take_of_lt (by omega)]
def Di (l:List Bk)(b:Bk):Bool:=(kH l b.Parent).2&&decide (b.Slot>(kH l b.Parent).1)&& !decide (nm b=(0,0))&&decide (rX l (nm b)<0)
theorem HQ (h:places l=some m):(places (l++[b])).isSome=Di l b:=by
 have hl:∀i,i<l.length->EP l i:=xw.1 (by rw[h];rfl)
 have hpre:∀i,i<l.length->l[i]?=(l++[b])[i]?:=fun i hi=>by rw[List.getElem?_append_left hi]
 have hm:mh (l++[b]) l.length=m:=by rw[<-pW l.length hpre,<-wA h]
 have hb:(l++[b])[l.length]?=some b:=by simp
 have hslot:∀p i,ak m p=some i->cB (l++[b]) i=cB l i:=by
  intro p i hf;rcases nM h hf with⟨rfl,-⟩|⟨c,h0,h1,h2,-⟩
  ·rfl
  ·have:¬i= -1:=by omega
   simp only[cB,i0_ this,<-hpre i.toNat (by omega)]
 have key:(places (l++[b])).isSome=true↔EP (l++[b]) l.length:=by
  rw[xw];constructor
  ·intro h1;exact h1 l.length (by simp)
  ·intro h1 i hi;simp only[length_append,length_singleton]at hi;by_cases e:i=l.length
   ·subst e;exact h1
   ·exact sX (fun j hj=>hpre j (by omega)) (hl i (by omega))
 rw[Bool.eq_iff_iff,key];constructor
 ·rintro⟨y,p,h1,h2,h3,h4⟩;rw[hb]at h1;cases h1;rw[hm]at h2 h4;rw[hslot _ _ h2]at h3
  have hz:¬nm b=(0,0):=fun e=>by rw[e,(bc h).zero]at h4;cases h4
  have g1:kH l b.Parent=(cB l p,true):=by simp only[kH,h,h2]
  have g2:rX l (nm b)= -1:=by simp only[rX,h,h4];rfl
  unfold Di;rw[g1,g2,aQ (show b.Slot>cB l p by omega),aR hz];rfl
 ·intro hf;unfold Di at hf;simp only[Bool.and_eq_true,Bool.not_eq_true',decide_eq_true_eq,decide_eq_false_iff_not]at hf;obtain⟨⟨⟨h1,h2⟩,h3⟩,h4⟩:=hf
  cases hp:ak m b.Parent with
  |none=>simp only[kH,h,hp]at h1;cases h1
  | some p=>
   simp only[kH,h,hp]at h2;refine⟨b,p,hb,by rw[hm];exact hp,by rw[hslot _ _ hp];omega,?_⟩;rw[hm];rcases Option.eq_none_or_eq_some (ak m (nm b))with h5|⟨i,h5⟩
   ·exact h5
   ·exfalso;simp only[rX,h,h5,getD_some]at h4;rcases nM h h5 with⟨-,e⟩|⟨c,h0,-⟩
    ·exact h3 e
    ·omega
def FE (v:Vt)(sm:List (ID×Int)):Option Bool:=bif !((ak sm v.Head).isSome)then some true else some (decide (((ak sm v.Head).getD 0)>v.Slot))
theorem OK {sm:List (ID×Int)}{hm:List (Vt×Bool)}(h:FE v sm=some r_):LC prog 191 [.p (aO v),.ptr 9 0] [.dead,.box (cE w),.dead,.dead,.dead,.dead,(mQ sm),(mR hm),.box [(jB 4 w.B),(jV 5 w.V),.map 6,.map 7,(iQ 0),(bQ false)],.box [.ptr 8 0]] (Is (bQ r_) [.dead,.box (cE w),.dead,.dead,.dead,.dead,(mQ sm),(mR hm),.box [(jB 4 w.B),(jV 5 w.V),.map 6,.map 7,(iQ 0),(bQ false)],.box [.ptr 8 0]]):=by
 refine eP Tryz.func191 Z Z Z ?_;unfold FE at h;refine qR<|yS Z (bv Z Z Z Z Z)<|mN Z<|zQ<|dy<|yE Z (zD Z Z Z Ix Z Z)<|yE Z (zn Z Z)<|yE Z (zA Z Z oN)<|yE Z (zD Z Z Z Fg Z Z)<|yE Z (zA Z Z i9)<|yE Z (zD Z Z Z aG Z Z) ?_;refine yE Z (aa.getX (f:=aX) (g:=(fun v=>(iQ v))) v.Head 0 f9 Z Z Z Z ne Kl Z Z) ?_;refine zH Z<|yE Z (eZ Z Z Z)<|yE Z (eZ Z Z Z)<|zH Z<|zH Z<|LO.nil<|zT<|qR<|zM Z<|yS Z (aa.not Z Z)<|zM Z ?_;refine zc 18 Z (fun g1=>?_)<|fun g1=>?_
 ·refine zi g1 h fun h=>yU Z (gd g1 Z) Z<|yU Z (gd g1 Z) Z<|yU Z (gd g1 Z) Z<|yU Z (gd g1 Z) Z<|yS Z (bA Z (aK g1 Z) Z)<|mN Z<|zr ?_;cases h;refine bN (env':=[(3,(bQ true))]) (H':=[.dead,.box (cE w),.dead,.dead,.dead,.dead,(mQ sm),(mR hm),.box [(jB 4 w.B),(jV 5 w.V),.map 6,.map 7,(iQ 0),(bQ false)],.box [.ptr 8 0]]) (zW 10 ⟨Z,t_⟩ Z Z Z (ci (zL Z (zL Z (zL (ai (fun _=>rfl) _) (zL (ai (fun _=>rfl) _) (zL Z (zL Z Z)))))))) (.one (.tmp Z)) ?_;exact⟨rfl,rfl⟩
 ·refine zo g1 h fun h=>yV Z (gd g1 Z) (zm Z Z)<|yV Z (gd g1 Z) (zA Z Z i8)<|yV Z (gd g1 Z) (zD Z Z Z aV Z Z)<|yV Z (gd g1 Z) (am Z Z Z Z)<|yS Z (aU Z (aK g1 Z) Z)<|mN Z<|zr ?_;cases h;refine bN (env':=[(3,.p (.bool (decide (((ak sm v.Head).getD 0)>v.Slot))))]) (H':=[.dead,.box (cE w),.dead,.dead,.dead,.dead,(mQ sm),(mR hm),.box [(jB 4 w.B),(jV 5 w.V),.map 6,.map 7,(iQ 0),(bQ false)],.box [.ptr 8 0]]) (zW 10 ⟨Z,t_⟩ Z Z Z (ci (zL Z (zL Z (zL (ai (fun _=>rfl) _) (zL (ai (fun _=>rfl) _) (zL Z (zL Z Z)))))))) (.one (.tmp Z)) ?_;exact⟨rfl,rfl⟩
structure fO where
 t8:Int
def la (l:List Vt)(sm:List (ID×Int))(x1:fO):Option (fO⊕(fO⊕Int)):=bif decide (x1.t8<(l.length:Int))then (ix l x1.t8).bind fun y1=>(FE y1 sm).bind fun v2=>bif v2 then some (.inr (.inr x1.t8))else some (.inl (fO.mk (i64.wrap (x1.t8+1))))else some (.inr (.inl (fO.mk x1.t8)))
def CP (l:List Vt)(sm:List (ID×Int)):Option Int:=(iter (la l sm) aY (fO.mk 0)).bind fun b_v1=>Sum.elim (fun _=>some (-1)) some b_v1
theorem Mi {l:List Vt}{sm:List (ID×Int)}{hm:List (Vt×Bool)}{r_:Int}(h:CP l sm=some r_):LC prog 183 [(kV l),.fn 191 [] [.ptr 9 0]] [.dead,.box (cE w),.dead,.dead,.dead,.dead,(mQ sm),(mR hm),.box [(jB 4 w.B),(jV 5 w.V),.map 6,.map 7,(iQ 0),(bQ false)],.box [.ptr 8 0]] (Is (iQ r_) [.dead,.box (cE w),.dead,.dead,.dead,.dead,(mQ sm),(mR hm),.box [(jB 4 w.B),(jV 5 w.V),.map 6,.map 7,(iQ 0),(bQ false)],.box [.ptr 8 0]]):=by
 refine eP Tryz.func183 Z Z Z ?_;unfold CP at h;refine qR<|mN Z<|zQ<|qR<|zM Z<|yS Z (cx Z Z)<|mN Z ?_;obtain⟨w1,p1,q1⟩:=zB h;clear h;refine LW.tailB (b:=w1) (E:=fun v1=>[(4,(iQ 0))]) (O:=fun v1=>[.dead,.box (cE w),.dead,.dead,.dead,.dead,(mQ sm),(mR hm),.box [(jB 4 w.B),(jV 5 w.V),.map 6,.map 7,(iQ 0),(bQ false)],.box [.ptr 8 0]]) ?_<|fun v1 f1 e1 K1 u1=>?_
 ·refine LW.block ?_;refine LW.iterB (E:=fun x1:fO=>[(0,(kV l)),(1,.fn 191 [] [.ptr 9 0]),(4,(iQ 0)),(7,.p (.int .i64 (l.length:Int))),(8,(iQ x1.t8))]) (O:=fun x1=>[.dead,.box (cE w),.dead,.dead,.dead,.dead,(mQ sm),(mR hm),.box [(jB 4 w.B),(jV 5 w.V),.map 6,.map 7,(iQ 0),(bQ false)],.box [.ptr 8 0]]) p1 (zW 10 ⟨Z,Z,Z,Z,Z,t_⟩ Z Z Z (ci (zL Z (zL Z (zL (ai (fun _=>rfl) _) (zL (ai (fun _=>rfl) _) (zL Z (zL Z Z))))))))<|fun x1 z1 h m1=>?_;unfold la at h;refine qR<|yS Z (am Z Z Z Z)<|nT<|zQ ?_;refine zX Z (fun g1=>?_)<|fun g1=>?_
  ·refine zi g1 h fun h=>zk<|zT<|zQ<|zl<|qR<|zM Z<|mN Z<|qR<|zM Z<|zM Z<|zM Z<|zb h fun y1 j1 h=>yS Z (zx Z Z Z bz j1 Z)<|yS Z (bS Z Z Z cz Z Z)<|zb h fun v2 a2 h=>yS Z (yC Z Z Z (OK a2))<|nT ?_;refine zX Z (fun g2=>?_)<|fun g2=>?_
   ·refine zi g2 h fun h=>qR<|zM Z<|mN Z<|zr<|ao<|af<|af<|ao<|af<|af ?_;cases h;obtain rfl:=(m1 _ rfl);have h:=bT q1;cases h;exact aD (.one (.tmp Z))<|⟨rfl,rfl⟩
   ·refine zo g2 h fun h=>zk<|ae<|zT<|zR<|yS Z (am Z Z Z Z)<|mN Z ?_;cases h;exact⟨_,rfl,zW 10 ⟨Z,Z,Z,Z,Z,t_⟩ Z Z Z (ci (zL Z (zL Z (zL (ai (fun _=>rfl) _) (zL (ai (fun _=>rfl) _) (zL Z (zL Z Z)))))))⟩
  ·refine zo g1 h fun h=>zq<|aj<|aj<|zy<|zT ?_;cases h;obtain rfl:=(m1 _ rfl);exact⟨_,rfl,zW 10 ⟨Z,t_⟩ Z Z Z (ci (zL Z (zL Z (zL (ai (fun _=>rfl) _) (zL (ai (fun _=>rfl) _) (zL Z (zL Z Z)))))))⟩
 ·obtain rfl:=f1;have h:=cU q1;clear p1;refine zT<|LW.weak u1<|qR<|mN Z<|zr ?_;cases h;exact aD (.one (.tmp Z))<|⟨rfl,rfl⟩
def FF (l:List Vt)(sm:List (ID×Int)):Option Bool:=(CP l sm).bind fun v1=>some (decide (v1>=0))
theorem OL {l:List Vt}{sm:List (ID×Int)}{hm:List (Vt×Bool)}(h:FF l sm=some r_):LC prog 192 [(kV l),.fn 191 [] [.ptr 9 0]] [.dead,.box (cE w),.dead,.dead,.dead,.dead,(mQ sm),(mR hm),.box [(jB 4 w.B),(jV 5 w.V),.map 6,.map 7,(iQ 0),(bQ false)],.box [.ptr 8 0]] (Is (bQ r_) [.dead,.box (cE w),.dead,.dead,.dead,.dead,(mQ sm),(mR hm),.box [(jB 4 w.B),(jV 5 w.V),.map 6,.map 7,(iQ 0),(bQ false)],.box [.ptr 8 0]]):=by
 refine eP Tryz.func192 Z Z Z ?_;unfold FF at h;refine qR<|mN Z<|qR<|zM Z<|zM Z<|zb h fun v1 a1 h=>yS Z (yC Z Z Z (Mi a1))<|yS Z (am Z Z Z Z)<|mN Z<|zr ?_;cases h;exact aD (.one (.tmp Z))<|⟨rfl,rfl⟩
def Ni (c:Cf)(w:Vw):Option Bool:=((D9 c).bind fun v2=>bif !v2 then some true else (MT w.B).bind fun v3=>bif !v3 then some true else bif decide ((w.B.length:Int)>60)then some true else some (decide ((w.V.length:Int)>240))).bind fun v1=>bif v1 then some false else (MY c w).bind fun v4=>(bif (v4.B.length:Int) != (w.B.length:Int)then some true else some ((v4.V.length:Int) != (w.V.length:Int))).bind fun v5=>bif v5 then some false else (D1 w 0).bind fun v6=>bif xg v6.2 then bif (v6.2.length:Int)==(w.V.length:Int)then (FF w.V v6.1).bind fun v7=>some (!v7)else some false else none
theorem Ry (h:Ni c w=some r_):aq prog 154 [gF c,iW w] [.bool r_]:=by
 refine zh Tryz.func154 Z Z Z Z ?_;unfold Ni at h;refine qR<|yS Z (bv Z Z Z Z Z)<|yS Z (bv Z Z Z Z Z)<|mN Z<|zQ ?_;obtain⟨v1,p1,b1⟩:=zB h;clear h;refine LW.cut (E:=[(2,.ptr 0 0),(3,.ptr 1 0),(4,(bQ false)),(28,(bQ v1))]) (O:=[.box (cd c),.box (cE w)]) ?_ ?_
 ·have h:=p1;refine zR<|yS Z (zD Z Z Z bd Z Z)<|zb h fun v2 a2 h=>yS Z (yP Z Z Z (L5 a2) dB)<|yS Z (aa.not Z Z)<|zM Z ?_;refine zc 11 Z (fun g1=>?_)<|fun g1=>?_
  ·refine zi g1 h fun h=>yU Z (gd g1 Z) Z<|yU Z (gd g1 Z) Z<|yU Z (gd g1 Z) Z<|yU Z (gd g1 Z) Z<|yS Z (bA Z (aK g1 Z) Z)<|zM Z<|aB Z<|aB Z<|aB Z<|aB Z<|yS Z (bA Z Z Z)<|zM Z<|aB Z<|aB Z<|aB Z<|aB Z<|yS Z (bA Z Z Z)<|nT ?_;cases h;exact au 2 ⟨Z,Z,Z,Z,t_⟩
  ·refine zo g1 h fun h=>yV Z (gd g1 Z) (zA Z Z aL)<|yV Z (gd g1 Z) (zD Z Z Z bL Z Z)<|zb h fun v3 a3 h=>yV Z (gd g1 Z) (yP Z Z Z (Ra a3) dB)<|yV Z (gd g1 Z) (aa.not Z Z)<|yS Z (aU Z (aK g1 Z) Z)<|zM Z ?_;refine zc 17 Z (fun g2=>?_)<|fun g2=>?_
   ·refine zi g2 h fun h=>yU Z (gd g2 Z) Z<|yU Z (gd g2 Z) Z<|yU Z (gd g2 Z) Z<|yU Z (gd g2 Z) Z<|yS Z (bA Z (aK g2 Z) Z)<|zM Z<|aB Z<|aB Z<|aB Z<|aB Z<|yS Z (bA Z Z Z)<|nT ?_;cases h;exact au 2 ⟨Z,Z,Z,Z,t_⟩
   ·refine zo g2 h fun h=>yV Z (gd g2 Z) (zA Z Z aL)<|yV Z (gd g2 Z) (zD Z Z Z bL Z Z)<|yV Z (gd g2 Z) (cx Z Z)<|yV Z (gd g2 Z) (am Z Z Z Z)<|yS Z (aU Z (aK g2 Z) Z)<|zM Z ?_;refine zc 23 Z (fun g3=>?_)<|fun g3=>?_
    ·refine zi g3 h fun h=>yU Z (gd g3 Z) Z<|yU Z (gd g3 Z) Z<|yU Z (gd g3 Z) Z<|yU Z (gd g3 Z) Z<|yS Z (bA Z (aK g3 Z) Z)<|nT ?_;cases h;exact au 2 ⟨Z,Z,Z,Z,t_⟩
    ·refine zo g3 h fun h=>yV Z (gd g3 Z) (zA Z Z aS)<|yV Z (gd g3 Z) (zD Z Z Z cq Z Z)<|yV Z (gd g3 Z) (cx Z Z)<|yV Z (gd g3 Z) (am Z Z Z Z)<|yS Z (aU Z (aK g3 Z) Z)<|nT ?_;cases h;exact au 2 ⟨Z,Z,Z,Z,t_⟩
 ·have h:=b1;clear p1;refine zX Z (fun g4=>?_)<|fun g4=>?_
  ·refine zi g4 h fun h=>qR<|mN Z<|LW.ret<|af ?_;cases h;exact ba Z
  ·refine zo g4 h fun h=>zk<|zT<|qR<|yS Z (zD Z Z Z bd Z Z)<|yS Z (zD Z Z Z aI Z Z)<|zb h fun v4 a4 h=>yS Z (yP Z Z Z (Rf a4) bR)<|yS Z (ze Z d7 Z Z)<|yS Z (zs Z Z Z Z aI Z Z Z Z)<|nT<|zQ ?_;obtain⟨v5,p5,b5⟩:=zB h;clear h;refine LW.cut (E:=[(3,.ptr 1 0),(4,(bQ false)),(47,(bQ v5))]) (O:=[.box (cd c),.box (cE w),.box (cE v4)]) ?_ ?_
   ·have h:=p5;refine zR<|yS Z (zA Z Z aL)<|yS Z (zD Z Z Z bL Z Z)<|yS Z (cx Z Z)<|yS Z (zA Z Z aL)<|yS Z (zD Z Z Z bL Z Z)<|yS Z (cx Z Z)<|yS Z (am Z Z Z Z)<|zM Z ?_;refine zc 39 Z (fun g5=>?_)<|fun g5=>?_
    ·refine zi g5 h fun h=>yU Z (gd g5 Z) Z<|yU Z (gd g5 Z) Z<|yU Z (gd g5 Z) Z<|yU Z (gd g5 Z) Z<|yU Z (gd g5 Z) Z<|yU Z (gd g5 Z) Z<|yU Z (gd g5 Z) Z<|yS Z (bA Z (aK g5 Z) Z)<|nT ?_;cases h;exact au 3 ⟨Z,Z,Z,t_⟩
    ·refine zo g5 h fun h=>yV Z (gd g5 Z) (zA Z Z aS)<|yV Z (gd g5 Z) (zD Z Z Z cq Z Z)<|yV Z (gd g5 Z) (cx Z Z)<|yV Z (gd g5 Z) (zA Z Z aS)<|yV Z (gd g5 Z) (zD Z Z Z cq Z Z)<|yV Z (gd g5 Z) (cx Z Z)<|yV Z (gd g5 Z) (am Z Z Z Z)<|yS Z (aU Z (aK g5 Z) Z)<|nT ?_;cases h;exact au 3 ⟨Z,Z,Z,t_⟩
   ·have h:=b5;clear p5;refine zX Z (fun g6=>?_)<|fun g6=>?_
    ·refine zi g6 h fun h=>qR<|mN Z<|LW.ret<|af ?_;cases h;exact ba Z
    ·refine zo g6 h fun h=>zk<|zT<|qR<|yS Z (zD Z Z Z aI Z Z)<|zb h fun v6 a6 h=>yS Z (zC Z Z Z (by kernel_rfl) (LC.frameX (x':=.ptr 8 0) (H':=[.box (cd c),.box (cE w),.box (cE v4),.box (cE w),.vec 5 (w.B.map ay),.vec 4 (w.V.map aO),(mQ v6.1),(mR v6.2),.box [(jB 4 w.B),(jV 5 w.V),.map 6,.map 7,(iQ 0),(bQ false)]]) (KM a6) (.consC zv (.consC zv .nil)) Z Z (by simp only[map_cons,map_nil,cons_append,nil_append,ab.shift,LV.shifts,LV.shift,Dc,Db] <;>rfl)))<|yS Z (ze Z PZ Z Z)<|yS Z (zs Z Z Z Z Ix Z Z Z Z)<|nT<|zQ<|LW.ent (bW.kill (i:=0) Z)<|LW.ent (bW.kill (i:=2) Z)<|LW.ent (bW.kill (i:=3) Z)<|LW.ent (bW.kill (i:=4) Z)<|LW.ent (bW.kill (i:=5) Z)<|zR<|yS Z (aa.makeFunc Z Z Z)<|mN Z<|zQ<|dy<|yE Z (zD Z Z Z Ix Z Z)<|yE Z (zn Z Z)<|yE Z (zA Z Z tA)<|yE Z (zD Z Z Z DO Z Z)<|zg h fun q1 h=>yE Z (aa.lenMapX Z Z Z (by kernel_rfl) q1)<|yE Z (zA Z Z aS)<|yE Z (zD Z Z Z cq Z Z)<|yE Z (cx Z Z)<|yE Z (am Z Z Z Z)<|zH Z ?_;refine LO.cases 60 Z (fun(g7:((v6.2.length:Int)==(w.V.length:Int))=true)=>?_) (fun(g7:((v6.2.length:Int)==(w.V.length:Int))=false)=>?_)
     ·refine zi g7 h fun h=>yL Z (gd g7 Z) (zA Z Z aS)<|yL Z (gd g7 Z) (zD Z Z Z cq Z Z)<|yL Z (gd g7 Z) (zm Z Z)<|zb h fun v7 a7 h=>yL Z (gd g7 Z) (yC Z Z Z (OL a7))<|yL Z (gd g7 Z) (aa.not Z Z)<|yE Z (bA Z (aK g7 Z) Z)<|zH Z<|LO.nil<|zT<|zr ?_;cases h;exact ba Z
     ·refine zo g7 h fun h=>yK Z (gd g7 Z) Z<|yK Z (gd g7 Z) Z<|yK Z (gd g7 Z) Z<|yK Z (gd g7 Z) Z<|yK Z (gd g7 Z) Z<|yE Z (aU Z (aK g7 Z) Z)<|zH Z<|LO.nil<|zT<|zr ?_;cases h;exact ba Z
def bI (B:List Bk)(id:ID):Option Int:=if id=(0,0)then some 0 else(B.find? fun b=>decide (nm b=id)).map Bk.Slot
theorem u7 (B:List Bk)(b:Bk)(id:ID):bI (B++[b]) id=(bI B id).or (if nm b=id then some b.Slot else none):=by
 unfold bI;by_cases h:id=(0,0)
 ·rw[i1_ h,i1_ h];rfl
 ·rw[i0_ h,i0_ h,List.find?_append]
  cases B.find? fun b=>decide (nm b=id)with
  |some x=>rfl
  |none=>
   by_cases h2:nm b=id
   ·simp[h2]
   ·simp[h2]
theorem mT {B:List Bk}{s:Int}(h:bI B id=some s)(t:List Bk):bI (B++t) id=some s:=by
 unfold bI at h⊢;by_cases h0:id=(0,0)
 ·rw[i1_ h0]at h⊢;exact h
 ·rw[i0_ h0]at h⊢;rw[List.find?_append]
  cases hf:B.find? fun b=>decide (nm b=id)with
  |some x=>rw[hf]at h;exact h
  |none=>rw[hf]at h;cases h
theorem E5 {B:List Bk}{s:Int}(h:bI B id=some s):(id=(0,0)/\s=0)\/(id≠(0,0)/\∃b∈B,nm b=id/\b.Slot=s):=by
 unfold bI at h;by_cases h0:id=(0,0)
 ·rw[i1_ h0]at h;cases h;exact .inl ⟨h0,rfl⟩
 ·rw[i0_ h0]at h
  cases hf:B.find? fun b=>decide (nm b=id)with
  |none=>rw[hf]at h;cases h
  |some x=>
   rw[hf]at h;cases h;exact .inr ⟨h0,x,List.mem_of_find?_eq_some hf,(by simpa using find?_some hf),rfl⟩
theorem Ch {B:List Bk}(h:b∈B):∃s,bI B (nm b)=some s:=by
 unfold bI;by_cases h0:nm b=(0,0)
 ·rw[i1_ h0];exact⟨_,rfl⟩
 ·rw[i0_ h0]
  cases hf:B.find? fun q=>decide (nm q=nm b)with
  |some x=>exact⟨_,rfl⟩
  |none=>
   rw[List.find?_eq_none]at hf;have:=hf b h;simp at this
def dV (B:List Bk):Prop:=(places B).isSome=true
theorem Fe :dV []:=rfl
theorem rz (h:places l=some m)(id:ID):bI l id=(ak m id).map (cB l):=by
 have hI:=bc h;unfold bI;by_cases h0:id=(0,0)
 ·rw[i1_ h0,h0,hI.zero];simp[cB]
 ·rw [i0_ h0]
  cases hf:ak m id with
  | none=>
   cases hq:l.find? fun b=>decide (nm b=id)with
   |none=>rfl
   |some b=>
    exfalso;have hb:=List.mem_of_find?_eq_some hq
    have hn:nm b=id:=by simpa using find?_some hq
    obtain⟨i,hi⟩:=getElem?_of_mem hb;have:=hI.names i b (List.getElem?_eq_some_iff.1 hi).1 hi;rw[hn,hf]at this;cases this
  | some i=>
   rcases hI.known _ _ hf with⟨-,h1⟩|⟨b,p,h1,h2,h3,h4,-⟩
   ·exact absurd h1 h0
   ·cases hq:l.find? fun b=>decide (nm b=id)with
    |none=>
     rw[List.find?_eq_none]at hq;have:=hq b (List.mem_of_getElem? h3);simp[h4]at this
    |some b'=>
     have hb:=List.mem_of_find?_eq_some hq
     have hn:nm b'=id:=by simpa using find?_some hq
     obtain⟨j,hj⟩:=getElem?_of_mem hb;have:=hI.names j b' (List.getElem?_eq_some_iff.1 hj).1 hj;rw[hn,hf]at this;cases this;simp[cB,hj,show¬(j:Int)= -1 by omega]
theorem E4 (h:places l=some m)(id:ID):kH l id=match bI l id with|some s=>(s,true)|none=>(0,false):=by
 rw[rz h];unfold kH;rw[h];simp only;cases ak m id <;>rfl
theorem Hy (h:places l=some m)(id:ID):(¬id=(0,0)/\rX l id<0)↔bI l id=none:=by
 rw[rz h];unfold rX;rw[h];simp only
 cases hf:ak m id with
 |none=>
  refine⟨fun _=>rfl,fun _=>⟨fun e=>?_,by simp⟩⟩;rw[e,(bc h).zero]at hf;cases hf
 |some i=>
  refine⟨fun h1=>?_,fun h1=>by cases h1⟩;rcases(bc h).known _ _ hf with⟨-,h2⟩|⟨_,_,h2,-⟩
  ·exact absurd h2 h1.1
  ·have:=h1.2;simp at this;omega
theorem vk {B:List Bk}:dV (B++[b])↔dV B/\(∃s,bI B b.Parent=some s/\s<b.Slot)/\bI B (nm b)=none:=by
 have key:∀{m},places B=some m->(dV (B++[b])↔(∃s,bI B b.Parent=some s/\s<b.Slot)/\bI B (nm b)=none):=by
  intro m hm;unfold dV;rw[HQ hm,<-Hy hm];unfold Di;rw[E4 hm]
  cases bI B b.Parent with
  |none=>simp
  |some s=>simp[and_assoc]
 cases hm:places B with
 |some m=>
  rw[key hm];exact⟨fun h=>⟨by unfold dV;rw[hm];rfl,h⟩,fun h=>h.2⟩
 |none=>
  have hno:¬dV B:=by unfold dV;rw[hm];simp
  refine⟨fun h=>absurd ?_ hno,fun h=>absurd h.1 hno⟩;have:=AO (k:=B.length) h (by simp)
  rwa [take_left' rfl]at this
theorem Co {B:List Bk}(h:dV B)(k:Nat):dV (B.take k):=by
 by_cases hk:k<=B.length
 ·exact AO h hk
 ·rw[take_of_length_le (by omega)];exact h
def A6 :List Bk->List (ID×Int)->List (ID×Int)
 |[],m=>m
 |b::r,m=>A6 r (bK m (nm b) b.Slot)
def p0 (B:List Bk):List (ID×Int):=A6 B [((0,0),0)]
def AC :List Vt->List (Vt×Bool)->List (Vt×Bool)
 |[],m=>m
 |v::r,m=>AC r (bK m v true)
def nb (V:List Vt):List (Vt×Bool):=AC V []
theorem wC (b:Bk):∀(B:List Bk) (m),A6 (B++[b]) m=bK (A6 B m) (nm b) b.Slot
 |[],_=>rfl
 |_::r,_=>wC b r _
theorem wq (v:Vt):∀(V:List Vt) (m),AC (V++[v]) m=bK (AC V m) v true
 |[],_=>rfl
 |_::r,_=>wq v r _
theorem wE (B:List Bk)(b:Bk):p0 (B++[b])=bK (p0 B) (nm b) b.Slot:=wC b B _
theorem wu (V:List Vt)(v:Vt):nb (V++[v])=bK (nb V) v true:=wq v V _
theorem ry [DecidableEq α](m:List (α×β))(k:α)(v:β):(bK m k v).length=if (ak m k).isSome then m.length else m.length+1:=by
 induction m with
 |nil=>simp[bK,ak]
 |cons p r ih=>
  obtain⟨a,b⟩:=p;by_cases h:a=k
  ·simp[bK,ak,h]
  ·cases hf:ak r k <;>simp[bK,ak,h,hf]at ih⊢<;>exact ih
theorem Ii (B:List Bk):(p0 B).length<=B.length+1:=by
 unfold p0
 have:∀(B:List Bk) (m:List (ID×Int)),(A6 B m).length<=B.length+m.length:=by
  intro B
  induction B with
  |nil=>intro m;simp[A6]
  |cons b r ih=>
   intro m;have h1:=ih (bK m (nm b) b.Slot);have h2:=ry m (nm b) b.Slot;unfold A6;simp only[length_cons];split at h2 <;>omega
 have:=this B [((0,0),0)];simpa using this
theorem wD {B:List Bk}(h:dV B):∀id,ak (p0 B) id=bI B id:=by
 have key:∀k,k<=B.length->∀id,ak (p0 (B.take k)) id=bI (B.take k) id:=by
  intro k
  induction k with
  |zero=>
   intro _ id;simp only[List.take_zero];unfold p0 A6 bI ak ak;by_cases e:id=(0,0)
   ·simp[e]
   ·simp[e,Ne.symm e]
  |succ k ih=>
   intro hk id;obtain⟨b,hb,-⟩:=aA (l:=B) (n:=k);have hv:=Co h (k+1);rw[aM hb]at hv⊢;rw[vk]at hv;rw[wE,di,u7,ih (by omega)];by_cases e:nm b=id
   ·rw[i1_ e,i1_ e,<-e,hv.2.2];rfl
   ·rw[i0_ e,i0_ e];cases bI (B.take k) id <;>rfl
 have:=key B.length (le_refl _)
 rwa [take_length]at this
theorem wt (V:List Vt)(v:Vt):ak (nb V) v=if v∈V then some true else none:=by
 have:∀(V:List Vt) (m:List (Vt×Bool)),ak (AC V m) v=if v∈V then some true else ak m v:=by
  intro V
  induction V with
  |nil=>intro m;simp[AC]
  | cons x r ih=>
   intro m;unfold AC;rw[ih,di];by_cases h:v∈r
   ·simp[h]
   ·by_cases h2:x=v
    ·simp[h2]
    ·simp[h,h2,Ne.symm h2]
 rw[nb,this];rfl
theorem AD (V:List Vt):(nb V).length<=V.length/\((nb V).length=V.length↔V.Nodup):=by
 have key:∀k,k<=V.length->(nb (V.take k)).length<=k/\((nb (V.take k)).length=k↔(V.take k).Nodup):=by
  intro k
  induction k with
  |zero=>intro _;simp[nb,AC]
  |succ k ih=>
   intro hk;obtain⟨v,hv,-⟩:=aA (l:=V) (n:=k);obtain⟨h1,h2⟩:=ih (by omega);rw[aM hv,wu,ry,wt,List.nodup_append];by_cases hm:v∈V.take k
   ·rw[i1_ hm];refine⟨by simp;omega,⟨fun e=>by simp at e;omega,fun h=>absurd Z (h.2.2 v hm v (by simp))⟩⟩
   ·rw[i0_ hm];refine⟨by simp;omega,⟨fun e=>⟨h2.1 (by simp at e;omega),by simp,fun a ha b hb=>by rw[mem_singleton]at hb;subst hb;exact fun q=>hm (q▸ha)⟩,fun h=>?_⟩⟩;have:=h2.2 h.1;simp;omega
 have:=key V.length (le_refl _)
 rwa [take_length]at this
theorem CL {u:Int}(h1:w.B.length<=90000:=by omega)(h2:w.V.length<=90000:=by omega):D1 w u=some (p0 w.B,nb w.V):=by
 unfold D1;rw[aC,ct,aC,ct]
 have e1:=av (step:=og w) (n:=w.B.length) (fun k=>gG.mk (k:Int) (p0 (w.B.take k))) (gG.mk (w.B.length:Int) (p0 w.B)) (fun k hk=>by
  obtain⟨y,hy,-⟩:=aA hk;unfold og;simp only
  rw[eN,aw hy,ob,aM hy,wE,ah (n:=k)]) (by
  unfold og;simp only
  rw[gt,take_length]) (by omega)
 have e1':iter (og w) aY (gG.mk 0 (bK [] (0,0) 0))=some (gG.mk (w.B.length:Int) (p0 w.B)):=e1
 have e2:=av (step:=oh w) (n:=w.V.length) (fun k=>gH.mk (k:Int) (nb (w.V.take k))) (gH.mk (w.V.length:Int) (nb w.V)) (fun k hk=>by
  obtain⟨y,hy,-⟩:=aA hk;unfold oh;simp only
  rw[eN,aw hy,ob,aM hy,wu,ah (n:=k)]) (by
  unfold oh;simp only
  rw[gt,take_length]) (by omega)
 have e2':iter (oh w) aY (gH.mk 0 [])=some (gH.mk (w.V.length:Int) (nb w.V)):=e2;rw[e1',ob,e2',ob]
def forB (B:List Bk)(v:Vt):Prop:=∃s,bI B v.Head=some s/\s<=v.Slot
def z7 (sm:List (ID×Int))(v:Vt):Bool:=match ak sm v.Head with
 |none=>true
 |some s=>decide (s>v.Slot)
theorem I8 (v:Vt)(sm:List (ID×Int)):FE v sm=some (z7 sm v):=by
 unfold FE z7
 cases ak sm v.Head with
 |none=>rfl
 |some s=>rfl
def we (sm:List (ID×Int))(l:List Vt)(j:Nat):Option Int:=match l[j]? with
 |some v=>if z7 sm v=true then some (j:Int)else none
 |none=>none
theorem I9 {l:List Vt}(hl:l.length<=90000)(sm:List (ID×Int)):FF l sm=some (l.any (z7 sm)):=by
 have e:=eb (step:=la l sm) (n:=l.length) (fun k=>fO.mk (k:Int)) (we sm l) (fun j hj=>by
  obtain⟨y,hy,-⟩:=aA hj;unfold la we;simp only;rw[eN,aw hy,ob,I8,ob,ah (n:=j),hy];simp only
  cases z7 sm y with
  |true=>rw[ct,i1_ rfl]
  |false=>rw[cf,i0_ (by simp)]) (by
  unfold la;simp only
  rw[gt])
 unfold FF CP;have e':iter (la l sm) aY (fO.mk 0)=some (lZ (fO.mk (l.length:Int)) (cW (we sm l) 0 l.length)):=e;rw[e',ob]
 cases h:cW (we sm l) 0 l.length with
 |none=>
  rw[lZ,sl,ob];rw[gD]at h;congr 1;rw[show decide ((-1:Int)>=0)=false from rfl];symm;rw[List.any_eq_false];intro v hv;obtain⟨j,hj⟩:=getElem?_of_mem hv;have:=h j (zero_le _) (by have:=(List.getElem?_eq_some_iff.1 hj).1;omega);unfold we at this;rw[hj]at this;simp only at this;intro hb;rw[i1_ hb]at this;cases this
 | some r=>
  obtain⟨j,-,-,h3,-⟩:=fr h;unfold we at h3;split at h3
  ·rename_i v hv;split at h3
   ·rename_i hb;cases h3;rw[lZ,sr,ob,aQ (show(j:Int)>=0 by omega)];congr 1;symm;rw[any_eq_true];exact⟨v,List.mem_of_getElem? hv,hb⟩
   ·cases h3
  ·cases h3
structure i4 (c:Cf)(w:Vw):Prop where
 conf:cZ c
 valid:dV w.B
 lenB:w.B.length<=60
 lenV:w.V.length<=240
 mayB:∀b∈w.B,mayB c b=true
 mayV:∀v∈w.V,mayV c v=true
 nodup:w.V.Nodup
 forB:∀v∈w.V,forB w.B v
open Classical in
theorem Lx (h1:w.B.length<=1000)(h2:w.V.length<=1000):Ni c w=some (decide (i4 c w)):=by
 have hno:∀h:¬i4 c w,decide (i4 c w)=false:=fun h=>aR h;unfold Ni;rw[mr,ob];by_cases c1:cZ c
 ·rw [aQ c1,Bool.not_true,cf,GF,ob];by_cases c2:dV w.B
  ·rw [show(places w.B).isSome=true from c2,Bool.not_true,cf];by_cases c3:w.B.length<=60
   ·rw [aR (show¬(w.B.length:Int)>60 by omega),cf,ob];by_cases c4:w.V.length<=240
    ·rw [aR (show¬(w.V.length:Int)>240 by omega),cf,GO,ob]
     have hfB:(bx c w).B.length=w.B.length↔∀b∈w.B,mayB c b=true:=by unfold bx;exact List.length_filter_eq_length_iff
     have hfV:(bx c w).V.length=w.V.length↔∀v∈w.V,mayV c v=true:=by unfold bx;exact List.length_filter_eq_length_iff
     by_cases c5:∀b∈w.B,mayB c b=true
     ·rw [show(((bx c w).B.length:Int) != (w.B.length:Int))=false by rw[hfB.2 c5];simp,cf,ob];by_cases c6:∀v∈w.V,mayV c v=true
      ·have hm:=AD w.V;rw[show(((bx c w).V.length:Int) != (w.V.length:Int))=false by rw[hfV.2 c6];simp,cf,CL,ob,show xg (nb w.V)=true from aQ (by omega),ct];by_cases c7:w.V.Nodup
       ·rw[show(((nb w.V).length:Int)==(w.V.length:Int))=true by rw[hm.2.2 c7];simp,ct,I9 (by omega),ob];congr 1
        have hbad:∀v,z7 (p0 w.B) v=false↔Go.Mg.forB w.B v:=by
         intro v;unfold z7 Go.Mg.forB;rw[wD c2]
         cases bI w.B v.Head with
         |none=>simp
         |some s=>simp
        cases ha:w.V.any (z7 (p0 w.B))with
        |true=>
         obtain⟨v,hv,hb⟩:=any_eq_true.1 ha;symm;refine hno fun h=>?_;have:=(hbad v).2 (h.forB v hv);rw[hb]at this;cases this
        |false=>
         rw[List.any_eq_false]at ha;symm;exact aQ ⟨c1,c2,c3,c4,c5,c6,c7,fun v hv=>(hbad v).1 (by have:=ha v hv;simpa using this)⟩
       ·rw[show(((nb w.V).length:Int)==(w.V.length:Int))=false by
         rw[beq_eq_false_iff_ne];intro e;exact c7 (hm.2.1 (by omega)),cf,hno fun h=>c7 h.nodup]
      ·rw[show(((bx c w).V.length:Int) != (w.V.length:Int))=true by
        rw[bne_iff_ne];intro e;exact c6 (hfV.1 (by omega)),ct,hno fun h=>c6 h.mayV]
     ·rw[show(((bx c w).B.length:Int) != (w.B.length:Int))=true by
       rw[bne_iff_ne];intro e;exact c5 (hfB.1 (by omega)),ct,ob,ct,hno fun h=>c5 h.mayB]
    ·rw[aQ (show(w.V.length:Int)>240 by omega),ct,hno fun h=>c4 h.lenV]
   ·rw[aQ (show(w.B.length:Int)>60 by omega),ct,ob,ct,hno fun h=>c3 h.lenB]
  ·rw[show(places w.B).isSome=false from by unfold dV at c2;simpa using c2,Bool.not_false,ct,ob,ct,hno fun h=>c2 h.valid]
 ·rw[aR c1,Bool.not_false,ct,ob,ct,hno fun h=>c1 h.conf]
structure ib where
 n:Int
 o6:List Bk
 o7:List Vt
 o8:List (ID×Int)
 o9:List (Vt×Bool)
 x_5:Bool
 o14:List Bk
 o15:List Vt
 left_0:Nat
 left_1:Nat
def py (slot:Int)(x1:ib):Option (ib⊕ib):=bif x1.n != (i64.wrap ((x1.o6.length:Int)+(x1.o7.length:Int)))then (FI x1.o14 x1.left_0 x1.o6 x1.o8 slot x1.x_5).bind fun v5=>(FJ x1.o15 x1.left_1 x1.o7 v5.2.2.2.1 x1.o9 slot v5.2.2.2.2).bind fun v6=>some (.inl (ib.mk (i64.wrap ((x1.o6.length:Int)+(x1.o7.length:Int))) v5.2.2.1 v6.2.2.1 v5.2.2.2.1 v6.2.2.2.1 v6.2.2.2.2 v5.2.1 v6.2.1 v5.1 v6.1))else some (.inr (ib.mk x1.n x1.o6 x1.o7 x1.o8 x1.o9 x1.x_5 x1.o14 x1.o15 x1.left_0 x1.left_1))
def Nj (c:Cf)(w:Vw)(v_in:Vw)(slot:Int):Option (Vw×Vw×Bool):=(D1 w slot).bind fun v1=>(Ni c w).bind fun v2=>bif !v2 then bif bG 0 v_in.B.length 40 then bif bG 0 v_in.V.length 32 then some (w,v_in,false)else none else none else (GN c v_in).bind fun v3=>(iter (py slot) aY (ib.mk (-1) w.B w.V v1.1 v1.2 false v3.1 v3.2 ((v3.1.map ay).length) ((v3.2.map aO).length))).bind fun v4=>bif ble v4.left_0 v4.o14.length then bif ble v4.left_1 v4.o15.length then some (Vw.mk v4.o6 v4.o7,Vw.mk (v4.o14.take v4.left_0) (v4.o15.take v4.left_1),v4.x_5)else none else none
theorem Rz {v_in:Vw}{r_:Vw×Vw×Bool}(h:Nj c w v_in slot=some r_):aq prog 128 [gF c,iW w,iW v_in,.int .i64 slot] [iW r_.1,iW r_.2.1,.bool r_.2.2]:=by
 refine zh Tryz.func128 Z Z Z Z ?_;unfold Nj at h;refine qR<|yS Z (bv Z Z Z Z Z)<|yS Z (bv Z Z Z Z Z)<|yS Z (bv Z Z Z Z Z)<|yS Z (ze Z d7 Z Z)<|yS Z (ze Z d7 Z Z)<|mN Z<|qR<|yS Z (zD Z Z Z aI Z Z)<|zM Z<|zb h fun v1 a1 h=>yS Z (zC Z Z Z (by kernel_rfl) (LC.frameX (x':=.ptr 10 0) (H':=[.box (cd c),.box (cE w),.box (cE v_in),.box [.zs,.zs],.box [.zs,.zs],.box (cE w),.vec 5 (w.B.map ay),.vec 4 (w.V.map aO),(mQ v1.1),(mR v1.2),.box [(jB 6 w.B),(jV 7 w.V),.map 8,.map 9,(iQ slot),(bQ false)]]) (KM a1) (.consC zv (.consC zv .nil)) Z Z (by simp only[map_cons,map_nil,cons_append,nil_append,ab.shift,LV.shifts,LV.shift,Dc,Db] <;>rfl)))<|mN Z<|zQ<|qR<|yS Z (zD Z Z Z bd Z Z)<|yS Z (zD Z Z Z aI Z Z)<|zb h fun v2 a2 h=>yS Z (yP Z Z Z (Ry a2) bR)<|yS Z (aa.not Z Z)<|nT ?_;refine zX Z (fun g1=>?_)<|fun g1=>?_
 ·refine zi g1 h fun h=>zQ<|LW.ent (bW.slot Z)<|LW.ent (bW.slot Z)<|fC<|zK Z<|yG Z (fun H _=>zn Z Z)<|yG Z (fun H _=>zA Z Z gr)<|yF Z (zd Z Z Z aI Z Z) Z<|yG Z (fun H _=>zA Z Z aL)<|yF Z (zd Z Z Z bL Z Z) Z<|zg h fun q1 h=>?_;refine yF Z (ch.callV (id:=11) (qs:=[(kB v_in.B)]) Z Z Z (by kernel_rfl) (Ab q1) (fun H=>(.consC zv .nil)) Z) Z ?_;refine yG Z (fun H _=>zA Z Z aS)<|yF Z (zd Z Z Z cq Z Z) Z<|zg h fun q2 h=>?_;refine yF Z (ch.callV (id:=12) (qs:=[(kV v_in.V)]) Z Z Z (by kernel_rfl) (Ad q2) (fun H=>(.consC zv .nil)) Z) Z ?_;refine yG Z (fun H _=>aa.build Z nF Z Z Z)<|yF Z (zt Z Z Z Z aI Z Z Z) Z<|yF Z (zt Z Z Z Z aI Z Z Z) Z<|zK Z ?_;refine LF.nil ⟨by kernel_rfl,?_⟩;refine zT<|zr<|af ?_;cases h;exact zf (.three (eh Z Z) (eh Z Z) (.tmp Z))<|⟨_,rfl,(.cons (Conv.agg (.cons (Conv.vecAll Z Z Z) (.cons (Conv.vecAll Z Z Z) .nil))) (.cons (Conv.agg (.cons (Conv.vecAll Z Z Z) (.cons (Conv.vecAll Z Z Z) .nil))) dB))⟩
 ·refine zo g1 h fun h=>zk<|zT<|qR<|zM Z<|yS Z (aa.makeFunc Z Z Z)<|zM Z<|yS Z (aa.makeFunc Z Z Z)<|zM Z<|mN Z<|qR<|yS Z (zD Z Z Z bd Z Z)<|yS Z (zD Z Z Z aI Z Z)<|zb h fun v3 a3 h=>?_;refine yS Z (zC Z Z Z (by kernel_rfl) (LC.frameX (x':=.agg [(jB 14 v3.1),(jV 15 v3.2)]) (H':=[.box (cd c),.box (cE w),.box (cE v_in),.box [.zs,.zs],.box [.zs,.zs],.box (cE w),.vec 5 (w.B.map ay),.vec 4 (w.V.map aO),(mQ v1.1),(mR v1.2),.box [(jB 6 w.B),(jV 7 w.V),.map 8,.map 9,(iQ slot),(bQ false)],.box (cd c),.box (cE v_in),.box [(jB 14 v3.1),(jV 15 v3.2)],.vec 5 (v3.1.map ay),.vec 4 (v3.2.map aO)]) (OS a3) (.consC zv (.consC zv .nil)) Z Z (by simp only[map_cons,map_nil,cons_append,nil_append,ab.shift,LV.shifts,LV.shift] <;>rfl))) ?_;refine yS Z (ze Z d7 Z Z)<|yS Z (zs Z Z Z Z aI Z Z Z Z)<|nT<|zQ<|zQ<|LW.ent (bW.kill (i:=0) Z)<|LW.ent (bW.kill (i:=1) Z)<|LW.ent (bW.kill (i:=2) Z)<|LW.ent (bW.kill (i:=5) Z)<|LW.ent (bW.kill (i:=11) Z)<|LW.ent (bW.kill (i:=12) Z)<|LW.ent (bW.kill (i:=13) Z)<|zR<|mN Z ?_;obtain⟨v4,p4,b4⟩:=zB h;clear h;refine LW.tail (E:=[(8,.ptr 3 0),(9,.ptr 4 0),(10,(bQ false)),(11,.ptr 10 0),(14,.ptr 16 0)]) (O:=[.dead,.dead,.dead,.box [.zs,.zs],.box [.zs,.zs],.dead,.vec 5 (v4.o6.map ay),.vec 4 (v4.o7.map aO),(mQ v4.o8),(mR v4.o9),.box [(jB 6 v4.o6),(jV 7 v4.o7),.map 8,.map 9,(iQ slot),(bQ v4.x_5)],.dead,.dead,.dead,.vec 5 (v4.o14.map ay),.vec 4 (v4.o15.map aO),.box [.vec 5 14 (v4.o14.map ay).length 0 v4.left_0,.vec 4 15 (v4.o15.map aO).length 0 v4.left_1]]) ?_<|fun e4 K4 u4=>?_
  ·refine LW.block ?_;refine LW.iterB (E:=fun x1:ib=>[(8,.ptr 3 0),(9,.ptr 4 0),(10,(bQ false)),(11,.ptr 10 0),(12,.fn 155 [.ptr 10 0] []),(13,.fn 156 [.ptr 10 0] []),(14,.ptr 16 0),(15,(iQ x1.n))]) (O:=fun x1=>[.dead,.dead,.dead,.box [.zs,.zs],.box [.zs,.zs],.dead,.vec 5 (x1.o6.map ay),.vec 4 (x1.o7.map aO),(mQ x1.o8),(mR x1.o9),.box [(jB 6 x1.o6),(jV 7 x1.o7),.map 8,.map 9,(iQ slot),(bQ x1.x_5)],.dead,.dead,.dead,.vec 5 (x1.o14.map ay),.vec 4 (x1.o15.map aO),.box [.vec 5 14 (x1.o14.map ay).length 0 x1.left_0,.vec 4 15 (x1.o15.map aO).length 0 x1.left_1]]) p4 (zW 17 ⟨Z,Z,Z,Z,Z,Z,Z,Z,t_⟩ Z Z Z (ci (ci (zL (ai (fun _=>rfl) _) (zL (ai (fun _=>rfl) _) (ci (zL Z (zL Z (zL Z Z)))))))))<|fun x1 z1 h m1=>?_;unfold py at h;refine zQ<|zQ<|dy<|zH Z<|zH Z<|yE Z (zn Z Z)<|yE Z (zA Z Z gr)<|yE Z (zA Z Z aL)<|yE Z (zD Z Z Z bL Z Z)<|yE Z (aa.lenVM Z Z Z (by kernel_rfl))<|zH Z<|yE Z (zn Z Z)<|yE Z (zA Z Z gr)<|yE Z (zA Z Z aS)<|yE Z (zD Z Z Z cq Z Z)<|yE Z (aa.lenVM Z Z Z (by kernel_rfl))<|yE Z (am Z Z Z Z)<|yE Z (am Z Z Z Z)<|LO.nil<|zT ?_;refine zX Z (fun g2=>?_)<|fun g2=>?_
   ·refine zi g2 h fun h=>zk<|zT<|zl<|zQ<|dy<|zH Z<|yE Z (zn Z Z)<|yE Z (zA Z Z gr)<|yE Z (zA Z Z aL)<|yE Z (zD Z Z Z bL Z Z)<|yE Z (aa.lenVM Z Z Z (by kernel_rfl))<|zH Z<|yE Z (zn Z Z)<|yE Z (zA Z Z gr)<|yE Z (zA Z Z aS)<|yE Z (zD Z Z Z cq Z Z)<|yE Z (aa.lenVM Z Z Z (by kernel_rfl))<|yE Z (am Z Z Z Z)<|zH Z<|LO.nil<|zT<|qR<|yS Z (zA Z Z aL)<|yS Z (zD Z Z Z bL Z Z)<|zM Z<|zb h fun v5 a5 h=>yS Z (yC Z Z Z (OM a5))<|yS Z (zA Z Z aL)<|yS Z (zs Z Z Z Z bL Z Z Z Z)<|nT<|zR<|yS Z (zA Z Z aS)<|yS Z (zD Z Z Z cq Z Z)<|zM Z<|zb h fun v6 a6 h=>yS Z (yC Z Z Z (ON a6))<|yS Z (zA Z Z aS)<|yS Z (zs Z Z Z Z cq Z Z Z Z)<|zN<|ae<|zT ?_;cases h;exact⟨_,rfl,zW 17 ⟨Z,Z,Z,Z,Z,Z,Z,Z,t_⟩ Z Z Z (ci (ci (zL (ai (fun _=>rfl) _) (zL (ai (fun _=>rfl) _) (ci (zL Z (zL Z (zL Z Z))))))))⟩
   ·refine zo g2 h fun h=>zq<|aj<|aj<|zy<|zT ?_;cases h;obtain rfl:=(m1 _ rfl);exact zW 17 ⟨Z,Z,Z,Z,Z,t_⟩ Z Z Z<|ci<|ci<|zL (ai (fun _=>rfl) _)<|zL (ai (fun _=>rfl) _)<|ci<|zL Z<|zL Z<|zL Z Z
  ·have h:=b4;clear p4;refine zT<|LW.weak u4<|zQ<|fC<|zK Z<|yG Z (fun H _=>zn Z Z)<|yG Z (fun H _=>zA Z Z gr)<|yF Z (zd Z Z Z aI Z Z) Z<|zg h fun q3 h=>zg h fun q4 h=>yF Z (zd Z Z Z aI Z Z) Z<|zK Z<|yG Z (fun H _=>zn Z Z)<|yG Z (fun H _=>zA Z Z tB)<|yF Z (zd Z Z Z vo Z Z) Z<|yF Z (zt Z Z Z Z aI Z Z Z) Z<|yF Z (zt Z Z Z Z aI Z Z Z) Z<|zK Z ?_;refine LF.nil ⟨by kernel_rfl,?_⟩;refine zT<|zr ?_;cases h;exact zf (.three (eh Z Z) (eh Z Z) (.tmp Z))<|⟨_,rfl,(.cons (Conv.agg (.cons (Conv.vecAll Z Z Z) (.cons (Conv.vecAll Z Z Z) .nil))) (.cons (Conv.agg (.cons (Conv.vecTake Z q3) (.cons (Conv.vecTake Z q4) .nil))) dB))⟩
def dj (B:List Bk)(b:Bk):Bool:=(bI B (nm b)).isSome||(match bI B b.Parent with|some s=>decide (s>=b.Slot)|none=>false)
def gc (B:List Bk)(upto:Int)(b:Bk):Bool:=match bI B b.Parent with|some _=>decide (b.Slot>upto)|none=>true
def bV (upto:Int)(B:List Bk)(full:Bool)(b:Bk):Bool×List Bk×Bool:=
 if dj B b then(true,B,full)else if gc B upto b then(false,B,full)else if B.length<60 then(true,B++[b],full)else(false,B,true)
def dw (B:List Bk)(V:List Vt)(v:Vt):Bool:=decide (v∈V)||(match bI B v.Head with|some s=>decide (s>v.Slot)|none=>false)
def gQ (B:List Bk)(upto:Int)(v:Vt):Bool:=match bI B v.Head with|some _=>decide (v.Slot>upto)|none=>true
def bX (upto:Int)(B:List Bk)(V:List Vt)(full:Bool)(v:Vt):Bool×List Vt×Bool:=
 if dw B V v then(true,V,full)else if gQ B upto v then(false,V,full)else if V.length<240 then(true,V++[v],full)else(false,V,true)
def JA (B:List Bk)(sm:List (ID×Int)):Prop:=∀id,ak sm id=bI B id
def LG (V:List Vt)(hm:List (Vt×Bool)):Prop:=∀v,ak hm v=if v∈V then some true else none
theorem CQ (n most:Int)(full:Bool):D4 n most full=some (decide (n<most),if n<most then full else true):=by
 unfold D4
 cases full with
 |true=>rw[ct];by_cases h:n<most <;>simp[h]
 |false=>
  rw[cf];by_cases h:n<most
  ·rw[i1_ h,aR (show¬n>=most by omega)]
  ·rw[i0_ h,aQ (show n>=most by omega)]
theorem Ja {B:List Bk}{sm:List (ID×Int)}{full:Bool}(hs:JA B sm)(hB:B.length<=1000)(hl:sm.length<=900000) :
  ∃sm',Bp b B sm upto full=some ((bV upto B full b).1,(bV upto B full b).2.1,sm',(bV upto B full b).2.2)/\JA (bV upto B full b).2.1 sm'/\sm'.length<=sm.length+((bV upto B full b).2.1.length-B.length):=by
 unfold Bp;rw[hs,hs]
 cases hn:bI B (nm b)with
 |some q=>
  have e:bV upto B full b=(true,B,full):=by simp[bV,dj,hn]
  rw[e];refine⟨sm,?_,hs,by simp⟩;rw[isSome_some,ct,ob,ct]
 | none=>
  rw[isSome_none,cf]
  cases hp:bI B b.Parent with
  |none=>
   have e:bV upto B full b=(false,B,full):=by simp[bV,dj,gc,hn,hp]
   rw[e];refine⟨sm,?_,hs,by simp⟩;rw[isSome_none,cf,ob,cf,Bool.not_false,ct,ob,ct]
  | some s=>
   rw[isSome_some,ct,ob,getD_some];by_cases h1:s>=b.Slot
   ·have e:bV upto B full b=(true,B,full):=by simp[bV,dj,hn,hp,h1]
    rw[e];refine⟨sm,?_,hs,by simp⟩;rw[aQ h1,ct]
   ·rw [aR h1,cf,Bool.not_true,cf];by_cases h2:b.Slot>upto
    ·have e:bV upto B full b=(false,B,full):=by simp[bV,dj,gc,hn,hp,h1,h2]
     rw[e];refine⟨sm,?_,hs,by simp⟩;rw[aQ h2,ct,ob,ct]
    ·rw[aR h2,cf,CQ,ob,ob];by_cases h3:B.length<60
     ·have e:bV upto B full b=(true,B++[b],full):=by simp[bV,dj,gc,hn,hp,h1,h2,h3]
      rw[e];refine⟨bK sm (nm b) b.Slot,?_,fun id=>?_,?_⟩
      ·rw[aQ (show(B.length:Int)<60 by omega),Bool.not_true,cf,aC (by simp only[length_singleton];omega),ct,show xg sm=true from aQ (by omega),ct,i1_ (show(B.length:Int)<60 by omega)]
      ·rw[di,u7,hs];by_cases e:nm b=id
       ·rw[i1_ e,i1_ e,<-e,hn];rfl
       ·rw[i0_ e,i0_ e];cases bI B id <;>rfl
      ·rw[ry,length_append,length_singleton];split <;>omega
     ·have e:bV upto B full b=(false,B,true):=by simp[bV,dj,gc,hn,hp,h1,h2,h3]
      rw[e];refine⟨sm,?_,hs,by simp⟩;rw[aR (show¬(B.length:Int)<60 by omega),Bool.not_false,ct,i0_ (show¬(B.length:Int)<60 by omega)]
theorem Jb {B:List Bk}{V:List Vt}{sm:List (ID×Int)}{hm:List (Vt×Bool)}{full:Bool}(hs:JA B sm)(hh:LG V hm)(hV:V.length<=1000)(hl:hm.length<=900000) :
  ∃hm',Bq v V sm hm upto full=some ((bX upto B V full v).1,(bX upto B V full v).2.1,hm',(bX upto B V full v).2.2)/\LG (bX upto B V full v).2.1 hm'/\hm'.length<=hm.length+((bX upto B V full v).2.1.length-V.length):=by
 unfold Bq;rw[hs,hh];by_cases hn:v∈V
 ·have e:bX upto B V full v=(true,V,full):=by simp[bX,dw,hn]
  rw[e];refine⟨hm,?_,hh,by simp⟩;rw[i1_ hn,getD_some,ct,ob,ct]
 ·rw [i0_ hn,Option.getD_none,cf]
  cases hp:bI B v.Head with
  |none=>
   have e:bX upto B V full v=(false,V,full):=by simp[bX,dw,gQ,hn,hp]
   rw[e];refine⟨hm,?_,hh,by simp⟩;rw[isSome_none,cf,ob,cf,Bool.not_false,ct,ob,ct]
  | some s=>
   rw[isSome_some,ct,ob,getD_some];by_cases h1:s>v.Slot
   ·have e:bX upto B V full v=(true,V,full):=by simp[bX,dw,hn,hp,h1]
    rw[e];refine⟨hm,?_,hh,by simp⟩;rw[aQ h1,ct]
   ·rw [aR h1,cf,Bool.not_true,cf];by_cases h2:v.Slot>upto
    ·have e:bX upto B V full v=(false,V,full):=by simp[bX,dw,gQ,hn,hp,h1,h2]
     rw[e];refine⟨hm,?_,hh,by simp⟩;rw[aQ h2,ct,ob,ct]
    ·rw[aR h2,cf,CQ,ob,ob];by_cases h3:V.length<240
     ·have e:bX upto B V full v=(true,V++[v],full):=by simp[bX,dw,gQ,hn,hp,h1,h2,h3]
      rw[e];refine⟨bK hm v true,?_,fun id=>?_,?_⟩
      ·rw[aQ (show(V.length:Int)<240 by omega),Bool.not_true,cf,aC (by simp only[length_singleton];omega),ct,show xg hm=true from aQ (by omega),ct,i1_ (show(V.length:Int)<240 by omega)]
      ·rw[di,hh];by_cases e:v=id
       ·subst e;simp
       ·simp[e,Ne.symm e]
      ·rw[ry,length_append,length_singleton];split <;>omega
     ·have e:bX upto B V full v=(false,V,true):=by simp[bX,dw,gQ,hn,hp,h1,h2,h3]
      rw[e];refine⟨hm,?_,hh,by simp⟩;rw[aR (show¬(V.length:Int)<240 by omega),Bool.not_false,ct,i0_ (show¬(V.length:Int)<240 by omega)]
section
variable {α : Type}
def bP (step:List α->Bool->α->Bool×List α×Bool):List α->Bool->List α->List α×List α×Bool
 |B,f,[]=>([],B,f)
 |B,f,b::r=>(if (step B f b).1 then(bP step (step B f b).2.1 (step B f b).2.2 r).1 else b::(bP step (step B f b).2.1 (step B f b).2.2 r).1,(bP step (step B f b).2.1 (step B f b).2.2 r).2)
variable {step : List α -> Bool -> α -> Bool × List α × Bool}
theorem gx (b:α):∀(l B:List α) (f:Bool),bP step B f (l++[b]) =
  (if (step (bP step B f l).2.1 (bP step B f l).2.2 b).1 then(bP step B f l).1 else(bP step B f l).1++[b],(step (bP step B f l).2.1 (bP step B f l).2.2 b).2)
 |[],B,f=>by
  simp only[nil_append,bP];rfl
 |x::r,B,f=>by
  simp only[cons_append,bP,gx b r];split <;>split <;>simp_all
theorem l0 :∀(l B:List α) (f:Bool),(bP step B f l).1.length<=l.length
 |[],B,f=>by simp[bP]
 |x::r,B,f=>by
  have:=l0 r (step B f x).2.1 (step B f x).2.2;simp only[bP];split
  ·simp only[length_cons];omega
  ·simp only[length_cons];omega
theorem ej (h:∀B f b,B.length<=(step B f b).2.1.length/\(step B f b).2.1.length<=B.length+1):∀(l B:List α) (f:Bool),B.length<=(bP step B f l).2.1.length/\(bP step B f l).2.1.length<=B.length+l.length
 |[],B,f=>by simp[bP]
 |x::r,B,f=>by
  have h1:=h B f x;have h2:=ej h r (step B f x).2.1 (step B f x).2.2;simp only[bP,length_cons];omega
end
def aT (upto:Int):List Bk->Bool->List Bk->List Bk×List Bk×Bool:=bP (bV upto)
def bJ (upto:Int)(B:List Bk):List Vt->Bool->List Vt->List Vt×List Vt×Bool:=bP (bX upto B)
theorem kf (upto:Int)(B:List Bk)(f:Bool)(b:Bk):B.length<=(bV upto B f b).2.1.length/\(bV upto B f b).2.1.length<=B.length+1:=by
 unfold bV;split <;>(try split) <;>(try split) <;>simp
theorem kg (upto:Int)(B:List Bk)(V:List Vt)(f:Bool)(v:Vt):V.length<=(bX upto B V f v).2.1.length/\(bX upto B V f v).2.1.length<=V.length+1:=by
 unfold bX;split <;>(try split) <;>(try split) <;>simp
structure BE (B:List Bk)(sm:List (ID×Int)):Prop where
 find:JA B sm
 len:sm.length<=B.length+1
structure Fh (V:List Vt)(hm:List (Vt×Bool)):Prop where
 find:LG V hm
 len:hm.length<=V.length
theorem FG {B:List Bk}{sm:List (ID×Int)}{full:Bool}(hs:BE B sm)(hB:B.length<=1000:=by omega) :
  ∃sm',Bp b B sm upto full=some ((bV upto B full b).1,(bV upto B full b).2.1,sm',(bV upto B full b).2.2)/\BE (bV upto B full b).2.1 sm':=by
 obtain⟨sm',h1,h2,h3⟩:=Ja (b:=b) (upto:=upto) (full:=full) hs.find hB (by have:=hs.len;omega);have hg:=kf upto B full b;exact⟨sm',h1,h2,by have:=hs.len;omega⟩
theorem FH {B:List Bk}{V:List Vt}{sm:List (ID×Int)}{hm:List (Vt×Bool)}{full:Bool}(hs:BE B sm)(hh:Fh V hm)(hV:V.length<=1000:=by omega) :
  ∃hm',Bq v V sm hm upto full=some ((bX upto B V full v).1,(bX upto B V full v).2.1,hm',(bX upto B V full v).2.2)/\Fh (bX upto B V full v).2.1 hm':=by
 obtain⟨hm',h1,h2,h3⟩:=Jb (v:=v) (upto:=upto) (full:=full) hs.find hh.find hV (by have:=hh.len;omega);have hg:=kg upto B V full v;exact⟨hm',h1,h2,by have:=hh.len;omega⟩
theorem iU {l:List α}(h:l[j]?=some y):l.take (j+1)=l.take j++[y]:=aM h
theorem Jn {lB l B:List Bk}{sm:List (ID×Int)}{full:Bool}(hl:lB.take kk=l)(hk:l.length=kk)(hs:BE B sm)(hB:B.length+kk<=900) :
  ∃i B' sm' f',FV lB kk B sm upto full=some (i,B',sm',f')/\BE B' sm'/\((i= -1/\aT upto B full l=(l,B',f'))\/∃j:Nat,i=j/\j<kk/\aT upto B full (l.take (j+1))=(l.take j,B',f')):=by
 unfold FV
 have key:=bw (step:=oz lB kk upto) (fun x=>∃j:Nat,j<=kk/\x.t8=j/\aT upto B full (l.take j)=(l.take j,x.o6,x.o10_5)/\BE x.o6 x.o8) (fun x=>kk-x.t8.toNat)
  (fun b=>(∃x,b=.inl x/\aT upto B full l=(l,x.o6,x.o10_5)/\BE x.o6 x.o8)\/∃(j:Nat) (B':List Bk) (sm':List (ID×Int)) (f':Bool),b=.inr ((j:Int),B',sm',f')/\j<kk/\aT upto B full (l.take (j+1))=(l.take j,B',f')/\BE B' sm') (by
   rintro⟨t,B1,sm1,f1⟩ ⟨j,hj,h1,h2,h3⟩;simp only at h1 h2 h3;subst h1;by_cases hlt:j<kk
   ·obtain⟨y,hy,-⟩:=aA (l:=l) (n:=j);have hgr:=ej (step:=bV upto) (kf upto) (l.take j) B full;have h2':bP (bV upto) B full (l.take j)=(l.take j,B1,f1):=h2;rw[h2']at hgr;simp only at hgr;rw[length_take]at hgr;obtain⟨sm',e,hr⟩:=FG (b:=y) (upto:=upto) (full:=f1) h3
    have hsn:aT upto B full (l.take (j+1))=(if (bV upto B1 f1 y).1 then l.take j else l.take j++[y],(bV upto B1 f1 y).2):=by
     rw[iU hy];unfold aT;rw[gx,h2']
    generalize bV upto B1 f1 y=q at e hr hsn;obtain⟨g,B2,f2⟩:=q;simp only at e hr hsn
    have hstep:oz lB kk upto ⟨(j:Int),B1,sm1,f1⟩=bif g then some (.inr (.inr ((j:Int),B2,sm',f2)))else some (.inl ⟨((j+1:Nat):Int),B2,sm',f2⟩):=by
     unfold oz;simp only;rw[eN,hl,aw hy,ob,e,ob,ah (n:=j)]
    cases g with
    |true=>
     right;rw[ct]at hstep;rw[i1_ rfl]at hsn;exact⟨_,hstep,.inr ⟨j,B2,sm',f2,rfl,hlt,hsn,hr⟩⟩
    |false=>
     left;rw[cf]at hstep;rw[i0_ (by simp)]at hsn;refine⟨_,hstep,⟨j+1,hlt,rfl,?_,hr⟩,by simp only;omega⟩;rw[hsn,iU hy]
   ·right
    obtain rfl:j=kk:=by omega
    refine⟨.inl ⟨(j:Int),B1,sm1,f1⟩,?_,.inl ⟨_,rfl,?_,h3⟩⟩
    ·unfold oz;simp only;rw[gt]
    ·rw[take_of_length_le (by omega)]at h2;exact h2) (n:=aY) (x:=⟨0,B,sm,full⟩) ⟨0,by omega,rfl,by simp[aT,bP],hs⟩ (cj (by simp only;omega))
 obtain⟨b,e,⟨x,rfl,h1,h2⟩|⟨j,B',sm',f',rfl,h0,h1,h2⟩⟩:=key
 ·exact⟨-1,x.o6,x.o8,x.o10_5,by rw[e,ob,sl],h2,.inl ⟨rfl,h1⟩⟩
 ·exact⟨j,B',sm',f',by rw[e,ob,sr],h2,.inr ⟨j,rfl,h0,h1⟩⟩
structure vB {α:Type}(lB:List α)(k:Nat)(l:List α):Prop where
 take:lB.take k=l
 le:k<=lB.length
theorem vB.len {lB l:List α}{k:Nat}(h:vB lB k l):l.length=k:=by
 rw[<-h.take,length_take];have:=h.le;omega
theorem xd {a l:List α}{z:α}(hi:i<=kk)(hk:kk<=a.length)(h:a.take i=l):vB (kQ a i (kk-i) z) i l:=by
 have hlen:=ur (l:=a) (off:=i) (k:=kk-i) (z:=z) (by omega);refine⟨?_,by omega⟩;unfold kQ;rw[append_assoc,take_left' (by rw[length_take];omega),h]
structure Mv {α:Type}(l a:List α)(i j:Nat)(left:List α):Prop where
 ij:i<j
 jl:j<=l.length
 len:l.length<=a.length
 left:a.take i=left
 rest:∀q,j<=q->q<l.length->a[q]?=l[q]?
theorem Mv.next_gone {l a:List α}{left:List α}(h:Mv l a i j left)(hj:j<l.length):Mv l a i (j+1) left:=
 ⟨by have:=h.ij;omega,hj,h.len,h.left,fun q h1 h2=>h.rest q (by omega) h2⟩
theorem Mv.next_stay {l a:List α}{left:List α}(h:Mv l a i j left)(hj:j<l.length)(_:l[j]?=some y):Mv l (a.set i y) (i+1) (j+1) (left++[y]):=by
 have h1:=h.ij;have h2:=h.len;refine⟨by omega,hj,by rw[List.length_set];exact h2,?_,fun q h3 h4=>?_⟩
 ·have hi:(a.set i y)[i]?=some y:=by rw[List.getElem?_set];simp;omega
  rw[iU hi,List.take_set_of_le (le_refl _),h.left]
 ·rw[List.getElem?_set,i0_ (by omega)];exact h.rest q (by omega) h4
theorem Jc {lB l B:List Bk}{sm:List (ID×Int)}{full:Bool}(hl:vB lB kk l)(hs:BE B sm)(hB:B.length+kk<=900) :
  ∃k' lB' sm',FI lB kk B sm upto full=some (k',lB',(aT upto B full l).2.1,sm',(aT upto B full l).2.2)/\BE (aT upto B full l).2.1 sm'/\vB lB' k' (aT upto B full l).1:=by
 have hk:=hl.len;obtain⟨i,B0,sm0,f0,e0,hr0,h0⟩:=Jn (upto:=upto) (full:=full) hl.take hk hs hB;unfold FI;rw[e0,ob];rcases h0 with⟨rfl,hp⟩|⟨j0,rfl,hj0,hp⟩
 ·rw[hp];refine⟨kk,lB,sm0,?_,hr0,hl⟩;simp only;rw[show((-1:Int)== -1)=true from rfl,ct]
 ·simp only;rw[show((j0:Int)== -1)=false by rw[beq_eq_false_iff_ne];omega,cf,ah (n:=j0)]
  have key:=bw (step:=ol kk upto) (fun x=>∃(i j:Nat),x.i=i/\x.j=j/\BE x.o6 x.o8/\(aT upto B full (l.take j)).2=(x.o6,x.o10_5)/\Mv l x.o14 i j (aT upto B full (l.take j)).1) (fun x=>kk-x.j.toNat)
   (fun x=>∃i:Nat,x.i=i/\i<=kk/\BE x.o6 x.o8/\(aT upto B full l).2=(x.o6,x.o10_5)/\x.o14.take i=(aT upto B full l).1/\kk<=x.o14.length) (by
   rintro⟨i',j',B1,sm1,f1,a⟩ ⟨i,j,h1,h2,h3,h4,h5⟩;simp only at h1 h2 h3 h4 h5;subst h1 h2;have hij:=h5.ij;have hjl:=h5.jl;have hal:=h5.len;by_cases hlt:j<kk
   ·left;obtain⟨y,hy,-⟩:=aA (l:=l) (n:=j)
    have hya:(a.take kk)[j]?=some y:=by rw[getElem?_take_of_lt hlt,h5.rest j (le_refl _) (by omega),hy]
    obtain⟨z,hz,-⟩:=aA (l:=a.take kk) (n:=i) (by rw[length_take];omega);have hgr:=ej (step:=bV upto) (kf upto) (l.take j) B full;have h4':(bP (bV upto) B full (l.take j)).2=(B1,f1):=h4;rw[h4']at hgr;simp only at hgr;rw[length_take]at hgr;obtain⟨sm',e,hr⟩:=FG (b:=y) (upto:=upto) (full:=f1) h3
    have hsn:aT upto B full (l.take (j+1))=(if (bV upto B1 f1 y).1 then(aT upto B full (l.take j)).1 else(aT upto B full (l.take j)).1++[y],(bV upto B1 f1 y).2):=by
     rw[iU hy];unfold aT;rw[gx,h4']
    generalize bV upto B1 f1 y=q at e hr hsn;obtain⟨g,B2,f2⟩:=q;simp only at e hr hsn
    have hstep:ol kk upto ⟨(i:Int),(j:Int),B1,sm1,f1,a⟩=bif !g then some (.inl ⟨((i+1:Nat):Int),((j+1:Nat):Int),B2,sm',f2,a.set i y⟩)else some (.inl ⟨(i:Int),((j+1:Nat):Int),B2,sm',f2,a⟩):=by
     unfold ol;simp only;rw[eN,aw hya,ob,e,ob,aw hz,ob,ah (n:=j),ah (n:=i),toNat_natCast]
    cases g with
    |true=>
     rw[Bool.not_true,cf]at hstep;rw[i1_ rfl]at hsn;refine⟨_,hstep,⟨i,j+1,rfl,rfl,hr,by rw[hsn],?_⟩,by simp only;omega⟩;rw[hsn];exact h5.next_gone (by omega)
    |false=>
     rw[Bool.not_false,ct]at hstep;rw[i0_ (by simp)]at hsn;refine⟨_,hstep,⟨i+1,j+1,rfl,rfl,hr,by rw[hsn],?_⟩,by simp only;omega⟩;rw[hsn];exact h5.next_stay (by omega) hy
   ·right
    have hjk:j=kk:=by omega
    have htl:l.take j=l:=take_of_length_le (by omega);rw[htl]at h4 h5;refine⟨⟨(i:Int),(j:Int),B1,sm1,f1,a⟩,?_,i,rfl,by omega,h3,h4,h5.left,by show kk<=a.length;omega⟩;unfold ol;simp only
    rw[aR (show¬(j:Int)<(kk:Int) by omega),cf]) (n:=aY) (x:=⟨(j0:Int),((j0+1:Nat):Int),B0,sm0,f0,lB⟩)
   ⟨j0,j0+1,rfl,rfl,hr0,by rw[hp],by
    rw[hp];refine⟨by omega,by omega,by have:=hl.le;simp only;omega,?_,fun q h1 h2=>?_⟩
    ·show lB.take j0=l.take j0;rw[<-hl.take,List.take_take,Nat.min_eq_left (by omega)]
    ·rw[<-hl.take,getElem?_take_of_lt (by omega)]⟩ (cj (by simp only;omega))
  obtain⟨x,ex,i,hi,hik,hr,h1,h2,h3⟩:=key;generalize aT upto B full l=p at h1 h2⊢;obtain⟨pl,pB,pf⟩:=p;simp only at h1 h2⊢;rw[ex,ob,hi,aQ (show 0<=(i:Int)/\(i:Int)<=(kk:Int) by omega),ct,toNat_natCast,aQ (show i+(kk-i)<=x.o14.length by omega),ct,ct];cases h1;exact⟨i,kQ x.o14 i (kk-i) ⟨0,0,(0,0),0⟩,x.o8,rfl,hr,xd hik h3 h2⟩
theorem Jm {lV l V:List Vt}{hm:List (Vt×Bool)}{full:Bool}(hl:lV.take kk=l)(hk:l.length=kk)(hsm:BE BB sm0)(hs:Fh V hm)(hB:V.length+kk<=900) :
  ∃i V' hm' f',FT lV kk V sm0 hm upto full=some (i,V',hm',f')/\Fh V' hm'/\((i= -1/\bJ upto BB V full l=(l,V',f'))\/∃j:Nat,i=j/\j<kk/\bJ upto BB V full (l.take (j+1))=(l.take j,V',f')):=by
 unfold FT
 have key:=bw (step:=oy lV kk sm0 upto) (fun x=>∃j:Nat,j<=kk/\x.t8=j/\bJ upto BB V full (l.take j)=(l.take j,x.o7,x.o10_5)/\Fh x.o7 x.o9) (fun x=>kk-x.t8.toNat)
  (fun b=>(∃x,b=.inl x/\bJ upto BB V full l=(l,x.o7,x.o10_5)/\Fh x.o7 x.o9)\/∃(j:Nat) (V':List Vt) (hm':List (Vt×Bool)) (f':Bool),b=.inr ((j:Int),V',hm',f')/\j<kk/\bJ upto BB V full (l.take (j+1))=(l.take j,V',f')/\Fh V' hm') (by
   rintro⟨t,V1,hm1,f1⟩ ⟨j,hj,h1,h2,h3⟩;simp only at h1 h2 h3;subst h1;by_cases hlt:j<kk
   ·obtain⟨y,hy,-⟩:=aA (l:=l) (n:=j);have hgr:=ej (step:=bX upto BB) (kg upto BB) (l.take j) V full;have h2':bP (bX upto BB) V full (l.take j)=(l.take j,V1,f1):=h2;rw[h2']at hgr;simp only at hgr;rw[length_take]at hgr;obtain⟨hm',e,hr⟩:=FH (v:=y) (upto:=upto) (full:=f1) hsm h3
    have hsn:bJ upto BB V full (l.take (j+1))=(if (bX upto BB V1 f1 y).1 then l.take j else l.take j++[y],(bX upto BB V1 f1 y).2):=by
     rw[iU hy];unfold bJ;rw[gx,h2']
    generalize bX upto BB V1 f1 y=q at e hr hsn;obtain⟨g,V2,f2⟩:=q;simp only at e hr hsn
    have hstep:oy lV kk sm0 upto ⟨(j:Int),V1,hm1,f1⟩=bif g then some (.inr (.inr ((j:Int),V2,hm',f2)))else some (.inl ⟨((j+1:Nat):Int),V2,hm',f2⟩):=by
     unfold oy;simp only;rw[eN,hl,aw hy,ob,e,ob,ah (n:=j)]
    cases g with
    |true=>
     right;rw[ct]at hstep;rw[i1_ rfl]at hsn;exact⟨_,hstep,.inr ⟨j,V2,hm',f2,rfl,hlt,hsn,hr⟩⟩
    |false=>
     left;rw[cf]at hstep;rw[i0_ (by simp)]at hsn;refine⟨_,hstep,⟨j+1,hlt,rfl,?_,hr⟩,by simp only;omega⟩;rw[hsn,iU hy]
   ·right
    obtain rfl:j=kk:=by omega
    refine⟨.inl ⟨(j:Int),V1,hm1,f1⟩,?_,.inl ⟨_,rfl,?_,h3⟩⟩
    ·unfold oy;simp only;rw[gt]
    ·rw[take_of_length_le (by omega)]at h2;exact h2) (n:=aY) (x:=⟨0,V,hm,full⟩) ⟨0,by omega,rfl,by simp[bJ,bP],hs⟩ (cj (by simp only;omega))
 obtain⟨b,e,⟨x,rfl,h1,h2⟩|⟨j,V',hm',f',rfl,h0,h1,h2⟩⟩:=key
 ·exact⟨-1,x.o7,x.o9,x.o10_5,by rw[e,ob,sl],h2,.inl ⟨rfl,h1⟩⟩
 ·exact⟨j,V',hm',f',by rw[e,ob,sr],h2,.inr ⟨j,rfl,h0,h1⟩⟩
theorem Jd {lV l V:List Vt}{hm:List (Vt×Bool)}{full:Bool}(hl:vB lV kk l)(hsm:BE BB sm0)(hs:Fh V hm)(hB:V.length+kk<=900) :
  ∃k' lV' hm',FJ lV kk V sm0 hm upto full=some (k',lV',(bJ upto BB V full l).2.1,hm',(bJ upto BB V full l).2.2)/\Fh (bJ upto BB V full l).2.1 hm'/\vB lV' k' (bJ upto BB V full l).1:=by
 have hk:=hl.len;obtain⟨i,V0,hm0,f0,e0,hr0,h0⟩:=Jm (upto:=upto) (full:=full) hl.take hk hsm hs hB;unfold FJ;rw[e0,ob];rcases h0 with⟨rfl,hp⟩|⟨j0,rfl,hj0,hp⟩
 ·rw[hp];refine⟨kk,lV,hm0,?_,hr0,hl⟩;simp only;rw[show((-1:Int)== -1)=true from rfl,ct]
 ·simp only;rw[show((j0:Int)== -1)=false by rw[beq_eq_false_iff_ne];omega,cf,ah (n:=j0)]
  have key:=bw (step:=oo kk sm0 upto) (fun x=>∃(i j:Nat),x.i=i/\x.j=j/\Fh x.o7 x.o9/\(bJ upto BB V full (l.take j)).2=(x.o7,x.o10_5)/\Mv l x.o15 i j (bJ upto BB V full (l.take j)).1) (fun x=>kk-x.j.toNat)
   (fun x=>∃i:Nat,x.i=i/\i<=kk/\Fh x.o7 x.o9/\(bJ upto BB V full l).2=(x.o7,x.o10_5)/\x.o15.take i=(bJ upto BB V full l).1/\kk<=x.o15.length) (by
   rintro⟨i',j',V1,hm1,f1,a⟩ ⟨i,j,h1,h2,h3,h4,h5⟩;simp only at h1 h2 h3 h4 h5;subst h1 h2;have hij:=h5.ij;have hjl:=h5.jl;have hal:=h5.len;by_cases hlt:j<kk
   ·left;obtain⟨y,hy,-⟩:=aA (l:=l) (n:=j)
    have hya:(a.take kk)[j]?=some y:=by rw[getElem?_take_of_lt hlt,h5.rest j (le_refl _) (by omega),hy]
    obtain⟨z,hz,-⟩:=aA (l:=a.take kk) (n:=i) (by rw[length_take];omega);have hgr:=ej (step:=bX upto BB) (kg upto BB) (l.take j) V full;have h4':(bP (bX upto BB) V full (l.take j)).2=(V1,f1):=h4;rw[h4']at hgr;simp only at hgr;rw[length_take]at hgr;obtain⟨hm',e,hr⟩:=FH (v:=y) (upto:=upto) (full:=f1) hsm h3
    have hsn:bJ upto BB V full (l.take (j+1))=(if (bX upto BB V1 f1 y).1 then(bJ upto BB V full (l.take j)).1 else(bJ upto BB V full (l.take j)).1++[y],(bX upto BB V1 f1 y).2):=by
     rw[iU hy];unfold bJ;rw[gx,h4']
    generalize bX upto BB V1 f1 y=q at e hr hsn;obtain⟨g,V2,f2⟩:=q;simp only at e hr hsn
    have hstep:oo kk sm0 upto ⟨(i:Int),(j:Int),V1,hm1,f1,a⟩=bif !g then some (.inl ⟨((i+1:Nat):Int),((j+1:Nat):Int),V2,hm',f2,a.set i y⟩)else some (.inl ⟨(i:Int),((j+1:Nat):Int),V2,hm',f2,a⟩):=by
     unfold oo;simp only;rw[eN,aw hya,ob,e,ob,aw hz,ob,ah (n:=j),ah (n:=i),toNat_natCast]
    cases g with
    |true=>
     rw[Bool.not_true,cf]at hstep;rw[i1_ rfl]at hsn;refine⟨_,hstep,⟨i,j+1,rfl,rfl,hr,by rw[hsn],?_⟩,by simp only;omega⟩;rw[hsn];exact h5.next_gone (by omega)
    |false=>
     rw[Bool.not_false,ct]at hstep;rw[i0_ (by simp)]at hsn;refine⟨_,hstep,⟨i+1,j+1,rfl,rfl,hr,by rw[hsn],?_⟩,by simp only;omega⟩;rw[hsn];exact h5.next_stay (by omega) hy
   ·right
    have hjk:j=kk:=by omega
    have htl:l.take j=l:=take_of_length_le (by omega);rw[htl]at h4 h5;refine⟨⟨(i:Int),(j:Int),V1,hm1,f1,a⟩,?_,i,rfl,by omega,h3,h4,h5.left,by show kk<=a.length;omega⟩;unfold oo;simp only
    rw[aR (show¬(j:Int)<(kk:Int) by omega),cf]) (n:=aY) (x:=⟨(j0:Int),((j0+1:Nat):Int),V0,hm0,f0,lV⟩)
   ⟨j0,j0+1,rfl,rfl,hr0,by rw[hp],by
    rw[hp];refine⟨by omega,by omega,by have:=hl.le;simp only;omega,?_,fun q h1 h2=>?_⟩
    ·show lV.take j0=l.take j0;rw[<-hl.take,List.take_take,Nat.min_eq_left (by omega)]
    ·rw[<-hl.take,getElem?_take_of_lt (by omega)]⟩ (cj (by simp only;omega))
  obtain⟨x,ex,i,hi,hik,hr,h1,h2,h3⟩:=key;generalize bJ upto BB V full l=p at h1 h2⊢;obtain⟨pl,pV,pf⟩:=p;simp only at h1 h2⊢;rw[ex,ob,hi,aQ (show 0<=(i:Int)/\(i:Int)<=(kk:Int) by omega),ct,toNat_natCast,aQ (show i+(kk-i)<=x.o15.length by omega),ct,ct];cases h1;exact⟨i,kQ x.o15 i (kk-i) ⟨0,0,(0,0)⟩,x.o9,rfl,hr,xd hik h3 h2⟩
structure sR where
 B:List Bk
 V:List Vt
 full:Bool
 lB:List Bk
 lV:List Vt
def ce (upto:Int)(s:sR):sR:=
 ⟨(aT upto s.B s.full s.lB).2.1,(bJ upto (aT upto s.B s.full s.lB).2.1 s.V (aT upto s.B s.full s.lB).2.2 s.lV).2.1,(bJ upto (aT upto s.B s.full s.lB).2.1 s.V (aT upto s.B s.full s.lB).2.2 s.lV).2.2,
  (aT upto s.B s.full s.lB).1,(bJ upto (aT upto s.B s.full s.lB).2.1 s.V (aT upto s.B s.full s.lB).2.2 s.lV).1⟩
def cD (s:sR):Nat:=s.B.length+s.V.length
def pd (upto:Int):Nat->sR->sR
 |0,s=>s
 |n+1,s=>if cD (ce upto s)=cD s then ce upto s else pd upto n (ce upto s)
def mf (upto:Int)(s:sR):sR:=pd upto 1000 s
open Classical in
noncomputable def aN (c:Cf)(w inp:Vw)(slot:Int):Vw×Vw×Bool:=
 if i4 c w then(⟨(mf slot ⟨w.B,w.V,false,(bx c inp).B,(bx c inp).V⟩).B,(mf slot ⟨w.B,w.V,false,(bx c inp).B,(bx c inp).V⟩).V⟩,⟨(mf slot ⟨w.B,w.V,false,(bx c inp).B,(bx c inp).V⟩).lB,(mf slot ⟨w.B,w.V,false,(bx c inp).B,(bx c inp).V⟩).lV⟩,(mf slot ⟨w.B,w.V,false,(bx c inp).B,(bx c inp).V⟩).full)
 else(w,inp,false)
def pi (s:sR):Prop:=s.B.length<=60/\s.V.length<=240
theorem Ck {B:List Bk}(h:B.length<=60):(bV upto B f b).2.1.length<=60:=by
 unfold bV;split <;>(try split) <;>(try split) <;>simp <;>omega
theorem Cl {B:List Bk}{V:List Vt}(h:V.length<=240):(bX upto B V f v).2.1.length<=240:=by
 unfold bX;split <;>(try split) <;>(try split) <;>simp <;>omega
theorem sv {α:Type}{step:List α->Bool->α->Bool×List α×Bool}{Q:List α->Prop}(h:∀B f b,Q B->Q (step B f b).2.1):∀(l B:List α) (f:Bool),Q B->Q (bP step B f l).2.1
 |[],B,f,hB=>by simpa only[bP]using hB
 |x::r,B,f,hB=>by
  have:=sv h r (step B f x).2.1 (step B f x).2.2 (h B f x hB);simpa only[bP]using this
theorem pX {l B:List Bk}(h:B.length<=60):(aT upto B f l).2.1.length<=60:=sv (step:=bV upto) (Q:=fun B=>B.length<=60) (fun _ _ _ h=>Ck h) l B f h
theorem uY {l V:List Vt}(h:V.length<=240):(bJ upto BB V f l).2.1.length<=240:=sv (step:=bX upto BB) (Q:=fun V=>V.length<=240) (fun _ _ _ h=>Cl h) l V f h
theorem rq {s:sR}(h:pi s):pi (ce upto s):=⟨pX h.1,uY h.2⟩
theorem ta (upto:Int)(s:sR):(ce upto s).lB.length<=s.lB.length/\(ce upto s).lV.length<=s.lV.length:=⟨l0 _ _ _,l0 _ _ _⟩
theorem kE (upto:Int)(s:sR):s.B.length<=(ce upto s).B.length/\s.V.length<=(ce upto s).V.length:=
 ⟨(ej (kf upto) _ _ _).1,(ej (kg upto _) _ _ _).1⟩
structure Ek (s:sR)(x:ib):Prop where
 o6:x.o6=s.B
 o7:x.o7=s.V
 full:x.x_5=s.full
 sm:BE s.B x.o8
 hm:Fh s.V x.o9
 lB:vB x.o14 x.left_0 s.lB
 lV:vB x.o15 x.left_1 s.lV
theorem Ea {s:sR}{x:ib}(h:Ek s x)(hb:pi s)(hl1:s.lB.length<=800)(hl2:s.lV.length<=600)(hn:x.n≠(cD s:Int)):∃y,py upto x=some (.inl y)/\Ek (ce upto s) y/\y.n=(cD s:Int):=by
 obtain⟨n,o6,o7,o8,o9,f,o14,o15,k0,k1⟩:=x;obtain⟨e6,e7,ef,hsm,hhm,hlB,hlV⟩:=h;simp only at e6 e7 ef hsm hhm hlB hlV hn;subst e6 e7 ef;have hb1:=hb.1;have hb2:=hb.2;obtain⟨k',lB',sm',e1,r1,p1⟩:=Jc (upto:=upto) (full:=s.full) hlB hsm (by have:=hlB.len;omega);unfold ce;generalize aT upto s.B s.full s.lB=p at e1 r1 p1⊢;obtain⟨pl,pB,pf⟩:=p;simp only at e1 r1 p1⊢;obtain⟨k2,lV',hm',e2,r2,p2⟩:=Jd (upto:=upto) (full:=pf) hlV r1 hhm (by have:=hlV.len;omega);generalize bJ upto pB s.V pf s.lV=q at e2 r2 p2⊢;obtain⟨ql,qV,qf⟩:=q;simp only at e2 r2 p2⊢
 have hw:i64.wrap ((s.B.length:Int)+(s.V.length:Int))=(cD s:Int):=by
  unfold cD;rw[cR];omega
 refine⟨ib.mk (cD s:Int) pB qV sm' hm' qf lB' lV' k' k2,?_,⟨rfl,rfl,rfl,r1,r2,p1,p2⟩,rfl⟩;unfold py;simp only;rw[hw,show(n != (cD s:Int))=true by rw[bne_iff_ne];exact hn,ct,e1,ob];simp only;rw[e2,ob]
theorem y0 {upto:Int}:∀(m:Nat) (s:sR) (x:ib) (q:Nat),Ek s x->pi s->s.lB.length<=800->s.lV.length<=600->x.n≠(cD s:Int)->300<m+cD s->m<q->
  ∃y,iter (py upto) (q+1) x=some y/\Ek (pd upto m s) y
 |0,s,x,q,_,hb,_,_,_,hm,_=>by
  have h1:=hb.1;have h2:=hb.2;unfold cD at hm;omega
 | m+1,s,x,q,h,hb,hl1,hl2,hn,hm,hq=>by
  obtain⟨y,e,hr,hy⟩:=Ea h hb hl1 hl2 hn;have hg:=kE upto s;have hlen:=ta upto s;have hb':=rq (upto:=upto) hb;obtain⟨q,rfl⟩:∃p,q=p+1:=⟨q-1,by omega⟩;rw[mI e];unfold pd;by_cases hs:cD (ce upto s)=cD s
  ·rw[i1_ hs];refine⟨y,eM ?_,hr⟩
   have hw:i64.wrap ((y.o6.length:Int)+(y.o7.length:Int))=(cD s:Int):=by
    rw[hr.o6,hr.o7,<-hs];have h1:=hb'.1;have h2:=hb'.2;unfold cD;rw[cR];omega
   unfold py;rw[hw,hy,show(((cD s:Nat):Int) != (cD s:Int))=false by simp,cf,<-hy]
  ·rw[i0_ hs];exact y0 m (ce upto s) y q hr hb' (by omega) (by omega) (by rw[hy];omega) (by unfold cD at *;omega) (by omega)
open Classical in
theorem Ly (h1:w.B.length<=1000)(h2:w.V.length<=1000)(h3:inp.B.length<=800)(h4:inp.V.length<=600):Nj c w inp slot=some (aN c w inp slot):=by
 unfold Nj aN;rw[CL,ob,Lx h1 h2,ob];by_cases hm:i4 c w
 ·rw[aQ hm,Bool.not_true,cf,i1_ hm,Js (by omega) (by omega),ob];simp only;have hfB:(bx c inp).B.length<=inp.B.length:=length_filter_le _ _;have hfV:(bx c inp).V.length<=inp.V.length:=length_filter_le _ _
  have hr:Ek ⟨w.B,w.V,false,(bx c inp).B,(bx c inp).V⟩ (ib.mk (-1) w.B w.V (p0 w.B) (nb w.V) false (bx c inp).B (bx c inp).V ((bx c inp).B.map ay).length ((bx c inp).V.map aO).length):=
   ⟨rfl,rfl,rfl,⟨wD hm.valid,Ii w.B⟩,⟨wt w.V,(AD w.V).1⟩,⟨by simp,by simp⟩,⟨by simp,by simp⟩⟩
  have hbel:pi ⟨w.B,w.V,false,(bx c inp).B,(bx c inp).V⟩:=⟨hm.lenB,hm.lenV⟩;generalize bx c inp=o at *;obtain⟨y,e,hy⟩:=y0 (upto:=slot) 1000 _ _ 4611686018427387903 hr hbel (by simp only;omega) (by simp only;omega) (by simp only;omega) (by omega) (by omega);have e':iter (py slot) aY (ib.mk (-1) w.B w.V (p0 w.B) (nb w.V) false o.B o.V (o.B.map ay).length (o.V.map aO).length)=some y:=e;rw[e',ob];change Ek (mf slot _) y at hy;generalize mf slot ⟨w.B,w.V,false,o.B,o.V⟩=s at hy⊢;rw[Nat.ble_eq_true_of_le hy.lB.le,ct,Nat.ble_eq_true_of_le hy.lV.le,ct,hy.o6,hy.o7,hy.full,hy.lB.take,hy.lV.take]
 ·rw[aR hm,Bool.not_false,ct,i0_ hm,aC,ct,aC,ct]
theorem uG {B:List Bk}(h:dj B b=true)(t:List Bk):dj (B++t) b=true:=by
 unfold dj at h⊢;rw[Bool.or_eq_true]at h⊢;rcases h with h|h
 ·left;obtain⟨s,hs⟩:=Option.isSome_iff_exists.1 h;rw[mT hs];rfl
 ·right
  cases hp:bI B b.Parent with
  |none=>rw[hp]at h;cases h
  |some s=>rw[hp]at h;rw[mT hp];exact h
theorem pO {B:List Bk}{V:List Vt}(h:dw B V v=true)(t:List Bk)(u:List Vt):dw (B++t) (V++u) v=true:=by
 unfold dw at h⊢;rw[Bool.or_eq_true]at h⊢;rcases h with h|h
 ·left;exact aQ<|mem_append_left _<|of_decide_eq_true h
 ·right
  cases hp:bI B v.Head with
  |none=>rw[hp]at h;cases h
  |some s=>rw[hp]at h;rw[mT hp];exact h
theorem BW {B:List Bk}(h:b∈B):dj B b=true:=by
 obtain⟨s,hs⟩:=Ch h;unfold dj;rw[hs];rfl
theorem BX {B:List Bk}{V:List Vt}(h:v∈V):dw B V v=true:=by
 unfold dw;rw[aQ h];rfl
theorem iq (upto:Int)(B:List Bk)(f:Bool)(b:Bk) :
  (dj B b=true/\bV upto B f b=(true,B,f))\/(dj B b=false/\gc B upto b=true/\bV upto B f b=(false,B,f))\/
  (dj B b=false/\gc B upto b=false/\B.length<60/\bV upto B f b=(true,B++[b],f))\/(dj B b=false/\gc B upto b=false/\60<=B.length/\bV upto B f b=(false,B,true)):=by
 unfold bV
 cases h1:dj B b with
 |true=>exact .inl ⟨rfl,by rw[i1_ rfl]⟩
 | false=>
  right;rw[i0_ (by simp)]
  cases h2:gc B upto b with
  |true=>exact .inl ⟨rfl,rfl,by rw[i1_ rfl]⟩
  |false=>
   right;rw[i0_ (by simp)];by_cases h3:B.length<60
   ·exact .inl ⟨rfl,rfl,h3,by rw[i1_ h3]⟩
   ·exact .inr ⟨rfl,rfl,by omega,by rw[i0_ h3]⟩
theorem ki (upto:Int)(B:List Bk)(V:List Vt)(f:Bool)(v:Vt) :
  (dw B V v=true/\bX upto B V f v=(true,V,f))\/(dw B V v=false/\gQ B upto v=true/\bX upto B V f v=(false,V,f))\/
  (dw B V v=false/\gQ B upto v=false/\V.length<240/\bX upto B V f v=(true,V++[v],f))\/(dw B V v=false/\gQ B upto v=false/\240<=V.length/\bX upto B V f v=(false,V,true)):=by
 unfold bX
 cases h1:dw B V v with
 |true=>exact .inl ⟨rfl,by rw[i1_ rfl]⟩
 | false=>
  right;rw[i0_ (by simp)]
  cases h2:gQ B upto v with
  |true=>exact .inl ⟨rfl,rfl,by rw[i1_ rfl]⟩
  |false=>
   right;rw[i0_ (by simp)];by_cases h3:V.length<240
   ·exact .inl ⟨rfl,rfl,h3,by rw[i1_ h3]⟩
   ·exact .inr ⟨rfl,rfl,by omega,by rw[i0_ h3]⟩
section
variable {α : Type} {step : List α -> Bool -> α -> Bool × List α × Bool}
theorem ju {Q:List α->Bool->Prop}:∀{l B:List α} {f:Bool},(∀B f b,b∈l->Q B f->Q (step B f b).2.1 (step B f b).2.2)->Q B f->Q (bP step B f l).2.1 (bP step B f l).2.2
 |[],B,f,_,hB=>by simpa only[bP]using hB
 |x::r,B,f,h,hB=>by
  have:=ju (l:=r) (fun B f b hb=>h B f b (.tail _ hb)) (h B f x (.head _) hB);simpa only[bP]using this
theorem l6 :∀(l B:List α) (f:Bool),(bP step B f l).1.Sublist l
 |[],B,f=>by simp[bP]
 |x::r,B,f=>by
  have:=l6 r (step B f x).2.1 (step B f x).2.2;simp only[bP];split
  ·exact this.cons x
  ·exact this.cons_cons x
theorem pY {G:List α->α->Prop}(hs:∀B f b,(step B f b).1=true->G (step B f b).2.1 b)(hm:∀B f b c,G B c->G (step B f b).2.1 c):∀(l B:List α) (f:Bool) (b:α),b∈l->b∈(bP step B f l).1\/G (bP step B f l).2.1 b
 | x::r,B,f,b,hb=>by
  have hkeep:∀(r B:List α) (f:Bool) (c:α),G B c->G (bP step B f r).2.1 c:=fun r B f c hc=>ju (Q:=fun B _=>G B c) (fun B f b _ hB=>hm B f b c hB) hc;simp only[bP];rcases mem_cons.1 hb with e|hb
  ·subst e
   cases h:(step B f b).1 with
   |true=>exact .inr (hkeep _ _ _ _ (hs B f b h))
   |false=>left;rw[i0_ (by simp)];exact .head _
  ·rcases pY hs hm r (step B f x).2.1 (step B f x).2.2 b hb with h|h
   ·left;split
    ·exact h
    ·exact .tail _ h
   ·exact .inr h
end
section
variable {α : Type} {g w : List α -> α -> Bool} {cap : Nat}
def jc (g w:List α->α->Bool)(cap:Nat)(B:List α)(f:Bool)(b:α):Bool×List α×Bool:=
 if g B b then(true,B,f)else if w B b then(false,B,f)else if B.length<cap then(true,B++[b],f)else(false,B,true)
def p3 (g w:List α->α->Bool)(B:List α)(f:Bool)(l:List α):List α×List α×Bool:=(l.filter fun b=> !g B b,B,f||l.any fun b=> !g B b&& !w B b)
theorem vc :∀{l B:List α} {f:Bool},(∀b∈l,g B b=false->w B b=false->cap<=B.length)->bP (jc g w cap) B f l=p3 g w B f l
 |[],B,f,_=>by simp[bP,p3]
 | x ::r,B,f,h=>by
  have ih:=fun f=>vc (l:=r) (f:=f) (B:=B) fun b hb=>h b (.tail _ hb);unfold p3 at ih⊢;simp only[bP]
  cases h1:g B x with
  |true=>
   have e:jc g w cap B f x=(true,B,f):=by unfold jc;rw[h1,i1_ rfl]
   rw[e];simp[ih,h1]
  | false=>
   cases h2:w B x with
   |true=>
    have e:jc g w cap B f x=(false,B,f):=by unfold jc;rw[h1,i0_ (by simp),h2,i1_ rfl]
    rw[e];simp[ih,h1,h2]
   | false=>
    have e:jc g w cap B f x=(false,B,true):=by
     unfold jc;rw[h1,i0_ (by simp),h2,i0_ (by simp),i0_];have:=h x (.head _) h1 h2;omega
    rw[e];simp[ih,h1,h2]
theorem wG (B:List α)(f:Bool)(b:α):∃t,(jc g w cap B f b).2.1=B++t:=by
 unfold jc;split
 ·exact⟨[],by simp⟩
 ·split
  ·exact⟨[],by simp⟩
  ·split
   ·exact⟨[b],rfl⟩
   ·exact⟨[],by simp⟩
theorem ET (l B:List α)(f:Bool):∃u,(bP (jc g w cap) B f l).2.1=B++u:=
 ju (Q:=fun C _=>∃u,C=B++u) (fun C f b _ ⟨u,hu⟩=>by
  obtain⟨t,ht⟩:=wG (g:=g) (w:=w) (cap:=cap) C f b
  exact⟨u++t,by rw[ht,hu,append_assoc]⟩) ⟨[],by simp⟩
theorem vb :∀{l B:List α} {f:Bool},(bP (jc g w cap) B f l).2.1.length=B.length->∀b∈l,g B b=false->w B b=false->cap<=B.length
 | x::r,B,f,h,b,hb,h1,h2=>by
  simp only[bP]at h;obtain⟨t,ht⟩:=wG (g:=g) (w:=w) (cap:=cap) B f x;obtain⟨u,hu⟩:=ET (g:=g) (w:=w) (cap:=cap) r (jc g w cap B f x).2.1 (jc g w cap B f x).2.2
  have hB:(jc g w cap B f x).2.1=B:=by
   rw[hu,ht,length_append,length_append]at h;have:t=[]:=List.length_eq_zero_iff.1 (by omega);rw[ht,this,append_nil]
  rcases mem_cons.1 hb with e|hb
  ·subst e;refine Classical.byContradiction fun hc=>?_
   have e:jc g w cap B f b=(true,B++[b],f):=by
    unfold jc;rw[h1,i0_ (by simp),h2,i0_ (by simp),i1_ (by omega)]
   rw[e]at hB;have:=congrArg List.length hB;simp at this
  ·rw[hB]at h;exact vb h b hb h1 h2
end
structure vA (w o:Vw)(upto:Int)(s:sR):Prop where
 preB:∃t,s.B=w.B++t/\∀b∈t,b∈o.B/\b.Slot<=upto
 preV:∃t,s.V=w.V++t/\∀v∈t,v∈o.V/\v.Slot<=upto
 valid:dV s.B
 nodup:s.V.Nodup
 forB:∀v∈s.V,forB s.B v
 below:pi s
 subB:s.lB.Sublist o.B
 subV:s.lV.Sublist o.V
 allB:∀b∈o.B,b∈s.lB\/dj s.B b=true
 allV:∀v∈o.V,v∈s.lV\/dw s.B s.V v=true
theorem Ct {B:List Bk}(h1:dj B b=false)(h2:gc B upto b=false):(∃s,bI B b.Parent=some s/\s<b.Slot)/\bI B (nm b)=none/\b.Slot<=upto:=by
 unfold dj at h1;unfold gc at h2;rw[Bool.or_eq_false_iff]at h1
 have hn:bI B (nm b)=none:=by
  cases h:bI B (nm b)with
  |none=>rfl
  |some s=>rw[h]at h1;cases h1.1
 cases hp:bI B b.Parent with
 |none=>rw[hp]at h2;cases h2
 |some s=>
  rw[hp]at h1 h2;have a1:=of_decide_eq_false h1.2;have a2:=of_decide_eq_false h2;exact⟨⟨s,rfl,by omega⟩,hn,by omega⟩
theorem Bf {B:List Bk}{V:List Vt}(h1:dw B V v=false)(h2:gQ B upto v=false):forB B v/\v∉V/\v.Slot<=upto:=by
 unfold dw at h1;unfold gQ at h2;rw[Bool.or_eq_false_iff]at h1;have hn:=of_decide_eq_false h1.1
 cases hp:bI B v.Head with
 |none=>rw[hp]at h2;cases h2
 |some s=>
  rw[hp]at h1 h2;have a1:=of_decide_eq_false h1.2;have a2:=of_decide_eq_false h2;exact⟨⟨s,hp,by omega⟩,hn,by omega⟩
theorem EB {B:List Bk}(h:forB B v)(t:List Bk):forB (B++t) v:=by
 obtain⟨s,h1,h2⟩:=h;exact⟨s,mT h1 t,h2⟩
theorem EQ {s:sR}(h:vA w o upto s):vA w o upto ⟨(aT upto s.B s.full s.lB).2.1,s.V,(aT upto s.B s.full s.lB).2.2,(aT upto s.B s.full s.lB).1,s.lV⟩:=by
 have key:∃u,(aT upto s.B s.full s.lB).2.1=s.B++u/\(∀b∈u,b∈o.B/\b.Slot<=upto)/\dV (s.B++u)/\(s.B++u).length<=60:=by
  have:=ju (step:=bV upto) (l:=s.lB) (B:=s.B) (f:=s.full) (Q:=fun C _=>∃u,C=s.B++u/\(∀b∈u,b∈o.B/\b.Slot<=upto)/\dV (s.B++u)/\(s.B++u).length<=60)
   (fun C f b hb ⟨u,hu,h1,h2,h3⟩=>by
    subst hu;rcases iq upto (s.B++u) f b with⟨-,e⟩|⟨-,-,e⟩|⟨a1,a2,a3,e⟩|⟨-,-,-,e⟩
    ·rw[e];exact⟨u,rfl,h1,h2,h3⟩
    ·rw[e];exact⟨u,rfl,h1,h2,h3⟩
    ·rw[e];obtain⟨k1,k2,k3⟩:=Ct a1 a2;refine⟨u++[b],by simp,fun c hc=>?_,?_,?_⟩
     ·rcases mem_append.1 hc with hc|hc
      ·exact h1 c hc
      ·rw[mem_singleton]at hc;subst hc;exact⟨h.subB.subset hb,k3⟩
     ·rw[<-append_assoc];exact vk.2 ⟨h2,k1,k2⟩
     ·rw[<-append_assoc,length_append,length_singleton];omega
    ·rw[e];exact⟨u,rfl,h1,h2,h3⟩)
   ⟨[],by simp,by simp,by simpa using h.valid,by simpa using h.below.1⟩
  exact this
 obtain⟨u,hu,h1,h2,h3⟩:=key
 have hgone:∀b∈s.lB,b∈(aT upto s.B s.full s.lB).1\/dj (aT upto s.B s.full s.lB).2.1 b=true:=
  pY (step:=bV upto) (G:=fun B b=>dj B b=true) (fun B f b hb=>by
   rcases iq upto B f b with⟨a,e⟩|⟨-,-,e⟩|⟨-,-,-,e⟩|⟨-,-,-,e⟩ <;>rw[e]at hb⊢
   ·exact a
   ·cases hb
   ·exact BW (by simp)
   ·cases hb) (fun B f b c hc=>by
   rcases iq upto B f b with⟨a,e⟩|⟨-,-,e⟩|⟨-,-,-,e⟩|⟨-,-,-,e⟩ <;>rw[e]
   ·exact hc
   ·exact hc
   ·exact uG hc _
   ·exact hc) s.lB s.B s.full
 obtain⟨t,ht,ht2⟩:=h.preB
 refine⟨⟨t++u,by simp only;rw[hu,ht,append_assoc],fun b hb=>(mem_append.1 hb).elim (ht2 b) (h1 b)⟩,h.preV,by simp only[hu];exact h2,h.nodup,fun v hv=>?_,⟨by simp only[hu];exact h3,h.below.2⟩,
  (l6 s.lB s.B s.full).trans h.subB,h.subV,fun b hb=>?_,fun v hv=>?_⟩
 ·simp only[hu];exact EB (h.forB v hv) u
 ·rcases h.allB b hb with h5|h5
  ·exact hgone b h5
  ·right;simp only[hu];exact uG h5 u
 ·rcases h.allV v hv with h5|h5
  ·exact .inl h5
  ·right;simp only[hu];have:=pO h5 u []
   rwa [append_nil]at this
theorem ER {s:sR}(h:vA w o upto s):vA w o upto ⟨s.B,(bJ upto s.B s.V s.full s.lV).2.1,(bJ upto s.B s.V s.full s.lV).2.2,s.lB,(bJ upto s.B s.V s.full s.lV).1⟩:=by
 have key:∃u,(bJ upto s.B s.V s.full s.lV).2.1=s.V++u/\(∀v∈u,v∈o.V/\v.Slot<=upto)/\(s.V++u).Nodup/\(∀v∈s.V++u,Go.Mg.forB s.B v)/\(s.V++u).length<=240:=by
  have:=ju (step:=bX upto s.B) (l:=s.lV) (B:=s.V) (f:=s.full) (Q:=fun C _=>∃u,C=s.V++u/\(∀v∈u,v∈o.V/\v.Slot<=upto)/\(s.V++u).Nodup/\(∀v∈s.V++u,Go.Mg.forB s.B v)/\(s.V++u).length<=240)
   (fun C f v hv ⟨u,hu,h1,h2,h4,h3⟩=>by
    subst hu;rcases ki upto s.B (s.V++u) f v with⟨-,e⟩|⟨-,-,e⟩|⟨a1,a2,a3,e⟩|⟨-,-,-,e⟩
    ·rw[e];exact⟨u,rfl,h1,h2,h4,h3⟩
    ·rw[e];exact⟨u,rfl,h1,h2,h4,h3⟩
    ·rw[e];obtain⟨k1,k2,k3⟩:=Bf a1 a2;refine⟨u++[v],by simp,fun c hc=>?_,?_,fun c hc=>?_,?_⟩
     ·rcases mem_append.1 hc with hc|hc
      ·exact h1 c hc
      ·rw[mem_singleton]at hc;subst hc;exact⟨h.subV.subset hv,k3⟩
     ·rw[<-append_assoc,List.nodup_append];exact⟨h2,by simp,fun a ha b hb=>by rw[mem_singleton]at hb;subst hb;exact fun q=>k2 (q▸ha)⟩
     ·rw[<-append_assoc]at hc;rcases mem_append.1 hc with hc|hc
      ·exact h4 c hc
      ·rw[mem_singleton]at hc;subst hc;exact k1
     ·rw[<-append_assoc,length_append,length_singleton];omega
    ·rw[e];exact⟨u,rfl,h1,h2,h4,h3⟩)
   ⟨[],by simp,by simp,by simpa using h.nodup,by simpa using h.forB,by simpa using h.below.2⟩
  exact this
 obtain⟨u,hu,h1,h2,h4,h3⟩:=key
 have hgone:∀v∈s.lV,v∈(bJ upto s.B s.V s.full s.lV).1\/dw s.B (bJ upto s.B s.V s.full s.lV).2.1 v=true:=
  pY (step:=bX upto s.B) (G:=fun V v=>dw s.B V v=true) (fun V f v hb=>by
   rcases ki upto s.B V f v with⟨a,e⟩|⟨-,-,e⟩|⟨-,-,-,e⟩|⟨-,-,-,e⟩ <;>rw[e]at hb⊢
   ·exact a
   ·cases hb
   ·exact BX (by simp)
   ·cases hb) (fun V f v c hc=>by
   rcases ki upto s.B V f v with⟨a,e⟩|⟨-,-,e⟩|⟨-,-,-,e⟩|⟨-,-,-,e⟩ <;>rw[e]
   ·exact hc
   ·exact hc
   ·have:=pO hc [] [v];rwa [append_nil]at this
   ·exact hc) s.lV s.V s.full
 obtain⟨t,ht,ht2⟩:=h.preV
 refine⟨h.preB,⟨t++u,by simp only;rw[hu,ht,append_assoc],fun b hb=>(mem_append.1 hb).elim (ht2 b) (h1 b)⟩,h.valid,by simp only[hu];exact h2,fun v hv=>?_,⟨h.below.1,by simp only[hu];exact h3⟩,
  h.subB,(l6 s.lV s.V s.full).trans h.subV,h.allB,fun v hv=>?_⟩
 ·simp only[hu]at hv;exact h4 v hv
 ·rcases h.allV v hv with h5|h5
  ·exact hgone v h5
  ·right;simp only[hu];have:=pO h5 [] u
   rwa [append_nil]at this
theorem Ce {s:sR}(h:vA w o upto s):vA w o upto (ce upto s):=ER (EQ h)
structure Lh (upto:Int)(s:sR):Prop where
 B:∀b∈s.lB,dj s.B b=false/\(gc s.B upto b=true\/60<=s.B.length/\s.full=true)
 V:∀v∈s.lV,dw s.B s.V v=false/\(gQ s.B upto v=true\/240<=s.V.length/\s.full=true)
theorem Cd {s:sR}(h:cD (ce upto s)=cD s):Lh upto (ce upto s):=by
 have hg:=kE upto s
 have hB:(aT upto s.B s.full s.lB).2.1.length=s.B.length:=by unfold cD at h;have:(ce upto s).B=(aT upto s.B s.full s.lB).2.1:=rfl;rw[<-this];omega
 have h1:∀b∈s.lB,dj s.B b=false->gc s.B upto b=false->60<=s.B.length:=vb (g:=dj) (w:=fun B b=>gc B upto b) (cap:=60) (f:=s.full) hB;have e1:aT upto s.B s.full s.lB=p3 dj (fun B b=>gc B upto b) s.B s.full s.lB:=vc h1
 have hV:(bJ upto s.B s.V (aT upto s.B s.full s.lB).2.2 s.lV).2.1.length=s.V.length:=by
  have:(ce upto s).V=(bJ upto (aT upto s.B s.full s.lB).2.1 s.V (aT upto s.B s.full s.lB).2.2 s.lV).2.1:=rfl
  have e2:(aT upto s.B s.full s.lB).2.1=s.B:=by rw[e1];rfl
  rw[e2]at this;rw[<-this];unfold cD at h;omega
 have h2:∀v∈s.lV,dw s.B s.V v=false->gQ s.B upto v=false->240<=s.V.length:=vb (g:=dw s.B) (w:=fun _ v=>gQ s.B upto v) (cap:=240) (f:=(aT upto s.B s.full s.lB).2.2) hV;unfold ce;rw[e1];unfold p3;simp only;have e2:bJ upto s.B s.V (s.full||s.lB.any fun b=> !dj s.B b&& !gc s.B upto b) s.lV=p3 (dw s.B) (fun _ v=>gQ s.B upto v) s.V (s.full||s.lB.any fun b=> !dj s.B b&& !gc s.B upto b) s.lV:=vc h2;rw[e2];unfold p3;refine⟨fun b hb=>?_,fun v hv=>?_⟩
 ·simp only[mem_filter,Bool.not_eq_true']at hb;refine⟨hb.2,?_⟩
  cases hw:gc s.B upto b with
  |true=>exact .inl rfl
  |false=>
   right;refine⟨h1 b hb.1 hb.2 hw,?_⟩;simp only[Bool.or_eq_true];exact .inl<|.inr<|any_eq_true.2 ⟨b,hb.1,by simp[hb.2,hw]⟩
 ·simp only[mem_filter,Bool.not_eq_true']at hv;refine⟨hv.2,?_⟩
  cases hw:gQ s.B upto v with
  |true=>exact .inl rfl
  |false=>
   right;refine⟨h2 v hv.1 hv.2 hw,?_⟩;simp only[Bool.or_eq_true];exact .inr<|any_eq_true.2 ⟨v,hv.1,by simp[hv.2,hw]⟩
theorem wJ {w o:Vw}{upto:Int}:∀(m:Nat) (s:sR),vA w o upto s->300<m+cD s->vA w o upto (pd upto m s)/\Lh upto (pd upto m s)
 |0,s,h,hm=>by
  have h1:=h.below.1;have h2:=h.below.2;unfold cD at hm;omega
 |m+1,s,h,hm=>by
  have hr:=Ce h;have hg:=kE upto s;unfold pd;by_cases hs:cD (ce upto s)=cD s
  ·rw[i1_ hs];exact⟨hr,Cd hs⟩
  ·rw[i0_ hs];exact wJ m (ce upto s) hr (by unfold cD at *;omega)
theorem EF (h:i4 c w):vA w o upto ⟨w.B,w.V,false,o.B,o.V⟩:=
 ⟨⟨[],by simp,by simp⟩,⟨[],by simp,by simp⟩,h.valid,h.nodup,h.forB,⟨h.lenB,h.lenV⟩,List.Sublist.refl _,List.Sublist.refl _,fun _ h=>.inl h,fun _ h=>.inl h⟩
theorem Im (h:i4 c w):vA w o upto (mf upto ⟨w.B,w.V,false,o.B,o.V⟩)/\Lh upto (mf upto ⟨w.B,w.V,false,o.B,o.V⟩):=
 wJ 1000 _ (EF h) (by omega)
structure LJ (c:Cf)(w inp:Vw)(upto:Int)(r:Vw×Vw×Bool):Prop where
 may:i4 c r.1
 preB:∃t,r.1.B=w.B++t/\∀b∈t,b∈(bx c inp).B/\b.Slot<=upto
 preV:∃t,r.1.V=w.V++t/\∀v∈t,v∈(bx c inp).V/\v.Slot<=upto
 subB:r.2.1.B.Sublist (bx c inp).B
 subV:r.2.1.V.Sublist (bx c inp).V
 allB:∀b∈(bx c inp).B,b∈r.2.1.B\/dj r.1.B b=true
 allV:∀v∈(bx c inp).V,v∈r.2.1.V\/dw r.1.B r.1.V v=true
 endB:∀b∈r.2.1.B,dj r.1.B b=false/\(gc r.1.B upto b=true\/60<=r.1.B.length/\r.2.2=true)
 endV:∀v∈r.2.1.V,dw r.1.B r.1.V v=false/\(gQ r.1.B upto v=true\/240<=r.1.V.length/\r.2.2=true)
theorem Ip (h:i4 c w)(inp:Vw)(upto:Int):LJ c w inp upto (aN c w inp upto):=by
 unfold aN;rw[i1_ h];have hmB:∀b∈(bx c inp).B,mayB c b=true:=fun b hb=>(mem_filter.1 hb).2;have hmV:∀v∈(bx c inp).V,mayV c v=true:=fun b hb=>(mem_filter.1 hb).2;have:=Im (o:=bx c inp) (upto:=upto) h;obtain⟨hi,he⟩:=this;generalize mf upto ⟨w.B,w.V,false,(bx c inp).B,(bx c inp).V⟩=s at hi he⊢;obtain⟨t,ht,ht2⟩:=hi.preB;obtain⟨u,hu,hu2⟩:=hi.preV;refine⟨⟨h.conf,hi.valid,hi.below.1,hi.below.2,fun b hb=>?_,fun v hv=>?_,hi.nodup,hi.forB⟩,⟨t,ht,ht2⟩,⟨u,hu,hu2⟩,hi.subB,hi.subV,hi.allB,hi.allV,he.B,he.V⟩
 ·simp only[ht]at hb;rcases mem_append.1 hb with hb|hb
  ·exact h.mayB b hb
  ·exact hmB b (ht2 b hb).1
 ·simp only[hu]at hv;rcases mem_append.1 hv with hv|hv
  ·exact h.mayV v hv
  ·exact hmV v (hu2 v hv).1
theorem uV (c:Cf)(w:Vw):(bx c w).B.length<=w.B.length/\(bx c w).V.length<=w.V.length:=⟨length_filter_le _ _,length_filter_le _ _⟩
theorem th {l:List α}{n:Nat}(hy:l[n]?=some y):((l.take (n+1)).filter p).length=((l.take n).filter p).length+bif p y then 1 else 0:=by
 rw[bg hy,length_append];cases p y <;>rfl
theorem Iq (h:LJ c w inp upto r):w.B.length<=r.1.B.length/\w.V.length<=r.1.V.length/\r.2.1.B.length<=inp.B.length/\r.2.1.V.length<=inp.V.length:=by
 obtain⟨t,ht,-⟩:=h.preB;obtain⟨u,hu,-⟩:=h.preV;exact⟨by rw[ht];simp,by rw[hu];simp,(h.subB.trans List.filter_sublist).length_le,(h.subV.trans List.filter_sublist).length_le⟩
theorem Fa (h:LJ c w inp upto r):r.1.B.take w.B.length=w.B/\r.1.V.take w.V.length=w.V:=by
 obtain⟨t,ht,-⟩:=h.preB;obtain⟨u,hu,-⟩:=h.preV;rw[ht,hu];exact⟨take_left' rfl,take_left' rfl⟩
theorem d5 {α:Type}[DecidableEq α]:∀{l L:List α},l.Nodup->(∀x∈l,x∈L)->l.length<=L.length
 |[],_,_,_=>zero_le _
 |x::r,L,h,hs=>by
  rw[List.nodup_cons]at h;have hx:=hs x (.head _);have h1:=d5 (L:=L.erase x) h.2 fun y hy=>(List.mem_erase_of_ne (show y≠x from fun e=>h.1 (by rw[<-e];exact hy))).2 (hs y (.tail _ hy));have h2:=List.length_erase_of_mem hx;have h3:=List.length_pos_of_mem hx;simp only[length_cons];omega
inductive CB (base o:List Bk)(upto:Int):Bk->Prop
 |base {b:Bk}:b∈base->CB base o upto b
 |root {b:Bk}:b∈o->b.Slot<=upto->b.Parent=(0,0)->0<b.Slot->CB base o upto b
 |step {b p:Bk}:b∈o->b.Slot<=upto->CB base o upto p->nm p=b.Parent->p.Slot<b.Slot->CB base o upto b
theorem CB.mono {base base' o o':List Bk}{upto upto':Int}(h1:∀b∈base,CB base' o' upto' b)(h2:∀b∈o,b∈o')(h3:upto<=upto')(h:CB base o upto b):CB base' o' upto' b:=by
 induction h with
 |base h=>exact h1 _ h
 |root a1 a2 a3 a4=>exact .root (h2 _ a1) (Int.le_trans a2 h3) a3 a4
 |step a1 a2 _ a4 a5 ih=>exact .step (h2 _ a1) (Int.le_trans a2 h3) ih a4 a5
structure Rm (U:Vw):Prop where
 inj:∀a∈U.B,∀b∈U.B,nm a=nm b->a=b
 B:U.B.length<60
 V:U.V.length<240
theorem Fv {l:List Int}(hl:l.length<=100000)(v:Int):xV l v=some (decide (v∈l)):=by
 have e:=eb (step:=k7 l v) (n:=l.length) (fun k=>fN.mk (k:Int)) (gZ l v) (fun j hj=>by
  obtain⟨y,hy,-⟩:=aA hj;unfold k7 gZ;simp only;rw[eN,aw hy,ob,ah (n:=j),hy];by_cases h:v=y
  ·rw[beq_iff_eq.2 h,ct,i1_ (by rw[h])]
  ·rw[beq_eq_false_iff_ne.2 h,cf,i0_ (fun e=>h (Option.some.inj e).symm)]) (by
  unfold k7;simp only
  rw[gt])
 unfold xV CE;rw[<-nK];have e':iter (k7 l v) aY (fN.mk 0)=some (lZ (fN.mk (l.length:Int)) (cW (gZ l v) 0 l.length)):=e;rw[e',ob]
 cases h:cW (gZ l v) 0 l.length with
 |none=>rw[lZ,sl,ob];rfl
 |some r=>rw[lZ,sr,ob,aQ (uI h)];rfl
def wv (cm:List Int)(v:Vt):Bool:=decide (v.From∈cm)
theorem xU (hl:cm.length<=100000)(v:Vt):vK cm v=some (!wv cm v):=by
 unfold vK;rw[Fv hl,ob];rfl
theorem FU {l:List Vt}(hc:cm.length<=100000)(hl:l.length<=100000) :
  ∃i,x6 l l.length cm=some i/\((i= -1/\l.filter (wv cm)=l)\/∃j:Nat,i=j/\j<l.length/\(l.take (j+1)).filter (wv cm)=l.take j):=by
 unfold x6
 have key:=bw (step:=k9 l l.length cm) (fun x=>∃j:Nat,j<=l.length/\x.t8=j/\(l.take j).filter (wv cm)=l.take j) (fun x=>l.length-x.t8.toNat)
  (fun b=>(∃x,b=.inl x/\l.filter (wv cm)=l)\/∃j:Nat,b=.inr (j:Int)/\j<l.length/\(l.take (j+1)).filter (wv cm)=l.take j) (by
   rintro⟨t⟩ ⟨j,hj,h1,h2⟩;simp only at h1 h2;subst h1;by_cases hlt:j<l.length
   ·obtain⟨y,hy,-⟩:=aA hlt;have hsn:=bg (p:=wv cm) hy
    have hstep:k9 l l.length cm ⟨(j:Int)⟩=bif !wv cm y then some (.inr (.inr (j:Int)))else some (.inl ⟨((j+1:Nat):Int)⟩):=by
     unfold k9;simp only;rw[eN,take_length,aw hy,ob,xU hc,ob,ah (n:=j)]
    rw[h2]at hsn
    cases hp:wv cm y with
    |true=>
     rw[hp,Bool.not_true,cf]at hstep;rw[hp,ct]at hsn;exact .inl ⟨_,hstep,⟨j+1,by omega,rfl,by rw[hsn,iU hy]⟩,by simp only;omega⟩
    |false=>
     rw[hp,Bool.not_false,ct]at hstep;rw[hp,cf,append_nil]at hsn;exact .inr ⟨_,hstep,.inr ⟨j,rfl,hlt,hsn⟩⟩
   ·right
    obtain rfl:j=l.length:=by omega
    refine⟨.inl ⟨(l.length:Int)⟩,?_,.inl ⟨_,rfl,?_⟩⟩
    ·unfold k9;simp only;rw[gt]
    ·rw[take_length]at h2;exact h2) (n:=aY) (x:=⟨0⟩) ⟨0,by omega,rfl,by simp⟩ (cj (by simp only;omega))
 obtain⟨b,e,⟨x,rfl,h1⟩|⟨j,rfl,h0,h1⟩⟩:=key
 ·exact⟨-1,by rw[e,ob,sl],.inl ⟨rfl,h1⟩⟩
 ·exact⟨j,by rw[e,ob,sr],.inr ⟨j,rfl,h0,h1⟩⟩
theorem FK {l:List Vt}(hc:cm.length<=100000)(hl:l.length<=100000):∃k' l',xZ l l.length cm=some (k',l')/\vB l' k' (l.filter (wv cm)):=by
 obtain⟨i,e0,h0⟩:=FU hc hl;unfold xZ;rw[e0,ob];rcases h0 with⟨rfl,hp⟩|⟨j0,rfl,hj0,hp⟩
 ·rw[hp,show((-1:Int)== -1)=true from rfl,ct];exact⟨_,_,rfl,take_length,le_refl _⟩
 ·rw [show((j0:Int)== -1)=false by rw[beq_eq_false_iff_ne];omega,cf,ah (n:=j0)]
  have key:=bw (step:=k8 l.length cm) (fun x=>∃(i j:Nat),x.i=i/\x.j=j/\Mv l x.o1 i j ((l.take j).filter (wv cm))) (fun x=>l.length-x.j.toNat)
   (fun x=>∃i:Nat,x.i=i/\i<=l.length/\x.o1.take i=l.filter (wv cm)/\l.length<=x.o1.length) (by
   rintro⟨i',j',a⟩ ⟨i,j,h1,h2,h5⟩;simp only at h1 h2 h5;subst h1 h2;have hij:=h5.ij;have hjl:=h5.jl;have hal:=h5.len;by_cases hlt:j<l.length
   ·left;obtain⟨y,hy,-⟩:=aA hlt
    have hya:(a.take l.length)[j]?=some y:=by rw[getElem?_take_of_lt hlt,h5.rest j (le_refl _) (by omega),hy]
    obtain⟨z,hz,-⟩:=aA (l:=a.take l.length) (n:=i) (by rw[length_take];omega);have hsn:=bg (p:=wv cm) hy
    have hstep:k8 l.length cm ⟨(i:Int),(j:Int),a⟩=bif wv cm y then some (.inl ⟨((i+1:Nat):Int),((j+1:Nat):Int),a.set i y⟩)else some (.inl ⟨(i:Int),((j+1:Nat):Int),a⟩):=by
     unfold k8;simp only;rw[eN,aw hya,ob,xU hc,ob,aw hz,ob,ah (n:=j),ah (n:=i),toNat_natCast,Bool.not_not]
    cases hp:wv cm y with
    |false=>
     rw[hp,cf]at hstep;rw[hp,cf,append_nil]at hsn;refine⟨_,hstep,⟨i,j+1,rfl,rfl,?_⟩,by simp only;omega⟩;rw[hsn];exact h5.next_gone (by omega)
    |true=>
     rw[hp,ct]at hstep;rw[hp,ct]at hsn;refine⟨_,hstep,⟨i+1,j+1,rfl,rfl,?_⟩,by simp only;omega⟩;rw[hsn];exact h5.next_stay (by omega) hy
   ·right
    have hjk:j=l.length:=by omega
    have htl:l.take j=l:=take_of_length_le (by omega);rw[htl]at h5;refine⟨⟨(i:Int),(j:Int),a⟩,?_,i,rfl,by omega,h5.left,by show l.length<=a.length;omega⟩;unfold k8;simp only
    rw[aR (show¬(j:Int)<(l.length:Int) by omega),cf]) (n:=aY) (x:=⟨(j0:Int),((j0+1:Nat):Int),l⟩)
   ⟨j0,j0+1,rfl,rfl,by
    rw[hp]
    exact⟨by omega,by omega,le_refl _,rfl,fun q h1 h2=>rfl⟩⟩ (cj (by simp only;omega))
  obtain⟨x,ex,i,hi,hik,h2,h3⟩:=key;rw[ex,ob,hi,aQ (show 0<=(i:Int)/\(i:Int)<=(l.length:Int) by omega),ct,toNat_natCast,aQ (show i+(l.length-i)<=x.o1.length by omega),ct,ct];exact⟨_,_,rfl,xd hik h3 h2⟩
def dG (c:Cf)(v:List Vt)(slot:Int):List Vt:=(uU v slot).filter (wv (nG c slot))
theorem B7 (v:List Vt)(slot:Int):(uU v slot).length<=v.length:=by
 unfold uU;rw[(cO _).length_eq];exact le_trans (List.length_filterMap_le _ _) (oK v).2
theorem qQ (c:Cf)(v:List Vt)(slot:Int):(dG c v slot).length<=v.length:=le_trans (length_filter_le _ _) (B7 v slot)
theorem xT {v:List Vt}(hv:v.length<=90000)(c:Cf)(slot:Int):vJ c v slot=some (dG c v slot):=by
 have hl:=B7 v slot;have hc:=rU c slot;obtain⟨k',l',e,hp⟩:=FK (l:=uU v slot) (cm:=nG c slot) (by omega) (by omega);unfold vJ Jw;rw[show ble v.length 90000=true from Nat.ble_eq_true_of_le hv,ct,ob,Bs,ob,length_map,e,ob];simp only;rw[show ble k' l'.length=true from Nat.ble_eq_true_of_le hp.le,ct,hp.take];rfl
theorem tL (h1:w.B.length<=1000)(h2:w.V.length<=1000)(c:Cf)(slot:Int):ng c w slot=some (g0 c w.B (dG c w.V slot)):=by
 have hg:=qQ c w.V slot;unfold ng;rw[xT (by omega),ob,Ls h1 (by omega),ob]
theorem rW {α β:Type}[DecidableEq α]:∀{m:List (α×β)},(m.map Prod.fst).Nodup->∀{k:α} {v:β},(k,v)∈m↔ak m k=some v
 |[],_,k,v=>by simp[ak]
 | (a,b)::r,h,k,v=>by
  rw[map_cons,List.nodup_cons]at h;have ih:=rW h.2 (k:=k) (v:=v);by_cases e:a=k
  ·subst e;simp only[ak,if_true,mem_cons,Prod.mk.injEq,true_and];constructor
   ·rintro(h1|h1)
    ·rw[h1]
    ·exact absurd (List.mem_map.2 ⟨_,h1,rfl⟩) h.1
   ·intro h1;exact .inl (Option.some.inj h1).symm
  ·have e':¬k=a:=fun h=>e h.symm;simp only[ak,i0_ e,mem_cons,Prod.mk.injEq,e',false_and,false_or];exact ih
structure tq (l:List Vt):Prop where
 was:∀d id,ak (cH l).1 d=some id->∃v∈l,qG v=d/\v.Head=id
 has:∀v∈l,∃id,ak (cH l).1 (qG v)=some id
 bad:∀d,(ak (cH l).2 d).getD false=true↔∃v∈l,∃w∈l,qG v=d/\qG w=d/\v.Head≠w.Head
theorem Er {l:List Vt}(h:tq l)(y:Vt):tq (l++[y]):=by
 have e1:(cH (l++[y])).1=bK (cH l).1 (qG y) y.Head:=by rw[mA];rfl
 have e2:(cH (l++[y])).2=if xf (cH l).1 y=true then bK (cH l).2 (qG y) true else(cH l).2:=by rw[mA];rfl
 have hy:y∈l++[y]:=List.mem_append_right _ (mem_singleton.2 rfl)
 have hdbl:xf (cH l).1 y=true↔∃v∈l,qG v=qG y/\ak (cH l).1 (qG y)=some v.Head/\v.Head≠y.Head:=by
  unfold xf
  cases hf:ak (cH l).1 (qG y)with
  |none=>
   simp only[Bool.false_eq_true,false_iff];rintro⟨v,-,-,h2,-⟩;cases h2
  |some id=>
   obtain⟨v,h1,h2,h3⟩:=h.was _ _ hf;constructor
   ·intro h4;exact⟨v,h1,h2,by rw[h3],by rw[h3];exact of_decide_eq_true h4⟩
   ·rintro⟨w,-,-,h5,h6⟩;rw[Option.some.inj h5];exact aQ h6
 refine⟨fun d id hd=>?_,fun v hv=>?_,fun d=>?_⟩
 ·rw[e1,di]at hd;split at hd
  ·rename_i e;exact⟨y,hy,e,Option.some.inj hd⟩
  ·obtain⟨v,h1,h2⟩:=h.was d id hd;exact⟨v,mem_append_left _ h1,h2⟩
 ·rw[e1,di];split
  ·exact⟨_,rfl⟩
  ·rename_i hne;rcases mem_append.1 hv with hv|hv
   ·exact h.has v hv
   ·rw[mem_singleton.1 hv]at hne;exact absurd Z hne
 ·rw [e2];constructor
  ·intro hb;by_cases hd:xf (cH l).1 y=true
   ·rw[i1_ hd,di]at hb;by_cases e:qG y=d
    ·obtain⟨v,h1,h2,-,h4⟩:=hdbl.1 hd;exact⟨v,mem_append_left _ h1,y,hy,h2.trans e,e,h4⟩
    ·rw[i0_ e]at hb;obtain⟨v,h1,w,h2,h3⟩:=(h.bad d).1 hb;exact⟨v,mem_append_left _ h1,w,mem_append_left _ h2,h3⟩
   ·rw[i0_ hd]at hb;obtain⟨v,h1,w,h2,h3⟩:=(h.bad d).1 hb;exact⟨v,mem_append_left _ h1,w,mem_append_left _ h2,h3⟩
  ·have old:(ak (cH l).2 d).getD false=true->(ak (if xf (cH l).1 y=true then bK (cH l).2 (qG y) true else(cH l).2) d).getD false=true:=by
    intro ho;split
    ·rw[di];split
     ·rfl
     ·exact ho
    ·exact ho
   have mix:∀v∈l,qG v=d->qG y=d->v.Head≠y.Head->(ak (if xf (cH l).1 y=true then bK (cH l).2 (qG y) true else(cH l).2) d).getD false=true:=by
    intro v hv h1 h2 h3;by_cases hd:xf (cH l).1 y=true
    ·rw[i1_ hd,di,i1_ h2];rfl
    ·refine old<|(h.bad d).2 ?_;obtain⟨id,hid⟩:=h.has v hv;rw[h1,<-h2]at hid;obtain⟨u,hu,hu2,hu3⟩:=h.was _ _ hid;have:¬u.Head≠y.Head:=fun hne=>hd (hdbl.2 ⟨u,hu,hu2,by rw[hid,hu3],hne⟩);exact⟨v,hv,u,hu,h1,hu2.trans h2,fun e=>this fun e2=>h3 (e.trans e2)⟩
   rintro⟨v,hv,w,hw,h1,h2,h3⟩;rcases mem_append.1 hv with hv|hv
   ·rcases mem_append.1 hw with hw|hw
    ·exact old<|(h.bad d).2 ⟨v,hv,w,hw,h1,h2,h3⟩
    ·rw[mem_singleton.1 hw]at h2 h3;exact mix v hv h1 h2 h3
   ·rw[mem_singleton.1 hv]at h1 h3;rcases mem_append.1 hw with hw|hw
    ·exact mix w hw h2 h1 fun e=>h3 e.symm
    ·rw[mem_singleton.1 hw]at h3;exact absurd Z h3
theorem G9 (l:List Vt):tq l:=by
 have key:∀k,k<=l.length->tq (l.take k):=by
  intro k
  induction k with
  |zero=>exact fun _=>⟨fun d id h=>(by cases h),fun v hv=>(by cases hv),fun d=>⟨fun h=>(by cases h),fun⟨v,hv,_⟩=>(by cases hv)⟩⟩
  |succ k ih=>
   intro hk;obtain⟨y,hy,-⟩:=aA (l:=l) (n:=k);rw[aM hy];exact Er (ih (by omega)) y
 have:=key l.length (le_refl _)
 rwa [take_length]at this
theorem IC {x y:Vt}(h1:qG x=qG y)(h2:x.Head=y.Head):x=y:=by
 cases x;cases y;unfold qG at h1;simp only at h1 h2;cases h1;cases h2;rfl
theorem H6 {V:List Vt}:x∈uU V slot↔x∈V/\x.Slot=slot/\∀y∈V,qG y=qG x->y.Head=x.Head:=by
 have hI:=G9 V;have hk:=(oK V).1;unfold uU;rw[(cO _).mem_iff,List.mem_filterMap];constructor
 ·rintro⟨⟨⟨f,s⟩,id⟩,he,h2⟩;unfold hZ at h2;split at h2
  ·rename_i hc;obtain⟨hs,hb⟩:=hc;simp only at hs hb h2;subst hs;cases h2;obtain⟨v,h3,h4,h5⟩:=hI.was _ _ ((rW hk).1 he);have e:v=⟨f,s,id⟩:=IC h4 h5;subst e;refine⟨h3,rfl,fun y hy h6=>?_⟩;by_cases h7:y.Head=id
   ·exact h7
   ·have:=(hI.bad ⟨f,s⟩).2 ⟨y,hy,_,h3,h6,h4,h7⟩;rw[this]at hb;cases hb
  ·cases h2
 ·rintro⟨h1,h2,h3⟩;obtain⟨id,hid⟩:=hI.has x h1;obtain⟨v,h4,h5,h6⟩:=hI.was _ _ hid;have e:id=x.Head:=h6.symm.trans (h3 v h4 h5);refine⟨(qG x,id),(rW hk).2 hid,?_⟩;unfold hZ;rw[i1_]
  ·rw[e,<-h2];rfl
  ·refine⟨h2,?_⟩
   cases hb:(ak (cH V).2 (qG x)).getD false with
   |false=>rfl
   |true=>
    obtain⟨u,hu,w,hw,h7,h8,h9⟩:=(hI.bad _).1 hb;exact absurd ((h3 u hu h7).trans (h3 w hw h8).symm) h9
end Go.Mg
