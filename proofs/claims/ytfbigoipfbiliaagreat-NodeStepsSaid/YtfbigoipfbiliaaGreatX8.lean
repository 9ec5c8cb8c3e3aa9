/- Plain laws of weights on blocks, and of the head: the program's side. Plain laws of views: lists of blocks and votes, and what may be at all. Laws of trees. TreeKids, TreeMore: plain. view.May. Plain laws of views: which views may be. view.Take. Plain laws of views: what is taken. Plain laws of views: what is taken, as the program does it. Plain laws of views: votes that are taken, as the program does it. Plain laws of views: view.Take. Plain laws of views: what holds of what is taken. Laws of views. The laws of views' example. Laws of views. Laws of views: ViewOnly, ViewJoin. Laws of views. Laws of views. Laws of views: ViewMay, ViewKeeps. Plain laws of views: what is counted, as a set. The votes of a committee, and the head by them, plain. The votes of a slot that count, by what votes there are, whatever their order. Conditions: none. -/
import Derived.Test.YtfbigoipfbiliaaGreatX7
import Derived.Test.YtfbigoipfbiliaaGreatX6
import Derived.Test.YtfbigoipfbiliaaGreatX3
set_option maxRecDepth 100000
set_option linter.unusedSimpArgs false
set_option linter.unusedVariables false
namespace Go.Mg
theorem kt {α β:Type}{step:α→Option (α⊕β)}{n:Nat}{x y:α}(h:step x=some (.inl y)):iter step (n+1) x=iter step n y:=by
 rw[iter,h]
theorem dS {α β:Type}{step:α→Option (α⊕β)}{n:Nat}{x:α}{b:β}(h:step x=some (.inr b)):iter step (n+1) x=some b:=by
 rw[iter,h]
theorem GM :bg=4611686018427387901+1+1+1:=rfl
def oq (a b:ID):Bool:=decide (a.1<b.1∨a.1=b.1∧a.2<b.2)
def kj (x y:Int):Int:=if x<y then -1 else if x>y then 1 else 0
theorem x7 (x y:Int):BT x y=some (kj x y):=by
 have h:∀z:Int,z8 z=some false:=fun z=>by unfold z8;rw[show(z != z)=false by simp]
 unfold BT kj;rw[h x,ob,h y,ob,cf,cf];by_cases h1:x<y
 ·rw[decide_eq_true h1,ct,if_pos h1]
 ·rw[decide_eq_false h1,cf,if_neg h1];by_cases h2:x>y
  ·rw[decide_eq_true h2,ct,if_pos h2]
  ·rw[decide_eq_false h2,cf,if_neg h2]
theorem ux (a1 a2 b1 b2:Int):zZ [a1,a2] [b1,b2]=some (if kj a1 b1≠0 then kj a1 b1 else kj a2 b2):=by
 unfold zZ
 have h0:∀i:Int,i=0→iW [a1,a2] [b1,b2] (ej.mk i)=if kj a1 b1≠0 then some (.inr (.inr (kj a1 b1)))else some (.inl (ej.mk 1)):=by
  rintro i rfl;unfold iW;simp only;rw[show decide ((0:Int)<(([a1,a2]:List Int).length:Int))=true from rfl,ct,show ix [a1,a2] 0=some a1 from rfl,ob,show decide ((0:Int)≥(([b1,b2]:List Int).length:Int))=false from rfl,cf,show ix [b1,b2] 0=some b1 from rfl,ob,x7,ob,show IntKind.i64.wrap (0+1)=1 from cJ (by omega) (by omega)];by_cases h:kj a1 b1=0
  ·rw[show(kj a1 b1 != 0)=false by simp[h],cf,if_neg (not_not_intro h)]
  ·rw[show(kj a1 b1 != 0)=true by simp[h],ct,if_pos h]
 have h1:iW [a1,a2] [b1,b2] (ej.mk 1)=if kj a2 b2≠0 then some (.inr (.inr (kj a2 b2)))else some (.inl (ej.mk 2)):=by
  unfold iW;simp only;rw[show decide ((1:Int)<(([a1,a2]:List Int).length:Int))=true from rfl,ct,show ix [a1,a2] 1=some a2 from rfl,ob,show decide ((1:Int)≥(([b1,b2]:List Int).length:Int))=false from rfl,cf,show ix [b1,b2] 1=some b2 from rfl,ob,x7,ob,show IntKind.i64.wrap (1+1)=2 from cJ (by omega) (by omega)];by_cases h:kj a2 b2=0
  ·rw[show(kj a2 b2 != 0)=false by simp[h],cf,if_neg (not_not_intro h)]
  ·rw[show(kj a2 b2 != 0)=true by simp[h],ct,if_pos h]
 have h2:iW [a1,a2] [b1,b2] (ej.mk 2)=some (.inr (.inl (ej.mk 2))):=by
  unfold iW;simp only;rw[show decide ((2:Int)<(([a1,a2]:List Int).length:Int))=false from rfl,cf]
 rw[GM];by_cases c1:kj a1 b1=0
 ·have e1:=h0 0 rfl;rw[if_neg (not_not_intro c1)]at e1;rw[kt e1,if_neg (not_not_intro c1)];by_cases c2:kj a2 b2=0
  ·rw[if_neg (not_not_intro c2)]at h1;rw[kt h1,dS h2,ob,sl,show decide ((([a1,a2]:List Int).length:Int)<(([b1,b2]:List Int).length:Int))=false from rfl,cf,c2]
  ·rw[if_pos c2]at h1;rw[dS h1,ob,sr]
 ·have e1:=h0 0 rfl;rw[if_pos c1]at e1;rw[dS e1,if_pos c1,ob,sr]
theorem Ef (a b:ID):Bt a b=some (oq a b):=by
 unfold Bt oq;rw[ux,ob];congr 1;refine decide_eq_decide.2 ?_;unfold kj;by_cases h1:a.1<b.1
 ·simp[h1]
 ·by_cases h2:a.1>b.1
  ·have:a.1≠b.1:=by omega
   simp[h1,h2,this]
  ·have:a.1=b.1:=by omega
   by_cases h3:a.2<b.2
   ·simp[this,h3]
   ·by_cases h4:a.2>b.2 <;>simp[this,h3,h4]
theorem AE (a:ID):oq a a=false:=by unfold oq;exact decide_eq_false (by omega)
def je (a b:Rk):Bool:=if a.n=b.n then oq b.id a.id else decide (a.n>b.n)
theorem Eg (a b:Rk):Bu a b=some (je a b):=by
 unfold Bu je;by_cases h:a.n=b.n
 ·rw[show(a.n != b.n)=false by simp[h],cf,if_pos h,show(a.n==b.n)=true by simp[h],Bool.true_and,n7];by_cases h2:a.id=b.id
  ·rw[decide_eq_true h2,Bool.not_true,cf,h2,AE]
  ·rw[decide_eq_false h2,Bool.not_false,ct,Ef,ob]
 ·rw[show(a.n != b.n)=true by simp[h],ct,if_neg h]
def fI (l:List Bk)(id h:ID):Bool:=decide (id∈am l h)
def kP (l:List Bk)(v:List Vt)(id:ID):List Int:=(v.filter fun x=>fI l id x.Head).map Vt.From
def jR (c:Cf)(l:List Bk)(v:List Vt)(id:ID):Int:=uh c (kP l v id)
theorem cO {α β:Type}[DecidableEq α]{m:List (α×β)}{k q:α}{v:β}:ak (bz m k v) q=if k=q then some v else ak m q:=by
 induction m with
 |nil=>simp[bz,ak]
 | cons p r ih=>
  obtain⟨a,b⟩:=p;unfold bz;by_cases h:a=k
  ·rw[if_pos h];subst h;by_cases h2:a=q
   ·simp[ak,h2]
   ·simp[ak,h2]
  ·rw[if_neg h];simp only[ak];rw[ih];by_cases h2:a=q
   ·rw[if_pos h2,if_pos h2,if_neg (fun e=>h (by rw[h2,e]))]
   ·rw[if_neg h2,if_neg h2]
def wS (l:List Bk)(id:ID)(m:List (ID×Bool)):Prop:=∀h b,ak m h=some b→b=fI l id h
theorem Eu {l:List Bk}(hl:l.length≤1000){x:Vt}{c:Cf}{id:ID}{m:List (ID×Bool)}(hm:wS l id m):∃m',BJ x c l id m=some (fI l id x.Head,m')∧wS l id m':=by
 unfold BJ
 have hu:decide (an (am l x.Head) id≥0)=fI l id x.Head:=by
  unfold fI;exact decide_eq_decide.2 ⟨fun h=>cQ.1 h,fun h=>cQ.2 h⟩
 cases hf:ak m x.Head with
 | none=>
  refine⟨bz m x.Head (fI l id x.Head),?_,?_⟩
  ·rw[Option.isSome_none,Bool.not_false,ct,Ho hl,ct,hu]
  ·intro h b hb;rw[cO]at hb;by_cases e:x.Head=h
   ·rw[if_pos e]at hb;cases hb;rw[e]
   ·rw[if_neg e]at hb;exact hm h b hb
 |some b=>
  refine⟨m,?_,hm⟩;rw[Option.isSome_some,Bool.not_true,cf,Option.getD_some,hm _ _ hf]
theorem aJ {α:Type}{l:List α}{j:Nat}{y:α}(h:l[j]?=some y):l.take (j+1)=l.take j++[y]:=by rw[List.take_add_one,h];rfl
theorem sX {l:List Bk}{v:List Vt}{id:ID}{n:Nat}{y:Vt}(hy:v[n]?=some y):kP l (v.take (n+1)) id=kP l (v.take n) id++bif fI l id y.Head then[y.From]else[]:=by
 unfold kP;rw[aJ hy,List.filter_append,List.map_append];cases h:fI l id y.Head <;>simp[h]
theorem od (l:List Bk)(v:List Vt)(id:ID):(kP l v id).length≤v.length:=by
 unfold kP;rw[List.length_map];exact List.length_filter_le _ _
theorem Ev {l:List Bk}(hl:l.length≤1000){v:List Vt}(hv:v.length≤1000){c:Cf}{id:ID}:∃m',BK v c l id []=some (kP l v id,m'):=by
 unfold BK
 have key:=bf (step:=nz v c l id) (fun x=>∃n:Nat,n≤v.length∧x.t12=n∧wS l id x.o3∧x.out=kP l (v.take n) id) (fun x=>v.length-x.t12.toNat) (fun b=>b.out=kP l v id) (by
  rintro⟨t,m,out⟩ ⟨n,hn,h1,hm,ho⟩;simp only at h1 ho hm;subst h1 ho;by_cases hlt:n<v.length
  ·left;obtain⟨y,hy,-⟩:=ax hlt;obtain⟨m',e,hm'⟩:=Eu hl (x:=y) (c:=c) hm;have hlen:=od l (v.take n) id;rw[List.length_take]at hlen;refine⟨⟨((n+1:Nat):Int),m',kP l (v.take (n+1)) id⟩,?_,⟨n+1,hlt,rfl,hm',rfl⟩,by simp only;omega⟩;unfold nz;simp only;rw[decide_eq_true (show(n:Int)<(v.length:Int) by omega),ct,aw hy,ob,e,ob,sX hy,ah (n:=n) (by omega)]
   cases hu:fI l id y.Head with
   |true=>rw[ct,show Ew y=some y.From from rfl,ob,aM (by simp only[List.length_singleton];omega) (by omega),ct,ct]
   |false=>rw[cf,cf,List.append_nil]
  ·right
   obtain rfl:n=v.length:=by omega
   refine⟨⟨(v.length:Int),m,kP l (v.take v.length) id⟩,?_,by simp only[List.take_length]⟩;unfold nz;simp only
   rw[decide_eq_false (show¬(v.length:Int)<(v.length:Int) by omega),cf]) (n:=bg) (x:=⟨0,[],[]⟩) ⟨0,by omega,rfl,(fun h b hb=>by cases hb),by simp[kP]⟩ (bO (by simp only;omega))
 obtain⟨b,e,hp⟩:=key;exact⟨b.o3,by rw[e,ob,hp]⟩
theorem xT {l:List Bk}(hl:l.length≤1000){v:List Vt}(hv:v.length≤1000)(c:Cf)(id:ID):zP c l v id=some (jR c l v id):=by
 unfold zP;obtain⟨m',e⟩:=Ev hl hv (c:=c) (id:=id);have:=od l v id;rw[e,ob,Cq (by simp only;omega),ob];rfl
theorem yT (c:Cf)(l:List Bk)(v:List Vt)(id:ID):0≤jR c l v id:=by
 unfold jR uh;split
 ·next h=>exact(qE h.okW.2 _).1
 ·omega
def eP (f:ID→Int):List ID→Rk→Rk
 |[],b=>b
 |k::r,b=>eP f r (bif je ⟨f k,k⟩ b then⟨f k,k⟩else b)
theorem mW (f:ID→Int)(k:ID):∀(a:List ID) (b:Rk),eP f (a++[k]) b=bif je ⟨f k,k⟩ (eP f a b)then⟨f k,k⟩else eP f a b
 |[],_=>rfl
 |_::r,_=>mW f k r _
def dp (c:Cf)(l:List Bk)(v:List Vt)(id:ID):Rk:=eP (jR c l v) (aU l id) ⟨-1,(0,0)⟩
theorem vQ (l:List Bk)(id:ID):(aU l id).length≤l.length:=by
 unfold aU;split
 ·simp
 ·rw[List.length_map];exact List.length_filter_le _ _
theorem Cv {l:List Bk}(hl:l.length≤1000){v:List Vt}(hv:v.length≤1000)(c:Cf)(id:ID):Ik c l v id=some ((dp c l v id).id,decide ((dp c l v id).n≥0)):=by
 unfold Ik;have hk:=vQ l id;rw[Gs hl,ob]
 have e:=aC (step:=qW c l v (aU l id)) (n:=(aU l id).length) (fun n=>gC.mk (n:Int) (eP (jR c l v) ((aU l id).take n) ⟨-1,(0,0)⟩)) (gC.mk ((aU l id).length:Int) (dp c l v id)) (fun n hn=>by
  obtain⟨y,hy,-⟩:=ax hn;unfold qW;simp only;rw[decide_eq_true (show(n:Int)<((aU l id).length:Int) by omega),ct,aw hy,ob,xT hl hv,ob,Eg,ob,ah (n:=n) (by omega),aJ hy,mW]
  cases je ⟨jR c l v y,y⟩ (eP (jR c l v) ((aU l id).take n) ⟨-1,(0,0)⟩)with
  |true=>rw[ct,ct]
  |false=>rw[cf,cf]) (by
  unfold qW;simp only
  rw[decide_eq_false (show¬((aU l id).length:Int)<((aU l id).length:Int) by omega),cf,List.take_length];rfl) (by omega)
 have e0:gC.mk ((0:Nat):Int) (eP (jR c l v) ((aU l id).take 0) ⟨-1,(0,0)⟩)=gC.mk 0 (Rk.mk (-1) (0,0)):=rfl;rw[e0]at e;rw[e,ob]
theorem pg {f:ID→Int}(hf:∀k,0≤f k):∀(a:List ID) (b:Rk),(a=[]∧eP f a b=b)∨(eP f a b=b∧0≤b.n)∨(∃k∈a,eP f a b=⟨f k,k⟩)∨(b.n< -1)
 |[],b=>.inl ⟨rfl,rfl⟩
 | k ::r,b=>by
  by_cases hb:b.n< -1
  ·exact .inr<|.inr<|.inr hb
  ·unfold eP
   cases h:je ⟨f k,k⟩ b with
   |true=>
    rw[ct];rcases pg hf r ⟨f k,k⟩with⟨rfl,e⟩|⟨e,-⟩|⟨k',hk',e⟩|h4
    ·exact .inr<|.inr<|.inl ⟨k,.head _,e⟩
    ·exact .inr<|.inr<|.inl ⟨k,.head _,e⟩
    ·exact .inr<|.inr<|.inl ⟨k',.tail _ hk',e⟩
    ·have:=hf k;simp only at h4;omega
   | false=>
    rw[cf]
    have hb0:0≤b.n:=by
     unfold je at h;simp only at h;have:=hf k;by_cases e:f k=b.n
     ·omega
     ·rw[if_neg e]at h;have:=of_decide_eq_false h;omega
    rcases pg hf r b with⟨rfl,e⟩|h2|⟨k',hk',e⟩|h4
    ·exact .inr<|.inl ⟨e,hb0⟩
    ·exact .inr<|.inl h2
    ·exact .inr<|.inr<|.inl ⟨k',.tail _ hk',e⟩
    ·omega
theorem ll (c:Cf)(l:List Bk)(v:List Vt)(id:ID):(aU l id=[]∧dp c l v id=⟨-1,(0,0)⟩)∨∃k∈aU l id,dp c l v id=⟨jR c l v k,k⟩:=by
 unfold dp;rcases pg (yT c l v) (aU l id) ⟨-1,(0,0)⟩with h|⟨e,h2⟩|h3|h4
 ·exact .inl h
 ·simp only at h2;omega
 ·exact .inr h3
 ·simp only at h4;omega
def mA (c:Cf)(l:List Bk)(v:List Vt):Nat→ID→ID
 |0,id=>id
 |n+1,id=>if (dp c l v id).n≥0 then mA c l v n (dp c l v id).id else id
def fP (c:Cf)(l:List Bk)(v:List Vt):ID:=mA c l v (l.length+1) (0,0)
theorem Hx {l:List Bk}{m:List (ID×Int)}(hp:places l=some m){id k:ID}{i:Int}(hi:ak m id=some i)(hk:k∈aU l id):∃j,ak m k=some j∧i<j∧j<l.length:=by
 unfold aU at hk;rw[hp]at hk;obtain⟨b,hb,rfl⟩:=List.mem_map.1 hk;rw[List.mem_filter]at hb;obtain⟨n,hn⟩:=List.getElem?_of_mem hb.1;have hI:=aX hp;have hnl:=(List.getElem?_eq_some_iff.1 hn).1;have h1:=hI.names n b hnl hn;refine⟨n,h1,?_,by omega⟩;rcases hI.known _ _ h1 with⟨h2,-⟩|⟨b',p,h2,h3,h4,h5,h6,h7,h8,h9⟩
 ·omega
 ·rw[Int.toNat_natCast,hn]at h4;cases h4;have hpar:b.Parent=id:=of_decide_eq_true hb.2;rw[hpar,hi]at h6;cases h6;exact h7
theorem sZ {l:List Bk}(hl:l.length≤1000){v:List Vt}(hv:v.length≤1000)(c:Cf){m:List (ID×Int)}(hp:places l=some m):∀(n f:Nat) (id:ID) (i:Int),ak m id=some i→(l.length:Int)-i≤n→n<f→
  iter (mO c l v) f ⟨id⟩=some ⟨mA c l v n id⟩
 |0,f,id,i,hi,hn,_=>by
  rcases(aX hp).known _ _ hi with⟨h,-⟩|⟨b,p,h0,h1,-⟩ <;>omega
 | n+1,f,id,i,hi,hn,hf=>by
  obtain⟨f,rfl⟩:∃g,f=g+1:=⟨f-1,by omega⟩
  have hs:mO c l v ⟨id⟩=if (dp c l v id).n≥0 then some (.inl ⟨(dp c l v id).id⟩)else some (.inr ⟨id⟩):=by
   unfold mO;simp only;rw[Cv hl hv,ob];by_cases h:(dp c l v id).n≥0
   ·rw[decide_eq_true h,Bool.not_true,cf,if_pos h]
   ·rw[decide_eq_false h,Bool.not_false,ct,if_neg h]
  unfold mA;rcases ll c l v id with⟨-,e⟩|⟨k,hk,e⟩
  ·have:¬(dp c l v id).n≥0:=by rw[e];simp
   rw[if_neg this]at hs⊢;exact dS hs
  ·have hpos:(dp c l v id).n≥0:=by rw[e];exact yT c l v k
   rw[if_pos hpos]at hs⊢;rw[kt hs,e];obtain⟨j,hj,h1,h2⟩:=Hx hp hi hk;exact sZ hl hv c hp n f k j hj (by omega) (by omega)
theorem GA {l:List Bk}(hl:l.length≤1000){v:List Vt}(hv:v.length≤1000)(c:Cf):Il c l v=some (fP c l v):=by
 unfold Il fP
 cases hp:places l with
 |some m=>
  rw[sZ hl hv c hp (l.length+1) bg (0,0) (-1) (aX hp).zero (by omega) (bO (by omega)),ob]
 | none=>
  have hk:aU l (0,0)=[]:=by unfold aU;rw[hp]
  have hb:dp c l v (0,0)=⟨-1,(0,0)⟩:=by unfold dp;rw[hk];rfl
  have hs:mO c l v ⟨(0,0)⟩=some (.inr ⟨(0,0)⟩):=by
   unfold mO;simp only;rw[Cv hl hv,ob,hb];rfl
  rw[GM,dS hs,ob];unfold mA;rw[hb,if_neg (by simp)]
def cB {R:Type}(f:Nat→Option R):Nat→Nat→Option R
 |_,0=>none
 |k,d+1=>match f k with
  |some r=>some r
  |none=>cB f (k+1) d
theorem fw {R:Type}{f:Nat→Option R}:∀{d k:Nat},cB f k d=none↔∀j,k≤j→j<k+d→f j=none
 |0,k=>⟨fun _ j h1 h2=>by omega,fun _=>rfl⟩
 | d+1,k=>by
  unfold cB
  cases h:f k with
  |some r=>exact⟨fun h=>(by cases h),fun h2=>(by rw[h2 k (Nat.le_refl _) (by omega)]at h;cases h)⟩
  |none=>
   rw[fw (k:=k+1)];refine⟨fun h2 j h3 h4=>?_,fun h2 j h3 h4=>h2 j (by omega) (by omega)⟩;by_cases e:j=k
   ·subst e;exact h
   ·exact h2 j (by omega) (by omega)
theorem eb {R:Type}{f:Nat→Option R}{r:R}:∀{d k:Nat},cB f k d=some r→∃j,k≤j∧j<k+d∧f j=some r∧∀i,k≤i→i<j→f i=none
 |0,k,h=>by cases h
 | d+1,k,h=>by
  unfold cB at h
  cases hk:f k with
  |some q=>
   rw[hk]at h;cases h;exact⟨k,Nat.le_refl _,by omega,hk,fun i h1 h2=>by omega⟩
  |none=>
   rw[hk]at h;obtain⟨j,h1,h2,h3,h4⟩:=eb h;refine⟨j,by omega,by omega,h3,fun i h5 h6=>?_⟩;by_cases e:i=k
   ·subst e;exact hk
   ·exact h4 i (by omega) h6
def jS {S R:Type}(s:S):Option R→S⊕R |some r=>.inr r |none=>.inl s
theorem dt {S R:Type}{step:S→Option (S⊕(S⊕R))}{n:Nat}(mk:Nat→S)(f:Nat→Option R)(hs:∀j,j<n→step (mk j)=match f j with|some r=>some (.inr (.inr r))|none=>some (.inl (mk (j+1))))
  (he:step (mk n)=some (.inr (.inl (mk n)))) (hn:n<4000000000000000000):iter step bg (mk 0)=some (jS (mk n) (cB f 0 n)):=by
 have key:∀(d k q:Nat),k+d=n→d<q→iter step q (mk k)=some (jS (mk n) (cB f k d)):=by
  intro d
  induction d with
  |zero=>
   intro k q hk hq;obtain⟨q,rfl⟩:∃p,q=p+1:=⟨q-1,by omega⟩
   obtain rfl:k=n:=by omega
   exact dS he
  | succ d ih=>
   intro k q hk hq;obtain⟨q,rfl⟩:∃p,q=p+1:=⟨q-1,by omega⟩;have h1:=hs k (by omega);unfold cB
   cases hf:f k with
   |some r=>
    rw[hf]at h1;exact dS h1
   |none=>
    rw[hf]at h1;rw[kt h1];exact ih (k+1) q (by omega) (by omega)
 exact key n 0 bg (by omega)<|bO hn
def fO {α:Type}[DecidableEq α](l:List α)(v:α)(j:Nat):Option Int:=if l[j]?=some v then some (j:Int)else none
theorem lr {α:Type}[DecidableEq α]{l:List α}{v:α}:(cB (fO l v) 0 l.length).isSome=decide (v∈l):=by
 cases h:cB (fO l v) 0 l.length with
 |none=>
  rw[fw]at h;refine(decide_eq_false fun hm=>?_).symm;obtain⟨j,hj⟩:=List.getElem?_of_mem hm;have:=h j (Nat.zero_le _) (by have:=(List.getElem?_eq_some_iff.1 hj).1;omega);unfold fO at this;rw[if_pos hj]at this;cases this
 |some r=>
  obtain⟨j,-,-,h3,-⟩:=eb h;refine(decide_eq_true ?_).symm;unfold fO at h3;split at h3
  ·rename_i e;exact List.mem_of_getElem? e
  ·cases h3
theorem rG {α:Type}[DecidableEq α]{l:List α}{v:α}{n:Nat}{r:Int}(h:cB (fO l v) 0 n=some r):0≤r:=by
 obtain⟨j,-,-,h3,-⟩:=eb h;unfold fO at h3;split at h3
 ·cases h3;omega
 ·cases h3
theorem EB {l:List Bk}(hl:l.length≤100000)(v:Bk):BQ l v=some (decide (v∈l)):=by
 have e:=dt (step:=l8 l v) (n:=l.length) (fun k=>gb.mk (k:Int)) (fO l v) (fun j hj=>by
  obtain⟨y,hy,-⟩:=ax hj;unfold l8 fO;simp only;rw[decide_eq_true (show(j:Int)<(l.length:Int) by omega),ct,aw hy,ob,E4,ah (n:=j) (by omega),hy];by_cases h:v=y
  ·rw[decide_eq_true h,ct,if_pos (by rw[h])]
  ·rw[decide_eq_false h,cf,if_neg (fun e=>h (Option.some.inj e).symm)]) (by
  unfold l8;simp only
  rw[decide_eq_false (show¬(l.length:Int)<(l.length:Int) by omega),cf]) (by omega)
 unfold BQ EE;rw[←lr];have e':iter (l8 l v) bg (gb.mk 0)=some (jS (gb.mk (l.length:Int)) (cB (fO l v) 0 l.length)):=e;rw[e',ob]
 cases h:cB (fO l v) 0 l.length with
 |none=>rw[jS,sl,ob];rfl
 |some r=>rw[jS,sr,ob,decide_eq_true (rG h)];rfl
theorem EC {l:List Vt}(hl:l.length≤100000)(v:Vt):BR l v=some (decide (v∈l)):=by
 have e:=dt (step:=l9 l v) (n:=l.length) (fun k=>gc.mk (k:Int)) (fO l v) (fun j hj=>by
  obtain⟨y,hy,-⟩:=ax hj;unfold l9 fO;simp only;rw[decide_eq_true (show(j:Int)<(l.length:Int) by omega),ct,aw hy,ob,E5,ah (n:=j) (by omega),hy];by_cases h:v=y
  ·rw[decide_eq_true h,ct,if_pos (by rw[h])]
  ·rw[decide_eq_false h,cf,if_neg (fun e=>h (Option.some.inj e).symm)]) (by
  unfold l9;simp only
  rw[decide_eq_false (show¬(l.length:Int)<(l.length:Int) by omega),cf]) (by omega)
 unfold BR EF;rw[←lr];have e':iter (l9 l v) bg (gc.mk 0)=some (jS (gc.mk (l.length:Int)) (cB (fO l v) 0 l.length)):=e;rw[e',ob]
 cases h:cB (fO l v) 0 l.length with
 |none=>rw[jS,sl,ob];rfl
 |some r=>rw[jS,sr,ob,decide_eq_true (rG h)];rfl
section
variable {α : Type} [DecidableEq α]
def cV (a:List α):List α→List α
 |[]=>a
 |x::r=>cV (if x∈a then a else a++[x]) r
theorem iN (x:α):∀(b a:List α),cV a (b++[x])=if x∈cV a b then cV a b else cV a b++[x]
 |[],_=>rfl
 |_::r,_=>iN x r _
theorem pP (x:α):∀(b a:List α),x∈cV a b↔x∈a∨x∈b
 |[],a=>by simp[cV]
 |y::r,a=>by
  unfold cV;rw[pP x r];by_cases h:y∈a
  ·rw[if_pos h,List.mem_cons];exact⟨fun h2=>h2.elim .inl (fun h3=>.inr (.inr h3)),fun h2=>h2.elim .inl fun h3=>h3.elim (fun e=>.inl (e▸h)) .inr⟩
  ·rw[if_neg h,List.mem_append,List.mem_singleton,List.mem_cons,or_assoc]
theorem dn :∀(b a:List α),(cV a b).length≤a.length+b.length
 |[],a=>by simp[cV]
 |y::r,a=>by
  unfold cV;have:=dn r (if y∈a then a else a++[y])
  have h2:(if y∈a then a else a++[y]).length≤a.length+1:=by split <;>simp
  simp only[List.length_cons];omega
end
theorem Er {a b:List Bk}(h:a.length+b.length≤90000):BG a b=some (cV a b):=by
 unfold BG;rw[aM (by omega) (by omega),ct]
 have e:=aC (step:=lT b) (n:=b.length) (fun k=>fa.mk (k:Int) (cV a (b.take k))) (fa.mk (b.length:Int) (cV a b)) (fun k hk=>by
  obtain⟨y,hy,-⟩:=ax hk;have hlen:=dn (b.take k) a;rw[List.length_take]at hlen;unfold lT;simp only;rw[decide_eq_true (show(k:Int)<(b.length:Int) by omega),ct,aw hy,ob,EB (by omega),ob,aJ hy,iN,ah (n:=k) (by omega)];by_cases hm:y∈cV a (b.take k)
  ·rw[decide_eq_true hm,Bool.not_true,cf,if_pos hm]
  ·rw[decide_eq_false hm,Bool.not_false,ct,aM (by simp only[List.length_singleton];omega) (by omega),ct,if_neg hm]) (by
  unfold lT;simp only
  rw[decide_eq_false (show¬(b.length:Int)<(b.length:Int) by omega),cf,List.take_length]) (by omega)
 have e':iter (lT b) bg (fa.mk 0 a)=some (fa.mk (b.length:Int) (cV a b)):=e;rw[e',ob]
theorem Es {a b:List Vt}(h:a.length+b.length≤90000):BH a b=some (cV a b):=by
 unfold BH;rw[aM (by omega) (by omega),ct]
 have e:=aC (step:=lU b) (n:=b.length) (fun k=>fb.mk (k:Int) (cV a (b.take k))) (fb.mk (b.length:Int) (cV a b)) (fun k hk=>by
  obtain⟨y,hy,-⟩:=ax hk;have hlen:=dn (b.take k) a;rw[List.length_take]at hlen;unfold lU;simp only;rw[decide_eq_true (show(k:Int)<(b.length:Int) by omega),ct,aw hy,ob,EC (by omega),ob,aJ hy,iN,ah (n:=k) (by omega)];by_cases hm:y∈cV a (b.take k)
  ·rw[decide_eq_true hm,Bool.not_true,cf,if_pos hm]
  ·rw[decide_eq_false hm,Bool.not_false,ct,aM (by simp only[List.length_singleton];omega) (by omega),ct,if_neg hm]) (by
  unfold lU;simp only
  rw[decide_eq_false (show¬(b.length:Int)<(b.length:Int) by omega),cf,List.take_length]) (by omega)
 have e':iter (lU b) bg (fb.mk 0 a)=some (fb.mk (b.length:Int) (cV a b)):=e;rw[e',ob]
def dq (a b:Vw):Vw:=⟨cV a.B b.B,cV a.V b.V⟩
theorem qY {a b:Vw}(h1:a.B.length+b.B.length≤90000)(h2:a.V.length+b.V.length≤90000):EK a b=some (dq a b):=by
 unfold EK;rw[Er h1,ob,Es h2,ob];rfl
section
variable {α : Type} [DecidableEq α]
def gF (a b:List α)(j:Nat):Option Bool:=if a[j]?=b[j]? then none else some false
theorem nZ {a b:List α}(hl:a.length=b.length):(match cB (gF a b) 0 a.length with|some r=>r|none=>true)=decide (a=b):=by
 cases h:cB (gF a b) 0 a.length with
 | none=>
  rw[fw]at h;refine(decide_eq_true ?_).symm;apply List.ext_getElem?;intro j;by_cases hj:j<a.length
  ·have:=h j (Nat.zero_le _) (by omega);unfold gF at this;split at this
   ·assumption
   ·cases this
  ·rw[List.getElem?_eq_none (by omega),List.getElem?_eq_none (by omega)]
 |some r=>
  obtain⟨j,-,-,h3,-⟩:=eb h;unfold gF at h3;split at h3
  ·cases h3
  ·rename_i hne;cases h3;exact(decide_eq_false fun e=>hne (by rw[e])).symm
end
theorem Ei {a b:List Bk}(h:a.length≤100000):Bw a b=some (decide (a=b)):=by
 unfold Bw;by_cases hl:a.length=b.length
 ·rw[show((a.length:Int) != (b.length:Int))=false by simp[hl],cf]
  have e:=dt (step:=lN a b) (n:=a.length) (fun k=>f9.mk (k:Int)) (gF a b) (fun j hj=>by
   obtain⟨y,hy,-⟩:=ax hj;obtain⟨z,hz,-⟩:=ax (l:=b) (n:=j) (by omega);unfold lN gF;simp only;rw[decide_eq_true (show(j:Int)<(a.length:Int) by omega),ct,aw hy,ob,aw hz,ob,E4,ah (n:=j) (by omega),hy,hz];by_cases e:y=z
   ·rw[decide_eq_true e,Bool.not_true,cf,if_pos (by rw[e])]
   ·rw[decide_eq_false e,Bool.not_false,ct,if_neg (fun q=>e (Option.some.inj q))]) (by
   unfold lN;simp only
   rw[decide_eq_false (show¬(a.length:Int)<(a.length:Int) by omega),cf]) (by omega)
  have e':iter (lN a b) bg (f9.mk 0)=some (jS (f9.mk (a.length:Int)) (cB (gF a b) 0 a.length)):=e;rw[e',ob,←nZ hl]
  cases cB (gF a b) 0 a.length with
  |none=>rw[jS,sl]
  |some r=>rw[jS,sr]
 ·rw[show((a.length:Int) != (b.length:Int))=true by rw[bne_iff_ne];omega,ct,decide_eq_false fun e=>hl (by rw[e])]
theorem Ej {a b:List Vt}(h:a.length≤100000):Bx a b=some (decide (a=b)):=by
 unfold Bx;by_cases hl:a.length=b.length
 ·rw[show((a.length:Int) != (b.length:Int))=false by simp[hl],cf]
  have e:=dt (step:=lO a b) (n:=a.length) (fun k=>ga.mk (k:Int)) (gF a b) (fun j hj=>by
   obtain⟨y,hy,-⟩:=ax hj;obtain⟨z,hz,-⟩:=ax (l:=b) (n:=j) (by omega);unfold lO gF;simp only;rw[decide_eq_true (show(j:Int)<(a.length:Int) by omega),ct,aw hy,ob,aw hz,ob,E5,ah (n:=j) (by omega),hy,hz];by_cases e:y=z
   ·rw[decide_eq_true e,Bool.not_true,cf,if_pos (by rw[e])]
   ·rw[decide_eq_false e,Bool.not_false,ct,if_neg (fun q=>e (Option.some.inj q))]) (by
   unfold lO;simp only
   rw[decide_eq_false (show¬(a.length:Int)<(a.length:Int) by omega),cf]) (by omega)
  have e':iter (lO a b) bg (ga.mk 0)=some (jS (ga.mk (a.length:Int)) (cB (gF a b) 0 a.length)):=e;rw[e',ob,←nZ hl]
  cases cB (gF a b) 0 a.length with
  |none=>rw[jS,sl]
  |some r=>rw[jS,sr]
 ·rw[show((a.length:Int) != (b.length:Int))=true by rw[bne_iff_ne];omega,ct,decide_eq_false fun e=>hl (by rw[e])]
theorem GC {a b:Vw}(h1:a.B.length≤100000)(h2:a.V.length≤100000):EJ a b=some (decide (a.B=b.B∧a.V=b.V)):=by
 unfold EJ;rw[Ei h1,ob,Ej h2,ob];by_cases h:a.B=b.B
 ·rw[decide_eq_true h,ct];congr 1;exact decide_eq_decide.2 ⟨fun h3=>⟨h,h3⟩,fun h3=>h3.2⟩
 ·rw[decide_eq_false h,cf,decide_eq_false fun h3=>h h3.1]
theorem qX (w:Vw)(n:Int):FB w n=some (decide ((w.B.length:Int)≤n∧(w.V.length:Int)≤n)):=by
 unfold FB;by_cases h:(w.B.length:Int)≤n
 ·rw[decide_eq_true h,ct];congr 1;exact decide_eq_decide.2 ⟨fun h2=>⟨h,h2⟩,fun h2=>h2.2⟩
 ·rw[decide_eq_false h,cf,decide_eq_false fun h2=>h h2.1]
def mayB (c:Cf)(b:Bk):Bool:=decide (0≤pE c b.Slot∧pE c b.Slot=b.From∧nm b≠(0,0))
def mayV (c:Cf)(v:Vt):Bool:=decide (v.From∈nq c v.Slot)
theorem GD (c:Cf)(b:Bk):Io c b=some (mayB c b):=by
 unfold Io mayB;rw[wI,ob];by_cases h1:pE c b.Slot≥0
 ·rw[decide_eq_true h1,ct];by_cases h2:pE c b.Slot=b.From
  ·rw[show(pE c b.Slot==b.From)=true by simp[h2],ct,vA];by_cases h3:nm b=(0,0)
   ·rw[decide_eq_true h3,Bool.not_true,decide_eq_false fun h=>h.2.2 h3]
   ·rw[decide_eq_false h3,Bool.not_false,decide_eq_true ⟨h1,h2,h3⟩]
  ·rw[show(pE c b.Slot==b.From)=false by simp[h2],cf,decide_eq_false fun h=>h2 h.2.1]
 ·rw[decide_eq_false h1,cf,decide_eq_false fun h=>h1 h.1]
theorem GE (c:Cf)(v:Vt):Ip c v=some (mayV c v):=by
 unfold Ip mayV;rw[Ct,ob]
theorem ck {α:Type}{p:α→Bool}{l:List α}{n:Nat}{y:α}(hy:l[n]?=some y):(l.take (n+1)).filter p=(l.take n).filter p++bif p y then[y]else[]:=by
 rw[aJ hy,List.filter_append];cases h:p y <;>simp[h]
theorem c8 {α:Type}{p:α→Bool}{l:List α}(n:Nat):((l.take n).filter p).length≤n:=
 Nat.le_trans (List.length_filter_le _ _) (by rw[List.length_take];omega)
theorem xV {c:Cf}{l:List Bk}(hl:l.length≤100000):zS c l=some (l.filter (mayB c)):=by
 unfold zS
 have e:=aC (step:=lL c l) (n:=l.length) (fun k=>eZ.mk (k:Int) ((l.take k).filter (mayB c))) (eZ.mk (l.length:Int) (l.filter (mayB c))) (fun k hk=>by
  obtain⟨y,hy,-⟩:=ax hk;have hlen:=c8 (p:=mayB c) (l:=l) k;unfold lL;simp only;rw[decide_eq_true (show(k:Int)<(l.length:Int) by omega),ct,aw hy,ob,GD,ob,ck hy,ah (n:=k) (by omega)]
  cases mayB c y with
  |true=>rw[ct,aM (by simp only[List.length_singleton];omega) (by omega),ct,ct]
  |false=>rw[cf,cf,List.append_nil]) (by
  unfold lL;simp only
  rw[decide_eq_false (show¬(l.length:Int)<(l.length:Int) by omega),cf,List.take_length]) (by omega)
 have e':iter (lL c l) bg (eZ.mk 0 [])=some (eZ.mk (l.length:Int) (l.filter (mayB c))):=e;rw[e',ob]
theorem xW {c:Cf}{l:List Vt}(hl:l.length≤100000):zU c l=some (l.filter (mayV c)):=by
 unfold zU
 have e:=aC (step:=lM c l) (n:=l.length) (fun k=>e8.mk (k:Int) ((l.take k).filter (mayV c))) (e8.mk (l.length:Int) (l.filter (mayV c))) (fun k hk=>by
  obtain⟨y,hy,-⟩:=ax hk;have hlen:=c8 (p:=mayV c) (l:=l) k;unfold lM;simp only;rw[decide_eq_true (show(k:Int)<(l.length:Int) by omega),ct,aw hy,ob,GE,ob,ck hy,ah (n:=k) (by omega)]
  cases mayV c y with
  |true=>rw[ct,aM (by simp only[List.length_singleton];omega) (by omega),ct,ct]
  |false=>rw[cf,cf,List.append_nil]) (by
  unfold lM;simp only
  rw[decide_eq_false (show¬(l.length:Int)<(l.length:Int) by omega),cf,List.take_length]) (by omega)
 have e':iter (lM c l) bg (e8.mk 0 [])=some (e8.mk (l.length:Int) (l.filter (mayV c))):=e;rw[e',ob]
def bh (c:Cf)(w:Vw):Vw:=⟨w.B.filter (mayB c),w.V.filter (mayV c)⟩
theorem Cx {c:Cf}{w:Vw}(h1:w.B.length≤100000)(h2:w.V.length≤100000):HS c w=some (bh c w):=by
 unfold HS;rw[xV h1,ob,xW h2,ob];rfl
theorem EI {c:Cf}{w:Vw}(h1:w.B.length≤100000)(h2:w.V.length≤100000):Cw c w=some ((bh c w).B,(bh c w).V):=by
 unfold Cw;rw[xV h1,ob,xW h2,ob];rfl
open Go.Proofs
def AK (l:List Bk)(n:Nat):Prop:=∃y p,l[n]?=some y∧ak (j7 l n) y.Parent=some p∧¬y.Slot≤bX l p∧ak (j7 l n) (nm y)=none
theorem Dg {l:List Bk}:∀(r n:Nat),l.length-n=r→n≤l.length→((cT l (l.drop n) n (j7 l n)).isSome=true↔∀i,n≤i→i<l.length→AK l i)
 |0,n,hr,hn=>by
  have:n=l.length:=by omega
  subst this;rw[List.drop_length];exact⟨fun _ i h1 h2=>by omega,fun _=>rfl⟩
 | r +1,n,hr,hn=>by
  obtain⟨y,hy,-⟩:=ax (l:=l) (n:=n) (by omega);have ih:=Dg (l:=l) r (n+1) (by omega) (by omega)
  have e:j7 l (n+1)=j7 l n++[(nm y,(n:Int))]:=by simp only[j7,hy]
  rw[e]at ih;rw[dr hy];constructor
  ·intro h i h1 h2
   cases hp:ak (j7 l n) y.Parent with
   |none=>rw[hp]at h;cases h
   | some p=>
    rw[hp]at h;simp only at h;by_cases hs:y.Slot≤bX l p
    ·rw[if_pos hs]at h;cases h
    ·rw[if_neg hs]at h
     cases hq:ak (j7 l n) (nm y)with
     |some q=>rw[hq]at h;cases h
     |none=>
      rw[hq]at h;by_cases hin:i=n
      ·subst hin;exact⟨y,p,hy,hp,hs,hq⟩
      ·exact ih.1 h i (by omega) h2
  ·intro h;obtain⟨y',p,hy',hp,hs,hq⟩:=h n (Nat.le_refl _) (by omega);rw[hy]at hy';cases hy';rw[hp];simp only;rw[if_neg hs,hq];exact ih.2 fun i h1 h2=>h i (by omega) h2
theorem tX {l:List Bk}:(places l).isSome=true↔∀i,i<l.length→AK l i:=by
 have:=Dg (l:=l) l.length 0 (by omega) (Nat.zero_le _);rw[show(places l)=cT l (l.drop 0) 0 (j7 l 0)from rfl,this];exact⟨fun h i hi=>h i (Nat.zero_le _) hi,fun h i _ hi=>h i hi⟩
theorem nd {l m:List Bk}:∀n,(∀i,i<n→l[i]?=m[i]?)→j7 l n=j7 m n
 |0,_=>rfl
 |n+1,h=>by
  simp only[j7,h n (by omega),nd n fun i hi=>h i (by omega)]
theorem p4 {l m:List Bk}{n:Nat}(h:∀i,i≤n→l[i]?=m[i]?)(ho:AK l n)(hn:n<l.length):AK m n:=by
 obtain⟨y,p,h1,h2,h3,h4⟩:=ho;have e:=nd n fun i hi=>h i (by omega);refine⟨y,p,by rw[←h n (Nat.le_refl _)];exact h1,by rw[←e];exact h2,?_,by rw[←e];exact h4⟩
 have hp:p= -1∨0≤p∧p<n:=by
  rw[lz _ n (by omega)]at h2;split at h2
  ·cases h2;exact .inl rfl
  ·split at h2
   ·rename_i hi;obtain⟨j,b,g1,g2,-⟩:=vT hi;cases h2;exact .inr ⟨by omega,by omega⟩
   ·cases h2
 rcases hp with rfl|⟨h5,h6⟩
 ·simpa [bX]using h3
 ·have:bX m p=bX l p:=by
   simp only[bX,h p.toNat (by omega)]
  rw[this];exact h3
theorem vW {l:List Bk}{k:Nat}(h:(places l).isSome=true)(hk:k≤l.length):(places (l.take k)).isSome=true:=by
 rw[tX]at h⊢;intro i hi;simp only[List.length_take]at hi;refine p4 (fun j hj=>?_) (h i (by omega)) (by omega);rw[List.getElem?_take_of_lt (by omega)]
def yt (l:List Bk)(b:Bk):Bool:=(ja l b.Parent).2&&decide (b.Slot>(ja l b.Parent).1)&& !decide (nm b=(0,0))&&decide (pm l (nm b)<0)
theorem Do {l:List Bk}{m:List (ID×Int)}{b:Bk}(h:places l=some m):(places (l++[b])).isSome=yt l b:=by
 have hl:∀i,i<l.length→AK l i:=tX.1 (by rw[h];rfl)
 have hpre:∀i,i<l.length→l[i]?=(l++[b])[i]?:=fun i hi=>by rw[List.getElem?_append_left hi]
 have hm:j7 (l++[b]) l.length=m:=by rw[←nd l.length hpre,←te h]
 have hb:(l++[b])[l.length]?=some b:=by simp
 have hslot:∀p i,ak m p=some i→bX (l++[b]) i=bX l i:=by
  intro p i hf;rcases lv h hf with⟨rfl,-⟩|⟨c,h0,h1,h2,-⟩
  ·rfl
  ·have:¬i= -1:=by omega
   simp only[bX,if_neg this,←hpre i.toNat (by omega)]
 have key:(places (l++[b])).isSome=true↔AK (l++[b]) l.length:=by
  rw[tX];constructor
  ·intro h1;exact h1 l.length (by simp)
  ·intro h1 i hi;simp only[List.length_append,List.length_singleton]at hi;by_cases e:i=l.length
   ·subst e;exact h1
   ·exact p4 (fun j hj=>hpre j (by omega)) (hl i (by omega)) (by omega)
 rw[Bool.eq_iff_iff,key];constructor
 ·rintro⟨y,p,h1,h2,h3,h4⟩;rw[hb]at h1;cases h1;rw[hm]at h2 h4;rw[hslot _ _ h2]at h3
  have hz:¬nm b=(0,0):=fun e=>by rw[e,(aX h).zero]at h4;cases h4
  have g1:ja l b.Parent=(bX l p,true):=by simp only[ja,h,h2]
  have g2:pm l (nm b)= -1:=by simp only[pm,h,h4];rfl
  unfold yt;rw[g1,g2,decide_eq_true (show b.Slot>bX l p by omega),decide_eq_false hz];rfl
 ·intro hf;unfold yt at hf;simp only[Bool.and_eq_true,Bool.not_eq_true',decide_eq_true_eq,decide_eq_false_iff_not]at hf;obtain⟨⟨⟨h1,h2⟩,h3⟩,h4⟩:=hf
  cases hp:ak m b.Parent with
  |none=>simp only[ja,h,hp]at h1;cases h1
  | some p=>
   simp only[ja,h,hp]at h2;refine⟨b,p,hb,by rw[hm];exact hp,by rw[hslot _ _ hp];omega,?_⟩;rw[hm];rcases Option.eq_none_or_eq_some (ak m (nm b))with h5|⟨i,h5⟩
   ·exact h5
   ·exfalso;simp only[pm,h,h5,Option.getD_some]at h4;rcases lv h h5 with⟨-,e⟩|⟨c,h0,-⟩
    ·exact h3 e
    ·omega
open Go.Proofs
def By (v:Vt)(sm:List (ID×Int)):Option Bool:=bif !((ak sm v.Head).isSome)then some true else some (decide (((ak sm v.Head).getD 0)>v.Slot))
theorem JD {v:Vt}{w:Vw}{sm:List (ID×Int)}{hm:List (Vt×Bool)}{r_:Bool}(hr:By v sm=some r_):LC Tryz.prog 191 [.p (aK v),.ptr 9 0] [.dead,.box (cG w),.dead,.dead,.dead,.dead,(mQ sm),(mR hm),.box [(jB 4 w.B),(jV 5 w.V),.map 6,.map 7,(iQ 0),(bQ false)],.box [.ptr 8 0]] (Is (bQ r_) [.dead,.box (cG w),.dead,.dead,.dead,.dead,(mQ sm),(mR hm),.box [(jB 4 w.B),(jV 5 w.V),.map 6,.map 7,(iQ 0),(bQ false)],.box [.ptr 8 0]]):=by
 refine fy Tryz.func191 Z Z Z ?_;unfold By at hr;refine zQ<|zR<|yS Z (bw Z Z Z Z Z)<|zM Z<|zN<|zT<|zQ<|LW.draw2 (by kernel_rfl) (by kernel_rfl)<|yE Z (zD Z Z Z DQ Z Z)<|yE Z (zn Z Z)<|yE Z (zA Z Z mm)<|yE Z (zD Z Z Z A9 Z Z)<|yE Z (zA Z Z gH)<|yE Z (zD Z Z Z ay Z Z) ?_;refine yE Z (aa.getX (f:=aR) (g:=(fun v=>(iQ v))) v.Head 0 eU Z Z Z Z kS Fx Z Z) ?_;refine zH Z<|yE Z (dW Z Z Z)<|yE Z (dW Z Z Z)<|zH Z<|zH Z<|LO.nil<|zT<|zQ<|zR<|zM Z<|yS Z (aa.not Z Z)<|zM Z ?_;refine zc 18 Z (fun g1=>?_)<|fun g1=>?_
 ·refine zi g1 hr fun hr=>yU Z (gd g1 Z) Z<|yU Z (gd g1 Z) Z<|yU Z (gd g1 Z) Z<|yU Z (gd g1 Z) Z<|yS Z (bx Z (aG g1 Z) Z)<|zM Z<|zN<|zT<|zr ?_;obtain rfl:=zJ hr;refine cr (env':=[(3,(bQ true))]) (H':=[.dead,.box (cG w),.dead,.dead,.dead,.dead,(mQ sm),(mR hm),.box [(jB 4 w.B),(jV 5 w.V),.map 6,.map 7,(iQ 0),(bQ false)],.box [.ptr 8 0]]) (zW 10 ⟨rfl,trivial⟩ Z Z Z (zL Z (zL Z (zL Z (zL Z (zL Z (zL Z (zL (ae (fun _=>rfl) _) (zL (ae (fun _=>rfl) _) (zL Z (zL Z Z))))))))))) (.one (.tmp Z)) ?_;exact⟨rfl,rfl⟩
 ·refine zo g1 hr fun hr=>yV Z (gd g1 Z) (zm Z Z)<|yV Z (gd g1 Z) (zA Z Z gG)<|yV Z (gd g1 Z) (zD Z Z Z aW Z Z)<|yV Z (gd g1 Z) (ap Z Z Z Z)<|yS Z (aO Z (aG g1 Z) Z)<|zM Z<|zN<|zT<|zr ?_;obtain rfl:=zJ hr;refine cr (env':=[(3,.p (.bool (decide (((ak sm v.Head).getD 0)>v.Slot))))]) (H':=[.dead,.box (cG w),.dead,.dead,.dead,.dead,(mQ sm),(mR hm),.box [(jB 4 w.B),(jV 5 w.V),.map 6,.map 7,(iQ 0),(bQ false)],.box [.ptr 8 0]]) (zW 10 ⟨rfl,trivial⟩ Z Z Z (zL Z (zL Z (zL Z (zL Z (zL Z (zL Z (zL (ae (fun _=>rfl) _) (zL (ae (fun _=>rfl) _) (zL Z (zL Z Z))))))))))) (.one (.tmp Z)) ?_;exact⟨rfl,rfl⟩
structure eJ where
 t8:Int
def js (l:List Vt)(sm:List (ID×Int))(x1:eJ):Option (eJ⊕(eJ⊕Int)):=bif decide (x1.t8<(l.length:Int))then (ix l x1.t8).bind fun y1=>(By y1 sm).bind fun v2=>bif v2 then some (.inr (.inr x1.t8))else some (.inl (eJ.mk (IntKind.i64.wrap (x1.t8+1))))else some (.inr (.inl (eJ.mk x1.t8)))
def x5 (l:List Vt)(sm:List (ID×Int)):Option Int:=(iter (js l sm) bg (eJ.mk 0)).bind fun b_v1=>Sum.elim (fun _=>some (-1)) some b_v1
theorem Hf {l:List Vt}{w:Vw}{sm:List (ID×Int)}{hm:List (Vt×Bool)}{r_:Int}(hr:x5 l sm=some r_):LC Tryz.prog 183 [(kV l),.fn 191 [] [.ptr 9 0]] [.dead,.box (cG w),.dead,.dead,.dead,.dead,(mQ sm),(mR hm),.box [(jB 4 w.B),(jV 5 w.V),.map 6,.map 7,(iQ 0),(bQ false)],.box [.ptr 8 0]] (Is (iQ r_) [.dead,.box (cG w),.dead,.dead,.dead,.dead,(mQ sm),(mR hm),.box [(jB 4 w.B),(jV 5 w.V),.map 6,.map 7,(iQ 0),(bQ false)],.box [.ptr 8 0]]):=by
 refine fy Tryz.func183 Z Z Z ?_;unfold x5 at hr;refine zQ<|zR<|zM Z<|zN<|zT<|zQ<|zQ<|zR<|zM Z<|yS Z (cD Z Z (by kernel_rfl))<|zM Z<|zN<|zT ?_;obtain⟨b_v1,hb_v1,ho_v1⟩:=zB hr;clear hr;refine LW.tailB (b:=b_v1) (E:=fun v1=>[(4,(iQ 0))]) (O:=fun v1=>[.dead,.box (cG w),.dead,.dead,.dead,.dead,(mQ sm),(mR hm),.box [(jB 4 w.B),(jV 5 w.V),.map 6,.map 7,(iQ 0),(bQ false)],.box [.ptr 8 0]]) ?_<|fun v1 e_v1 env_v1 H_v1 hw_v1=>?_
 ·refine LW.block ?_;refine LW.iterB (E:=fun x1:eJ=>[(0,(kV l)),(1,.fn 191 [] [.ptr 9 0]),(4,(iQ 0)),(7,.p (.int .i64 (l.length:Int))),(8,(iQ x1.t8))]) (O:=fun x1=>[.dead,.box (cG w),.dead,.dead,.dead,.dead,(mQ sm),(mR hm),.box [(jB 4 w.B),(jV 5 w.V),.map 6,.map 7,(iQ 0),(bQ false)],.box [.ptr 8 0]]) hb_v1 (zW 10 ⟨rfl,rfl,rfl,rfl,rfl,trivial⟩ Z Z Z (zL Z (zL Z (zL Z (zL Z (zL Z (zL Z (zL (ae (fun _=>rfl) _) (zL (ae (fun _=>rfl) _) (zL Z (zL Z Z)))))))))))<|fun x1 z_x1 hr hb_x1=>?_;unfold js at hr;refine zQ<|zR<|yS Z (ap Z Z Z Z)<|zN<|zT<|zQ ?_;refine zX Z (fun g1=>?_)<|fun g1=>?_
  ·refine zi g1 hr fun hr=>zk<|zT<|zQ<|zl<|zQ<|zR<|zM Z<|zM Z<|zN<|zT<|zQ<|zR<|zM Z<|zM Z<|zM Z<|zb hr fun y1 h_y1 hr=>yS Z (zx Z Z Z bD h_y1 Z)<|yS Z (ci Z Z Z cp Z Z)<|zb hr fun v2 h_v2 hr=>yS Z (zC Z Z Z (by kernel_rfl) (JD h_v2))<|zN<|zT ?_;refine zX Z (fun g2=>?_)<|fun g2=>?_
   ·refine zi g2 hr fun hr=>zQ<|zR<|zM Z<|zM Z<|zN<|zT<|zr<|aq<|af<|af<|aq<|af<|af ?_;obtain rfl:=zJ hr;have hr:=congrArg some (hb_x1 _ rfl);obtain rfl:=zJ hr;have hr:=bV ho_v1;obtain rfl:=zJ hr;exact aH (.one (.tmp Z))<|⟨rfl,rfl⟩
   ·refine zo g2 hr fun hr=>zk<|ai<|zT<|zR<|yS Z (ap Z Z Z Z)<|zM Z<|zN<|zT ?_;obtain rfl:=zJ hr;exact⟨_,rfl,zW 10 ⟨rfl,rfl,rfl,rfl,rfl,trivial⟩ Z Z Z (zL Z (zL Z (zL Z (zL Z (zL Z (zL Z (zL (ae (fun _=>rfl) _) (zL (ae (fun _=>rfl) _) (zL Z (zL Z Z))))))))))⟩
  ·refine zo g1 hr fun hr=>zq<|aj<|aj<|zy<|zT ?_;obtain rfl:=zJ hr;have hr:=congrArg some (hb_x1 _ rfl);obtain rfl:=zJ hr;exact⟨_,rfl,zW 10 ⟨rfl,trivial⟩ Z Z Z (zL Z (zL Z (zL Z (zL Z (zL Z (zL Z (zL (ae (fun _=>rfl) _) (zL (ae (fun _=>rfl) _) (zL Z (zL Z Z))))))))))⟩
 ·obtain rfl:=e_v1;have hr:=cU ho_v1;clear hb_v1;refine zT<|LW.weak hw_v1<|zQ<|zR<|zM Z<|zN<|zT<|zr ?_;obtain rfl:=zJ hr;exact aH (.one (.tmp Z))<|⟨rfl,rfl⟩
def Bz (l:List Vt)(sm:List (ID×Int)):Option Bool:=(x5 l sm).bind fun v1=>some (decide (v1≥0))
theorem JE {l:List Vt}{w:Vw}{sm:List (ID×Int)}{hm:List (Vt×Bool)}{r_:Bool}(hr:Bz l sm=some r_):LC Tryz.prog 192 [(kV l),.fn 191 [] [.ptr 9 0]] [.dead,.box (cG w),.dead,.dead,.dead,.dead,(mQ sm),(mR hm),.box [(jB 4 w.B),(jV 5 w.V),.map 6,.map 7,(iQ 0),(bQ false)],.box [.ptr 8 0]] (Is (bQ r_) [.dead,.box (cG w),.dead,.dead,.dead,.dead,(mQ sm),(mR hm),.box [(jB 4 w.B),(jV 5 w.V),.map 6,.map 7,(iQ 0),(bQ false)],.box [.ptr 8 0]]):=by
 refine fy Tryz.func192 Z Z Z ?_;unfold Bz at hr;refine zQ<|zR<|zM Z<|zN<|zT<|zQ<|zR<|zM Z<|zM Z<|zb hr fun v1 h_v1 hr=>yS Z (zC Z Z Z (by kernel_rfl) (Hf h_v1))<|yS Z (ap Z Z Z Z)<|zM Z<|zN<|zT<|zr ?_;obtain rfl:=zJ hr;exact aH (.one (.tmp Z))<|⟨rfl,rfl⟩
def Iq (c:Cf)(w:Vw):Option Bool:=((EG c).bind fun v2=>bif !v2 then some true else (HN w.B).bind fun v3=>bif !v3 then some true else bif decide ((w.B.length:Int)>60)then some true else some (decide ((w.V.length:Int)>240))).bind fun v1=>bif v1 then some false else (HS c w).bind fun v4=>(bif (v4.B.length:Int) != (w.B.length:Int)then some true else some ((v4.V.length:Int) != (w.V.length:Int))).bind fun v5=>bif v5 then some false else (zV w 0).bind fun v6=>bif tK v6.2 then bif (v6.2.length:Int)==(w.V.length:Int)then (Bz w.V v6.1).bind fun v7=>some (!v7)else some false else none
theorem Mz {c:Cf}{w:Vw}{r_:Bool}(hr:Iq c w=some r_):ar Tryz.prog 154 [fz c,gW w] [.bool r_]:=by
 refine zh Tryz.func154 Z Z Z Z ?_;unfold Iq at hr;refine zQ<|zR<|yS Z (bw Z Z Z Z Z)<|yS Z (bw Z Z Z Z Z)<|zM Z<|zN<|zT<|zQ ?_;obtain⟨v1,hb_v1,ho_v1⟩:=zB hr;clear hr;refine LW.cut (E:=[(2,.ptr 0 0),(3,.ptr 1 0),(4,(bQ false)),(28,(bQ v1))]) (O:=[.box (bN c),.box (cG w)]) ?_ ?_
 ·have hr:=hb_v1;refine zR<|yS Z (zD Z Z Z aY Z Z)<|zb hr fun v2 h_v2 hr=>yS Z (zC Z Z Z (by kernel_rfl) (zp (KS h_v2) (.cons zv .nil)))<|yS Z (aa.not Z Z)<|zM Z ?_;refine zc 11 Z (fun g1=>?_)<|fun g1=>?_
  ·refine zi g1 hr fun hr=>yU Z (gd g1 Z) Z<|yU Z (gd g1 Z) Z<|yU Z (gd g1 Z) Z<|yU Z (gd g1 Z) Z<|yS Z (bx Z (aG g1 Z) Z)<|zM Z<|yU Z Z Z<|yU Z Z Z<|yU Z Z Z<|yU Z Z Z<|yS Z (bx Z Z Z)<|zM Z<|yU Z Z Z<|yU Z Z Z<|yU Z Z Z<|yU Z Z Z<|yS Z (bx Z Z Z)<|zN<|zT ?_;obtain rfl:=zJ hr;exact zW 2 ⟨Z,Z,Z,Z,trivial⟩ Z Z Z Z
  ·refine zo g1 hr fun hr=>yV Z (gd g1 Z) (zA Z Z aL)<|yV Z (gd g1 Z) (zD Z Z Z cd Z Z)<|zb hr fun v3 h_v3 hr=>yV Z (gd g1 Z) (zC Z Z Z (by kernel_rfl) (zp (L9 h_v3) (.cons zv .nil)))<|yV Z (gd g1 Z) (aa.not Z Z)<|yS Z (aO Z (aG g1 Z) Z)<|zM Z ?_;refine zc 17 Z (fun g2=>?_)<|fun g2=>?_
   ·refine zi g2 hr fun hr=>yU Z (gd g2 Z) Z<|yU Z (gd g2 Z) Z<|yU Z (gd g2 Z) Z<|yU Z (gd g2 Z) Z<|yS Z (bx Z (aG g2 Z) Z)<|zM Z<|yU Z Z Z<|yU Z Z Z<|yU Z Z Z<|yU Z Z Z<|yS Z (bx Z Z Z)<|zN<|zT ?_;obtain rfl:=zJ hr;exact zW 2 ⟨Z,Z,Z,Z,trivial⟩ Z Z Z Z
   ·refine zo g2 hr fun hr=>yV Z (gd g2 Z) (zA Z Z aL)<|yV Z (gd g2 Z) (zD Z Z Z cd Z Z)<|yV Z (gd g2 Z) (cD Z Z (by kernel_rfl))<|yV Z (gd g2 Z) (ap Z Z Z Z)<|yS Z (aO Z (aG g2 Z) Z)<|zM Z ?_;refine zc 23 Z (fun g3=>?_)<|fun g3=>?_
    ·refine zi g3 hr fun hr=>yU Z (gd g3 Z) Z<|yU Z (gd g3 Z) Z<|yU Z (gd g3 Z) Z<|yU Z (gd g3 Z) Z<|yS Z (bx Z (aG g3 Z) Z)<|zN<|zT ?_;obtain rfl:=zJ hr;exact zW 2 ⟨Z,Z,Z,Z,trivial⟩ Z Z Z Z
    ·refine zo g3 hr fun hr=>yV Z (gd g3 Z) (zA Z Z aQ)<|yV Z (gd g3 Z) (zD Z Z Z co Z Z)<|yV Z (gd g3 Z) (cD Z Z (by kernel_rfl))<|yV Z (gd g3 Z) (ap Z Z Z Z)<|yS Z (aO Z (aG g3 Z) Z)<|zN<|zT ?_;obtain rfl:=zJ hr;exact zW 2 ⟨Z,Z,Z,Z,trivial⟩ Z Z Z Z
 ·have hr:=ho_v1;clear hb_v1;refine zX Z (fun g4=>?_)<|fun g4=>?_
  ·refine zi g4 hr fun hr=>zQ<|zR<|zM Z<|zN<|zT<|zr<|af ?_;obtain rfl:=zJ hr;exact zf (.one (.tmp Z)) zv
  ·refine zo g4 hr fun hr=>zk<|zT<|zQ<|zR<|yS Z (zD Z Z Z aY Z Z)<|yS Z (zD Z Z Z aI Z Z)<|zb hr fun v4 h_v4 hr=>yS Z (zC Z Z Z (by kernel_rfl) (zp (Me h_v4) (.cons zv (.cons zv .nil))))<|yS Z (ze Z f8 Z Z)<|yS Z (zs Z Z Z Z aI Z Z Z Z)<|zN<|zT<|zQ ?_;obtain⟨v5,hb_v5,ho_v5⟩:=zB hr;clear hr;refine LW.cut (E:=[(3,.ptr 1 0),(4,(bQ false)),(47,(bQ v5))]) (O:=[.box (bN c),.box (cG w),.box (cG v4)]) ?_ ?_
   ·have hr:=hb_v5;refine zR<|yS Z (zA Z Z aL)<|yS Z (zD Z Z Z cd Z Z)<|yS Z (cD Z Z (by kernel_rfl))<|yS Z (zA Z Z aL)<|yS Z (zD Z Z Z cd Z Z)<|yS Z (cD Z Z (by kernel_rfl))<|yS Z (ap Z Z Z Z)<|zM Z ?_;refine zc 39 Z (fun g5=>?_)<|fun g5=>?_
    ·refine zi g5 hr fun hr=>yU Z (gd g5 Z) Z<|yU Z (gd g5 Z) Z<|yU Z (gd g5 Z) Z<|yU Z (gd g5 Z) Z<|yU Z (gd g5 Z) Z<|yU Z (gd g5 Z) Z<|yU Z (gd g5 Z) Z<|yS Z (bx Z (aG g5 Z) Z)<|zN<|zT ?_;obtain rfl:=zJ hr;exact zW 3 ⟨Z,Z,Z,trivial⟩ Z Z Z Z
    ·refine zo g5 hr fun hr=>yV Z (gd g5 Z) (zA Z Z aQ)<|yV Z (gd g5 Z) (zD Z Z Z co Z Z)<|yV Z (gd g5 Z) (cD Z Z (by kernel_rfl))<|yV Z (gd g5 Z) (zA Z Z aQ)<|yV Z (gd g5 Z) (zD Z Z Z co Z Z)<|yV Z (gd g5 Z) (cD Z Z (by kernel_rfl))<|yV Z (gd g5 Z) (ap Z Z Z Z)<|yS Z (aO Z (aG g5 Z) Z)<|zN<|zT ?_;obtain rfl:=zJ hr;exact zW 3 ⟨Z,Z,Z,trivial⟩ Z Z Z Z
   ·have hr:=ho_v5;clear hb_v5;refine zX Z (fun g6=>?_)<|fun g6=>?_
    ·refine zi g6 hr fun hr=>zQ<|zR<|zM Z<|zN<|zT<|zr<|af ?_;obtain rfl:=zJ hr;exact zf (.one (.tmp Z)) zv
    ·refine zo g6 hr fun hr=>zk<|zT<|zQ<|zR<|yS Z (zD Z Z Z aI Z Z)<|zb hr fun v6 h_v6 hr=>yS Z (zC Z Z Z (by kernel_rfl) (LC.frameX (x':=.ptr 8 0) (H':=[.box (bN c),.box (cG w),.box (cG v4),.box (cG w),.vec 5 (w.B.map av),.vec 4 (w.V.map aK),(mQ v6.1),(mR v6.2),.box [(jB 4 w.B),(jV 5 w.V),.map 6,.map 7,(iQ 0),(bQ false)]]) (FW h_v6) (.consC zv (.consC zv .nil)) Z Z (by simp only[List.map_cons,List.map_nil,List.cons_append,List.nil_append,ab.shift,LV.shifts,LV.shift,yn,ym] <;>rfl)))<|yS Z (ze Z KL Z Z)<|yS Z (zs Z Z Z Z DQ Z Z Z Z)<|zN<|zT<|zQ<|LW.ent (cz.kill (i:=0) Z)<|LW.ent (cz.kill (i:=2) Z)<|LW.ent (cz.kill (i:=3) Z)<|LW.ent (cz.kill (i:=4) Z)<|LW.ent (cz.kill (i:=5) Z)<|zR<|yS Z (aa.makeFunc Z Z Z)<|zM Z<|zN<|zT<|zQ ?_;refine LW.draw2 (by kernel_rfl) (by kernel_rfl)<|yE Z (zD Z Z Z DQ Z Z)<|yE Z (zn Z Z)<|yE Z (zA Z Z qv)<|yE Z (zD Z Z Z yZ Z Z)<|zg hr fun q1 hr=>yE Z (aa.lenMapX Z Z Z (by kernel_rfl) q1)<|yE Z (zA Z Z aQ)<|yE Z (zD Z Z Z co Z Z)<|yE Z (cD Z Z (by kernel_rfl))<|yE Z (ap Z Z Z Z)<|zH Z ?_;refine LO.cases 60 Z (fun(g7:((v6.2.length:Int)==(w.V.length:Int))=true)=>?_) (fun(g7:((v6.2.length:Int)==(w.V.length:Int))=false)=>?_)
     ·refine zi g7 hr fun hr=>LO.gd Z Z Z (gd g7 Z) Z (zA Z Z aQ)<|LO.gd Z Z Z (gd g7 Z) Z (zD Z Z Z co Z Z)<|LO.gd Z Z Z (gd g7 Z) Z (zm Z Z)<|zb hr fun v7 h_v7 hr=>LO.gd Z Z Z (gd g7 Z) Z (zC Z Z Z (by kernel_rfl) (JE h_v7))<|LO.gd Z Z Z (gd g7 Z) Z (aa.not Z Z)<|yE Z (bx Z (aG g7 Z) Z)<|zH Z<|LO.nil<|zT<|zr ?_;obtain rfl:=zJ hr;exact zf (.one (.tmp Z)) zv
     ·refine zo g7 hr fun hr=>LO.sk Z Z Z (gd g7 Z) Z Z<|LO.sk Z Z Z (gd g7 Z) Z Z<|LO.sk Z Z Z (gd g7 Z) Z Z<|LO.sk Z Z Z (gd g7 Z) Z Z<|LO.sk Z Z Z (gd g7 Z) Z Z<|yE Z (aO Z (aG g7 Z) Z)<|zH Z<|LO.nil<|zT<|zr ?_;obtain rfl:=zJ hr;exact zf (.one (.tmp Z)) zv
def br (B:List Bk)(id:ID):Option Int:=if id=(0,0)then some 0 else(B.find? fun b=>decide (nm b=id)).map Bk.Slot
theorem r4 (B:List Bk)(b:Bk)(id:ID):br (B++[b]) id=(br B id).or (if nm b=id then some b.Slot else none):=by
 unfold br;by_cases h:id=(0,0)
 ·rw[if_pos h,if_pos h];rfl
 ·rw[if_neg h,if_neg h,List.find?_append]
  cases B.find? fun b=>decide (nm b=id)with
  |some x=>rfl
  |none=>
   by_cases h2:nm b=id
   ·simp[h2]
   ·simp[h2]
theorem kC {B:List Bk}{id:ID}{s:Int}(h:br B id=some s)(t:List Bk):br (B++t) id=some s:=by
 unfold br at h⊢;by_cases h0:id=(0,0)
 ·rw[if_pos h0]at h⊢;exact h
 ·rw[if_neg h0]at h⊢;rw[List.find?_append]
  cases hf:B.find? fun b=>decide (nm b=id)with
  |some x=>rw[hf]at h;exact h
  |none=>rw[hf]at h;cases h
theorem A0 {B:List Bk}{id:ID}{s:Int}(h:br B id=some s):(id=(0,0)∧s=0)∨(id≠(0,0)∧∃b∈B,nm b=id∧b.Slot=s):=by
 unfold br at h;by_cases h0:id=(0,0)
 ·rw[if_pos h0]at h;cases h;exact .inl ⟨h0,rfl⟩
 ·rw[if_neg h0]at h
  cases hf:B.find? fun b=>decide (nm b=id)with
  |none=>rw[hf]at h;cases h
  |some x=>
   rw[hf]at h;cases h;exact .inr ⟨h0,x,List.mem_of_find?_eq_some hf,(by simpa using List.find?_some hf),rfl⟩
theorem xy {B:List Bk}{b:Bk}(h:b∈B):∃s,br B (nm b)=some s:=by
 unfold br;by_cases h0:nm b=(0,0)
 ·rw[if_pos h0];exact⟨_,rfl⟩
 ·rw[if_neg h0]
  cases hf:B.find? fun q=>decide (nm q=nm b)with
  |some x=>exact⟨_,rfl⟩
  |none=>
   rw[List.find?_eq_none]at hf;have:=hf b h;simp at this
def dy (B:List Bk):Prop:=(places B).isSome=true
theorem oP {l:List Bk}{m:List (ID×Int)}(h:places l=some m)(id:ID):br l id=(ak m id).map (bX l):=by
 have hI:=aX h;unfold br;by_cases h0:id=(0,0)
 ·rw[if_pos h0,h0,hI.zero];simp[bX]
 ·rw [if_neg h0]
  cases hf:ak m id with
  | none=>
   cases hq:l.find? fun b=>decide (nm b=id)with
   |none=>rfl
   |some b=>
    exfalso;have hb:=List.mem_of_find?_eq_some hq
    have hn:nm b=id:=by simpa using List.find?_some hq
    obtain⟨i,hi⟩:=List.getElem?_of_mem hb;have:=hI.names i b (List.getElem?_eq_some_iff.1 hi).1 hi;rw[hn,hf]at this;cases this
  | some i=>
   rcases hI.known _ _ hf with⟨-,h1⟩|⟨b,p,h1,h2,h3,h4,-⟩
   ·exact absurd h1 h0
   ·cases hq:l.find? fun b=>decide (nm b=id)with
    |none=>
     rw[List.find?_eq_none]at hq;have:=hq b (List.mem_of_getElem? h3);simp[h4]at this
    |some b'=>
     have hb:=List.mem_of_find?_eq_some hq
     have hn:nm b'=id:=by simpa using List.find?_some hq
     obtain⟨j,hj⟩:=List.getElem?_of_mem hb;have:=hI.names j b' (List.getElem?_eq_some_iff.1 hj).1 hj;rw[hn,hf]at this;cases this;simp[bX,hj,show¬(j:Int)= -1 by omega]
theorem AZ {l:List Bk}{m:List (ID×Int)}(h:places l=some m)(id:ID):ja l id=match br l id with|some s=>(s,true)|none=>(0,false):=by
 rw[oP h];unfold ja;rw[h];simp only;cases ak m id <;>rfl
theorem C9 {l:List Bk}{m:List (ID×Int)}(h:places l=some m)(id:ID):(¬id=(0,0)∧pm l id<0)↔br l id=none:=by
 rw[oP h];unfold pm;rw[h];simp only
 cases hf:ak m id with
 |none=>
  refine⟨fun _=>rfl,fun _=>⟨fun e=>?_,by simp⟩⟩;rw[e,(aX h).zero]at hf;cases hf
 |some i=>
  refine⟨fun h1=>?_,fun h1=>by cases h1⟩;rcases(aX h).known _ _ hf with⟨-,h2⟩|⟨_,_,h2,-⟩
  ·exact absurd h2 h1.1
  ·have:=h1.2;simp at this;omega
theorem sf {B:List Bk}{b:Bk}:dy (B++[b])↔dy B∧(∃s,br B b.Parent=some s∧s<b.Slot)∧br B (nm b)=none:=by
 have key:∀{m},places B=some m→(dy (B++[b])↔(∃s,br B b.Parent=some s∧s<b.Slot)∧br B (nm b)=none):=by
  intro m hm;unfold dy;rw[Do hm,←C9 hm];unfold yt;rw[AZ hm]
  cases br B b.Parent with
  |none=>simp
  |some s=>simp[and_assoc]
 cases hm:places B with
 |some m=>
  rw[key hm];exact⟨fun h=>⟨by unfold dy;rw[hm];rfl,h⟩,fun h=>h.2⟩
 |none=>
  have hno:¬dy B:=by unfold dy;rw[hm];simp
  refine⟨fun h=>absurd ?_ hno,fun h=>absurd h.1 hno⟩;have:=vW (k:=B.length) h (by simp)
  rwa [List.take_left' rfl]at this
theorem xE {B:List Bk}(h:dy B)(k:Nat):dy (B.take k):=by
 by_cases hk:k≤B.length
 ·exact vW h hk
 ·rw[List.take_of_length_le (by omega)];exact h
def wm :List Bk→List (ID×Int)→List (ID×Int)
 |[],m=>m
 |b::r,m=>wm r (bz m (nm b) b.Slot)
def nh (B:List Bk):List (ID×Int):=wm B [((0,0),0)]
def vK :List Vt→List (Vt×Bool)→List (Vt×Bool)
 |[],m=>m
 |v::r,m=>vK r (bz m v true)
def kQ (V:List Vt):List (Vt×Bool):=vK V []
theorem tf (b:Bk):∀(B:List Bk) (m),wm (B++[b]) m=bz (wm B m) (nm b) b.Slot
 |[],_=>rfl
 |_::r,_=>tf b r _
theorem s5 (v:Vt):∀(V:List Vt) (m),vK (V++[v]) m=bz (vK V m) v true
 |[],_=>rfl
 |_::r,_=>s5 v r _
theorem th (B:List Bk)(b:Bk):nh (B++[b])=bz (nh B) (nm b) b.Slot:=tf b B _
theorem s7 (V:List Vt)(v:Vt):kQ (V++[v])=bz (kQ V) v true:=s5 v V _
theorem oO {α β:Type}[DecidableEq α](m:List (α×β))(k:α)(v:β):(bz m k v).length=if (ak m k).isSome then m.length else m.length+1:=by
 induction m with
 |nil=>simp[bz,ak]
 |cons p r ih=>
  obtain⟨a,b⟩:=p;by_cases h:a=k
  ·simp[bz,ak,h]
  ·cases hf:ak r k <;>simp[bz,ak,h,hf]at ih⊢<;>exact ih
theorem DG (B:List Bk):(nh B).length≤B.length+1:=by
 unfold nh
 have:∀(B:List Bk) (m:List (ID×Int)),(wm B m).length≤B.length+m.length:=by
  intro B
  induction B with
  |nil=>intro m;simp[wm]
  |cons b r ih=>
   intro m;have h1:=ih (bz m (nm b) b.Slot);have h2:=oO m (nm b) b.Slot;unfold wm;simp only[List.length_cons];split at h2 <;>omega
 have:=this B [((0,0),0)];simpa using this
theorem tg {B:List Bk}(h:dy B):∀id,ak (nh B) id=br B id:=by
 have key:∀k,k≤B.length→∀id,ak (nh (B.take k)) id=br (B.take k) id:=by
  intro k
  induction k with
  |zero=>
   intro _ id;simp only[List.take_zero];unfold nh wm br ak ak;by_cases e:id=(0,0)
   ·simp[e]
   ·simp[e,Ne.symm e]
  |succ k ih=>
   intro hk id;obtain⟨b,hb,-⟩:=ax (l:=B) (n:=k) (by omega);have hv:=xE h (k+1);rw[aJ hb]at hv⊢;rw[sf]at hv;rw[th,cO,r4,ih (by omega)];by_cases e:nm b=id
   ·rw[if_pos e,if_pos e,←e,hv.2.2];rfl
   ·rw[if_neg e,if_neg e];cases br (B.take k) id <;>rfl
 have:=key B.length (Nat.le_refl _)
 rwa [List.take_length]at this
theorem s6 (V:List Vt)(v:Vt):ak (kQ V) v=if v∈V then some true else none:=by
 have:∀(V:List Vt) (m:List (Vt×Bool)),ak (vK V m) v=if v∈V then some true else ak m v:=by
  intro V
  induction V with
  |nil=>intro m;simp[vK]
  | cons x r ih=>
   intro m;unfold vK;rw[ih,cO];by_cases h:v∈r
   ·simp[h]
   ·by_cases h2:x=v
    ·simp[h2]
    ·simp[h,h2,Ne.symm h2]
 rw[kQ,this];rfl
theorem vL (V:List Vt):(kQ V).length≤V.length∧((kQ V).length=V.length↔V.Nodup):=by
 have key:∀k,k≤V.length→(kQ (V.take k)).length≤k∧((kQ (V.take k)).length=k↔(V.take k).Nodup):=by
  intro k
  induction k with
  |zero=>intro _;simp[kQ,vK]
  |succ k ih=>
   intro hk;obtain⟨v,hv,-⟩:=ax (l:=V) (n:=k) (by omega);obtain⟨h1,h2⟩:=ih (by omega);rw[aJ hv,s7,oO,s6,List.nodup_append];by_cases hm:v∈V.take k
   ·rw[if_pos hm];refine⟨by simp;omega,⟨fun e=>by simp at e;omega,fun h=>absurd Z (h.2.2 v hm v (by simp))⟩⟩
   ·rw[if_neg hm];refine⟨by simp;omega,⟨fun e=>⟨h2.1 (by simp at e;omega),by simp,fun a ha b hb=>by rw[List.mem_singleton]at hb;subst hb;exact fun q=>hm (q▸ha)⟩,fun h=>?_⟩⟩;have:=h2.2 h.1;simp;omega
 have:=key V.length (Nat.le_refl _)
 rwa [List.take_length]at this
theorem xX {w:Vw}{u:Int}(h1:w.B.length≤90000)(h2:w.V.length≤90000):zV w u=some (nh w.B,kQ w.V):=by
 unfold zV;rw[aM (by omega) (by omega),ct,aM (by omega) (by omega),ct]
 have e1:=aC (step:=lP w) (n:=w.B.length) (fun k=>fA.mk (k:Int) (nh (w.B.take k))) (fA.mk (w.B.length:Int) (nh w.B)) (fun k hk=>by
  obtain⟨y,hy,-⟩:=ax hk;unfold lP;simp only
  rw[decide_eq_true (show(k:Int)<(w.B.length:Int) by omega),ct,aw hy,ob,aJ hy,th,ah (n:=k) (by omega)]) (by
  unfold lP;simp only
  rw[decide_eq_false (show¬(w.B.length:Int)<(w.B.length:Int) by omega),cf,List.take_length]) (by omega)
 have e1':iter (lP w) bg (fA.mk 0 (bz [] (0,0) 0))=some (fA.mk (w.B.length:Int) (nh w.B)):=e1
 have e2:=aC (step:=lQ w) (n:=w.V.length) (fun k=>fB.mk (k:Int) (kQ (w.V.take k))) (fB.mk (w.V.length:Int) (kQ w.V)) (fun k hk=>by
  obtain⟨y,hy,-⟩:=ax hk;unfold lQ;simp only
  rw[decide_eq_true (show(k:Int)<(w.V.length:Int) by omega),ct,aw hy,ob,aJ hy,s7,ah (n:=k) (by omega)]) (by
  unfold lQ;simp only
  rw[decide_eq_false (show¬(w.V.length:Int)<(w.V.length:Int) by omega),cf,List.take_length]) (by omega)
 have e2':iter (lQ w) bg (fB.mk 0 [])=some (fB.mk (w.V.length:Int) (kQ w.V)):=e2;rw[e1',ob,e2',ob]
def forB (B:List Bk)(v:Vt):Prop:=∃s,br B v.Head=some s∧s≤v.Slot
def vl (sm:List (ID×Int))(v:Vt):Bool:=match ak sm v.Head with
 |none=>true
 |some s=>decide (s>v.Slot)
theorem Ek (v:Vt)(sm:List (ID×Int)):By v sm=some (vl sm v):=by
 unfold By vl
 cases ak sm v.Head with
 |none=>rfl
 |some s=>rfl
def sS (sm:List (ID×Int))(l:List Vt)(j:Nat):Option Int:=match l[j]? with
 |some v=>if vl sm v=true then some (j:Int)else none
 |none=>none
theorem El {l:List Vt}(hl:l.length≤90000)(sm:List (ID×Int)):Bz l sm=some (l.any (vl sm)):=by
 have e:=dt (step:=js l sm) (n:=l.length) (fun k=>eJ.mk (k:Int)) (sS sm l) (fun j hj=>by
  obtain⟨y,hy,-⟩:=ax hj;unfold js sS;simp only;rw[decide_eq_true (show(j:Int)<(l.length:Int) by omega),ct,aw hy,ob,Ek,ob,ah (n:=j) (by omega),hy];simp only
  cases vl sm y with
  |true=>rw[ct,if_pos rfl]
  |false=>rw[cf,if_neg (by simp)]) (by
  unfold js;simp only
  rw[decide_eq_false (show¬(l.length:Int)<(l.length:Int) by omega),cf]) (by omega)
 unfold Bz x5;have e':iter (js l sm) bg (eJ.mk 0)=some (jS (eJ.mk (l.length:Int)) (cB (sS sm l) 0 l.length)):=e;rw[e',ob]
 cases h:cB (sS sm l) 0 l.length with
 |none=>
  rw[jS,sl,ob];rw[fw]at h;congr 1;rw[show decide ((-1:Int)≥0)=false from rfl];symm;rw[List.any_eq_false];intro v hv;obtain⟨j,hj⟩:=List.getElem?_of_mem hv;have:=h j (Nat.zero_le _) (by have:=(List.getElem?_eq_some_iff.1 hj).1;omega);unfold sS at this;rw[hj]at this;simp only at this;intro hb;rw[if_pos hb]at this;cases this
 | some r=>
  obtain⟨j,-,-,h3,-⟩:=eb h;unfold sS at h3;split at h3
  ·rename_i v hv;split at h3
   ·rename_i hb;cases h3;rw[jS,sr,ob,decide_eq_true (show(j:Int)≥0 by omega)];congr 1;symm;rw[List.any_eq_true];exact⟨v,List.mem_of_getElem? hv,hb⟩
   ·cases h3
  ·cases h3
structure nS (c:Cf)(w:Vw):Prop where
 conf:dw c
 valid:dy w.B
 lenB:w.B.length≤60
 lenV:w.V.length≤240
 mayB:∀b∈w.B,mayB c b=true
 mayV:∀v∈w.V,mayV c v=true
 nodup:w.V.Nodup
 forB:∀v∈w.V,forB w.B v
open Classical in
theorem GF {c:Cf}{w:Vw}(h1:w.B.length≤1000)(h2:w.V.length≤1000):Iq c w=some (decide (nS c w)):=by
 have hno:∀h:¬nS c w,decide (nS c w)=false:=fun h=>decide_eq_false h;unfold Iq;rw[qS,ob];by_cases c1:dw c
 ·rw [decide_eq_true c1,Bool.not_true,cf,Co,ob];by_cases c2:dy w.B
  ·rw [show(places w.B).isSome=true from c2,Bool.not_true,cf];by_cases c3:w.B.length≤60
   ·rw [decide_eq_false (show¬(w.B.length:Int)>60 by omega),cf,ob];by_cases c4:w.V.length≤240
    ·rw [decide_eq_false (show¬(w.V.length:Int)>240 by omega),cf,Cx (by omega) (by omega),ob]
     have hfB:(bh c w).B.length=w.B.length↔∀b∈w.B,mayB c b=true:=by unfold bh;exact List.length_filter_eq_length_iff
     have hfV:(bh c w).V.length=w.V.length↔∀v∈w.V,mayV c v=true:=by unfold bh;exact List.length_filter_eq_length_iff
     by_cases c5:∀b∈w.B,mayB c b=true
     ·rw [show(((bh c w).B.length:Int) != (w.B.length:Int))=false by rw[hfB.2 c5];simp,cf,ob];by_cases c6:∀v∈w.V,mayV c v=true
      ·have hm:=vL w.V;rw[show(((bh c w).V.length:Int) != (w.V.length:Int))=false by rw[hfV.2 c6];simp,cf,xX (by omega) (by omega),ob,show tK (kQ w.V)=true from decide_eq_true (by omega),ct];by_cases c7:w.V.Nodup
       ·rw[show(((kQ w.V).length:Int)==(w.V.length:Int))=true by rw[hm.2.2 c7];simp,ct,El (by omega),ob];congr 1
        have hbad:∀v,vl (nh w.B) v=false↔Go.Mg.forB w.B v:=by
         intro v;unfold vl Go.Mg.forB;rw[tg c2]
         cases br w.B v.Head with
         |none=>simp
         |some s=>simp
        cases ha:w.V.any (vl (nh w.B))with
        |true=>
         obtain⟨v,hv,hb⟩:=List.any_eq_true.1 ha;symm;refine hno fun h=>?_;have:=(hbad v).2 (h.forB v hv);rw[hb]at this;cases this
        |false=>
         rw[List.any_eq_false]at ha;symm;exact decide_eq_true ⟨c1,c2,c3,c4,c5,c6,c7,fun v hv=>(hbad v).1 (by have:=ha v hv;simpa using this)⟩
       ·rw[show(((kQ w.V).length:Int)==(w.V.length:Int))=false by
         rw[beq_eq_false_iff_ne];intro e;exact c7 (hm.2.1 (by omega)),cf,hno fun h=>c7 h.nodup]
      ·rw[show(((bh c w).V.length:Int) != (w.V.length:Int))=true by
        rw[bne_iff_ne];intro e;exact c6 (hfV.1 (by omega)),ct,hno fun h=>c6 h.mayV]
     ·rw[show(((bh c w).B.length:Int) != (w.B.length:Int))=true by
       rw[bne_iff_ne];intro e;exact c5 (hfB.1 (by omega)),ct,ob,ct,hno fun h=>c5 h.mayB]
    ·rw[decide_eq_true (show(w.V.length:Int)>240 by omega),ct,hno fun h=>c4 h.lenV]
   ·rw[decide_eq_true (show(w.B.length:Int)>60 by omega),ct,ob,ct,hno fun h=>c3 h.lenB]
  ·rw[show(places w.B).isSome=false from by unfold dy at c2;simpa using c2,Bool.not_false,ct,ob,ct,hno fun h=>c2 h.valid]
 ·rw[decide_eq_false c1,Bool.not_false,ct,ob,ct,hno fun h=>c1 h.conf]
open Go.Proofs
structure fT where
 n:Int
 o6:List Bk
 o7:List Vt
 o8:List (ID×Int)
 o9:List (Vt×Bool)
 x_5:Bool
 o14:List Bk
 o15:List Vt
 left_0:Nat
 left_1:Nat
def mP (slot:Int)(x1:fT):Option (fT⊕fT):=bif x1.n != (IntKind.i64.wrap ((x1.o6.length:Int)+(x1.o7.length:Int)))then (BD x1.o14 x1.left_0 x1.o6 x1.o8 slot x1.x_5).bind fun v5=>(BE x1.o15 x1.left_1 x1.o7 v5.2.2.2.1 x1.o9 slot v5.2.2.2.2).bind fun v6=>some (.inl (fT.mk (IntKind.i64.wrap ((x1.o6.length:Int)+(x1.o7.length:Int))) v5.2.2.1 v6.2.2.1 v5.2.2.2.1 v6.2.2.2.1 v6.2.2.2.2 v5.2.1 v6.2.1 v5.1 v6.1))else some (.inr (fT.mk x1.n x1.o6 x1.o7 x1.o8 x1.o9 x1.x_5 x1.o14 x1.o15 x1.left_0 x1.left_1))
def Ir (c:Cf)(w:Vw)(v_in:Vw)(slot:Int):Option (Vw×Vw×Bool):=(zV w slot).bind fun v1=>(Iq c w).bind fun v2=>bif !v2 then bif cy 0 v_in.B.length 40 then bif cy 0 v_in.V.length 32 then some (w,v_in,false)else none else none else (Cw c v_in).bind fun v3=>(iter (mP slot) bg (fT.mk (-1) w.B w.V v1.1 v1.2 false v3.1 v3.2 ((v3.1.map av).length) ((v3.2.map aK).length))).bind fun v4=>bif Nat.ble v4.left_0 v4.o14.length then bif Nat.ble v4.left_1 v4.o15.length then some (Vw.mk v4.o6 v4.o7,Vw.mk (v4.o14.take v4.left_0) (v4.o15.take v4.left_1),v4.x_5)else none else none
theorem MA {c:Cf}{w:Vw}{v_in:Vw}{slot:Int}{r_:Vw×Vw×Bool}(hr:Ir c w v_in slot=some r_):ar Tryz.prog 128 [fz c,gW w,gW v_in,.int .i64 slot] [gW r_.1,gW r_.2.1,.bool r_.2.2]:=by
 refine zh Tryz.func128 Z Z Z Z ?_;unfold Ir at hr;refine zQ<|zR<|yS Z (bw Z Z Z Z Z)<|yS Z (bw Z Z Z Z Z)<|yS Z (bw Z Z Z Z Z)<|yS Z (ze Z f8 Z Z)<|yS Z (ze Z f8 Z Z)<|zM Z<|zN<|zT<|zQ<|zR<|yS Z (zD Z Z Z aI Z Z)<|zM Z<|zb hr fun v1 h_v1 hr=>yS Z (zC Z Z Z (by kernel_rfl) (LC.frameX (x':=.ptr 10 0) (H':=[.box (bN c),.box (cG w),.box (cG v_in),.box [.zs,.zs],.box [.zs,.zs],.box (cG w),.vec 5 (w.B.map av),.vec 4 (w.V.map aK),(mQ v1.1),(mR v1.2),.box [(jB 6 w.B),(jV 7 w.V),.map 8,.map 9,(iQ slot),(bQ false)]]) (FW h_v1) (.consC zv (.consC zv .nil)) Z Z (by simp only[List.map_cons,List.map_nil,List.cons_append,List.nil_append,ab.shift,LV.shifts,LV.shift,yn,ym] <;>rfl)))<|zM Z<|zN<|zT<|zQ<|zQ<|zR<|yS Z (zD Z Z Z aY Z Z)<|yS Z (zD Z Z Z aI Z Z) ?_;refine zb hr fun v2 h_v2 hr=>yS Z (zC Z Z Z (by kernel_rfl) (zp (Mz h_v2) (.cons zv (.cons zv .nil))))<|yS Z (aa.not Z Z)<|zN<|zT ?_;refine zX Z (fun g1=>?_)<|fun g1=>?_
 ·refine zi g1 hr fun hr=>zQ<|LW.ent (cz.slot Z)<|LW.ent (cz.slot Z)<|LW.drawW (by kernel_rfl) (by kernel_rfl)<|zK Z ?_;refine yF (F:=[]) (s:=none) Z (fun H _=>zn Z Z) Z ?_;refine yF (F:=[]) (s:=none) Z (fun H _=>zA Z Z fi) Z ?_;refine yF Z (zd Z Z Z aI Z Z) Z ?_;refine yF (F:=[]) (s:=none) Z (fun H _=>zA Z Z aL) Z ?_;refine yF Z (zd Z Z Z cd Z Z) Z<|zg hr fun q1 hr=>?_;refine yF Z (cq.callV (id:=11) (qs:=[(kB v_in.B)]) Z Z Z (by kernel_rfl) (yf q1) (fun H=>(.consC zv .nil)) Z) Z ?_;refine yF (F:=[]) (s:=none) Z (fun H _=>zA Z Z aQ) Z ?_;refine yF Z (zd Z Z Z co Z Z) Z<|zg hr fun q2 hr=>?_;refine yF Z (cq.callV (id:=12) (qs:=[(kV v_in.V)]) Z Z Z (by kernel_rfl) (yg q2) (fun H=>(.consC zv .nil)) Z) Z ?_;refine yF (F:=[]) (s:=none) Z (fun H _=>aa.build Z mt Z Z Z) Z ?_;refine yF Z (zt Z Z Z Z aI Z Z Z) Z<|yF Z (zt Z Z Z Z aI Z Z Z) Z<|zK Z ?_;refine LF.nil ⟨by kernel_rfl,?_⟩;refine zT<|zr<|af ?_;obtain rfl:=zJ hr;exact zf (.three (.cellAgg Z Z (by kernel_rfl) Z) (.cellAgg Z Z (by kernel_rfl) Z) (.tmp Z))<|⟨_,rfl,(.cons (Conv.agg (.cons (Conv.vecAll Z Z Z) (.cons (Conv.vecAll Z Z Z) .nil))) (.cons (Conv.agg (.cons (Conv.vecAll Z Z Z) (.cons (Conv.vecAll Z Z Z) .nil))) (.cons zv .nil)))⟩
 ·refine zo g1 hr fun hr=>zk<|zT<|zQ<|zR<|zM Z<|yS Z (aa.makeFunc Z Z Z)<|zM Z<|yS Z (aa.makeFunc Z Z Z)<|zM Z<|zM Z<|zN<|zT<|zQ<|zR<|yS Z (zD Z Z Z aY Z Z)<|yS Z (zD Z Z Z aI Z Z)<|zb hr fun v3 h_v3 hr=>?_;refine yS Z (zC Z Z Z (by kernel_rfl) (LC.frameX (x':=.agg [(jB 14 v3.1),(jV 15 v3.2)]) (H':=[.box (bN c),.box (cG w),.box (cG v_in),.box [.zs,.zs],.box [.zs,.zs],.box (cG w),.vec 5 (w.B.map av),.vec 4 (w.V.map aK),(mQ v1.1),(mR v1.2),.box [(jB 6 w.B),(jV 7 w.V),.map 8,.map 9,(iQ slot),(bQ false)],.box (bN c),.box (cG v_in),.box [(jB 14 v3.1),(jV 15 v3.2)],.vec 5 (v3.1.map av),.vec 4 (v3.2.map aK)]) (JL h_v3) (.consC zv (.consC zv .nil)) Z Z (by simp only[List.map_cons,List.map_nil,List.cons_append,List.nil_append,ab.shift,LV.shifts,LV.shift] <;>rfl))) ?_;refine yS Z (ze Z f8 Z Z)<|yS Z (zs Z Z Z Z aI Z Z Z Z)<|zN<|zT<|zQ<|zQ<|LW.ent (cz.kill (i:=0) Z)<|LW.ent (cz.kill (i:=1) Z)<|LW.ent (cz.kill (i:=2) Z)<|LW.ent (cz.kill (i:=5) Z)<|LW.ent (cz.kill (i:=11) Z)<|LW.ent (cz.kill (i:=12) Z)<|LW.ent (cz.kill (i:=13) Z)<|zR<|zM Z<|zN<|zT ?_;obtain⟨v4,hb_v4,ho_v4⟩:=zB hr;clear hr;refine LW.tail (E:=[(8,.ptr 3 0),(9,.ptr 4 0),(10,(bQ false)),(11,.ptr 10 0),(14,.ptr 16 0)]) (O:=[.dead,.dead,.dead,.box [.zs,.zs],.box [.zs,.zs],.dead,.vec 5 (v4.o6.map av),.vec 4 (v4.o7.map aK),(mQ v4.o8),(mR v4.o9),.box [(jB 6 v4.o6),(jV 7 v4.o7),.map 8,.map 9,(iQ slot),(bQ v4.x_5)],.dead,.dead,.dead,.vec 5 (v4.o14.map av),.vec 4 (v4.o15.map aK),.box [.vec 5 14 (v4.o14.map av).length 0 v4.left_0,.vec 4 15 (v4.o15.map aK).length 0 v4.left_1]]) ?_<|fun env_v4 H_v4 hw_v4=>?_
  ·refine LW.block ?_;refine LW.iterB (E:=fun x1:fT=>[(8,.ptr 3 0),(9,.ptr 4 0),(10,(bQ false)),(11,.ptr 10 0),(12,.fn 155 [.ptr 10 0] []),(13,.fn 156 [.ptr 10 0] []),(14,.ptr 16 0),(15,(iQ x1.n))]) (O:=fun x1=>[.dead,.dead,.dead,.box [.zs,.zs],.box [.zs,.zs],.dead,.vec 5 (x1.o6.map av),.vec 4 (x1.o7.map aK),(mQ x1.o8),(mR x1.o9),.box [(jB 6 x1.o6),(jV 7 x1.o7),.map 8,.map 9,(iQ slot),(bQ x1.x_5)],.dead,.dead,.dead,.vec 5 (x1.o14.map av),.vec 4 (x1.o15.map aK),.box [.vec 5 14 (x1.o14.map av).length 0 x1.left_0,.vec 4 15 (x1.o15.map aK).length 0 x1.left_1]]) hb_v4 (zW 17 ⟨rfl,rfl,rfl,rfl,rfl,rfl,rfl,rfl,trivial⟩ Z Z Z (zL Z (zL Z (zL Z (zL Z (zL Z (zL Z (zL Z (zL Z (zL (ae (fun _=>rfl) _) (zL (ae (fun _=>rfl) _) (zL Z (zL Z (zL Z (zL Z (zL Z (zL Z (zL Z Z))))))))))))))))))<|fun x1 z_x1 hr hb_x1=>?_;unfold mP at hr;refine zQ<|zQ<|LW.draw2 (by kernel_rfl) (by kernel_rfl)<|zH Z<|zH Z<|yE Z (zn Z Z)<|yE Z (zA Z Z fi)<|yE Z (zA Z Z aL)<|yE Z (zD Z Z Z cd Z Z)<|yE Z (aa.lenVM Z Z Z (by kernel_rfl))<|zH Z<|yE Z (zn Z Z)<|yE Z (zA Z Z fi)<|yE Z (zA Z Z aQ)<|yE Z (zD Z Z Z co Z Z)<|yE Z (aa.lenVM Z Z Z (by kernel_rfl))<|yE Z (ap Z Z Z Z)<|yE Z (ap Z Z Z Z)<|LO.nil<|zT ?_;refine zX Z (fun g2=>?_)<|fun g2=>?_
   ·refine zi g2 hr fun hr=>zk<|zT<|zl<|zQ<|LW.draw2 (by kernel_rfl) (by kernel_rfl)<|zH Z<|yE Z (zn Z Z)<|yE Z (zA Z Z fi)<|yE Z (zA Z Z aL)<|yE Z (zD Z Z Z cd Z Z)<|yE Z (aa.lenVM Z Z Z (by kernel_rfl))<|zH Z<|yE Z (zn Z Z)<|yE Z (zA Z Z fi)<|yE Z (zA Z Z aQ)<|yE Z (zD Z Z Z co Z Z)<|yE Z (aa.lenVM Z Z Z (by kernel_rfl))<|yE Z (ap Z Z Z Z)<|zH Z<|LO.nil<|zT<|zQ<|zR ?_;refine yS Z (zA Z Z aL)<|yS Z (zD Z Z Z cd Z Z)<|zM Z<|zb hr fun v5 h_v5 hr=>yS Z (zC Z Z Z (by kernel_rfl) (JF h_v5))<|yS Z (zA Z Z aL)<|yS Z (zs Z Z Z Z cd Z Z Z Z)<|zN<|zT<|zR<|yS Z (zA Z Z aQ)<|yS Z (zD Z Z Z co Z Z)<|zM Z<|zb hr fun v6 h_v6 hr=>yS Z (zC Z Z Z (by kernel_rfl) (JG h_v6))<|yS Z (zA Z Z aQ)<|yS Z (zs Z Z Z Z co Z Z Z Z)<|zN<|ai<|zT ?_;obtain rfl:=zJ hr;exact⟨_,rfl,zW 17 ⟨rfl,rfl,rfl,rfl,rfl,rfl,rfl,rfl,trivial⟩ Z Z Z (zL Z (zL Z (zL Z (zL Z (zL Z (zL Z (zL Z (zL Z (zL (ae (fun _=>rfl) _) (zL (ae (fun _=>rfl) _) (zL Z (zL Z (zL Z (zL Z (zL Z (zL Z (zL Z Z)))))))))))))))))⟩
   ·refine zo g2 hr fun hr=>zq<|aj<|aj<|zy<|zT ?_;obtain rfl:=zJ hr;have hr:=congrArg some (hb_x1 _ rfl);obtain rfl:=zJ hr;exact zW 17 ⟨Z,Z,Z,Z,Z,trivial⟩ Z Z Z<|zL Z<|zL Z<|zL Z<|zL Z<|zL Z<|zL Z<|zL Z<|zL Z<|zL (ae (fun _=>rfl) _)<|zL (ae (fun _=>rfl) _)<|zL Z<|zL Z<|zL Z<|zL Z<|zL Z<|zL Z<|zL Z Z
  ·have hr:=ho_v4;clear hb_v4;refine zT<|LW.weak hw_v4<|zQ<|LW.drawW (by kernel_rfl) (by kernel_rfl)<|zK Z ?_;refine yF (F:=[]) (s:=none) Z (fun H _=>zn Z Z) Z ?_;refine yF (F:=[]) (s:=none) Z (fun H _=>zA Z Z fi) Z ?_;refine yF Z (zd Z Z Z aI Z Z) Z<|zg hr fun q3 hr=>zg hr fun q4 hr=>yF Z (zd Z Z Z aI Z Z) Z<|zK Z ?_;refine yF (F:=[]) (s:=none) Z (fun H _=>zn Z Z) Z ?_;refine yF (F:=[]) (s:=none) Z (fun H _=>zA Z Z qw) Z ?_;refine yF Z (zd Z Z Z uf Z Z) Z<|yF Z (zt Z Z Z Z aI Z Z Z) Z<|yF Z (zt Z Z Z Z aI Z Z Z) Z<|zK Z ?_;refine LF.nil ⟨by kernel_rfl,?_⟩;refine zT<|zr ?_;obtain rfl:=zJ hr;exact zf (.three (.cellAgg Z Z (by kernel_rfl) Z) (.cellAgg Z Z (by kernel_rfl) Z) (.tmp Z))<|⟨_,rfl,(.cons (Conv.agg (.cons (Conv.vecAll Z Z Z) (.cons (Conv.vecAll Z Z Z) .nil))) (.cons (Conv.agg (.cons (Conv.vecTake Z q3) (.cons (Conv.vecTake Z q4) .nil))) (.cons zv .nil)))⟩
def cP (B:List Bk)(b:Bk):Bool:=(br B (nm b)).isSome||(match br B b.Parent with|some s=>decide (s≥b.Slot)|none=>false)
def eX (B:List Bk)(upto:Int)(b:Bk):Bool:=match br B b.Parent with|some _=>decide (b.Slot>upto)|none=>true
def bE (upto:Int)(B:List Bk)(full:Bool)(b:Bk):Bool×List Bk×Bool:=
 if cP B b then(true,B,full)else if eX B upto b then(false,B,full)else if B.length<60 then(true,B++[b],full)else(false,B,true)
def cY (B:List Bk)(V:List Vt)(v:Vt):Bool:=decide (v∈V)||(match br B v.Head with|some s=>decide (s>v.Slot)|none=>false)
def fJ (B:List Bk)(upto:Int)(v:Vt):Bool:=match br B v.Head with|some _=>decide (v.Slot>upto)|none=>true
def bF (upto:Int)(B:List Bk)(V:List Vt)(full:Bool)(v:Vt):Bool×List Vt×Bool:=
 if cY B V v then(true,V,full)else if fJ B upto v then(false,V,full)else if V.length<240 then(true,V++[v],full)else(false,V,true)
def ET (B:List Bk)(sm:List (ID×Int)):Prop:=∀id,ak sm id=br B id
def GJ (V:List Vt)(hm:List (Vt×Bool)):Prop:=∀v,ak hm v=if v∈V then some true else none
theorem x6 (n most:Int)(full:Bool):z7 n most full=some (decide (n<most),if n<most then full else true):=by
 unfold z7
 cases full with
 |true=>rw[ct];by_cases h:n<most <;>simp[h]
 |false=>
  rw[cf];by_cases h:n<most
  ·rw[if_pos h,decide_eq_false (show¬n≥most by omega)]
  ·rw[if_neg h,decide_eq_true (show n≥most by omega)]
theorem Em {b:Bk}{B:List Bk}{sm:List (ID×Int)}{upto:Int}{full:Bool}(hs:ET B sm)(hB:B.length≤1000)(hl:sm.length≤900000) :
  ∃sm',wF b B sm upto full=some ((bE upto B full b).1,(bE upto B full b).2.1,sm',(bE upto B full b).2.2)∧ET (bE upto B full b).2.1 sm'∧sm'.length≤sm.length+((bE upto B full b).2.1.length-B.length):=by
 unfold wF;rw[hs,hs]
 cases hn:br B (nm b)with
 |some q=>
  have e:bE upto B full b=(true,B,full):=by simp[bE,cP,hn]
  rw[e];refine⟨sm,?_,hs,by simp⟩;rw[Option.isSome_some,ct,ob,ct]
 | none=>
  rw[Option.isSome_none,cf]
  cases hp:br B b.Parent with
  |none=>
   have e:bE upto B full b=(false,B,full):=by simp[bE,cP,eX,hn,hp]
   rw[e];refine⟨sm,?_,hs,by simp⟩;rw[Option.isSome_none,cf,ob,cf,Bool.not_false,ct,ob,ct]
  | some s=>
   rw[Option.isSome_some,ct,ob,Option.getD_some];by_cases h1:s≥b.Slot
   ·have e:bE upto B full b=(true,B,full):=by simp[bE,cP,hn,hp,h1]
    rw[e];refine⟨sm,?_,hs,by simp⟩;rw[decide_eq_true h1,ct]
   ·rw [decide_eq_false h1,cf,Bool.not_true,cf];by_cases h2:b.Slot>upto
    ·have e:bE upto B full b=(false,B,full):=by simp[bE,cP,eX,hn,hp,h1,h2]
     rw[e];refine⟨sm,?_,hs,by simp⟩;rw[decide_eq_true h2,ct,ob,ct]
    ·rw[decide_eq_false h2,cf,x6,ob,ob];by_cases h3:B.length<60
     ·have e:bE upto B full b=(true,B++[b],full):=by simp[bE,cP,eX,hn,hp,h1,h2,h3]
      rw[e];refine⟨bz sm (nm b) b.Slot,?_,fun id=>?_,?_⟩
      ·rw[decide_eq_true (show(B.length:Int)<60 by omega),Bool.not_true,cf,aM (by simp only[List.length_singleton];omega) (by omega),ct,show tK sm=true from decide_eq_true (by omega),ct,if_pos (show(B.length:Int)<60 by omega)]
      ·rw[cO,r4,hs];by_cases e:nm b=id
       ·rw[if_pos e,if_pos e,←e,hn];rfl
       ·rw[if_neg e,if_neg e];cases br B id <;>rfl
      ·rw[oO,List.length_append,List.length_singleton];split <;>omega
     ·have e:bE upto B full b=(false,B,true):=by simp[bE,cP,eX,hn,hp,h1,h2,h3]
      rw[e];refine⟨sm,?_,hs,by simp⟩;rw[decide_eq_false (show¬(B.length:Int)<60 by omega),Bool.not_false,ct,if_neg (show¬(B.length:Int)<60 by omega)]
theorem En {v:Vt}{B:List Bk}{V:List Vt}{sm:List (ID×Int)}{hm:List (Vt×Bool)}{upto:Int}{full:Bool}(hs:ET B sm)(hh:GJ V hm)(hV:V.length≤1000)(hl:hm.length≤900000) :
  ∃hm',wG v V sm hm upto full=some ((bF upto B V full v).1,(bF upto B V full v).2.1,hm',(bF upto B V full v).2.2)∧GJ (bF upto B V full v).2.1 hm'∧hm'.length≤hm.length+((bF upto B V full v).2.1.length-V.length):=by
 unfold wG;rw[hs,hh];by_cases hn:v∈V
 ·have e:bF upto B V full v=(true,V,full):=by simp[bF,cY,hn]
  rw[e];refine⟨hm,?_,hh,by simp⟩;rw[if_pos hn,Option.getD_some,ct,ob,ct]
 ·rw [if_neg hn,Option.getD_none,cf]
  cases hp:br B v.Head with
  |none=>
   have e:bF upto B V full v=(false,V,full):=by simp[bF,cY,fJ,hn,hp]
   rw[e];refine⟨hm,?_,hh,by simp⟩;rw[Option.isSome_none,cf,ob,cf,Bool.not_false,ct,ob,ct]
  | some s=>
   rw[Option.isSome_some,ct,ob,Option.getD_some];by_cases h1:s>v.Slot
   ·have e:bF upto B V full v=(true,V,full):=by simp[bF,cY,hn,hp,h1]
    rw[e];refine⟨hm,?_,hh,by simp⟩;rw[decide_eq_true h1,ct]
   ·rw [decide_eq_false h1,cf,Bool.not_true,cf];by_cases h2:v.Slot>upto
    ·have e:bF upto B V full v=(false,V,full):=by simp[bF,cY,fJ,hn,hp,h1,h2]
     rw[e];refine⟨hm,?_,hh,by simp⟩;rw[decide_eq_true h2,ct,ob,ct]
    ·rw[decide_eq_false h2,cf,x6,ob,ob];by_cases h3:V.length<240
     ·have e:bF upto B V full v=(true,V++[v],full):=by simp[bF,cY,fJ,hn,hp,h1,h2,h3]
      rw[e];refine⟨bz hm v true,?_,fun id=>?_,?_⟩
      ·rw[decide_eq_true (show(V.length:Int)<240 by omega),Bool.not_true,cf,aM (by simp only[List.length_singleton];omega) (by omega),ct,show tK hm=true from decide_eq_true (by omega),ct,if_pos (show(V.length:Int)<240 by omega)]
      ·rw[cO,hh];by_cases e:v=id
       ·subst e;simp
       ·simp[e,Ne.symm e]
      ·rw[oO,List.length_append,List.length_singleton];split <;>omega
     ·have e:bF upto B V full v=(false,V,true):=by simp[bF,cY,fJ,hn,hp,h1,h2,h3]
      rw[e];refine⟨hm,?_,hh,by simp⟩;rw[decide_eq_false (show¬(V.length:Int)<240 by omega),Bool.not_false,ct,if_neg (show¬(V.length:Int)<240 by omega)]
section
variable {α : Type}
def bC (step:List α→Bool→α→Bool×List α×Bool):List α→Bool→List α→List α×List α×Bool
 |B,f,[]=>([],B,f)
 |B,f,b::r=>(if (step B f b).1 then(bC step (step B f b).2.1 (step B f b).2.2 r).1 else b::(bC step (step B f b).2.1 (step B f b).2.2 r).1,(bC step (step B f b).2.1 (step B f b).2.2 r).2)
variable {step : List α → Bool → α → Bool × List α × Bool}
theorem fk (b:α):∀(l B:List α) (f:Bool),bC step B f (l++[b]) =
  (if (step (bC step B f l).2.1 (bC step B f l).2.2 b).1 then(bC step B f l).1 else(bC step B f l).1++[b],(step (bC step B f l).2.1 (bC step B f l).2.2 b).2)
 |[],B,f=>by
  simp only[List.nil_append,bC];rfl
 |x::r,B,f=>by
  simp only[List.cons_append,bC,fk b r];split <;>split <;>simp_all
theorem jT :∀(l B:List α) (f:Bool),(bC step B f l).1.length≤l.length
 |[],B,f=>by simp[bC]
 |x::r,B,f=>by
  have:=jT r (step B f x).2.1 (step B f x).2.2;simp only[bC];split
  ·simp only[List.length_cons];omega
  ·simp only[List.length_cons];omega
theorem dD (h:∀B f b,B.length≤(step B f b).2.1.length∧(step B f b).2.1.length≤B.length+1):∀(l B:List α) (f:Bool),B.length≤(bC step B f l).2.1.length∧(bC step B f l).2.1.length≤B.length+l.length
 |[],B,f=>by simp[bC]
 |x::r,B,f=>by
  have h1:=h B f x;have h2:=dD h r (step B f x).2.1 (step B f x).2.2;simp only[bC,List.length_cons];omega
end
def aN (upto:Int):List Bk→Bool→List Bk→List Bk×List Bk×Bool:=bC (bE upto)
def bv (upto:Int)(B:List Bk):List Vt→Bool→List Vt→List Vt×List Vt×Bool:=bC (bF upto B)
theorem iI (upto:Int)(B:List Bk)(f:Bool)(b:Bk):B.length≤(bE upto B f b).2.1.length∧(bE upto B f b).2.1.length≤B.length+1:=by
 unfold bE;split <;>(try split) <;>(try split) <;>simp
theorem iK (upto:Int)(B:List Bk)(V:List Vt)(f:Bool)(v:Vt):V.length≤(bF upto B V f v).2.1.length∧(bF upto B V f v).2.1.length≤V.length+1:=by
 unfold bF;split <;>(try split) <;>(try split) <;>simp
structure wW (B:List Bk)(sm:List (ID×Int)):Prop where
 find:ET B sm
 len:sm.length≤B.length+1
structure Ba (V:List Vt)(hm:List (Vt×Bool)):Prop where
 find:GJ V hm
 len:hm.length≤V.length
theorem BA {b:Bk}{B:List Bk}{sm:List (ID×Int)}{upto:Int}{full:Bool}(hs:wW B sm)(hB:B.length≤1000) :
  ∃sm',wF b B sm upto full=some ((bE upto B full b).1,(bE upto B full b).2.1,sm',(bE upto B full b).2.2)∧wW (bE upto B full b).2.1 sm':=by
 obtain⟨sm',h1,h2,h3⟩:=Em (b:=b) (upto:=upto) (full:=full) hs.find hB (by have:=hs.len;omega);have hg:=iI upto B full b;exact⟨sm',h1,h2,by have:=hs.len;omega⟩
theorem BC {v:Vt}{B:List Bk}{V:List Vt}{sm:List (ID×Int)}{hm:List (Vt×Bool)}{upto:Int}{full:Bool}(hs:wW B sm)(hh:Ba V hm)(hV:V.length≤1000) :
  ∃hm',wG v V sm hm upto full=some ((bF upto B V full v).1,(bF upto B V full v).2.1,hm',(bF upto B V full v).2.2)∧Ba (bF upto B V full v).2.1 hm':=by
 obtain⟨hm',h1,h2,h3⟩:=En (v:=v) (upto:=upto) (full:=full) hs.find hh.find hV (by have:=hh.len;omega);have hg:=iK upto B V full v;exact⟨hm',h1,h2,by have:=hh.len;omega⟩
theorem gz {α:Type}{l:List α}{j:Nat}{y:α}(h:l[j]?=some y):l.take (j+1)=l.take j++[y]:=aJ h
theorem EA {lB l B:List Bk}{kk:Nat}{sm:List (ID×Int)}{upto:Int}{full:Bool}(hl:lB.take kk=l)(hk:l.length=kk)(hs:wW B sm)(hB:B.length+kk≤900) :
  ∃i B' sm' f',BP lB kk B sm upto full=some (i,B',sm',f')∧wW B' sm'∧((i= -1∧aN upto B full l=(l,B',f'))∨∃j:Nat,i=j∧j<kk∧aN upto B full (l.take (j+1))=(l.take j,B',f')):=by
 unfold BP
 have key:=bf (step:=l6 lB kk upto) (fun x=>∃j:Nat,j≤kk∧x.t8=j∧aN upto B full (l.take j)=(l.take j,x.o6,x.o10_5)∧wW x.o6 x.o8) (fun x=>kk-x.t8.toNat)
  (fun b=>(∃x,b=.inl x∧aN upto B full l=(l,x.o6,x.o10_5)∧wW x.o6 x.o8)∨∃(j:Nat) (B':List Bk) (sm':List (ID×Int)) (f':Bool),b=.inr ((j:Int),B',sm',f')∧j<kk∧aN upto B full (l.take (j+1))=(l.take j,B',f')∧wW B' sm') (by
   rintro⟨t,B1,sm1,f1⟩ ⟨j,hj,h1,h2,h3⟩;simp only at h1 h2 h3;subst h1;by_cases hlt:j<kk
   ·obtain⟨y,hy,-⟩:=ax (l:=l) (n:=j) (by omega);have hgr:=dD (step:=bE upto) (iI upto) (l.take j) B full;have h2':bC (bE upto) B full (l.take j)=(l.take j,B1,f1):=h2;rw[h2']at hgr;simp only at hgr;rw[List.length_take]at hgr;obtain⟨sm',e,hr⟩:=BA (b:=y) (upto:=upto) (full:=f1) h3 (by omega)
    have hsn:aN upto B full (l.take (j+1))=(if (bE upto B1 f1 y).1 then l.take j else l.take j++[y],(bE upto B1 f1 y).2):=by
     rw[gz hy];unfold aN;rw[fk,h2']
    generalize bE upto B1 f1 y=q at e hr hsn;obtain⟨g,B2,f2⟩:=q;simp only at e hr hsn
    have hstep:l6 lB kk upto ⟨(j:Int),B1,sm1,f1⟩=bif g then some (.inr (.inr ((j:Int),B2,sm',f2)))else some (.inl ⟨((j+1:Nat):Int),B2,sm',f2⟩):=by
     unfold l6;simp only;rw[decide_eq_true (show(j:Int)<(kk:Int) by omega),ct,hl,aw hy,ob,e,ob,ah (n:=j) (by omega)]
    cases g with
    |true=>
     right;rw[ct]at hstep;rw[if_pos rfl]at hsn;exact⟨_,hstep,.inr ⟨j,B2,sm',f2,rfl,hlt,hsn,hr⟩⟩
    |false=>
     left;rw[cf]at hstep;rw[if_neg (by simp)]at hsn;refine⟨_,hstep,⟨j+1,hlt,rfl,?_,hr⟩,by simp only;omega⟩;rw[hsn,gz hy]
   ·right
    obtain rfl:j=kk:=by omega
    refine⟨.inl ⟨(j:Int),B1,sm1,f1⟩,?_,.inl ⟨_,rfl,?_,h3⟩⟩
    ·unfold l6;simp only;rw[decide_eq_false (show¬(j:Int)<(j:Int) by omega),cf]
    ·rw[List.take_of_length_le (by omega)]at h2;exact h2) (n:=bg) (x:=⟨0,B,sm,full⟩) ⟨0,by omega,rfl,by simp[aN,bC],hs⟩ (bO (by simp only;omega))
 obtain⟨b,e,⟨x,rfl,h1,h2⟩|⟨j,B',sm',f',rfl,h0,h1,h2⟩⟩:=key
 ·exact⟨-1,x.o6,x.o8,x.o10_5,by rw[e,ob,sl],h2,.inl ⟨rfl,h1⟩⟩
 ·exact⟨j,B',sm',f',by rw[e,ob,sr],h2,.inr ⟨j,rfl,h0,h1⟩⟩
structure ss {α:Type}(lB:List α)(k:Nat)(l:List α):Prop where
 take:lB.take k=l
 le:k≤lB.length
theorem ss.len {α:Type}{lB l:List α}{k:Nat}(h:ss lB k l):l.length=k:=by
 rw[←h.take,List.length_take];have:=h.le;omega
theorem tH {α:Type}{a l:List α}{i kk:Nat}{z:α}(hi:i≤kk)(hk:kk≤a.length)(h:a.take i=l):ss (jf a i (kk-i) z) i l:=by
 have hlen:=rq (l:=a) (off:=i) (k:=kk-i) (z:=z) (by omega);refine⟨?_,by omega⟩;unfold jf;rw[List.append_assoc,List.take_left' (by rw[List.length_take];omega),h]
structure Mv {α:Type}(l a:List α)(i j:Nat)(left:List α):Prop where
 ij:i<j
 jl:j≤l.length
 len:l.length≤a.length
 left:a.take i=left
 rest:∀q,j≤q→q<l.length→a[q]?=l[q]?
theorem Mv.next_gone {α:Type}{l a:List α}{i j:Nat}{left:List α}(h:Mv l a i j left)(hj:j<l.length):Mv l a i (j+1) left:=
 ⟨by have:=h.ij;omega,hj,h.len,h.left,fun q h1 h2=>h.rest q (by omega) h2⟩
theorem Mv.next_stay {α:Type}{l a:List α}{i j:Nat}{left:List α}{y:α}(h:Mv l a i j left)(hj:j<l.length)(_:l[j]?=some y):Mv l (a.set i y) (i+1) (j+1) (left++[y]):=by
 have h1:=h.ij;have h2:=h.len;refine⟨by omega,hj,by rw[List.length_set];exact h2,?_,fun q h3 h4=>?_⟩
 ·have hi:(a.set i y)[i]?=some y:=by rw[List.getElem?_set];simp;omega
  rw[gz hi,List.take_set_of_le (Nat.le_refl _),h.left]
 ·rw[List.getElem?_set,if_neg (by omega)];exact h.rest q (by omega) h4
theorem Eo {lB l B:List Bk}{kk:Nat}{sm:List (ID×Int)}{upto:Int}{full:Bool}(hl:ss lB kk l)(hs:wW B sm)(hB:B.length+kk≤900) :
  ∃k' lB' sm',BD lB kk B sm upto full=some (k',lB',(aN upto B full l).2.1,sm',(aN upto B full l).2.2)∧wW (aN upto B full l).2.1 sm'∧ss lB' k' (aN upto B full l).1:=by
 have hk:=hl.len;obtain⟨i,B0,sm0,f0,e0,hr0,h0⟩:=EA (upto:=upto) (full:=full) hl.take hk hs hB;unfold BD;rw[e0,ob];rcases h0 with⟨rfl,hp⟩|⟨j0,rfl,hj0,hp⟩
 ·rw[hp];refine⟨kk,lB,sm0,?_,hr0,hl⟩;simp only;rw[show((-1:Int)== -1)=true from rfl,ct]
 ·simp only;rw[show((j0:Int)== -1)=false by rw[beq_eq_false_iff_ne];omega,cf,ah (n:=j0) (by omega)]
  have key:=bf (step:=lR kk upto) (fun x=>∃(i j:Nat),x.i=i∧x.j=j∧wW x.o6 x.o8∧(aN upto B full (l.take j)).2=(x.o6,x.o10_5)∧Mv l x.o14 i j (aN upto B full (l.take j)).1) (fun x=>kk-x.j.toNat)
   (fun x=>∃i:Nat,x.i=i∧i≤kk∧wW x.o6 x.o8∧(aN upto B full l).2=(x.o6,x.o10_5)∧x.o14.take i=(aN upto B full l).1∧kk≤x.o14.length) (by
   rintro⟨i',j',B1,sm1,f1,a⟩ ⟨i,j,h1,h2,h3,h4,h5⟩;simp only at h1 h2 h3 h4 h5;subst h1 h2;have hij:=h5.ij;have hjl:=h5.jl;have hal:=h5.len;by_cases hlt:j<kk
   ·left;obtain⟨y,hy,-⟩:=ax (l:=l) (n:=j) (by omega)
    have hya:(a.take kk)[j]?=some y:=by rw[List.getElem?_take_of_lt hlt,h5.rest j (Nat.le_refl _) (by omega),hy]
    obtain⟨z,hz,-⟩:=ax (l:=a.take kk) (n:=i) (by rw[List.length_take];omega);have hgr:=dD (step:=bE upto) (iI upto) (l.take j) B full;have h4':(bC (bE upto) B full (l.take j)).2=(B1,f1):=h4;rw[h4']at hgr;simp only at hgr;rw[List.length_take]at hgr;obtain⟨sm',e,hr⟩:=BA (b:=y) (upto:=upto) (full:=f1) h3 (by omega)
    have hsn:aN upto B full (l.take (j+1))=(if (bE upto B1 f1 y).1 then(aN upto B full (l.take j)).1 else(aN upto B full (l.take j)).1++[y],(bE upto B1 f1 y).2):=by
     rw[gz hy];unfold aN;rw[fk,h4']
    generalize bE upto B1 f1 y=q at e hr hsn;obtain⟨g,B2,f2⟩:=q;simp only at e hr hsn
    have hstep:lR kk upto ⟨(i:Int),(j:Int),B1,sm1,f1,a⟩=bif !g then some (.inl ⟨((i+1:Nat):Int),((j+1:Nat):Int),B2,sm',f2,a.set i y⟩)else some (.inl ⟨(i:Int),((j+1:Nat):Int),B2,sm',f2,a⟩):=by
     unfold lR;simp only;rw[decide_eq_true (show(j:Int)<(kk:Int) by omega),ct,aw hya,ob,e,ob,aw hz,ob,ah (n:=j) (by omega),ah (n:=i) (by omega),Int.toNat_natCast]
    cases g with
    |true=>
     rw[Bool.not_true,cf]at hstep;rw[if_pos rfl]at hsn;refine⟨_,hstep,⟨i,j+1,rfl,rfl,hr,by rw[hsn],?_⟩,by simp only;omega⟩;rw[hsn];exact h5.next_gone (by omega)
    |false=>
     rw[Bool.not_false,ct]at hstep;rw[if_neg (by simp)]at hsn;refine⟨_,hstep,⟨i+1,j+1,rfl,rfl,hr,by rw[hsn],?_⟩,by simp only;omega⟩;rw[hsn];exact h5.next_stay (by omega) hy
   ·right
    have hjk:j=kk:=by omega
    have htl:l.take j=l:=List.take_of_length_le (by omega);rw[htl]at h4 h5;refine⟨⟨(i:Int),(j:Int),B1,sm1,f1,a⟩,?_,i,rfl,by omega,h3,h4,h5.left,by show kk≤a.length;omega⟩;unfold lR;simp only
    rw[decide_eq_false (show¬(j:Int)<(kk:Int) by omega),cf]) (n:=bg) (x:=⟨(j0:Int),((j0+1:Nat):Int),B0,sm0,f0,lB⟩)
   ⟨j0,j0+1,rfl,rfl,hr0,by rw[hp],by
    rw[hp];refine⟨by omega,by omega,by have:=hl.le;simp only;omega,?_,fun q h1 h2=>?_⟩
    ·show lB.take j0=l.take j0;rw[←hl.take,List.take_take,Nat.min_eq_left (by omega)]
    ·rw[←hl.take,List.getElem?_take_of_lt (by omega)]⟩ (bO (by simp only;omega))
  obtain⟨x,ex,i,hi,hik,hr,h1,h2,h3⟩:=key;generalize aN upto B full l=p at h1 h2⊢;obtain⟨pl,pB,pf⟩:=p;simp only at h1 h2⊢;rw[ex,ob,hi,decide_eq_true (show 0≤(i:Int)∧(i:Int)≤(kk:Int) by omega),ct,Int.toNat_natCast,decide_eq_true (show i+(kk-i)≤x.o14.length by omega),ct,ct];cases h1;exact⟨i,jf x.o14 i (kk-i) ⟨0,0,(0,0),0⟩,x.o8,rfl,hr,tH hik h3 h2⟩
theorem Ez {lV l V:List Vt}{kk:Nat}{BB:List Bk}{sm0:List (ID×Int)}{hm:List (Vt×Bool)}{upto:Int}{full:Bool}(hl:lV.take kk=l)(hk:l.length=kk)(hsm:wW BB sm0)(hs:Ba V hm)(hB:V.length+kk≤900) :
  ∃i V' hm' f',BN lV kk V sm0 hm upto full=some (i,V',hm',f')∧Ba V' hm'∧((i= -1∧bv upto BB V full l=(l,V',f'))∨∃j:Nat,i=j∧j<kk∧bv upto BB V full (l.take (j+1))=(l.take j,V',f')):=by
 unfold BN
 have key:=bf (step:=l0 lV kk sm0 upto) (fun x=>∃j:Nat,j≤kk∧x.t8=j∧bv upto BB V full (l.take j)=(l.take j,x.o7,x.o10_5)∧Ba x.o7 x.o9) (fun x=>kk-x.t8.toNat)
  (fun b=>(∃x,b=.inl x∧bv upto BB V full l=(l,x.o7,x.o10_5)∧Ba x.o7 x.o9)∨∃(j:Nat) (V':List Vt) (hm':List (Vt×Bool)) (f':Bool),b=.inr ((j:Int),V',hm',f')∧j<kk∧bv upto BB V full (l.take (j+1))=(l.take j,V',f')∧Ba V' hm') (by
   rintro⟨t,V1,hm1,f1⟩ ⟨j,hj,h1,h2,h3⟩;simp only at h1 h2 h3;subst h1;by_cases hlt:j<kk
   ·obtain⟨y,hy,-⟩:=ax (l:=l) (n:=j) (by omega);have hgr:=dD (step:=bF upto BB) (iK upto BB) (l.take j) V full;have h2':bC (bF upto BB) V full (l.take j)=(l.take j,V1,f1):=h2;rw[h2']at hgr;simp only at hgr;rw[List.length_take]at hgr;obtain⟨hm',e,hr⟩:=BC (v:=y) (upto:=upto) (full:=f1) hsm h3 (by omega)
    have hsn:bv upto BB V full (l.take (j+1))=(if (bF upto BB V1 f1 y).1 then l.take j else l.take j++[y],(bF upto BB V1 f1 y).2):=by
     rw[gz hy];unfold bv;rw[fk,h2']
    generalize bF upto BB V1 f1 y=q at e hr hsn;obtain⟨g,V2,f2⟩:=q;simp only at e hr hsn
    have hstep:l0 lV kk sm0 upto ⟨(j:Int),V1,hm1,f1⟩=bif g then some (.inr (.inr ((j:Int),V2,hm',f2)))else some (.inl ⟨((j+1:Nat):Int),V2,hm',f2⟩):=by
     unfold l0;simp only;rw[decide_eq_true (show(j:Int)<(kk:Int) by omega),ct,hl,aw hy,ob,e,ob,ah (n:=j) (by omega)]
    cases g with
    |true=>
     right;rw[ct]at hstep;rw[if_pos rfl]at hsn;exact⟨_,hstep,.inr ⟨j,V2,hm',f2,rfl,hlt,hsn,hr⟩⟩
    |false=>
     left;rw[cf]at hstep;rw[if_neg (by simp)]at hsn;refine⟨_,hstep,⟨j+1,hlt,rfl,?_,hr⟩,by simp only;omega⟩;rw[hsn,gz hy]
   ·right
    obtain rfl:j=kk:=by omega
    refine⟨.inl ⟨(j:Int),V1,hm1,f1⟩,?_,.inl ⟨_,rfl,?_,h3⟩⟩
    ·unfold l0;simp only;rw[decide_eq_false (show¬(j:Int)<(j:Int) by omega),cf]
    ·rw[List.take_of_length_le (by omega)]at h2;exact h2) (n:=bg) (x:=⟨0,V,hm,full⟩) ⟨0,by omega,rfl,by simp[bv,bC],hs⟩ (bO (by simp only;omega))
 obtain⟨b,e,⟨x,rfl,h1,h2⟩|⟨j,V',hm',f',rfl,h0,h1,h2⟩⟩:=key
 ·exact⟨-1,x.o7,x.o9,x.o10_5,by rw[e,ob,sl],h2,.inl ⟨rfl,h1⟩⟩
 ·exact⟨j,V',hm',f',by rw[e,ob,sr],h2,.inr ⟨j,rfl,h0,h1⟩⟩
theorem Ep {lV l V:List Vt}{kk:Nat}{BB:List Bk}{sm0:List (ID×Int)}{hm:List (Vt×Bool)}{upto:Int}{full:Bool}(hl:ss lV kk l)(hsm:wW BB sm0)(hs:Ba V hm)(hB:V.length+kk≤900) :
  ∃k' lV' hm',BE lV kk V sm0 hm upto full=some (k',lV',(bv upto BB V full l).2.1,hm',(bv upto BB V full l).2.2)∧Ba (bv upto BB V full l).2.1 hm'∧ss lV' k' (bv upto BB V full l).1:=by
 have hk:=hl.len;obtain⟨i,V0,hm0,f0,e0,hr0,h0⟩:=Ez (upto:=upto) (full:=full) hl.take hk hsm hs hB;unfold BE;rw[e0,ob];rcases h0 with⟨rfl,hp⟩|⟨j0,rfl,hj0,hp⟩
 ·rw[hp];refine⟨kk,lV,hm0,?_,hr0,hl⟩;simp only;rw[show((-1:Int)== -1)=true from rfl,ct]
 ·simp only;rw[show((j0:Int)== -1)=false by rw[beq_eq_false_iff_ne];omega,cf,ah (n:=j0) (by omega)]
  have key:=bf (step:=lS kk sm0 upto) (fun x=>∃(i j:Nat),x.i=i∧x.j=j∧Ba x.o7 x.o9∧(bv upto BB V full (l.take j)).2=(x.o7,x.o10_5)∧Mv l x.o15 i j (bv upto BB V full (l.take j)).1) (fun x=>kk-x.j.toNat)
   (fun x=>∃i:Nat,x.i=i∧i≤kk∧Ba x.o7 x.o9∧(bv upto BB V full l).2=(x.o7,x.o10_5)∧x.o15.take i=(bv upto BB V full l).1∧kk≤x.o15.length) (by
   rintro⟨i',j',V1,hm1,f1,a⟩ ⟨i,j,h1,h2,h3,h4,h5⟩;simp only at h1 h2 h3 h4 h5;subst h1 h2;have hij:=h5.ij;have hjl:=h5.jl;have hal:=h5.len;by_cases hlt:j<kk
   ·left;obtain⟨y,hy,-⟩:=ax (l:=l) (n:=j) (by omega)
    have hya:(a.take kk)[j]?=some y:=by rw[List.getElem?_take_of_lt hlt,h5.rest j (Nat.le_refl _) (by omega),hy]
    obtain⟨z,hz,-⟩:=ax (l:=a.take kk) (n:=i) (by rw[List.length_take];omega);have hgr:=dD (step:=bF upto BB) (iK upto BB) (l.take j) V full;have h4':(bC (bF upto BB) V full (l.take j)).2=(V1,f1):=h4;rw[h4']at hgr;simp only at hgr;rw[List.length_take]at hgr;obtain⟨hm',e,hr⟩:=BC (v:=y) (upto:=upto) (full:=f1) hsm h3 (by omega)
    have hsn:bv upto BB V full (l.take (j+1))=(if (bF upto BB V1 f1 y).1 then(bv upto BB V full (l.take j)).1 else(bv upto BB V full (l.take j)).1++[y],(bF upto BB V1 f1 y).2):=by
     rw[gz hy];unfold bv;rw[fk,h4']
    generalize bF upto BB V1 f1 y=q at e hr hsn;obtain⟨g,V2,f2⟩:=q;simp only at e hr hsn
    have hstep:lS kk sm0 upto ⟨(i:Int),(j:Int),V1,hm1,f1,a⟩=bif !g then some (.inl ⟨((i+1:Nat):Int),((j+1:Nat):Int),V2,hm',f2,a.set i y⟩)else some (.inl ⟨(i:Int),((j+1:Nat):Int),V2,hm',f2,a⟩):=by
     unfold lS;simp only;rw[decide_eq_true (show(j:Int)<(kk:Int) by omega),ct,aw hya,ob,e,ob,aw hz,ob,ah (n:=j) (by omega),ah (n:=i) (by omega),Int.toNat_natCast]
    cases g with
    |true=>
     rw[Bool.not_true,cf]at hstep;rw[if_pos rfl]at hsn;refine⟨_,hstep,⟨i,j+1,rfl,rfl,hr,by rw[hsn],?_⟩,by simp only;omega⟩;rw[hsn];exact h5.next_gone (by omega)
    |false=>
     rw[Bool.not_false,ct]at hstep;rw[if_neg (by simp)]at hsn;refine⟨_,hstep,⟨i+1,j+1,rfl,rfl,hr,by rw[hsn],?_⟩,by simp only;omega⟩;rw[hsn];exact h5.next_stay (by omega) hy
   ·right
    have hjk:j=kk:=by omega
    have htl:l.take j=l:=List.take_of_length_le (by omega);rw[htl]at h4 h5;refine⟨⟨(i:Int),(j:Int),V1,hm1,f1,a⟩,?_,i,rfl,by omega,h3,h4,h5.left,by show kk≤a.length;omega⟩;unfold lS;simp only
    rw[decide_eq_false (show¬(j:Int)<(kk:Int) by omega),cf]) (n:=bg) (x:=⟨(j0:Int),((j0+1:Nat):Int),V0,hm0,f0,lV⟩)
   ⟨j0,j0+1,rfl,rfl,hr0,by rw[hp],by
    rw[hp];refine⟨by omega,by omega,by have:=hl.le;simp only;omega,?_,fun q h1 h2=>?_⟩
    ·show lV.take j0=l.take j0;rw[←hl.take,List.take_take,Nat.min_eq_left (by omega)]
    ·rw[←hl.take,List.getElem?_take_of_lt (by omega)]⟩ (bO (by simp only;omega))
  obtain⟨x,ex,i,hi,hik,hr,h1,h2,h3⟩:=key;generalize bv upto BB V full l=p at h1 h2⊢;obtain⟨pl,pV,pf⟩:=p;simp only at h1 h2⊢;rw[ex,ob,hi,decide_eq_true (show 0≤(i:Int)∧(i:Int)≤(kk:Int) by omega),ct,Int.toNat_natCast,decide_eq_true (show i+(kk-i)≤x.o15.length by omega),ct,ct];cases h1;exact⟨i,jf x.o15 i (kk-i) ⟨0,0,(0,0)⟩,x.o9,rfl,hr,tH hik h3 h2⟩
structure pW where
 B:List Bk
 V:List Vt
 full:Bool
 lB:List Bk
 lV:List Vt
def bK (upto:Int)(s:pW):pW:=
 ⟨(aN upto s.B s.full s.lB).2.1,(bv upto (aN upto s.B s.full s.lB).2.1 s.V (aN upto s.B s.full s.lB).2.2 s.lV).2.1,(bv upto (aN upto s.B s.full s.lB).2.1 s.V (aN upto s.B s.full s.lB).2.2 s.lV).2.2,
  (aN upto s.B s.full s.lB).1,(bv upto (aN upto s.B s.full s.lB).2.1 s.V (aN upto s.B s.full s.lB).2.2 s.lV).1⟩
def b9 (s:pW):Nat:=s.B.length+s.V.length
def mC (upto:Int):Nat→pW→pW
 |0,s=>s
 |n+1,s=>if b9 (bK upto s)=b9 s then bK upto s else mC upto n (bK upto s)
def j5 (upto:Int)(s:pW):pW:=mC upto 1000 s
open Classical in
noncomputable def aF (c:Cf)(w inp:Vw)(slot:Int):Vw×Vw×Bool:=
 if nS c w then(⟨(j5 slot ⟨w.B,w.V,false,(bh c inp).B,(bh c inp).V⟩).B,(j5 slot ⟨w.B,w.V,false,(bh c inp).B,(bh c inp).V⟩).V⟩,⟨(j5 slot ⟨w.B,w.V,false,(bh c inp).B,(bh c inp).V⟩).lB,(j5 slot ⟨w.B,w.V,false,(bh c inp).B,(bh c inp).V⟩).lV⟩,(j5 slot ⟨w.B,w.V,false,(bh c inp).B,(bh c inp).V⟩).full)
 else(w,inp,false)
def mE (s:pW):Prop:=s.B.length≤60∧s.V.length≤240
theorem xB {upto:Int}{B:List Bk}{f:Bool}{b:Bk}(h:B.length≤60):(bE upto B f b).2.1.length≤60:=by
 unfold bE;split <;>(try split) <;>(try split) <;>simp <;>omega
theorem xC {upto:Int}{B:List Bk}{V:List Vt}{f:Bool}{v:Vt}(h:V.length≤240):(bF upto B V f v).2.1.length≤240:=by
 unfold bF;split <;>(try split) <;>(try split) <;>simp <;>omega
theorem pC {α:Type}{step:List α→Bool→α→Bool×List α×Bool}{Q:List α→Prop}(h:∀B f b,Q B→Q (step B f b).2.1):∀(l B:List α) (f:Bool),Q B→Q (bC step B f l).2.1
 |[],B,f,hB=>by simpa only[bC]using hB
 |x::r,B,f,hB=>by
  have:=pC h r (step B f x).2.1 (step B f x).2.2 (h B f x hB);simpa only[bC]using this
theorem ne {upto:Int}{l B:List Bk}{f:Bool}(h:B.length≤60):(aN upto B f l).2.1.length≤60:=pC (step:=bE upto) (Q:=fun B=>B.length≤60) (fun _ _ _ h=>xB h) l B f h
theorem rV {upto:Int}{BB:List Bk}{l V:List Vt}{f:Bool}(h:V.length≤240):(bv upto BB V f l).2.1.length≤240:=pC (step:=bF upto BB) (Q:=fun V=>V.length≤240) (fun _ _ _ h=>xC h) l V f h
theorem oI {upto:Int}{s:pW}(h:mE s):mE (bK upto s):=⟨ne h.1,rV h.2⟩
theorem p6 (upto:Int)(s:pW):(bK upto s).lB.length≤s.lB.length∧(bK upto s).lV.length≤s.lV.length:=⟨jT _ _ _,jT _ _ _⟩
theorem i8 (upto:Int)(s:pW):s.B.length≤(bK upto s).B.length∧s.V.length≤(bK upto s).V.length:=
 ⟨(dD (iI upto) _ _ _).1,(dD (iK upto _) _ _ _).1⟩
structure Ai (s:pW)(x:fT):Prop where
 o6:x.o6=s.B
 o7:x.o7=s.V
 full:x.x_5=s.full
 sm:wW s.B x.o8
 hm:Ba s.V x.o9
 lB:ss x.o14 x.left_0 s.lB
 lV:ss x.o15 x.left_1 s.lV
theorem Ab {upto:Int}{s:pW}{x:fT}(h:Ai s x)(hb:mE s)(hl1:s.lB.length≤800)(hl2:s.lV.length≤600)(hn:x.n≠(b9 s:Int)):∃y,mP upto x=some (.inl y)∧Ai (bK upto s) y∧y.n=(b9 s:Int):=by
 obtain⟨n,o6,o7,o8,o9,f,o14,o15,k0,k1⟩:=x;obtain⟨e6,e7,ef,hsm,hhm,hlB,hlV⟩:=h;simp only at e6 e7 ef hsm hhm hlB hlV hn;subst e6 e7 ef;have hb1:=hb.1;have hb2:=hb.2;obtain⟨k',lB',sm',e1,r1,p1⟩:=Eo (upto:=upto) (full:=s.full) hlB hsm (by have:=hlB.len;omega);unfold bK;generalize aN upto s.B s.full s.lB=p at e1 r1 p1⊢;obtain⟨pl,pB,pf⟩:=p;simp only at e1 r1 p1⊢;obtain⟨k2,lV',hm',e2,r2,p2⟩:=Ep (upto:=upto) (full:=pf) hlV r1 hhm (by have:=hlV.len;omega);generalize bv upto pB s.V pf s.lV=q at e2 r2 p2⊢;obtain⟨ql,qV,qf⟩:=q;simp only at e2 r2 p2⊢
 have hw:IntKind.i64.wrap ((s.B.length:Int)+(s.V.length:Int))=(b9 s:Int):=by
  unfold b9;rw[cJ (by omega) (by omega)];omega
 refine⟨fT.mk (b9 s:Int) pB qV sm' hm' qf lB' lV' k' k2,?_,⟨rfl,rfl,rfl,r1,r2,p1,p2⟩,rfl⟩;unfold mP;simp only;rw[hw,show(n != (b9 s:Int))=true by rw[bne_iff_ne];exact hn,ct,e1,ob];simp only;rw[e2,ob]
theorem vc {upto:Int}:∀(m:Nat) (s:pW) (x:fT) (q:Nat),Ai s x→mE s→s.lB.length≤800→s.lV.length≤600→x.n≠(b9 s:Int)→300<m+b9 s→m<q→
  ∃y,iter (mP upto) (q+1) x=some y∧Ai (mC upto m s) y
 |0,s,x,q,_,hb,_,_,_,hm,_=>by
  have h1:=hb.1;have h2:=hb.2;unfold b9 at hm;omega
 | m+1,s,x,q,h,hb,hl1,hl2,hn,hm,hq=>by
  obtain⟨y,e,hr,hy⟩:=Ab h hb hl1 hl2 hn;have hg:=i8 upto s;have hlen:=p6 upto s;have hb':=oI (upto:=upto) hb;obtain⟨q,rfl⟩:∃p,q=p+1:=⟨q-1,by omega⟩;rw[kt e];unfold mC;by_cases hs:b9 (bK upto s)=b9 s
  ·rw[if_pos hs];refine⟨y,dS ?_,hr⟩
   have hw:IntKind.i64.wrap ((y.o6.length:Int)+(y.o7.length:Int))=(b9 s:Int):=by
    rw[hr.o6,hr.o7,←hs];have h1:=hb'.1;have h2:=hb'.2;unfold b9;rw[cJ (by omega) (by omega)];omega
   unfold mP;rw[hw,hy,show(((b9 s:Nat):Int) != (b9 s:Int))=false by simp,cf,←hy]
  ·rw[if_neg hs];exact vc m (bK upto s) y q hr hb' (by omega) (by omega) (by rw[hy];omega) (by unfold b9 at *;omega) (by omega)
open Classical in
theorem GG {c:Cf}{w inp:Vw}{slot:Int}(h1:w.B.length≤1000)(h2:w.V.length≤1000)(h3:inp.B.length≤800)(h4:inp.V.length≤600):Ir c w inp slot=some (aF c w inp slot):=by
 unfold Ir aF;rw[xX (by omega) (by omega),ob,GF h1 h2,ob];by_cases hm:nS c w
 ·rw[decide_eq_true hm,Bool.not_true,cf,if_pos hm,EI (by omega) (by omega),ob];simp only;have hfB:(bh c inp).B.length≤inp.B.length:=List.length_filter_le _ _;have hfV:(bh c inp).V.length≤inp.V.length:=List.length_filter_le _ _
  have hr:Ai ⟨w.B,w.V,false,(bh c inp).B,(bh c inp).V⟩ (fT.mk (-1) w.B w.V (nh w.B) (kQ w.V) false (bh c inp).B (bh c inp).V ((bh c inp).B.map av).length ((bh c inp).V.map aK).length):=
   ⟨rfl,rfl,rfl,⟨tg hm.valid,DG w.B⟩,⟨s6 w.V,(vL w.V).1⟩,⟨by simp,by simp⟩,⟨by simp,by simp⟩⟩
  have hbel:mE ⟨w.B,w.V,false,(bh c inp).B,(bh c inp).V⟩:=⟨hm.lenB,hm.lenV⟩;generalize bh c inp=o at *;obtain⟨y,e,hy⟩:=vc (upto:=slot) 1000 _ _ 4611686018427387903 hr hbel (by simp only;omega) (by simp only;omega) (by simp only;omega) (by omega) (by omega);have e':iter (mP slot) bg (fT.mk (-1) w.B w.V (nh w.B) (kQ w.V) false o.B o.V (o.B.map av).length (o.V.map aK).length)=some y:=e;rw[e',ob];change Ai (j5 slot _) y at hy;generalize j5 slot ⟨w.B,w.V,false,o.B,o.V⟩=s at hy⊢;rw[Nat.ble_eq_true_of_le hy.lB.le,ct,Nat.ble_eq_true_of_le hy.lV.le,ct,hy.o6,hy.o7,hy.full,hy.lB.take,hy.lV.take]
 ·rw[decide_eq_false hm,Bool.not_false,ct,if_neg hm,aM (by omega) (by omega),ct,aM (by omega) (by omega),ct]
theorem rF {B:List Bk}{b:Bk}(h:cP B b=true)(t:List Bk):cP (B++t) b=true:=by
 unfold cP at h⊢;rw[Bool.or_eq_true]at h⊢;rcases h with h|h
 ·left;obtain⟨s,hs⟩:=Option.isSome_iff_exists.1 h;rw[kC hs];rfl
 ·right
  cases hp:br B b.Parent with
  |none=>rw[hp]at h;cases h
  |some s=>rw[hp]at h;rw[kC hp];exact h
theorem m8 {B:List Bk}{V:List Vt}{v:Vt}(h:cY B V v=true)(t:List Bk)(u:List Vt):cY (B++t) (V++u) v=true:=by
 unfold cY at h⊢;rw[Bool.or_eq_true]at h⊢;rcases h with h|h
 ·left;exact decide_eq_true<|List.mem_append_left _<|of_decide_eq_true h
 ·right
  cases hp:br B v.Head with
  |none=>rw[hp]at h;cases h
  |some s=>rw[hp]at h;rw[kC hp];exact h
theorem xe {B:List Bk}{b:Bk}(h:b∈B):cP B b=true:=by
 obtain⟨s,hs⟩:=xy h;unfold cP;rw[hs];rfl
theorem xf {B:List Bk}{V:List Vt}{v:Vt}(h:v∈V):cY B V v=true:=by
 unfold cY;rw[decide_eq_true h];rfl
theorem fY (upto:Int)(B:List Bk)(f:Bool)(b:Bk) :
  (cP B b=true∧bE upto B f b=(true,B,f))∨(cP B b=false∧eX B upto b=true∧bE upto B f b=(false,B,f))∨
  (cP B b=false∧eX B upto b=false∧B.length<60∧bE upto B f b=(true,B++[b],f))∨(cP B b=false∧eX B upto b=false∧60≤B.length∧bE upto B f b=(false,B,true)):=by
 unfold bE
 cases h1:cP B b with
 |true=>exact .inl ⟨rfl,by rw[if_pos rfl]⟩
 | false=>
  right;rw[if_neg (by simp)]
  cases h2:eX B upto b with
  |true=>exact .inl ⟨rfl,rfl,by rw[if_pos rfl]⟩
  |false=>
   right;rw[if_neg (by simp)];by_cases h3:B.length<60
   ·exact .inl ⟨rfl,rfl,h3,by rw[if_pos h3]⟩
   ·exact .inr ⟨rfl,rfl,by omega,by rw[if_neg h3]⟩
theorem iL (upto:Int)(B:List Bk)(V:List Vt)(f:Bool)(v:Vt) :
  (cY B V v=true∧bF upto B V f v=(true,V,f))∨(cY B V v=false∧fJ B upto v=true∧bF upto B V f v=(false,V,f))∨
  (cY B V v=false∧fJ B upto v=false∧V.length<240∧bF upto B V f v=(true,V++[v],f))∨(cY B V v=false∧fJ B upto v=false∧240≤V.length∧bF upto B V f v=(false,V,true)):=by
 unfold bF
 cases h1:cY B V v with
 |true=>exact .inl ⟨rfl,by rw[if_pos rfl]⟩
 | false=>
  right;rw[if_neg (by simp)]
  cases h2:fJ B upto v with
  |true=>exact .inl ⟨rfl,rfl,by rw[if_pos rfl]⟩
  |false=>
   right;rw[if_neg (by simp)];by_cases h3:V.length<240
   ·exact .inl ⟨rfl,rfl,h3,by rw[if_pos h3]⟩
   ·exact .inr ⟨rfl,rfl,by omega,by rw[if_neg h3]⟩
section
variable {α : Type} {step : List α → Bool → α → Bool × List α × Bool}
theorem gU {Q:List α→Bool→Prop}:∀{l B:List α} {f:Bool},(∀B f b,b∈l→Q B f→Q (step B f b).2.1 (step B f b).2.2)→Q B f→Q (bC step B f l).2.1 (bC step B f l).2.2
 |[],B,f,_,hB=>by simpa only[bC]using hB
 |x::r,B,f,h,hB=>by
  have:=gU (l:=r) (fun B f b hb=>h B f b (.tail _ hb)) (h B f x (.head _) hB);simpa only[bC]using this
theorem jU :∀(l B:List α) (f:Bool),(bC step B f l).1.Sublist l
 |[],B,f=>by simp[bC]
 |x::r,B,f=>by
  have:=jU r (step B f x).2.1 (step B f x).2.2;simp only[bC];split
  ·exact this.cons x
  ·exact this.cons_cons x
theorem nf {G:List α→α→Prop}(hs:∀B f b,(step B f b).1=true→G (step B f b).2.1 b)(hm:∀B f b c,G B c→G (step B f b).2.1 c):∀(l B:List α) (f:Bool) (b:α),b∈l→b∈(bC step B f l).1∨G (bC step B f l).2.1 b
 | x::r,B,f,b,hb=>by
  have hkeep:∀(r B:List α) (f:Bool) (c:α),G B c→G (bC step B f r).2.1 c:=fun r B f c hc=>gU (Q:=fun B _=>G B c) (fun B f b _ hB=>hm B f b c hB) hc;simp only[bC];rcases List.mem_cons.1 hb with e|hb
  ·subst e
   cases h:(step B f b).1 with
   |true=>exact .inr (hkeep _ _ _ _ (hs B f b h))
   |false=>left;rw[if_neg (by simp)];exact .head _
  ·rcases nf hs hm r (step B f x).2.1 (step B f x).2.2 b hb with h|h
   ·left;split
    ·exact h
    ·exact .tail _ h
   ·exact .inr h
end
section
variable {α : Type} {g w : List α → α → Bool} {cap : Nat}
def gJ (g w:List α→α→Bool)(cap:Nat)(B:List α)(f:Bool)(b:α):Bool×List α×Bool:=
 if g B b then(true,B,f)else if w B b then(false,B,f)else if B.length<cap then(true,B++[b],f)else(false,B,true)
def ni (g w:List α→α→Bool)(B:List α)(f:Bool)(l:List α):List α×List α×Bool:=(l.filter fun b=> !g B b,B,f||l.any fun b=> !g B b&& !w B b)
theorem r7 :∀{l B:List α} {f:Bool},(∀b∈l,g B b=false→w B b=false→cap≤B.length)→bC (gJ g w cap) B f l=ni g w B f l
 |[],B,f,_=>by simp[bC,ni]
 | x ::r,B,f,h=>by
  have ih:=fun f=>r7 (l:=r) (f:=f) (B:=B) fun b hb=>h b (.tail _ hb);unfold ni at ih⊢;simp only[bC]
  cases h1:g B x with
  |true=>
   have e:gJ g w cap B f x=(true,B,f):=by unfold gJ;rw[h1,if_pos rfl]
   rw[e];simp[ih,h1]
  | false=>
   cases h2:w B x with
   |true=>
    have e:gJ g w cap B f x=(false,B,f):=by unfold gJ;rw[h1,if_neg (by simp),h2,if_pos rfl]
    rw[e];simp[ih,h1,h2]
   | false=>
    have e:gJ g w cap B f x=(false,B,true):=by
     unfold gJ;rw[h1,if_neg (by simp),h2,if_neg (by simp),if_neg];have:=h x (.head _) h1 h2;omega
    rw[e];simp[ih,h1,h2]
theorem tj (B:List α)(f:Bool)(b:α):∃t,(gJ g w cap B f b).2.1=B++t:=by
 unfold gJ;split
 ·exact⟨[],by simp⟩
 ·split
  ·exact⟨[],by simp⟩
  ·split
   ·exact⟨[b],rfl⟩
   ·exact⟨[],by simp⟩
theorem AO (l B:List α)(f:Bool):∃u,(bC (gJ g w cap) B f l).2.1=B++u:=
 gU (Q:=fun C _=>∃u,C=B++u) (fun C f b _ ⟨u,hu⟩=>by
  obtain⟨t,ht⟩:=tj (g:=g) (w:=w) (cap:=cap) C f b
  exact⟨u++t,by rw[ht,hu,List.append_assoc]⟩) ⟨[],by simp⟩
theorem r6 :∀{l B:List α} {f:Bool},(bC (gJ g w cap) B f l).2.1.length=B.length→∀b∈l,g B b=false→w B b=false→cap≤B.length
 | x::r,B,f,h,b,hb,h1,h2=>by
  simp only[bC]at h;obtain⟨t,ht⟩:=tj (g:=g) (w:=w) (cap:=cap) B f x;obtain⟨u,hu⟩:=AO (g:=g) (w:=w) (cap:=cap) r (gJ g w cap B f x).2.1 (gJ g w cap B f x).2.2
  have hB:(gJ g w cap B f x).2.1=B:=by
   rw[hu,ht,List.length_append,List.length_append]at h;have:t=[]:=List.length_eq_zero_iff.1 (by omega);rw[ht,this,List.append_nil]
  rcases List.mem_cons.1 hb with e|hb
  ·subst e;refine Classical.byContradiction fun hc=>?_
   have e:gJ g w cap B f b=(true,B++[b],f):=by
    unfold gJ;rw[h1,if_neg (by simp),h2,if_neg (by simp),if_pos (by omega)]
   rw[e]at hB;have:=congrArg List.length hB;simp at this
  ·rw[hB]at h;exact r6 h b hb h1 h2
end
structure sq (w o:Vw)(upto:Int)(s:pW):Prop where
 preB:∃t,s.B=w.B++t∧∀b∈t,b∈o.B∧b.Slot≤upto
 preV:∃t,s.V=w.V++t∧∀v∈t,v∈o.V∧v.Slot≤upto
 valid:dy s.B
 nodup:s.V.Nodup
 forB:∀v∈s.V,forB s.B v
 below:mE s
 subB:s.lB.Sublist o.B
 subV:s.lV.Sublist o.V
 allB:∀b∈o.B,b∈s.lB∨cP s.B b=true
 allV:∀v∈o.V,v∈s.lV∨cY s.B s.V v=true
theorem xI {B:List Bk}{upto:Int}{b:Bk}(h1:cP B b=false)(h2:eX B upto b=false):(∃s,br B b.Parent=some s∧s<b.Slot)∧br B (nm b)=none∧b.Slot≤upto:=by
 unfold cP at h1;unfold eX at h2;rw[Bool.or_eq_false_iff]at h1
 have hn:br B (nm b)=none:=by
  cases h:br B (nm b)with
  |none=>rfl
  |some s=>rw[h]at h1;cases h1.1
 cases hp:br B b.Parent with
 |none=>rw[hp]at h2;cases h2
 |some s=>
  rw[hp]at h1 h2;have a1:=of_decide_eq_false h1.2;have a2:=of_decide_eq_false h2;exact⟨⟨s,rfl,by omega⟩,hn,by omega⟩
theorem wv {B:List Bk}{V:List Vt}{upto:Int}{v:Vt}(h1:cY B V v=false)(h2:fJ B upto v=false):forB B v∧v∉V∧v.Slot≤upto:=by
 unfold cY at h1;unfold fJ at h2;rw[Bool.or_eq_false_iff]at h1;have hn:=of_decide_eq_false h1.1
 cases hp:br B v.Head with
 |none=>rw[hp]at h2;cases h2
 |some s=>
  rw[hp]at h1 h2;have a1:=of_decide_eq_false h1.2;have a2:=of_decide_eq_false h2;exact⟨⟨s,hp,by omega⟩,hn,by omega⟩
theorem Av {B:List Bk}{v:Vt}(h:forB B v)(t:List Bk):forB (B++t) v:=by
 obtain⟨s,h1,h2⟩:=h;exact⟨s,kC h1 t,h2⟩
theorem AL {w o:Vw}{upto:Int}{s:pW}(h:sq w o upto s):sq w o upto ⟨(aN upto s.B s.full s.lB).2.1,s.V,(aN upto s.B s.full s.lB).2.2,(aN upto s.B s.full s.lB).1,s.lV⟩:=by
 have key:∃u,(aN upto s.B s.full s.lB).2.1=s.B++u∧(∀b∈u,b∈o.B∧b.Slot≤upto)∧dy (s.B++u)∧(s.B++u).length≤60:=by
  have:=gU (step:=bE upto) (l:=s.lB) (B:=s.B) (f:=s.full) (Q:=fun C _=>∃u,C=s.B++u∧(∀b∈u,b∈o.B∧b.Slot≤upto)∧dy (s.B++u)∧(s.B++u).length≤60)
   (fun C f b hb ⟨u,hu,h1,h2,h3⟩=>by
    subst hu;rcases fY upto (s.B++u) f b with⟨-,e⟩|⟨-,-,e⟩|⟨a1,a2,a3,e⟩|⟨-,-,-,e⟩
    ·rw[e];exact⟨u,rfl,h1,h2,h3⟩
    ·rw[e];exact⟨u,rfl,h1,h2,h3⟩
    ·rw[e];obtain⟨k1,k2,k3⟩:=xI a1 a2;refine⟨u++[b],by simp,fun c hc=>?_,?_,?_⟩
     ·rcases List.mem_append.1 hc with hc|hc
      ·exact h1 c hc
      ·rw[List.mem_singleton]at hc;subst hc;exact⟨h.subB.subset hb,k3⟩
     ·rw[←List.append_assoc];exact sf.2 ⟨h2,k1,k2⟩
     ·rw[←List.append_assoc,List.length_append,List.length_singleton];omega
    ·rw[e];exact⟨u,rfl,h1,h2,h3⟩)
   ⟨[],by simp,by simp,by simpa using h.valid,by simpa using h.below.1⟩
  exact this
 obtain⟨u,hu,h1,h2,h3⟩:=key
 have hgone:∀b∈s.lB,b∈(aN upto s.B s.full s.lB).1∨cP (aN upto s.B s.full s.lB).2.1 b=true:=
  nf (step:=bE upto) (G:=fun B b=>cP B b=true) (fun B f b hb=>by
   rcases fY upto B f b with⟨a,e⟩|⟨-,-,e⟩|⟨-,-,-,e⟩|⟨-,-,-,e⟩ <;>rw[e]at hb⊢
   ·exact a
   ·cases hb
   ·exact xe (by simp)
   ·cases hb) (fun B f b c hc=>by
   rcases fY upto B f b with⟨a,e⟩|⟨-,-,e⟩|⟨-,-,-,e⟩|⟨-,-,-,e⟩ <;>rw[e]
   ·exact hc
   ·exact hc
   ·exact rF hc _
   ·exact hc) s.lB s.B s.full
 obtain⟨t,ht,ht2⟩:=h.preB
 refine⟨⟨t++u,by simp only;rw[hu,ht,List.append_assoc],fun b hb=>(List.mem_append.1 hb).elim (ht2 b) (h1 b)⟩,h.preV,by simp only[hu];exact h2,h.nodup,fun v hv=>?_,⟨by simp only[hu];exact h3,h.below.2⟩,
  (jU s.lB s.B s.full).trans h.subB,h.subV,fun b hb=>?_,fun v hv=>?_⟩
 ·simp only[hu];exact Av (h.forB v hv) u
 ·rcases h.allB b hb with h5|h5
  ·exact hgone b h5
  ·right;simp only[hu];exact rF h5 u
 ·rcases h.allV v hv with h5|h5
  ·exact .inl h5
  ·right;simp only[hu];have:=m8 h5 u []
   rwa [List.append_nil]at this
theorem AM {w o:Vw}{upto:Int}{s:pW}(h:sq w o upto s):sq w o upto ⟨s.B,(bv upto s.B s.V s.full s.lV).2.1,(bv upto s.B s.V s.full s.lV).2.2,s.lB,(bv upto s.B s.V s.full s.lV).1⟩:=by
 have key:∃u,(bv upto s.B s.V s.full s.lV).2.1=s.V++u∧(∀v∈u,v∈o.V∧v.Slot≤upto)∧(s.V++u).Nodup∧(∀v∈s.V++u,Go.Mg.forB s.B v)∧(s.V++u).length≤240:=by
  have:=gU (step:=bF upto s.B) (l:=s.lV) (B:=s.V) (f:=s.full) (Q:=fun C _=>∃u,C=s.V++u∧(∀v∈u,v∈o.V∧v.Slot≤upto)∧(s.V++u).Nodup∧(∀v∈s.V++u,Go.Mg.forB s.B v)∧(s.V++u).length≤240)
   (fun C f v hv ⟨u,hu,h1,h2,h4,h3⟩=>by
    subst hu;rcases iL upto s.B (s.V++u) f v with⟨-,e⟩|⟨-,-,e⟩|⟨a1,a2,a3,e⟩|⟨-,-,-,e⟩
    ·rw[e];exact⟨u,rfl,h1,h2,h4,h3⟩
    ·rw[e];exact⟨u,rfl,h1,h2,h4,h3⟩
    ·rw[e];obtain⟨k1,k2,k3⟩:=wv a1 a2;refine⟨u++[v],by simp,fun c hc=>?_,?_,fun c hc=>?_,?_⟩
     ·rcases List.mem_append.1 hc with hc|hc
      ·exact h1 c hc
      ·rw[List.mem_singleton]at hc;subst hc;exact⟨h.subV.subset hv,k3⟩
     ·rw[←List.append_assoc,List.nodup_append];exact⟨h2,by simp,fun a ha b hb=>by rw[List.mem_singleton]at hb;subst hb;exact fun q=>k2 (q▸ha)⟩
     ·rw[←List.append_assoc]at hc;rcases List.mem_append.1 hc with hc|hc
      ·exact h4 c hc
      ·rw[List.mem_singleton]at hc;subst hc;exact k1
     ·rw[←List.append_assoc,List.length_append,List.length_singleton];omega
    ·rw[e];exact⟨u,rfl,h1,h2,h4,h3⟩)
   ⟨[],by simp,by simp,by simpa using h.nodup,by simpa using h.forB,by simpa using h.below.2⟩
  exact this
 obtain⟨u,hu,h1,h2,h4,h3⟩:=key
 have hgone:∀v∈s.lV,v∈(bv upto s.B s.V s.full s.lV).1∨cY s.B (bv upto s.B s.V s.full s.lV).2.1 v=true:=
  nf (step:=bF upto s.B) (G:=fun V v=>cY s.B V v=true) (fun V f v hb=>by
   rcases iL upto s.B V f v with⟨a,e⟩|⟨-,-,e⟩|⟨-,-,-,e⟩|⟨-,-,-,e⟩ <;>rw[e]at hb⊢
   ·exact a
   ·cases hb
   ·exact xf (by simp)
   ·cases hb) (fun V f v c hc=>by
   rcases iL upto s.B V f v with⟨a,e⟩|⟨-,-,e⟩|⟨-,-,-,e⟩|⟨-,-,-,e⟩ <;>rw[e]
   ·exact hc
   ·exact hc
   ·have:=m8 hc [] [v];rwa [List.append_nil]at this
   ·exact hc) s.lV s.V s.full
 obtain⟨t,ht,ht2⟩:=h.preV
 refine⟨h.preB,⟨t++u,by simp only;rw[hu,ht,List.append_assoc],fun b hb=>(List.mem_append.1 hb).elim (ht2 b) (h1 b)⟩,h.valid,by simp only[hu];exact h2,fun v hv=>?_,⟨h.below.1,by simp only[hu];exact h3⟩,
  h.subB,(jU s.lV s.V s.full).trans h.subV,h.allB,fun v hv=>?_⟩
 ·simp only[hu]at hv;exact h4 v hv
 ·rcases h.allV v hv with h5|h5
  ·exact hgone v h5
  ·right;simp only[hu];have:=m8 h5 [] u
   rwa [List.append_nil]at this
theorem xw {w o:Vw}{upto:Int}{s:pW}(h:sq w o upto s):sq w o upto (bK upto s):=AM (AL h)
structure Gn (upto:Int)(s:pW):Prop where
 B:∀b∈s.lB,cP s.B b=false∧(eX s.B upto b=true∨60≤s.B.length∧s.full=true)
 V:∀v∈s.lV,cY s.B s.V v=false∧(fJ s.B upto v=true∨240≤s.V.length∧s.full=true)
theorem xv {upto:Int}{s:pW}(h:b9 (bK upto s)=b9 s):Gn upto (bK upto s):=by
 have hg:=i8 upto s
 have hB:(aN upto s.B s.full s.lB).2.1.length=s.B.length:=by unfold b9 at h;have:(bK upto s).B=(aN upto s.B s.full s.lB).2.1:=rfl;rw[←this];omega
 have h1:∀b∈s.lB,cP s.B b=false→eX s.B upto b=false→60≤s.B.length:=r6 (g:=cP) (w:=fun B b=>eX B upto b) (cap:=60) (f:=s.full) hB;have e1:aN upto s.B s.full s.lB=ni cP (fun B b=>eX B upto b) s.B s.full s.lB:=r7 h1
 have hV:(bv upto s.B s.V (aN upto s.B s.full s.lB).2.2 s.lV).2.1.length=s.V.length:=by
  have:(bK upto s).V=(bv upto (aN upto s.B s.full s.lB).2.1 s.V (aN upto s.B s.full s.lB).2.2 s.lV).2.1:=rfl
  have e2:(aN upto s.B s.full s.lB).2.1=s.B:=by rw[e1];rfl
  rw[e2]at this;rw[←this];unfold b9 at h;omega
 have h2:∀v∈s.lV,cY s.B s.V v=false→fJ s.B upto v=false→240≤s.V.length:=r6 (g:=cY s.B) (w:=fun _ v=>fJ s.B upto v) (cap:=240) (f:=(aN upto s.B s.full s.lB).2.2) hV;unfold bK;rw[e1];unfold ni;simp only;have e2:bv upto s.B s.V (s.full||s.lB.any fun b=> !cP s.B b&& !eX s.B upto b) s.lV=ni (cY s.B) (fun _ v=>fJ s.B upto v) s.V (s.full||s.lB.any fun b=> !cP s.B b&& !eX s.B upto b) s.lV:=r7 h2;rw[e2];unfold ni;refine⟨fun b hb=>?_,fun v hv=>?_⟩
 ·simp only[List.mem_filter,Bool.not_eq_true']at hb;refine⟨hb.2,?_⟩
  cases hw:eX s.B upto b with
  |true=>exact .inl rfl
  |false=>
   right;refine⟨h1 b hb.1 hb.2 hw,?_⟩;simp only[Bool.or_eq_true];exact .inl<|.inr<|List.any_eq_true.2 ⟨b,hb.1,by simp[hb.2,hw]⟩
 ·simp only[List.mem_filter,Bool.not_eq_true']at hv;refine⟨hv.2,?_⟩
  cases hw:fJ s.B upto v with
  |true=>exact .inl rfl
  |false=>
   right;refine⟨h2 v hv.1 hv.2 hw,?_⟩;simp only[Bool.or_eq_true];exact .inr<|List.any_eq_true.2 ⟨v,hv.1,by simp[hv.2,hw]⟩
theorem tm {w o:Vw}{upto:Int}:∀(m:Nat) (s:pW),sq w o upto s→300<m+b9 s→sq w o upto (mC upto m s)∧Gn upto (mC upto m s)
 |0,s,h,hm=>by
  have h1:=h.below.1;have h2:=h.below.2;unfold b9 at hm;omega
 |m+1,s,h,hm=>by
  have hr:=xw h;have hg:=i8 upto s;unfold mC;by_cases hs:b9 (bK upto s)=b9 s
  ·rw[if_pos hs];exact⟨hr,xv hs⟩
  ·rw[if_neg hs];exact tm m (bK upto s) hr (by unfold b9 at *;omega)
theorem Ay {c:Cf}{w o:Vw}{upto:Int}(h:nS c w):sq w o upto ⟨w.B,w.V,false,o.B,o.V⟩:=
 ⟨⟨[],by simp,by simp⟩,⟨[],by simp,by simp⟩,h.valid,h.nodup,h.forB,⟨h.lenB,h.lenV⟩,List.Sublist.refl _,List.Sublist.refl _,fun _ h=>.inl h,fun _ h=>.inl h⟩
theorem DK {c:Cf}{w o:Vw}{upto:Int}(h:nS c w):sq w o upto (j5 upto ⟨w.B,w.V,false,o.B,o.V⟩)∧Gn upto (j5 upto ⟨w.B,w.V,false,o.B,o.V⟩):=
 tm 1000 _ (Ay h) (by omega)
structure Iu (c:Cf)(w inp:Vw)(upto:Int)(r:Vw×Vw×Bool):Prop where
 may:nS c r.1
 preB:∃t,r.1.B=w.B++t∧∀b∈t,b∈(bh c inp).B∧b.Slot≤upto
 preV:∃t,r.1.V=w.V++t∧∀v∈t,v∈(bh c inp).V∧v.Slot≤upto
 subB:r.2.1.B.Sublist (bh c inp).B
 subV:r.2.1.V.Sublist (bh c inp).V
 allB:∀b∈(bh c inp).B,b∈r.2.1.B∨cP r.1.B b=true
 allV:∀v∈(bh c inp).V,v∈r.2.1.V∨cY r.1.B r.1.V v=true
 endB:∀b∈r.2.1.B,cP r.1.B b=false∧(eX r.1.B upto b=true∨60≤r.1.B.length∧r.2.2=true)
 endV:∀v∈r.2.1.V,cY r.1.B r.1.V v=false∧(fJ r.1.B upto v=true∨240≤r.1.V.length∧r.2.2=true)
theorem HF {c:Cf}{w:Vw}(h:nS c w)(inp:Vw)(upto:Int):Iu c w inp upto (aF c w inp upto):=by
 unfold aF;rw[if_pos h];have hmB:∀b∈(bh c inp).B,mayB c b=true:=fun b hb=>(List.mem_filter.1 hb).2;have hmV:∀v∈(bh c inp).V,mayV c v=true:=fun b hb=>(List.mem_filter.1 hb).2;have:=DK (o:=bh c inp) (upto:=upto) h;obtain⟨hi,he⟩:=this;generalize j5 upto ⟨w.B,w.V,false,(bh c inp).B,(bh c inp).V⟩=s at hi he⊢;obtain⟨t,ht,ht2⟩:=hi.preB;obtain⟨u,hu,hu2⟩:=hi.preV;refine⟨⟨h.conf,hi.valid,hi.below.1,hi.below.2,fun b hb=>?_,fun v hv=>?_,hi.nodup,hi.forB⟩,⟨t,ht,ht2⟩,⟨u,hu,hu2⟩,hi.subB,hi.subV,hi.allB,hi.allV,he.B,he.V⟩
 ·simp only[ht]at hb;rcases List.mem_append.1 hb with hb|hb
  ·exact h.mayB b hb
  ·exact hmB b (ht2 b hb).1
 ·simp only[hu]at hv;rcases List.mem_append.1 hv with hv|hv
  ·exact h.mayV v hv
  ·exact hmV v (hu2 v hv).1
open Go.Proofs
open Go.Proofs
theorem lC (c:Cf)(w:Vw):(bh c w).B.length≤w.B.length∧(bh c w).V.length≤w.V.length:=⟨List.length_filter_le _ _,List.length_filter_le _ _⟩
theorem qd {α:Type}{p:α→Bool}{l:List α}{n:Nat}{y:α}(hy:l[n]?=some y):((l.take (n+1)).filter p).length=((l.take n).filter p).length+bif p y then 1 else 0:=by
 rw[ck hy,List.length_append];cases p y <;>rfl
open Go.Proofs
open Go.Proofs
theorem DL {c:Cf}{w inp:Vw}{upto:Int}{r:Vw×Vw×Bool}(h:Iu c w inp upto r):w.B.length≤r.1.B.length∧w.V.length≤r.1.V.length∧r.2.1.B.length≤inp.B.length∧r.2.1.V.length≤inp.V.length:=by
 obtain⟨t,ht,-⟩:=h.preB;obtain⟨u,hu,-⟩:=h.preV;exact⟨by rw[ht];simp,by rw[hu];simp,(h.subB.trans List.filter_sublist).length_le,(h.subV.trans List.filter_sublist).length_le⟩
inductive CB (base o:List Bk)(upto:Int):Bk→Prop
 |base {b:Bk}:b∈base→CB base o upto b
 |root {b:Bk}:b∈o→b.Slot≤upto→b.Parent=(0,0)→0<b.Slot→CB base o upto b
 |step {b p:Bk}:b∈o→b.Slot≤upto→CB base o upto p→nm p=b.Parent→p.Slot<b.Slot→CB base o upto b
theorem CB.mono {base base' o o':List Bk}{upto upto':Int}(h1:∀b∈base,CB base' o' upto' b)(h2:∀b∈o,b∈o')(h3:upto≤upto'){b:Bk}(h:CB base o upto b):CB base' o' upto' b:=by
 induction h with
 |base h=>exact h1 _ h
 |root a1 a2 a3 a4=>exact .root (h2 _ a1) (Int.le_trans a2 h3) a3 a4
 |step a1 a2 _ a4 a5 ih=>exact .step (h2 _ a1) (Int.le_trans a2 h3) ih a4 a5
structure Rm (U:Vw):Prop where
 inj:∀a∈U.B,∀b∈U.B,nm a=nm b→a=b
 B:U.B.length<60
 V:U.V.length<240
theorem Bo {l:List Int}(hl:l.length≤100000)(v:Int):ur l v=some (decide (v∈l)):=by
 have e:=dt (step:=jp l v) (n:=l.length) (fun k=>eI.mk (k:Int)) (fO l v) (fun j hj=>by
  obtain⟨y,hy,-⟩:=ax hj;unfold jp fO;simp only;rw[decide_eq_true (show(j:Int)<(l.length:Int) by omega),ct,aw hy,ob,ah (n:=j) (by omega),hy];by_cases h:v=y
  ·rw[beq_iff_eq.2 h,ct,if_pos (by rw[h])]
  ·rw[beq_eq_false_iff_ne.2 h,cf,if_neg (fun e=>h (Option.some.inj e).symm)]) (by
  unfold jp;simp only
  rw[decide_eq_false (show¬(l.length:Int)<(l.length:Int) by omega),cf]) (by omega)
 unfold ur xQ;rw[←lr];have e':iter (jp l v) bg (eI.mk 0)=some (jS (eI.mk (l.length:Int)) (cB (fO l v) 0 l.length)):=e;rw[e',ob]
 cases h:cB (fO l v) 0 l.length with
 |none=>rw[jS,sl,ob];rfl
 |some r=>rw[jS,sr,ob,decide_eq_true (rG h)];rfl
def s8 (cm:List Int)(v:Vt):Bool:=decide (v.From∈cm)
theorem uq {cm:List Int}(hl:cm.length≤100000)(v:Vt):sC cm v=some (!s8 cm v):=by
 unfold sC;rw[Bo hl,ob];rfl
theorem BO {l:List Vt}{cm:List Int}(hc:cm.length≤100000)(hl:l.length≤100000) :
  ∃i,uy l l.length cm=some i∧((i= -1∧l.filter (s8 cm)=l)∨∃j:Nat,i=j∧j<l.length∧(l.take (j+1)).filter (s8 cm)=l.take j):=by
 unfold uy
 have key:=bf (step:=jr l l.length cm) (fun x=>∃j:Nat,j≤l.length∧x.t8=j∧(l.take j).filter (s8 cm)=l.take j) (fun x=>l.length-x.t8.toNat)
  (fun b=>(∃x,b=.inl x∧l.filter (s8 cm)=l)∨∃j:Nat,b=.inr (j:Int)∧j<l.length∧(l.take (j+1)).filter (s8 cm)=l.take j) (by
   rintro⟨t⟩ ⟨j,hj,h1,h2⟩;simp only at h1 h2;subst h1;by_cases hlt:j<l.length
   ·obtain⟨y,hy,-⟩:=ax hlt;have hsn:=ck (p:=s8 cm) hy
    have hstep:jr l l.length cm ⟨(j:Int)⟩=bif !s8 cm y then some (.inr (.inr (j:Int)))else some (.inl ⟨((j+1:Nat):Int)⟩):=by
     unfold jr;simp only;rw[decide_eq_true (show(j:Int)<(l.length:Int) by omega),ct,List.take_length,aw hy,ob,uq hc,ob,ah (n:=j) (by omega)]
    rw[h2]at hsn
    cases hp:s8 cm y with
    |true=>
     rw[hp,Bool.not_true,cf]at hstep;rw[hp,ct]at hsn;exact .inl ⟨_,hstep,⟨j+1,by omega,rfl,by rw[hsn,gz hy]⟩,by simp only;omega⟩
    |false=>
     rw[hp,Bool.not_false,ct]at hstep;rw[hp,cf,List.append_nil]at hsn;exact .inr ⟨_,hstep,.inr ⟨j,rfl,hlt,hsn⟩⟩
   ·right
    obtain rfl:j=l.length:=by omega
    refine⟨.inl ⟨(l.length:Int)⟩,?_,.inl ⟨_,rfl,?_⟩⟩
    ·unfold jr;simp only;rw[decide_eq_false (show¬(l.length:Int)<(l.length:Int) by omega),cf]
    ·rw[List.take_length]at h2;exact h2) (n:=bg) (x:=⟨0⟩) ⟨0,by omega,rfl,by simp⟩ (bO (by simp only;omega))
 obtain⟨b,e,⟨x,rfl,h1⟩|⟨j,rfl,h0,h1⟩⟩:=key
 ·exact⟨-1,by rw[e,ob,sl],.inl ⟨rfl,h1⟩⟩
 ·exact⟨j,by rw[e,ob,sr],.inr ⟨j,rfl,h0,h1⟩⟩
theorem BF {l:List Vt}{cm:List Int}(hc:cm.length≤100000)(hl:l.length≤100000):∃k' l',uv l l.length cm=some (k',l')∧ss l' k' (l.filter (s8 cm)):=by
 obtain⟨i,e0,h0⟩:=BO hc hl;unfold uv;rw[e0,ob];rcases h0 with⟨rfl,hp⟩|⟨j0,rfl,hj0,hp⟩
 ·rw[hp,show((-1:Int)== -1)=true from rfl,ct];exact⟨_,_,rfl,List.take_length,Nat.le_refl _⟩
 ·rw [show((j0:Int)== -1)=false by rw[beq_eq_false_iff_ne];omega,cf,ah (n:=j0) (by omega)]
  have key:=bf (step:=jq l.length cm) (fun x=>∃(i j:Nat),x.i=i∧x.j=j∧Mv l x.o1 i j ((l.take j).filter (s8 cm))) (fun x=>l.length-x.j.toNat)
   (fun x=>∃i:Nat,x.i=i∧i≤l.length∧x.o1.take i=l.filter (s8 cm)∧l.length≤x.o1.length) (by
   rintro⟨i',j',a⟩ ⟨i,j,h1,h2,h5⟩;simp only at h1 h2 h5;subst h1 h2;have hij:=h5.ij;have hjl:=h5.jl;have hal:=h5.len;by_cases hlt:j<l.length
   ·left;obtain⟨y,hy,-⟩:=ax hlt
    have hya:(a.take l.length)[j]?=some y:=by rw[List.getElem?_take_of_lt hlt,h5.rest j (Nat.le_refl _) (by omega),hy]
    obtain⟨z,hz,-⟩:=ax (l:=a.take l.length) (n:=i) (by rw[List.length_take];omega);have hsn:=ck (p:=s8 cm) hy
    have hstep:jq l.length cm ⟨(i:Int),(j:Int),a⟩=bif s8 cm y then some (.inl ⟨((i+1:Nat):Int),((j+1:Nat):Int),a.set i y⟩)else some (.inl ⟨(i:Int),((j+1:Nat):Int),a⟩):=by
     unfold jq;simp only;rw[decide_eq_true (show(j:Int)<(l.length:Int) by omega),ct,aw hya,ob,uq hc,ob,aw hz,ob,ah (n:=j) (by omega),ah (n:=i) (by omega),Int.toNat_natCast,Bool.not_not]
    cases hp:s8 cm y with
    |false=>
     rw[hp,cf]at hstep;rw[hp,cf,List.append_nil]at hsn;refine⟨_,hstep,⟨i,j+1,rfl,rfl,?_⟩,by simp only;omega⟩;rw[hsn];exact h5.next_gone (by omega)
    |true=>
     rw[hp,ct]at hstep;rw[hp,ct]at hsn;refine⟨_,hstep,⟨i+1,j+1,rfl,rfl,?_⟩,by simp only;omega⟩;rw[hsn];exact h5.next_stay (by omega) hy
   ·right
    have hjk:j=l.length:=by omega
    have htl:l.take j=l:=List.take_of_length_le (by omega);rw[htl]at h5;refine⟨⟨(i:Int),(j:Int),a⟩,?_,i,rfl,by omega,h5.left,by show l.length≤a.length;omega⟩;unfold jq;simp only
    rw[decide_eq_false (show¬(j:Int)<(l.length:Int) by omega),cf]) (n:=bg) (x:=⟨(j0:Int),((j0+1:Nat):Int),l⟩)
   ⟨j0,j0+1,rfl,rfl,by
    rw[hp]
    exact⟨by omega,by omega,Nat.le_refl _,rfl,fun q h1 h2=>rfl⟩⟩ (bO (by simp only;omega))
  obtain⟨x,ex,i,hi,hik,h2,h3⟩:=key;rw[ex,ob,hi,decide_eq_true (show 0≤(i:Int)∧(i:Int)≤(l.length:Int) by omega),ct,Int.toNat_natCast,decide_eq_true (show i+(l.length-i)≤x.o1.length by omega),ct,ct];exact⟨_,_,rfl,tH hik h3 h2⟩
def de (c:Cf)(v:List Vt)(slot:Int):List Vt:=(rQ v slot).filter (s8 (nq c slot))
theorem xm (v:List Vt)(slot:Int):(rQ v slot).length≤v.length:=by
 unfold rQ;rw[(cv _).length_eq];exact Nat.le_trans (List.length_filterMap_le _ _) (mi v).2
theorem ol (c:Cf)(v:List Vt)(slot:Int):(de c v slot).length≤v.length:=Nat.le_trans (List.length_filter_le _ _) (xm v slot)
theorem up {v:List Vt}(hv:v.length≤90000)(c:Cf)(slot:Int):sB c v slot=some (de c v slot):=by
 have hl:=xm v slot;have hc:=pj c slot;obtain⟨k',l',e,hp⟩:=BF (l:=rQ v slot) (cm:=nq c slot) (by omega) (by omega);unfold sB EO;rw[show Nat.ble v.length 90000=true from Nat.ble_eq_true_of_le hv,ct,ob,wJ,ob,List.length_map,e,ob];simp only;rw[show Nat.ble k' l'.length=true from Nat.ble_eq_true_of_le hp.le,ct,hp.take];rfl
theorem kX {w:Vw}(h1:w.B.length≤1000)(h2:w.V.length≤1000)(c:Cf)(slot:Int):jo c w slot=some (fP c w.B (de c w.V slot)):=by
 have hg:=ol c w.V slot;unfold jo;rw[up (by omega),ob,GA h1 (by omega),ob]
def DF (t:Int):Int:=bif ((IntKind.i64.wrap (t-1)).tmod 3) != 2 then IntKind.i64.wrap ((IntKind.i64.wrap ((IntKind.i64.wrap (t-1)).tdiv 3))-1)else IntKind.i64.wrap ((IntKind.i64.wrap (t-1)).tdiv 3)
def oy (c:Cf)(n:Nd):ID:=fP c n.V.B (de c n.V.V (DF n.Tick))
theorem Bi {n:Nd}(h1:n.V.B.length≤1000)(h2:n.V.V.length≤1000)(c:Cf):sA c n=some (oy c n):=by
 unfold sA oy DF
 cases((IntKind.i64.wrap (n.Tick-1)).tmod 3) != 2 with
 |true=>rw[ct,ct,kX h1 h2,ob]
 |false=>rw[cf,cf,kX h1 h2,ob]
theorem pk {α β:Type}[DecidableEq α]:∀{m:List (α×β)},(m.map Prod.fst).Nodup→∀{k:α} {v:β},(k,v)∈m↔ak m k=some v
 |[],_,k,v=>by simp[ak]
 | (a,b)::r,h,k,v=>by
  rw[List.map_cons,List.nodup_cons]at h;have ih:=pk h.2 (k:=k) (v:=v);by_cases e:a=k
  ·subst e;simp only[ak,if_true,List.mem_cons,Prod.mk.injEq,true_and];constructor
   ·rintro(h1|h1)
    ·rw[h1]
    ·exact absurd (List.mem_map.2 ⟨_,h1,rfl⟩) h.1
   ·intro h1;exact .inl (Option.some.inj h1).symm
  ·have e':¬k=a:=fun h=>e h.symm;simp only[ak,if_neg e,List.mem_cons,Prod.mk.injEq,e',false_and,false_or];exact ih
structure qk (l:List Vt):Prop where
 was:∀d id,ak (ch l).1 d=some id→∃v∈l,n3 v=d∧v.Head=id
 has:∀v∈l,∃id,ak (ch l).1 (n3 v)=some id
 bad:∀d,(ak (ch l).2 d).getD false=true↔∃v∈l,∃w∈l,n3 v=d∧n3 w=d∧v.Head≠w.Head
theorem Am {l:List Vt}(h:qk l)(y:Vt):qk (l++[y]):=by
 have e1:(ch (l++[y])).1=bz (ch l).1 (n3 y) y.Head:=by rw[ki];rfl
 have e2:(ch (l++[y])).2=if tI (ch l).1 y=true then bz (ch l).2 (n3 y) true else(ch l).2:=by rw[ki];rfl
 have hy:y∈l++[y]:=List.mem_append_right _ (List.mem_singleton.2 rfl)
 have hdbl:tI (ch l).1 y=true↔∃v∈l,n3 v=n3 y∧ak (ch l).1 (n3 y)=some v.Head∧v.Head≠y.Head:=by
  unfold tI
  cases hf:ak (ch l).1 (n3 y)with
  |none=>
   simp only[Bool.false_eq_true,false_iff];rintro⟨v,-,-,h2,-⟩;cases h2
  |some id=>
   obtain⟨v,h1,h2,h3⟩:=h.was _ _ hf;constructor
   ·intro h4;exact⟨v,h1,h2,by rw[h3],by rw[h3];exact of_decide_eq_true h4⟩
   ·rintro⟨w,-,-,h5,h6⟩;rw[Option.some.inj h5];exact decide_eq_true h6
 refine⟨fun d id hd=>?_,fun v hv=>?_,fun d=>?_⟩
 ·rw[e1,cO]at hd;split at hd
  ·rename_i e;exact⟨y,hy,e,Option.some.inj hd⟩
  ·obtain⟨v,h1,h2⟩:=h.was d id hd;exact⟨v,List.mem_append_left _ h1,h2⟩
 ·rw[e1,cO];split
  ·exact⟨_,rfl⟩
  ·rename_i hne;rcases List.mem_append.1 hv with hv|hv
   ·exact h.has v hv
   ·rw[List.mem_singleton.1 hv]at hne;exact absurd Z hne
 ·rw [e2];constructor
  ·intro hb;by_cases hd:tI (ch l).1 y=true
   ·rw[if_pos hd,cO]at hb;by_cases e:n3 y=d
    ·obtain⟨v,h1,h2,-,h4⟩:=hdbl.1 hd;exact⟨v,List.mem_append_left _ h1,y,hy,h2.trans e,e,h4⟩
    ·rw[if_neg e]at hb;obtain⟨v,h1,w,h2,h3⟩:=(h.bad d).1 hb;exact⟨v,List.mem_append_left _ h1,w,List.mem_append_left _ h2,h3⟩
   ·rw[if_neg hd]at hb;obtain⟨v,h1,w,h2,h3⟩:=(h.bad d).1 hb;exact⟨v,List.mem_append_left _ h1,w,List.mem_append_left _ h2,h3⟩
  ·have old:(ak (ch l).2 d).getD false=true→(ak (if tI (ch l).1 y=true then bz (ch l).2 (n3 y) true else(ch l).2) d).getD false=true:=by
    intro ho;split
    ·rw[cO];split
     ·rfl
     ·exact ho
    ·exact ho
   have mix:∀v∈l,n3 v=d→n3 y=d→v.Head≠y.Head→(ak (if tI (ch l).1 y=true then bz (ch l).2 (n3 y) true else(ch l).2) d).getD false=true:=by
    intro v hv h1 h2 h3;by_cases hd:tI (ch l).1 y=true
    ·rw[if_pos hd,cO,if_pos h2];rfl
    ·refine old<|(h.bad d).2 ?_;obtain⟨id,hid⟩:=h.has v hv;rw[h1,←h2]at hid;obtain⟨u,hu,hu2,hu3⟩:=h.was _ _ hid;have:¬u.Head≠y.Head:=fun hne=>hd (hdbl.2 ⟨u,hu,hu2,by rw[hid,hu3],hne⟩);exact⟨v,hv,u,hu,h1,hu2.trans h2,fun e=>this fun e2=>h3 (e.trans e2)⟩
   rintro⟨v,hv,w,hw,h1,h2,h3⟩;rcases List.mem_append.1 hv with hv|hv
   ·rcases List.mem_append.1 hw with hw|hw
    ·exact old<|(h.bad d).2 ⟨v,hv,w,hw,h1,h2,h3⟩
    ·rw[List.mem_singleton.1 hw]at h2 h3;exact mix v hv h1 h2 h3
   ·rw[List.mem_singleton.1 hv]at h1 h3;rcases List.mem_append.1 hw with hw|hw
    ·exact mix w hw h2 h1 fun e=>h3 e.symm
    ·rw[List.mem_singleton.1 hw]at h3;exact absurd Z h3
theorem CO (l:List Vt):qk l:=by
 have key:∀k,k≤l.length→qk (l.take k):=by
  intro k
  induction k with
  |zero=>exact fun _=>⟨fun d id h=>(by cases h),fun v hv=>(by cases hv),fun d=>⟨fun h=>(by cases h),fun⟨v,hv,_⟩=>(by cases hv)⟩⟩
  |succ k ih=>
   intro hk;obtain⟨y,hy,-⟩:=ax (l:=l) (n:=k) (by omega);rw[aJ hy];exact Am (ih (by omega)) y
 have:=key l.length (Nat.le_refl _)
 rwa [List.take_length]at this
theorem DU {x y:Vt}(h1:n3 x=n3 y)(h2:x.Head=y.Head):x=y:=by
 cases x;cases y;unfold n3 at h1;simp only at h1 h2;cases h1;cases h2;rfl
theorem Dz {V:List Vt}{slot:Int}{x:Vt}:x∈rQ V slot↔x∈V∧x.Slot=slot∧∀y∈V,n3 y=n3 x→y.Head=x.Head:=by
 have hI:=CO V;have hk:=(mi V).1;unfold rQ;rw[(cv _).mem_iff,List.mem_filterMap];constructor
 ·rintro⟨⟨⟨f,s⟩,id⟩,he,h2⟩;unfold fR at h2;split at h2
  ·rename_i hc;obtain⟨hs,hb⟩:=hc;simp only at hs hb h2;subst hs;cases h2;obtain⟨v,h3,h4,h5⟩:=hI.was _ _ ((pk hk).1 he);have e:v=⟨f,s,id⟩:=DU h4 h5;subst e;refine⟨h3,rfl,fun y hy h6=>?_⟩;by_cases h7:y.Head=id
   ·exact h7
   ·have:=(hI.bad ⟨f,s⟩).2 ⟨y,hy,_,h3,h6,h4,h7⟩;rw[this]at hb;cases hb
  ·cases h2
 ·rintro⟨h1,h2,h3⟩;obtain⟨id,hid⟩:=hI.has x h1;obtain⟨v,h4,h5,h6⟩:=hI.was _ _ hid;have e:id=x.Head:=h6.symm.trans (h3 v h4 h5);refine⟨(n3 x,id),(pk hk).2 hid,?_⟩;unfold fR;rw[if_pos]
  ·rw[e,←h2];rfl
  ·refine⟨h2,?_⟩
   cases hb:(ak (ch V).2 (n3 x)).getD false with
   |false=>rfl
   |true=>
    obtain⟨u,hu,w,hw,h7,h8,h9⟩:=(hI.bad _).1 hb;exact absurd ((h3 u hu h7).trans (h3 w hw h8).symm) h9
end Go.Mg
