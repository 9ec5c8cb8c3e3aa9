/- What the references of trees and cursors tell is what the program tells; CursorMoves, TreeTells. Conditions: none. -/
import Derived.Test.YtfbigoipfbiliaaGreatX10
set_option maxRecDepth 100000
set_option linter.all false
namespace Go.Mg
open IntKind (i64 u64)
open Go.Proofs.Tryz (prog)
open List (foldl_cons length_drop length_singleton mem_append mem_filter mem_singleton take_length)
open Go.Proofs
variable {α : Type} {a : Vw} {c : Cf} {f : α -> PV} {id : ID} {l : List Bk} {m : List (ID × Int)} {r_ : Bool} {slot : Int} {x : Nd}
theorem Dh (h:places l=some m){i:Int}(hf:ak m id=some i):ap (l.map nm) id=i:=by
 have:=mF h id;rw[hf]at this;split at this
 ·rename_i e;subst e;rw[p6 h];cases this;rfl
 ·split at this
  ·cases this;rfl
  ·cases this
theorem EA (h:places l=some m)(hf:ak m id=none):ap (l.map nm) id= -1/\id≠(0,0):=by
 have:=mF h id;rw[hf]at this;split at this
 ·cases this
 ·rename_i hne;split at this
  ·cases this
  ·rename_i h2;have:=BY (l.map nm) id;exact⟨by omega,hne⟩
section
variable {l : List Bk} (hk : kZ l) (hl : l.length <= 1000)
include hk hl
omit hk in
theorem HY :C0 (l.map nm) id=some (ap (l.map nm) id):=rK (by simp;omega)
omit hk in
theorem BM (h:places l=some m){names:List ID}(hnames:l.map nm=names){i:Int}(hf:ak m id=some i) :
  ∃b,iter (rG l names) aY ⟨i,id,[id]⟩=some b/\b.out=ck l (i+1).toNat id i:=by
 have h98:∀x,C0 names x=some (ap names x):=fun x=>rK (by rw[<-hnames];simp;omega)
 refine bw (step:=rG l names)
  (fun x=>∃d,ak m d=some x.i/\x.out.length+(x.i+1).toNat<=1001+1/\∃o,x.out=o++[d]/\ck l (i+1).toNat id i=o++ck l (x.i+1).toNat d x.i)
  (fun x=>(x.i+1).toNat) (fun b=>b.out=ck l (i+1).toNat id i) ?_ ⟨id,hf,?_,[],rfl,rfl⟩ (cj ?_)
 ·rintro⟨j,d',out⟩ ⟨d,hd,hlen,o,ho,hc⟩;simp only at hd hlen ho hc⊢;obtain⟨h1,h2⟩|⟨b,p,h0,h1,h2,h3,h4,h5,h6,h7⟩:=(bc h).known _ _ hd
  ·right;refine⟨⟨j,d',out⟩,?_,?_⟩
   ·simp only[rG];rw[aR (by omega)];rfl
   ·rw[hc,ho,h1];rfl
  ·left;refine⟨⟨p,b.Parent,out++[b.Parent]⟩,?_,⟨b.Parent,h4,?_,out,rfl,?_⟩,?_⟩
   ·simp only[rG];rw[aQ (by omega),KW h0 h2];simp only[ct,ob,h98];rw[aC (by simp;omega),<-hnames,Dh h h4];rfl
   ·simp;omega
   ·rw[hc,gB (id:=d) h (by omega) h0 h2 h4 h5 h6,ho];simp
   ·simp only;omega
 ·simp only[length_singleton];rcases nM h hf with⟨rfl,-⟩|⟨b,h0,h1,-⟩ <;>omega
 ·simp only;rcases nM h hf with⟨rfl,-⟩|⟨b,h0,h1,-⟩ <;>omega
theorem Gv (id:ID):MS l id=some (an l id):=by
 simp only[MS,wW hk hl,ob,Bv hl,HY hl];unfold an
 cases h:places l with
 |none=>rfl
 | some m=>
  simp only[Option.isSome_some,Bool.not_true,cf,Al]
  cases hf:ak m id with
  |none=>
   have:=EA h hf;rw[this.1];simp[this.2]
  | some i=>
   rw[Dh h hf];obtain⟨b,hb,hpost⟩:=BM hl h rfl hf
   have hin:(bif decide (i<0)then bif !(decide (id=(0,0)))then(some (.inr []):Option (Unit⊕List ID))else some (.inl ())else some (.inl ()))=some (.inl ()):=by
    rcases nM h hf with⟨rfl,rfl⟩|⟨b,h0,h1,-⟩
    ·rfl
    ·rw[aR (by omega)];rfl
   rw[hin];simp only[ob,sl,hb,hpost]
theorem Ln (low id:ID):Lm l low id=some (decide (ap (an l id) low>=0)):=by
 have:=oL (l:=l) id;simp only[Lm,Gv hk hl,ob,rK (names:=an l id) (id:=low) (by omega)]
theorem Lk (c:Cu)(head found:ID)(is:Bool)(slot:Int):M7 c l head found is slot=some (dL c l head found is slot):=by
 simp only[M7,Ln hk hl,ob,rV];by_cases h:0<=ap (an l head) c.ID
 ·rw [HT h,aQ (show ap (an l head) c.ID>=0 from h)];simp only[Bool.not_true,cf,ob];by_cases hf:0<=ap (an l head) found
  ·rw [aQ (show ap (an l head) found>=0 from hf)];have hle:=Hs (dk.1 hf) (dk.1 h);by_cases e:c.ID=found
   ·rw[aQ e,i0_ (by rintro⟨-,-,h3⟩;rw[e]at h3;omega)];cases is <;>simp
   ·rw[aR e];by_cases hlow:0<=ap (an l found) c.ID
    ·have h1:=hle.1 (dk.1 hlow)
     have h2:ap (an l head) found≠ap (an l head) c.ID:=fun e2=>by
      obtain⟨a,h3,h4⟩:=gC (dk.1 hf);obtain⟨b,h5,h6⟩:=gC (dk.1 h);rw[h4,h6]at e2
      have:a=b:=by omega
      subst this;rw[h3]at h5;cases h5;exact e rfl
     rw[aQ (show ap (an l found) c.ID>=0 from hlow)];cases is
     ·simp
     ·rw[i1_ ⟨rfl,hf,by omega⟩];simp
    ·rw[aR (show¬ap (an l found) c.ID>=0 from hlow),i0_ (by rintro⟨-,-,h3⟩;exact hlow (dk.2 (hle.2 (by omega))))];cases is <;>simp
  ·rw[aR (show¬ap (an l head) found>=0 from hf),i0_ (by rintro⟨-,h2,-⟩;exact hf h2)];cases is <;>cases decide (ap (an l found) c.ID>=0) <;>simp
 ·rw [HS hl (by omega),aR (show¬ap (an l head) c.ID>=0 from h)];simp only[Bool.not_false,ct,ob];by_cases hf:0<=ap (an l head) found
  ·rw[aQ (show ap (an l head) found>=0 from hf)];have hf':=dk.1 hf
   have hne:an l head≠[]:=fun e=>by rw[e]at hf';cases hf'
   have hself:=BN hf';have hz:0<=ap (an l found) (0,0):=dk.2 (pH (fun e=>by rw[e]at hself;cases hself));rw[aQ (show ap (an l found) (0,0)>=0 from hz)]
   have hlast:ap (an l head) (0,0)=(an l head).length-1:=by
    obtain⟨a,h3,h4⟩:=gC (pH hne);have h5:=uq h3
    have h6:(an l (0,0)).length=1:=by
     unfold an
     cases hp:places l with
     |none=>unfold an at hne;rw[hp]at hne;exact absurd rfl hne
     |some m=>simp only[(bc hp).zero];rfl
    have ha:=(List.getElem?_eq_some_iff.1 h3).1;rw[h5,length_drop]at h6;rw[h4];omega
   by_cases e:(0,0)=found
   ·rw[aQ e,i0_ (by rintro⟨-,-,h3⟩;rw[<-e]at h3;omega)];cases is <;>simp
   ·rw[aR e]
    have h2:ap (an l head) found≠ap (an l head) (0,0):=fun e2=>by
     obtain⟨a,h3,h4⟩:=gC hf';obtain⟨b,h5,h6⟩:=gC (pH hne);rw[h4,h6]at e2
     have:a=b:=by omega
     subst this;rw[h3]at h5;cases h5;exact e rfl
    have h3:=uL (l:=an l head) (v:=found);cases is
    ·simp
    ·rw[i1_ ⟨rfl,hf,by omega⟩];simp
  ·rw[aR (show¬ap (an l head) found>=0 from hf),i0_ (by rintro⟨-,h2,-⟩;exact hf h2)];cases is <;>cases decide (ap (an l found) (0,0)>=0) <;>simp
end
theorem sO {a b:Int}(ha:0<=a/\a<=26388279066624)(hb:0<=b/\b<=3000):vT a b=some (0,0,a / 4294967296*b+a % 4294967296*b / 4294967296,a % 4294967296*b % 4294967296):=by
 have hM:decide ((4294967296:Int)≠0)=true:=by decide
 have e1:b.tdiv 4294967296=0:=by rw[Int.tdiv_eq_ediv_of_nonneg (by omega)];omega
 have e2:b.tmod 4294967296=b:=by rw[Int.tmod_eq_emod_of_nonneg (by omega)];omega
 have e3:a.tdiv 4294967296=a / 4294967296:=Int.tdiv_eq_ediv_of_nonneg (by omega);have e4:a.tmod 4294967296=a % 4294967296:=Int.tmod_eq_emod_of_nonneg (by omega)
 have q0:0<=a / 4294967296/\a / 4294967296<=6144:=by omega
 have r0:0<=a % 4294967296/\a % 4294967296<=4294967295:=by omega
 unfold vT;generalize a / 4294967296=q at e3 q0⊢;generalize a % 4294967296=r at e4 r0⊢;have u0:0<=r*b:=Int.mul_nonneg r0.1 hb.1;have u1:r*b<=4294967295*3000:=Int.mul_le_mul r0.2 hb.2 hb.1 (by omega);have v0:0<=q*b:=Int.mul_nonneg q0.1 hb.1;have v1:q*b<=6144*3000:=Int.mul_le_mul q0.2 hb.2 hb.1 (by omega);have f1:i64.wrap q=q:=cR;have f2:u64.wrap q=q:=gR;have f3:u64.wrap r=r:=gR;have f4:u64.wrap b=b:=gR
 have w0:u64.wrap 0=0:=by decide
 have i0:i64.wrap 0=0:=by decide
 simp only[hM,cond_true,e1,e2,e3,e4,f1,f2,f3,f4,w0,i0,Int.mul_zero];generalize r*b=u at u0 u1⊢;generalize q*b=v at v0 v1⊢;have g1:u64.wrap u=u:=gR;have g2:u.tdiv 4294967296=u / 4294967296:=Int.tdiv_eq_ediv_of_nonneg u0;have g3:u.tmod 4294967296=u % 4294967296:=Int.tmod_eq_emod_of_nonneg u0;have g4:u64.wrap v=v:=gR;simp only[g1,g2,g3,g4]
 have k1:0<=u / 4294967296/\u / 4294967296<=3000:=by omega
 have k2:0<=u % 4294967296/\u % 4294967296<=4294967295:=by omega
 generalize u / 4294967296=s at k1⊢;generalize u % 4294967296=t at k2⊢;have j1:u64.wrap s=s:=gR;have j2:i64.wrap s=s:=cR;have j3:i64.wrap t=t:=cR;have j4:u64.wrap (v+s)=v+s:=gR;simp only[j1,j2,j3,j4]
 have l1:(v+s).tmod 4294967296=v+s:=by rw[Int.tmod_eq_emod_of_nonneg (by omega)];omega
 have l2:(v+s).tdiv 4294967296=0:=by rw[Int.tdiv_eq_ediv_of_nonneg (by omega)];omega
 have l3:i64.wrap (v+s)=v+s:=cR
 have l4:(0:Int).tdiv 4294967296=0:=by decide
 have l5:(0:Int).tmod 4294967296=0:=by decide
 simp only[l1,l2,l3,l4,l5,j4,w0,i0,Int.zero_add,Int.add_zero];rfl
theorem qt {n:Int}(h:0<=n/\n<=4611686018427387904):sN n=some true:=by
 unfold sN;rw[aQ (show n>=0 from h.1),ct,aQ h.2]
theorem Gg {a b c d:Int}(ha:0<=a/\a<=26388279066624)(hb:0<=b/\b<=3000)(hc:0<=c/\c<=26388279066624)(hd:0<=d/\d<=3000):yy a b c d=some (decide (a*b>c*d)):=by
  have split:∀x y:Int,x*y=4294967296*(x / 4294967296*y+x % 4294967296*y / 4294967296)+x % 4294967296*y % 4294967296:=by
    intro x y;have h1:=Int.emod_add_mul_ediv (x % 4294967296*y) 4294967296;have h2:=Int.emod_add_mul_ediv x 4294967296
    have h3:x*y=x % 4294967296*y+4294967296*(x / 4294967296*y):=by
      conv=>lhs;rw[<-h2]
      rw[Int.add_mul,Int.mul_assoc]
    generalize x % 4294967296*y=p at h1 h3⊢;generalize x / 4294967296*y=q at h3⊢;omega
  have sa:=split a b;have sc:=split c d
  have ma:0<=a % 4294967296*b % 4294967296/\a % 4294967296*b % 4294967296<4294967296:=by omega
  have mc:0<=c % 4294967296*d % 4294967296/\c % 4294967296*d % 4294967296<4294967296:=by omega
  unfold yy;rw[qt ⟨ha.1,by omega⟩,ob,qt ⟨hb.1,by omega⟩,ob,qt ⟨hc.1,by omega⟩,ob,qt ⟨hd.1,by omega⟩,ob,Bool.not_true,cf,cf,cf,ob,cf,sO ha hb,ob,sO hc hd,ob,sa,sc];generalize a / 4294967296*b+a % 4294967296*b / 4294967296=h1;generalize a % 4294967296*b % 4294967296=l1 at ma⊢;generalize c / 4294967296*d+c % 4294967296*d / 4294967296=h2;generalize c % 4294967296*d % 4294967296=l2 at mc⊢
  obtain⟨r,hr,hp⟩:=bw (step:=qp (0,0,h1,l1) (0,0,h2,l2)) (fun x=>(x.i=0\/x.i=1\/x.i=2\/x.i=3\/x.i=4)/\(3<=x.i->h1=h2)/\(4<=x.i->l1=l2)) (fun x=>(4-x.i).toNat) (fun b=>b=.inr (decide (4294967296*h1+l1>4294967296*h2+l2))\/((∃x,b=.inl x)/\h1=h2/\l1=l2)) (by
    rintro⟨i⟩ ⟨hi,k1,k2⟩;simp only at hi k1 k2;unfold qp;rcases hi with rfl|rfl|rfl|rfl|rfl
    · exact .inl ⟨⟨1⟩,rfl,⟨by simp,by simp,by simp⟩,by simp⟩
    · exact .inl ⟨⟨2⟩,rfl,⟨by simp,by simp,by simp⟩,by simp⟩
    · by_cases e:h1=h2
      · subst e;refine .inl ⟨⟨3⟩,?_,⟨by simp,fun _=>rfl,by simp⟩,by simp⟩;show(bif h1 != h1 then _ else _)=_;rw[show(h1 != h1)=false by simp,cf];rfl
      · refine .inr ⟨.inr (decide (h1>h2)),?_,.inl ?_⟩
        · show(bif h1 != h2 then _ else _)=_;rw[show(h1 != h2)=true by simp[e],ct]
        · congr 1;exact decide_eq_decide.2 (by omega)
    · have e:=k1 (by omega);subst e;by_cases e:l1=l2
      · subst e;refine .inl ⟨⟨4⟩,?_,⟨by simp,fun _=>rfl,fun _=>rfl⟩,by simp⟩;show(bif l1 != l1 then _ else _)=_;rw[show(l1 != l1)=false by simp,cf];rfl
      · refine .inr ⟨.inr (decide (l1>l2)),?_,.inl ?_⟩
        · show(bif l1 != l2 then _ else _)=_;rw[show(l1 != l2)=true by simp[e],ct]
        · congr 1;exact decide_eq_decide.2 (by omega)
    · exact .inr ⟨_,rfl,.inr ⟨⟨_,rfl⟩,k1 (by omega),k2 (by omega)⟩⟩) (n:=aY) (x:=⟨0⟩) ⟨.inl rfl,by simp,by simp⟩ (cj (by simp))
  rw[hr,ob];rcases hp with rfl|⟨⟨x,rfl⟩,rfl,rfl⟩
  · rfl
  · rw[aR (by omega)];rfl
theorem MI (h:¬dV l)(v:List Vt)(id:ID):lY c l v id=0:=by
 have hn:places l=none:=by
  cases hp:places l with
  |none=>rfl
  |some m=>exact absurd (show(places l).isSome=true by rw[hp];rfl) h
 have:na l v id=[]:=by
  unfold na;rw[show(v.filter fun x=>gP l id x.Head)=[]from List.filter_eq_nil_iff.2 fun x _=>by unfold gP an;rw[hn];simp];rfl
 unfold lY;rw[this,MP]
theorem Gj (hW:c.W.length<=1000)(hb:kZ l)(hl:l.length<=1000){v:List Vt}(hv:v.length<=1000)(id:ID):yD c l v id=some (lY c l v id):=by
 unfold yD;rw[wW hb hl,ob,CI hl,ob]
 cases hp:places l with
 |none=>
  rw[MI (by intro h;unfold dV at h;rw[hp]at h;cases h)];rfl
 |some m=>
  rw[Option.isSome_some,Bool.not_true,cf,CO hW hl hp hv,ob]
theorem Gd (hm:cZ c){w:Vw}(hb:kZ w.B)(h1:w.B.length<=1000)(h2:w.V.length<=1000)(slot:Int)(id:ID):yv c w slot id=some (decide (nz c w slot id)):=by
 have hW:c.W.length<=1000:=by have:=hm.2.1;omega
 have hg:=qQ c w.V slot;have hc:=rU c slot;have hwt:=DR c (nG c slot);have hon:0<=lY c w.B (dG c w.V slot) id/\lY c w.B (dG c w.V slot) id<=13194139533312:=DR _ _;obtain⟨-,-,-,-,-,m1,m2,m3,m4⟩:=hm;unfold yv CX;rw[Bt hW,ob,GJ hW (by omega),ob,yt hW (by omega),ob,Gj hW hb h1 (by omega),ob,ob,cR,cR (n:=2*c.Num),cR,Gg ⟨by omega,by omega⟩ ⟨by omega,by omega⟩ ⟨by omega,by omega⟩ ⟨by omega,by omega⟩,ob];rfl
theorem Gb (hm:cZ c){w:Vw}(hb:kZ w.B)(h1:w.B.length<=1000)(h2:w.V.length<=1000)(slot:Int)(head:ID):yr c w slot head=qk c w slot head:=by
 rw[ym hm h1 h2];have hcl:(an w.B head).length<=w.B.length+1:=oL head;unfold yr;rw[Gv hb h1,ob];generalize an w.B head=C at hcl⊢
 obtain⟨r,hr,hp⟩:=bw (step:=qo c w slot C) (fun x=>∃k:Nat,x.i=k/\k<=C.length/\p4 c w slot (C.drop k)=p4 c w slot C) (fun x=>C.length-x.i.toNat) (fun b=>b=.inr (p4 c w slot C)\/((∃x,b=.inl x)/\p4 c w slot C=((0,0),false))) (by
  rintro⟨i⟩ ⟨k,hi,hk,ht⟩;simp only at hi;subst hi;unfold qo;simp only;rw[ah (n:=k)];by_cases hlt:k+1<C.length
  ·obtain⟨y,hy,-⟩:=aA (l:=C) (n:=k);have hat:=DM (c:=c) (w:=w) (slot:=slot) (l:=C.drop k) (y:=y) (by rw[List.getElem?_drop];exact hy) (by rw[length_drop];omega);rw[aQ (show((k+1:Nat):Int)<(C.length:Int) by omega),ct,aw hy,ob,Gd hm hb h1 h2,ob,ob];by_cases hs:nz c w slot y
   ·rw[aQ hs,ct];exact .inr ⟨_,rfl,.inl (by rw[<-ht,hat,i1_ hs])⟩
   ·rw[aR hs,cf];refine .inl ⟨_,rfl,⟨k+1,rfl,by omega,?_⟩,by simp only;omega⟩;rw[<-ht,hat,i0_ hs,List.drop_drop]
  ·rw[aR (show¬((k+1:Nat):Int)<(C.length:Int) by omega),cf]
   exact .inr ⟨_,rfl,.inr ⟨⟨_,rfl⟩,by rw[<-ht,ve (by rw[length_drop];omega)]⟩⟩) (n:=aY) (x:=⟨0⟩) ⟨0,rfl,by omega,rfl⟩ (cj (by simp only;omega))
 rw[hr,ob];rcases hp with rfl|⟨⟨x,rfl⟩,e⟩
 ·rfl
 ·rw[e];rfl
def CW (no:Int):Option Nd:=some (Nd.mk no 3 (Vw.mk [] []) (Vw.mk [] []) [] (Cu.mk (0,0) 0 0) false)
theorem N0 {no:Int}{r_:Nd}(h:CW no=some r_):aq prog 18 [.int .i64 no] [dH r_]:=by
 refine zh Tryz.func18 Z Z Z Z ?_;unfold CW at h;refine qR<|yS Z (ze Z eX Z Z)<|nT<|qR<|zM Z<|yS Z (aa.build Z w9 Z Z Z)<|yS Z (zs Z Z Z Z aP Z Z Z Z)<|nT<|zr ?_;cases h;exact zf (.one (eh Z Z))<|(Conv.agg (.cons zv (.cons zv (.cons Conv.zs (.cons Conv.zs (.cons Conv.zs (.cons Conv.zs (.cons Conv.zs Cn))))))))
def yc (n:Nd):Option Vw:=(tN n.V n.In).bind fun v1=>some v1
theorem NY {n:Nd}{r_:Vw}(h:yc n=some r_):aq prog 16 [dH n] [iW r_]:=by
 refine zh Tryz.func16 Z Z Z Z ?_;unfold yc at h;refine qR<|yS Z (bv Z Z Z Z Z)<|yS Z (ze Z d7 Z Z)<|nT<|qR<|yS Z (zA Z Z bO)<|yS Z (zD Z Z Z aI Z Z)<|yS Z (zA Z Z br)<|yS Z (zD Z Z Z aI Z Z)<|zb h fun v1 a1 h=>yS Z (yP Z Z Z (BH a1) bR)<|yS Z (zs Z Z Z Z aI Z Z Z Z)<|nT<|zr ?_;cases h;exact zf (.one (eh Z Z)) zv
structure ew where
 i:Int
 n_11:Bool
 o3:List Of
def lf (c:Cf)(n:Nd)(o:List Of)(x1:ew):Option (ew⊕ew):=bif decide (x1.i<((n.O++o).length:Int))then (bif (n.Tick.tmod 3)==2 then some true else (ix (n.O++o) x1.i).bind fun y1=>bif y1.Slot != (i64.wrap (n.Tick.tdiv 3))then some true else (ix (n.O++o) x1.i).bind fun y2=>(Zz c (i64.wrap (n.Tick.tdiv 3))).bind fun v3=>some (y2.From != v3)).bind fun v2=>bif v2 then some (.inl (ew.mk (i64.wrap (x1.i+1)) x1.n_11 x1.o3))else bif decide ((x1.o3.length:Int)>=8)then some (.inl (ew.mk (i64.wrap (x1.i+1)) true x1.o3))else (ix (n.O++o) x1.i).bind fun y3=>bif bG x1.o3.length [y3].length 104 then some (.inl (ew.mk (i64.wrap (x1.i+1)) x1.n_11 (x1.o3++[y3])))else none else some (.inr (ew.mk x1.i x1.n_11 x1.o3))
def yf (c:Cf)(n:Nd)(o:List Of):Option Nd:=bif bG 0 n.O.length 104 then bif bG n.O.length o.length 104 then (iter (lf c n o) aY (ew.mk 0 n.Full ([]:List Of))).bind fun v1=>some (Nd.mk n.No n.Tick n.V n.In v1.o3 n.C v1.n_11)else none else none
theorem N2 {n:Nd}{o:List Of}{r_:Nd}(h:yf c n o=some r_):aq prog 48 [gF c,dH n,.slice 9 (o.map da)] [dH r_]:=by
 refine zh Tryz.func48 Z Z Z Z ?_;unfold yf at h;refine qR<|yS Z (bv Z Z Z Z Z)<|yS Z (bv Z Z Z Z Z)<|yS Z (ze Z eX Z Z)<|nT<|qR<|yS Z (zA Z Z co)<|yS Z (zD Z Z Z aV Z Z)<|yS Z (aa.quo Z Z Z (by decide))<|mN Z<|qR<|yS Z (zA Z Z bB)<|yS Z (zD Z Z Z bq Z Z)<|zg h fun q1 h=>yS Z (aa.appendZX da n.O Z Z Z Z iC.p Z bp q1 Z)<|zM Z<|zg h fun q2 h=>yS Z (aa.appendX da n.O o Z Z Z Z iC.p Z bp q2 Z)<|mN Z<|zQ<|LW.ent (bW.frz (t:=8) (env':=[(0,.p (gF c)),(1,.p (dH n)),(2,(kO o)),(3,.ptr 0 0),(4,.ptr 1 0),(6,.ptr 2 0),(7,.p (.int .i64 (i64.wrap (n.Tick.tdiv 3)))),(10,.ptr 1 1),(11,(iQ n.Tick)),(12,.p (.int .i64 (i64.wrap (n.Tick.tdiv 3)))),(13,.ptr 1 6),(14,(kO n.O)),(16,(kO o))]) (H0:=[.box (cd c),.box (oO n),.box nf]) Z Z Z Z Z ⟨Z,Z,Z,Z,Z,Z,Z,Z,Z,Z,Z,Z,Z,t_⟩ Z Z)<|zR<|yS Z (zA Z Z bB)<|yS Z (zs Z Z Z Z bq Z Z Z Z)<|nT<|zQ<|zQ<|LW.ent (bW.lazyCell (i:=1) (j:=6) (m:=9) Z Z Z Z Z Z)<|zR<|mN Z ?_;obtain⟨v1,p1,b1⟩:=zB h;clear h;refine LW.tail (E:=[(4,.ptr 1 0),(6,.ptr 2 0)]) (O:=[.box (cd c),.box [(iQ n.No),(iQ n.Tick),(kB n.V.B),(kV n.V.V),(kB n.In.B),(kV n.In.V),(jO 3 v1.o3),(uQ n.C.ID.1),(uQ n.C.ID.2),(iQ n.C.Slot),(iQ n.C.Revoked),(bQ v1.n_11)],.box nf,.vec 9 (v1.o3.map da)]) ?_<|fun e1 K1 u1=>?_
 ·refine LW.block ?_;refine LW.iterB (E:=fun x1:ew=>[(3,.ptr 0 0),(4,.ptr 1 0),(6,.ptr 2 0),(7,.p (.int .i64 (i64.wrap (n.Tick.tdiv 3)))),(8,.p (.slice 9 ((n.O++o).map da))),(9,(iQ x1.i))]) (O:=fun x1=>[.box (cd c),.box [(iQ n.No),(iQ n.Tick),(kB n.V.B),(kV n.V.V),(kB n.In.B),(kV n.In.V),(jO 3 x1.o3),(uQ n.C.ID.1),(uQ n.C.ID.2),(iQ n.C.Slot),(iQ n.C.Revoked),(bQ x1.n_11)],.box nf,.vec 9 (x1.o3.map da)]) p1 (au 4 ⟨Z,Z,Z,Z,Z,Z,t_⟩)<|fun x1 z1 h m1=>?_;unfold lf at h;refine zQ<|qR<|zM Z<|zM Z<|yS Z (cx Z Z)<|yS Z (am Z Z Z Z)<|nT ?_;refine zX Z (fun g1=>?_)<|fun g1=>?_
  ·refine zi g1 h fun h=>zk<|zT<|zQ<|zl<|zQ ?_;obtain⟨v2,p2,b2⟩:=zB h;clear h;refine LW.cut (E:=[(3,.ptr 0 0),(4,.ptr 1 0),(6,.ptr 2 0),(7,.p (.int .i64 (i64.wrap (n.Tick.tdiv 3)))),(8,.p (.slice 9 ((n.O++o).map da))),(9,(iQ x1.i)),(48,(bQ v2))]) (O:=[.box (cd c),.box [(iQ n.No),(iQ n.Tick),(kB n.V.B),(kV n.V.V),(kB n.In.B),(kV n.In.V),(jO 3 x1.o3),(uQ n.C.ID.1),(uQ n.C.ID.2),(iQ n.C.Slot),(iQ n.C.Revoked),(bQ x1.n_11)],.box nf,.vec 9 (x1.o3.map da)]) ?_ ?_
   ·have h:=p2;refine dy<|yE Z (zA Z Z co)<|yE Z (zD Z Z Z aV Z Z)<|yE Z (aa.rem Z Z Z (by decide))<|yE Z (am Z Z Z Z)<|zH Z ?_;refine LO.cases 29 Z (fun(g2:((n.Tick.tmod 3)==2)=true)=>?_) (fun(g2:((n.Tick.tmod 3)==2)=false)=>?_)
    ·refine zi g2 h fun h=>yK Z (gd g2 Z) Z<|yK Z (gd g2 Z) Z<|yK Z (gd g2 Z) Z<|yK Z (gd g2 Z) Z<|yK Z (gd g2 Z) Z<|yK Z (gd g2 Z) Z<|yK Z (gd g2 Z) Z<|yE Z (bA Z (aK g2 Z) Z)<|zH Z<|bY Z<|bY Z<|bY Z<|bY Z<|bY Z<|bY Z<|bY Z<|bY Z<|bY Z<|yE Z (bA Z Z Z)<|LO.nil<|zT ?_;cases h;exact au 4 ⟨Z,Z,Z,Z,Z,Z,Z,t_⟩
    ·refine zo g2 h fun h=>yL Z (gd g2 Z) (zm Z Z)<|yL Z (gd g2 Z) (zm Z Z)<|zb h fun y1 j1 h=>yL Z (gd g2 Z) (zx Z Z Z bp j1 Z)<|yL Z (gd g2 Z) (aa.fieldAddrC Z Z lN Z)<|yL Z (gd g2 Z) (bS Z Z Z aV Z Z)<|yL Z (gd g2 Z) (zm Z Z)<|yL Z (gd g2 Z) (am Z Z Z Z)<|yE Z (aU Z (aK g2 Z) Z)<|zH Z ?_;refine LO.cases 38 Z (fun(g3:(y1.Slot != (i64.wrap (n.Tick.tdiv 3)))=true)=>?_) (fun(g3:(y1.Slot != (i64.wrap (n.Tick.tdiv 3)))=false)=>?_)
     ·refine zi g3 h fun h=>yK Z (gd g3 Z) Z<|yK Z (gd g3 Z) Z<|yK Z (gd g3 Z) Z<|yK Z (gd g3 Z) Z<|yK Z (gd g3 Z) Z<|yK Z (gd g3 Z) Z<|yK Z (gd g3 Z) Z<|yK Z (gd g3 Z) Z<|yK Z (gd g3 Z) Z<|yE Z (bA Z (aK g3 Z) Z)<|LO.nil<|zT ?_;cases h;exact au 4 ⟨Z,Z,Z,Z,Z,Z,Z,t_⟩
     ·refine zo g3 h fun h=>yL Z (gd g3 Z) (zm Z Z)<|yL Z (gd g3 Z) (zm Z Z)<|zb h fun y2 j2 h=>yL Z (gd g3 Z) (zx Z Z Z bp j2 Z)<|yL Z (gd g3 Z) (aa.fieldAddrC Z Z lO Z)<|yL Z (gd g3 Z) (bS Z Z Z aV Z Z)<|yL Z (gd g3 Z) (zD Z Z Z bd Z Z)<|yL Z (gd g3 Z) (zm Z Z)<|zb h fun v3 a3 h=>yL Z (gd g3 Z) (yP Z Z Z (P5 a3) bR)<|yL Z (gd g3 Z) (am Z Z Z Z)<|yE Z (aU Z (aK g3 Z) Z)<|LO.nil<|zT ?_;cases h;exact au 4 ⟨Z,Z,Z,Z,Z,Z,Z,t_⟩
   ·have h:=b2;clear p2;refine zX Z (fun g4=>?_)<|fun g4=>?_
    ·refine zi g4 h fun h=>zq<|aj<|zy<|zT<|zR<|zM Z<|yS Z (am Z Z Z Z)<|mN Z ?_;cases h;exact⟨_,rfl,au 4 ⟨Z,Z,Z,Z,Z,Z,t_⟩⟩
    ·refine zo g4 h fun h=>zk<|zT<|zQ<|qR<|yS Z (zA Z Z bB)<|yS Z (zD Z Z Z bq Z Z)<|yS Z (aa.lenVM Z Z Z (by kernel_rfl))<|yS Z (am Z Z Z Z)<|nT ?_;refine zX Z (fun g5=>?_)<|fun g5=>?_
     ·refine zi g5 h fun h=>qR<|yS Z (zA Z Z eK)<|yS Z (zs Z Z Z Z vo Z Z Z Z)<|nT<|zq<|aj<|zy<|zT<|zR<|zM Z<|yS Z (am Z Z Z Z)<|mN Z ?_;cases h;exact⟨_,rfl,au 4 ⟨Z,Z,Z,Z,Z,Z,t_⟩⟩
     ·refine zo g5 h fun h=>zk<|zT<|fC<|yG Z (fun H _=>zA Z Z bB)<|yF Z (zd Z Z Z bq Z Z) Z<|zK Z<|zK Z<|zb h fun y3 j3 h=>yG Z (fun H _=>zx Z Z Z bp j3 Z)<|yG Z (fun H _=>bS Z Z Z er Z Z)<|yG Z (fun H _=>gU Z bp Z Z Z Z Z)<|zg h fun q3 h=>yF Z (ch.appendX da x1.o3 [y3] rfl Z Z Z Z bp q3) Z<|yG Z (fun H _=>zA Z Z bB)<|yF Z (zt Z Z Z Z bq Z Z Z) Z ?_;refine LF.nil ⟨by kernel_rfl,?_⟩;refine ae<|zT<|zR<|zM Z<|yS Z (am Z Z Z Z)<|mN Z ?_;cases h;exact⟨_,rfl,au 4 ⟨Z,Z,Z,Z,Z,Z,t_⟩⟩
  ·refine zo g1 h fun h=>zq<|aj<|aj<|zy<|zT ?_;cases h;obtain rfl:=(m1 _ rfl);exact au 4 ⟨Z,Z,t_⟩
 ·have h:=b1;clear p1;refine zT<|LW.weak u1<|qR<|yS Z (zD Z Z Z aP Z Z)<|yS Z (zs Z Z Z Z aP Z Z Z Z)<|nT<|zr ?_;cases h;exact zf (.one (eh Z Z))<|(Conv.agg (.cons zv (.cons zv (.cons zv (.cons zv (.cons zv (.cons zv (.cons (Conv.vecAll Z Z Z) Cn))))))))
def sM (c:Cf)(n:Nd)(v_in:Vw)(slot:Int):Option (Nd×Vw):=(yu c n.V v_in slot).bind fun v1=>bif n.Full then some (Nd.mk n.No n.Tick v1.1 n.In n.O n.C true,v1.2.1)else some (Nd.mk n.No n.Tick v1.1 n.In n.O n.C v1.2.2,v1.2.1)
theorem C7 {n:Nd}{v_in:Vw}{r_:Nd×Vw}(h:sM c n v_in slot=some r_):aq prog 94 [gF c,dH n,iW v_in,.int .i64 slot] [dH r_.1,iW r_.2]:=by
 refine zh Tryz.func94 Z Z Z Z ?_;unfold sM at h;refine qR<|yS Z (bv Z Z Z Z Z)<|yS Z (bv Z Z Z Z Z)<|yS Z (bv Z Z Z Z Z)<|yS Z (ze Z eX Z Z)<|yS Z (ze Z d7 Z Z)<|nT<|qR<|yS Z (zD Z Z Z bd Z Z)<|yS Z (zA Z Z bO)<|yS Z (zD Z Z Z aI Z Z)<|yS Z (zD Z Z Z aI Z Z)<|zM Z<|zb h fun v1 a1 h=>yS Z (yP Z Z Z (Ob a1) wL)<|zM Z<|yS Z (eZ Z Z Z)<|yS Z (eZ Z Z Z)<|yS Z (eZ Z Z Z)<|yS Z (ze Z d7 Z Z)<|yS Z (ze Z d7 Z Z)<|yS Z (zs Z Z Z Z aI Z Z Z Z)<|yS Z (zs Z Z Z Z aI Z Z Z Z)<|mN Z<|qR<|yS Z (zD Z Z Z aI Z Z)<|yS Z (zA Z Z bO)<|yS Z (zs Z Z Z Z aI Z Z Z Z)<|nT<|qR<|yS Z (zA Z Z eK)<|yS Z (zD Z Z Z vo Z Z)<|zM Z ?_;refine zc 27 Z (fun g1=>?_)<|fun g1=>?_
 ·refine zi g1 h fun h=>yU Z (gd g1 Z) Z<|yS Z (bA Z (aK g1 Z) Z)<|yS Z (zA Z Z eK)<|yS Z (zs Z Z Z Z vo Z Z Z Z)<|nT<|zQ<|fC<|yF Z (zd Z Z Z aP Z Z) Z<|yF Z (zd Z Z Z aI Z Z) Z<|yF Z (zt Z Z Z Z aP Z Z Z) Z<|yF Z (zt Z Z Z Z aI Z Z Z) Z ?_;refine LF.nil ⟨by kernel_rfl,?_⟩;refine zT<|zr ?_;cases h;exact zf (.two (eh Z Z) (eh Z Z))<|⟨_,rfl,bR⟩
 ·refine zo g1 h fun h=>yV Z (gd g1 Z) (zm Z Z)<|yS Z (aU Z (aK g1 Z) Z)<|yS Z (zA Z Z eK)<|yS Z (zs Z Z Z Z vo Z Z Z Z)<|nT<|zQ<|fC<|yF Z (zd Z Z Z aP Z Z) Z<|yF Z (zd Z Z Z aI Z Z) Z<|yF Z (zt Z Z Z Z aP Z Z Z) Z<|yF Z (zt Z Z Z Z aI Z Z Z) Z ?_;refine LF.nil ⟨by kernel_rfl,?_⟩;refine zT<|zr ?_;cases h;exact zf (.two (eh Z Z) (eh Z Z))<|⟨_,rfl,bR⟩
def yg (c:Cf)(n:Nd)(slot:Int):Option (Nd×(List Of)):=(Zz c slot).bind fun v1=>bif n.No != v1 then some (n,[])else (sM c n n.In slot).bind fun v2=>(tS c v2.1.V (i64.wrap (slot-1))).bind fun v3=>(sM c (Nd.mk v2.1.No v2.1.Tick v2.1.V v2.2 v2.1.O v2.1.C v2.1.Full) (Vw.mk [Bk.mk slot n.No v3 0] []) slot).bind fun v4=>some (v4.1,[Of.mk slot n.No (Bk.mk slot n.No v3 0) v2.1.V])
theorem N3 {n:Nd}{r_:Nd×(List Of)}(h:yg c n slot=some r_):aq prog 49 [gF c,dH n,.int .i64 slot] [dH r_.1,.slice 9 (r_.2.map da)]:=by
 refine zh Tryz.func49 Z Z Z Z ?_;unfold yg at h;refine qR<|yS Z (bv Z Z Z Z Z)<|yS Z (bv Z Z Z Z Z)<|yS Z (ze Z eX Z Z)<|mN Z<|zQ<|zQ<|dy<|yE Z (zA Z Z dE)<|yE Z (zD Z Z Z aV Z Z)<|yE Z (zD Z Z Z bd Z Z)<|zH Z<|zb h fun v1 a1 h=>yE Z (yP Z Z Z (P5 a1) bR)<|yE Z (am Z Z Z Z)<|LO.nil<|zT ?_;refine zX Z (fun g1=>?_)<|fun g1=>?_
 ·refine zi g1 h fun h=>qR<|yS Z (zD Z Z Z aP Z Z)<|yS Z (zs Z Z Z Z aP Z Z Z Z)<|mN Z<|zr<|af ?_;cases h;exact zf (.two (eh Z Z) (.tmp Z))<|⟨_,rfl,(.cons zv (.cons Conv.zs .nil))⟩
 ·refine zo g1 h fun h=>zk<|zT<|qR<|yS Z (zD Z Z Z bd Z Z)<|yS Z (zD Z Z Z aP Z Z)<|yS Z (zA Z Z br)<|yS Z (zD Z Z Z aI Z Z)<|zM Z<|zb h fun v2 a2 h=>yS Z (yP Z Z Z (C7 a2) wL)<|zM Z<|yS Z (eZ Z Z Z)<|yS Z (eZ Z Z Z)<|yS Z (ze Z eX Z Z)<|yS Z (ze Z d7 Z Z)<|yS Z (zs Z Z Z Z aP Z Z Z Z)<|yS Z (zs Z Z Z Z aI Z Z Z Z)<|nT<|qR<|yS Z (zD Z Z Z aI Z Z)<|yS Z (zA Z Z br)<|yS Z (zs Z Z Z Z aI Z Z Z Z)<|nT<|zQ<|LW.ent (bW.slot Z)<|fC<|zK Z<|yG Z (fun H _=>zA Z Z dE)<|yF Z (zd Z Z Z aV Z Z) Z<|yF Z (zd Z Z Z bd Z Z) Z<|yG Z (fun H _=>zA Z Z bO)<|yF Z (zd Z Z Z aI Z Z) Z<|zK Z<|yG Z (fun H _=>am Z Z Z Z)<|zb h fun v3 a3 h=>?_;refine yF (F:=[]) (s:=none) Z (fun H _=>yP Z Z Z (Hg a3) oU) Z ?_;refine yG Z (fun H _=>aa.build Z LY Z Z Z)<|yF Z (ch.alloc Z vt (id:=5) Z) Z<|yF Z (zt Z Z Z Z ca Z Z Z) Z ?_;refine LF.nil ⟨by kernel_rfl,?_⟩;refine zT<|qR<|zM Z<|yS Z (zA Z Z dE)<|yS Z (zD Z Z Z aV Z Z)<|yS Z (zD Z Z Z ca Z Z)<|yS Z (zA Z Z bO)<|yS Z (zD Z Z Z aI Z Z)<|yS Z (aa.build Z xa Z Z Z)<|yS Z (ze Z p7 Z Z)<|yS Z (zs Z Z Z Z er Z Z Z Z)<|nT<|qR<|yS Z (zD Z Z Z bd Z Z)<|yS Z (zD Z Z Z aP Z Z)<|yS Z (zD Z Z Z ca Z Z)<|yS Z (gU Z cp Z Z Z Z Z)<|yS Z (aa.build Z nF Z Z Z)<|zM Z<|zb h fun v4 a4 h=>yS Z (zC Z Z Z (by kernel_rfl) (zp (C7 a4) (.cons zv (.cons zv (.cons (Conv.agg (.cons zv (.cons Conv.zs .nil))) dB)))))<|zM Z<|yS Z (eZ Z Z Z)<|yS Z (eZ Z Z Z)<|yS Z (ze Z eX Z Z)<|yS Z (ze Z d7 Z Z)<|yS Z (zs Z Z Z Z aP Z Z Z Z)<|yS Z (zs Z Z Z Z aI Z Z Z Z)<|nT<|zQ<|fC<|yF Z (zd Z Z Z aP Z Z) Z<|yF Z (zd Z Z Z er Z Z) Z<|yG Z (fun H _=>gU Z bp Z Z Z Z Z)<|yF Z (zt Z Z Z Z aP Z Z Z) Z<|zK Z ?_;refine LF.nil ⟨by kernel_rfl,?_⟩;refine zT<|zr ?_;cases h;exact zf (.two (eh Z Z) (.tmp Z))<|⟨_,rfl,bR⟩
structure fP where
 i:Int
 n:Nd
def lg (c:Cf)(slot:Int)(x1:fP):Option (fP⊕fP):=bif decide (x1.i<(x1.n.O.length:Int))then (ix x1.n.O x1.i).bind fun y1=>(ix x1.n.O x1.i).bind fun y2=>(tN y1.V (Vw.mk [y2.B] [])).bind fun v2=>(sM c x1.n v2 slot).bind fun v3=>(tN v3.1.In v3.2).bind fun v4=>some (.inl (fP.mk (i64.wrap (x1.i+1)) (Nd.mk v3.1.No v3.1.Tick v3.1.V v4 v3.1.O v3.1.C v3.1.Full)))else some (.inr (fP.mk x1.i x1.n))
def yh (c:Cf)(n:Nd)(slot:Int):Option Nd:=(iter (lg c slot) aY (fP.mk 0 n)).bind fun v1=>(MU c slot v1.n.No).bind fun v5=>bif v5 then (tS c v1.n.V (i64.wrap (slot-1))).bind fun v6=>(tN v1.n.In (Vw.mk [] [Vt.mk v1.n.No slot v6])).bind fun v7=>some (Nd.mk v1.n.No v1.n.Tick v1.n.V v7 [] v1.n.C v1.n.Full)else some (Nd.mk v1.n.No v1.n.Tick v1.n.V v1.n.In [] v1.n.C v1.n.Full)
theorem N4 {n:Nd}{r_:Nd}(h:yh c n slot=some r_):aq prog 50 [gF c,dH n,.int .i64 slot] [dH r_]:=by
 refine zh Tryz.func50 Z Z Z Z ?_;unfold yh at h;refine qR<|yS Z (bv Z Z Z Z Z)<|yS Z (bv Z Z Z Z Z)<|yS Z (ze Z eX Z Z)<|nT<|zQ<|qR<|mN Z ?_;obtain⟨v1,p1,q1⟩:=zB h;clear h;refine LW.tail (E:=[(2,(iQ slot)),(3,.ptr 0 0),(4,.ptr 1 0),(6,.ptr 2 0)]) (O:=[.box (cd c),.box (oO v1.n),.box nf]) ?_<|fun e1 K1 u1=>?_
 ·refine LW.block ?_;refine LW.iterB (E:=fun x1:fP=>[(2,(iQ slot)),(3,.ptr 0 0),(4,.ptr 1 0),(6,.ptr 2 0),(7,(iQ x1.i))]) (O:=fun x1=>[.box (cd c),.box (oO x1.n),.box nf]) p1 (au 3 ⟨Z,Z,Z,Z,Z,t_⟩)<|fun x1 z1 h m1=>?_;unfold lg at h;refine zQ<|qR<|zM Z<|yS Z (zA Z Z bB)<|yS Z (zD Z Z Z bq Z Z)<|yS Z (cx Z Z)<|yS Z (am Z Z Z Z)<|nT ?_;refine zX Z (fun g1=>?_)<|fun g1=>?_
  ·refine zi g1 h fun h=>zk<|zT<|zQ<|zl<|zQ<|LW.ent (bW.slot Z)<|LW.ent (bW.slot Z)<|fC<|yF Z (zd Z Z Z bd Z Z) Z<|yF Z (zd Z Z Z aP Z Z) Z<|yG Z (fun H _=>zA Z Z bB)<|yF Z (zd Z Z Z bq Z Z) Z<|zK Z<|zb h fun y1 j1 h=>yG Z (fun H _=>zx Z Z Z bp j1 Z)<|yG Z (fun H _=>aa.fieldAddrC Z Z fZ Z)<|yG Z (fun H _=>bS Z Z Z aI Z Z)<|yG Z (fun H _=>zA Z Z bB)<|yF Z (zd Z Z Z bq Z Z) Z<|zK Z<|zb h fun y2 j2 h=>yG Z (fun H _=>zx Z Z Z bp j2 Z)<|yG Z (fun H _=>aa.fieldAddrC Z Z lP Z)<|yG Z (fun H _=>bS Z Z Z ca Z Z)<|yG Z (fun H _=>gU Z cp Z Z Z Z Z)<|yG Z (fun H _=>aa.build Z nF Z Z Z)<|zb h fun v2 a2 h=>?_;refine yF (F:=[]) (s:=none) Z (fun H _=>zC Z Z Z (by kernel_rfl) (zp (BH a2) (.cons zv (.cons (Conv.agg (.cons zv (.cons Conv.zs .nil))) .nil)))) Z ?_;refine zK Z<|zb h fun v3 a3 h=>?_;refine yF (F:=[]) (s:=none) Z (fun H _=>yP Z Z Z (C7 a3) wL) Z ?_;refine zK Z<|yG Z (fun H _=>eZ Z Z Z)<|yG Z (fun H _=>eZ Z Z Z)<|yF Z (ch.alloc Z eX (id:=3) Z) Z<|yF Z (ch.alloc Z d7 (id:=4) Z) Z<|yF Z (zt Z Z Z Z aP Z Z Z) Z<|yF Z (zt Z Z Z Z aI Z Z Z) Z ?_;refine LF.nil ⟨by kernel_rfl,?_⟩;refine zT<|qR<|yS Z (zA Z Z br)<|yS Z (zD Z Z Z aI Z Z)<|yS Z (zD Z Z Z aI Z Z)<|zb h fun v4 a4 h=>yS Z (yP Z Z Z (BH a4) bR)<|yS Z (zA Z Z br)<|yS Z (zs Z Z Z Z aI Z Z Z Z)<|nT<|zR<|yS Z (zD Z Z Z aP Z Z)<|yS Z (zs Z Z Z Z aP Z Z Z Z)<|zN<|ae<|zT<|zR<|zM Z<|yS Z (am Z Z Z Z)<|mN Z ?_;cases h;exact⟨_,rfl,au 3 ⟨Z,Z,Z,Z,Z,t_⟩⟩
  ·refine zo g1 h fun h=>zq<|aj<|aj<|zy<|zT ?_;cases h;obtain rfl:=(m1 _ rfl);exact au 3 ⟨Z,Z,Z,Z,t_⟩
 ·have h:=q1;clear p1;refine zT<|LW.weak u1<|qR<|yS Z (zA Z Z bB)<|yS Z (zs Z Z Z Z bq Z Z Z Z)<|nT<|qR<|yS Z (zD Z Z Z bd Z Z)<|zM Z<|yS Z (zA Z Z dE)<|yS Z (zD Z Z Z aV Z Z)<|zb h fun v5 a5 h=>yS Z (yP Z Z Z (Rb a5) oU)<|mN Z<|zQ<|qR<|mN Z ?_;refine zX Z (fun g2=>?_)<|fun g2=>?_
  ·refine zi g2 h fun h=>zQ<|LW.ent (bW.slot Z)<|fC<|yG Z (fun H _=>zA Z Z dE)<|yF Z (zd Z Z Z aV Z Z) Z<|zK Z<|yF Z (zd Z Z Z bd Z Z) Z<|yG Z (fun H _=>zA Z Z bO)<|yF Z (zd Z Z Z aI Z Z) Z<|zK Z<|yG Z (fun H _=>am Z Z Z Z)<|zb h fun v6 a6 h=>?_;refine yF (F:=[]) (s:=none) Z (fun H _=>yP Z Z Z (Hg a6) oU) Z ?_;refine yG Z (fun H _=>aa.build Z LZ Z Z Z)<|yF Z (ch.alloc Z vu (id:=3) Z) Z<|yF Z (zt Z Z Z Z cz Z Z Z) Z ?_;refine LF.nil ⟨by kernel_rfl,?_⟩;refine zT<|zR<|yS Z (zA Z Z br)<|yS Z (zD Z Z Z aI Z Z)<|yS Z (zD Z Z Z cz Z Z)<|yS Z (gU Z bz Z Z Z Z Z)<|yS Z (aa.build Z nF Z Z Z)<|zb h fun v7 a7 h=>yS Z (zC Z Z Z (by kernel_rfl) (zp (BH a7) (.cons zv (.cons (Conv.agg (.cons Conv.zs dB)) .nil))))<|yS Z (zA Z Z br)<|yS Z (zs Z Z Z Z aI Z Z Z Z)<|nT<|qR<|yS Z (zD Z Z Z aP Z Z)<|yS Z (zs Z Z Z Z aP Z Z Z Z)<|nT<|zr ?_;cases h;exact zf (.one (eh Z Z))<|(Conv.agg (.cons zv (.cons zv (.cons zv (.cons zv (.cons zv (.cons zv (.cons Conv.zs Cn))))))))
  ·refine zo g2 h fun h=>zk<|zT<|qR<|yS Z (zD Z Z Z aP Z Z)<|yS Z (zs Z Z Z Z aP Z Z Z Z)<|nT<|zr ?_;cases h;exact zf (.one (eh Z Z))<|(Conv.agg (.cons zv (.cons zv (.cons zv (.cons zv (.cons zv (.cons zv (.cons Conv.zs Cn))))))))
def yi (c:Cf)(n:Nd)(slot:Int):Option Nd:=(sM c n n.In slot).bind fun v1=>(tS c v1.1.V slot).bind fun v2=>(yr c v1.1.V slot v2).bind fun v3=>(M7 v1.1.C v1.1.V.B v2 v3.1 v3.2 slot).bind fun v4=>some (Nd.mk v1.1.No v1.1.Tick v1.1.V v1.2 [] v4 v1.1.Full)
theorem N5 {n:Nd}{r_:Nd}(h:yi c n slot=some r_):aq prog 51 [gF c,dH n,.int .i64 slot] [dH r_]:=by
 refine zh Tryz.func51 Z Z Z Z ?_;unfold yi at h;refine qR<|yS Z (bv Z Z Z Z Z)<|yS Z (bv Z Z Z Z Z)<|yS Z (ze Z eX Z Z)<|nT<|qR<|yS Z (zD Z Z Z bd Z Z)<|yS Z (zD Z Z Z aP Z Z)<|yS Z (zA Z Z br)<|yS Z (zD Z Z Z aI Z Z)<|zM Z<|zb h fun v1 a1 h=>yS Z (yP Z Z Z (C7 a1) wL)<|zM Z<|yS Z (eZ Z Z Z)<|yS Z (eZ Z Z Z)<|yS Z (ze Z eX Z Z)<|yS Z (ze Z d7 Z Z)<|yS Z (zs Z Z Z Z aP Z Z Z Z)<|yS Z (zs Z Z Z Z aI Z Z Z Z)<|nT<|qR<|yS Z (zD Z Z Z aI Z Z)<|yS Z (zA Z Z br)<|yS Z (zs Z Z Z Z aI Z Z Z Z)<|nT<|qR<|yS Z (zD Z Z Z bd Z Z)<|yS Z (zA Z Z bO)<|yS Z (zD Z Z Z aI Z Z)<|zM Z<|zb h fun v2 a2 h=>yS Z (yP Z Z Z (Hg a2) oU)<|yS Z (ze Z gT Z Z)<|yS Z (zs Z Z Z Z aG Z Z Z Z)<|nT<|qR<|yS Z (zD Z Z Z bd Z Z)<|yS Z (zA Z Z bO)<|yS Z (zD Z Z Z aI Z Z)<|zM Z<|yS Z (zD Z Z Z aG Z Z)<|zb h fun v3 a3 h=>yS Z (yP Z Z Z (Oa a3) wL)<|zM Z<|yS Z (eZ Z Z Z)<|yS Z (eZ Z Z Z)<|yS Z (ze Z gT Z Z)<|yS Z (zs Z Z Z Z aG Z Z Z Z)<|mN Z<|qR<|yS Z (zA Z Z gM)<|yS Z (zD Z Z Z gy Z Z)<|yS Z (zA Z Z bO)<|yS Z (zA Z Z aL)<|yS Z (zD Z Z Z bL Z Z)<|yS Z (zD Z Z Z aG Z Z)<|yS Z (zD Z Z Z aG Z Z)<|zM Z<|zM Z<|zb h fun v4 a4 h=>yS Z (yP Z Z Z (Rp a4) (.cons zv Cn))<|yS Z (zA Z Z gM)<|yS Z (zs Z Z Z Z gy Z Z Z Z)<|nT<|qR<|yS Z (zA Z Z bB)<|yS Z (zs Z Z Z Z bq Z Z Z Z)<|nT<|qR<|yS Z (zD Z Z Z aP Z Z)<|yS Z (zs Z Z Z Z aP Z Z Z Z)<|nT<|zr ?_;cases h;exact zf (.one (eh Z Z))<|(Conv.agg (.cons zv (.cons zv (.cons zv (.cons zv (.cons zv (.cons zv (.cons Conv.zs Cn))))))))
def x9 (c:Cf)(n:Nd)(v_in:Vw)(o:List Of):Option (Nd×(List Of)):=(GG c).bind fun v1=>(bif !v1 then some true else bif decide (n.Tick<3)then some true else some (decide ((i64.wrap (n.Tick.tdiv 3))>1048576))).bind fun v2=>bif v2 then some (n,[])else (vM c v_in).bind fun v3=>(tN n.In v3).bind fun v4=>(yf c (Nd.mk n.No n.Tick n.V v4 n.O n.C n.Full) o).bind fun v5=>(bif (v5.Tick.tmod 3)==0 then (yg c v5 (i64.wrap (n.Tick.tdiv 3))).bind fun v7=>some (v7.2,v7.1)else bif (v5.Tick.tmod 3)==1 then (yh c v5 (i64.wrap (n.Tick.tdiv 3))).bind fun v8=>some ([],v8)else (yi c v5 (i64.wrap (n.Tick.tdiv 3))).bind fun v9=>some ([],v9)).bind fun v6=>some (Nd.mk v6.2.No (i64.wrap (v6.2.Tick+1)) v6.2.V v6.2.In v6.2.O v6.2.C v6.2.Full,v6.1)
theorem NV {n:Nd}{v_in:Vw}{o:List Of}{r_:Nd×(List Of)}(h:x9 c n v_in o=some r_):aq prog 11 [gF c,dH n,iW v_in,.slice 9 (o.map da)] [dH r_.1,.slice 9 (r_.2.map da)]:=by
 refine zh Tryz.func11 Z Z Z Z ?_;unfold x9 at h;refine qR<|yS Z (bv Z Z Z Z Z)<|yS Z (bv Z Z Z Z Z)<|yS Z (bv Z Z Z Z Z)<|yS Z (ze Z eX Z Z)<|mN Z<|qR<|yS Z (zD Z Z Z bd Z Z)<|zb h fun v1 a1 h=>yS Z (yP Z Z Z (L6 a1) dB)<|mN Z<|qR<|yS Z (zA Z Z co)<|yS Z (zD Z Z Z aV Z Z)<|yS Z (aa.quo Z Z Z (by decide))<|mN Z<|zQ ?_;obtain⟨v2,p2,q2⟩:=zB h;clear h;refine LW.cut (E:=[(3,(kO o)),(4,.ptr 0 0),(5,.ptr 1 0),(6,.ptr 2 0),(8,.ptr 3 0),(9,.zs),(11,.p (.int .i64 (i64.wrap (n.Tick.tdiv 3)))),(28,(bQ v2))]) (O:=[.box (cd c),.box (oO n),.box (cE v_in),.box nf]) ?_ ?_
 ·have h:=p2;refine zR<|zM Z<|yS Z (aa.not Z Z)<|zM Z ?_;refine zc 20 Z (fun g1=>?_)<|fun g1=>?_
  ·refine zi g1 h fun h=>yU Z (gd g1 Z) Z<|yU Z (gd g1 Z) Z<|yU Z (gd g1 Z) Z<|yS Z (bA Z (aK g1 Z) Z)<|zM Z<|aB Z<|aB Z<|yS Z (bA Z Z Z)<|nT ?_;cases h;exact au 4 ⟨Z,Z,Z,Z,Z,Z,Z,Z,t_⟩
  ·refine zo g1 h fun h=>yV Z (gd g1 Z) (zA Z Z co)<|yV Z (gd g1 Z) (zD Z Z Z aV Z Z)<|yV Z (gd g1 Z) (am Z Z Z Z)<|yS Z (aU Z (aK g1 Z) Z)<|zM Z ?_;refine zc 25 Z (fun g2=>?_)<|fun g2=>?_
   ·refine zi g2 h fun h=>yU Z (gd g2 Z) Z<|yU Z (gd g2 Z) Z<|yS Z (bA Z (aK g2 Z) Z)<|nT ?_;cases h;exact au 4 ⟨Z,Z,Z,Z,Z,Z,Z,Z,t_⟩
   ·refine zo g2 h fun h=>yV Z (gd g2 Z) (zm Z Z)<|yV Z (gd g2 Z) (am Z Z Z Z)<|yS Z (aU Z (aK g2 Z) Z)<|nT ?_;cases h;exact au 4 ⟨Z,Z,Z,Z,Z,Z,Z,Z,t_⟩
 ·have h:=q2;clear p2;refine zX Z (fun g3=>?_)<|fun g3=>?_
  ·refine zi g3 h fun h=>qR<|yS Z (zD Z Z Z aP Z Z)<|yS Z (zs Z Z Z Z aP Z Z Z Z)<|mN Z<|zr<|af ?_;cases h;exact zf (.two (eh Z Z) (.tmp Z))<|⟨_,rfl,(.cons zv (.cons Conv.zs .nil))⟩
  ·refine zo g3 h fun h=>zk<|zT<|qR<|mN Z<|zQ<|LW.drawLast (m:=7) (by kernel_rfl) (by kernel_rfl) (by kernel_rfl)<|yE Z (zA Z Z br)<|yE Z (zD Z Z Z aI Z Z)<|yE Z (zD Z Z Z bd Z Z)<|yE Z (zD Z Z Z aI Z Z)<|zb h fun v3 a3 h=>yE Z (yP Z Z Z (Ky a3) bR)<|zb h fun v4 a4 h=>yE Z (yP Z Z Z (BH a4) bR)<|yE Z (zA Z Z br)<|LO.nil<|yS Z (zs Z Z Z Z aI Z Z Z Z)<|nT<|qR<|yS Z (zD Z Z Z bd Z Z)<|yS Z (zD Z Z Z aP Z Z)<|zM Z<|zb h fun v5 a5 h=>yS Z (yP Z Z Z (N2 a5) oU)<|yS Z (zs Z Z Z Z aP Z Z Z Z)<|nT<|LW.ent (bW.zsP (t:=12) (m:=9) Z) ?_;obtain⟨v6,p6,q6⟩:=zB h;clear h;refine LW.cut (E:=[(5,.ptr 1 0),(8,.ptr 3 0),(9,.zs),(12,(kO v6.1))]) (O:=[.box (cd c),.box (oO v6.2),.box (cE v_in),.box nf]) ?_ ?_
   ·have h:=p6;refine qR<|yS Z (zA Z Z co)<|yS Z (zD Z Z Z aV Z Z)<|yS Z (aa.rem Z Z Z (by decide))<|nT<|zl<|qR<|yS Z (am Z Z Z Z)<|mN Z ?_;refine zX Z (fun g4=>?_)<|fun g4=>?_
    ·refine zi g4 h fun h=>zR<|yS Z (zD Z Z Z bd Z Z)<|yS Z (zD Z Z Z aP Z Z)<|zM Z<|zb h fun v7 a7 h=>yS Z (yP Z Z Z (N3 a7) oU)<|zM Z<|yS Z (eZ Z Z Z)<|yS Z (eZ Z Z Z)<|yS Z (zs Z Z Z Z aP Z Z Z Z)<|zM Z<|zN<|ae<|zT ?_;cases h;exact au 4 ⟨Z,Z,Z,Z,t_⟩
    ·refine zo g4 h fun h=>qR<|yS Z (am Z Z Z Z)<|mN Z ?_;refine zX Z (fun g5=>?_)<|fun g5=>?_
     ·refine zi g5 h fun h=>zR<|yS Z (zD Z Z Z bd Z Z)<|yS Z (zD Z Z Z aP Z Z)<|zM Z<|zb h fun v8 a8 h=>yS Z (yP Z Z Z (N4 a8) oU)<|yS Z (zs Z Z Z Z aP Z Z Z Z)<|zN<|ae<|zT ?_;cases h;exact au 4 ⟨Z,Z,Z,Z,t_⟩
     ·refine zo g5 h fun h=>zR<|yS Z (zD Z Z Z bd Z Z)<|yS Z (zD Z Z Z aP Z Z)<|zM Z<|zb h fun v9 a9 h=>yS Z (yP Z Z Z (N5 a9) oU)<|yS Z (zs Z Z Z Z aP Z Z Z Z)<|zN<|ae<|zT ?_;cases h;exact au 4 ⟨Z,Z,Z,Z,t_⟩
   ·have h:=q6;clear p6;refine qR<|yS Z (zA Z Z co)<|yS Z (zD Z Z Z aV Z Z)<|yS Z (am Z Z Z Z)<|yS Z (zA Z Z co)<|yS Z (zs Z Z Z Z aV Z Z Z Z)<|nT<|qR<|yS Z (zD Z Z Z aP Z Z)<|zM Z<|yS Z (zs Z Z Z Z aP Z Z Z Z)<|mN Z<|zr ?_;cases h;exact zf (.two (eh Z Z) (.tmp Z))<|⟨_,rfl,bR⟩
structure jz where
 t13:Int
def yn (s1:List Bk)(s2:List Bk)(x1:jz):Option (jz⊕(jz⊕Bool)):=bif decide (x1.t13<(s1.length:Int))then (ix s1 x1.t13).bind fun y1=>(ix s2 x1.t13).bind fun y2=>bif !((y1.Slot==y2.Slot)&&((y1.From==y2.From)&&((y1.Parent.1==y2.Parent.1)&&((y1.Parent.2==y2.Parent.2)&&((y1.Salt==y2.Salt)&&true)))))then some (.inr (.inr false))else some (.inl (jz.mk (i64.wrap (x1.t13+1))))else some (.inr (.inl (jz.mk x1.t13)))
def F9 (s1:List Bk)(s2:List Bk):Option Bool:=bif (s1.length:Int) != (s2.length:Int)then some false else (iter (yn s1 s2) aY (jz.mk 0)).bind fun b_v1=>Sum.elim (fun _=>some true) some b_v1
theorem N8 {s1:List Bk}{s2:List Bk}(h:F9 s1 s2=some r_):aq prog 102 [.slice 5 (s1.map ay),.slice 5 (s2.map ay)] [.bool r_]:=by
 refine zh Tryz.func102 Z Z Z Z ?_;unfold F9 at h;refine qR<|mN Z<|zQ<|qR<|zM Z<|yS Z (cx Z Z)<|zM Z<|yS Z (cx Z Z)<|yS Z (am Z Z Z Z)<|nT ?_;refine zX Z (fun g1=>?_)<|fun g1=>?_
 ·refine zi g1 h fun h=>qR<|mN Z<|LW.ret<|af ?_;cases h;exact ba Z
 ·refine zo g1 h fun h=>zk<|zT<|zQ<|qR<|zM Z<|yS Z (cx Z Z)<|mN Z ?_;obtain⟨w1,p1,q1⟩:=zB h;clear h;refine LW.tailB (b:=w1) (E:=fun v1=>[(4,(bQ false))]) (O:=fun v1=>[]) ?_<|fun v1 f1 e1 K1 u1=>?_
  ·refine LW.block ?_;refine LW.iterB (E:=fun x1:jz=>[(0,(kB s1)),(1,(kB s2)),(4,(bQ false)),(12,.p (.int .i64 (s1.length:Int))),(13,(iQ x1.t13))]) (O:=fun x1=>[]) p1 (au 0 ⟨Z,Z,Z,Z,Z,t_⟩)<|fun x1 z1 h m1=>?_;unfold yn at h;refine qR<|yS Z (am Z Z Z Z)<|nT<|zQ ?_;refine zX Z (fun g2=>?_)<|fun g2=>?_
   ·refine zi g2 h fun h=>zk<|zT<|zQ<|zl<|qR<|zM Z<|mN Z<|zQ<|dy<|zH Z<|zH Z<|zb h fun y1 j1 h=>yE Z (zx Z Z Z cp j1 Z)<|yE Z (bS Z Z Z ca Z Z)<|zH Z<|zH Z<|zb h fun y2 j2 h=>yE Z (zx Z Z Z cp j2 Z)<|yE Z (bS Z Z Z ca Z Z)<|yE Z (aa.neqAgg Z Z Z Z Z uw)<|LO.nil<|zT ?_;refine zX Z (fun g3=>?_)<|fun g3=>?_
    ·refine zi g3 h fun h=>qR<|mN Z<|LW.ret<|ao<|af<|af<|ao<|af<|af ?_;cases h;obtain rfl:=(m1 _ rfl);have h:=bT q1;cases h;exact ba Z
    ·refine zo g3 h fun h=>zk<|ae<|zT<|zR<|yS Z (am Z Z Z Z)<|mN Z ?_;cases h;exact⟨_,rfl,au 0 ⟨Z,Z,Z,Z,Z,t_⟩⟩
   ·refine zo g2 h fun h=>zq<|aj<|aj<|zy<|zT ?_;cases h;obtain rfl:=(m1 _ rfl);exact⟨_,rfl,au 0 ⟨Z,t_⟩⟩
  ·obtain rfl:=f1;have h:=cU q1;clear p1;refine zT<|LW.weak u1<|qR<|mN Z<|zr ?_;cases h;exact ba Z
structure jA where
 t13:Int
def yo (s1:List Vt)(s2:List Vt)(x1:jA):Option (jA⊕(jA⊕Bool)):=bif decide (x1.t13<(s1.length:Int))then (ix s1 x1.t13).bind fun y1=>(ix s2 x1.t13).bind fun y2=>bif !((y1.From==y2.From)&&((y1.Slot==y2.Slot)&&((y1.Head.1==y2.Head.1)&&((y1.Head.2==y2.Head.2)&&true))))then some (.inr (.inr false))else some (.inl (jA.mk (i64.wrap (x1.t13+1))))else some (.inr (.inl (jA.mk x1.t13)))
def Ga (s1:List Vt)(s2:List Vt):Option Bool:=bif (s1.length:Int) != (s2.length:Int)then some false else (iter (yo s1 s2) aY (jA.mk 0)).bind fun b_v1=>Sum.elim (fun _=>some true) some b_v1
theorem N9 {s1:List Vt}{s2:List Vt}(h:Ga s1 s2=some r_):aq prog 103 [.slice 4 (s1.map aO),.slice 4 (s2.map aO)] [.bool r_]:=by
 refine zh Tryz.func103 Z Z Z Z ?_;unfold Ga at h;refine qR<|mN Z<|zQ<|qR<|zM Z<|yS Z (cx Z Z)<|zM Z<|yS Z (cx Z Z)<|yS Z (am Z Z Z Z)<|nT ?_;refine zX Z (fun g1=>?_)<|fun g1=>?_
 ·refine zi g1 h fun h=>qR<|mN Z<|LW.ret<|af ?_;cases h;exact ba Z
 ·refine zo g1 h fun h=>zk<|zT<|zQ<|qR<|zM Z<|yS Z (cx Z Z)<|mN Z ?_;obtain⟨w1,p1,q1⟩:=zB h;clear h;refine LW.tailB (b:=w1) (E:=fun v1=>[(4,(bQ false))]) (O:=fun v1=>[]) ?_<|fun v1 f1 e1 K1 u1=>?_
  ·refine LW.block ?_;refine LW.iterB (E:=fun x1:jA=>[(0,(kV s1)),(1,(kV s2)),(4,(bQ false)),(12,.p (.int .i64 (s1.length:Int))),(13,(iQ x1.t13))]) (O:=fun x1=>[]) p1 (au 0 ⟨Z,Z,Z,Z,Z,t_⟩)<|fun x1 z1 h m1=>?_;unfold yo at h;refine qR<|yS Z (am Z Z Z Z)<|nT<|zQ ?_;refine zX Z (fun g2=>?_)<|fun g2=>?_
   ·refine zi g2 h fun h=>zk<|zT<|zQ<|zl<|qR<|zM Z<|mN Z<|zQ<|dy<|zH Z<|zH Z<|zb h fun y1 j1 h=>yE Z (zx Z Z Z bz j1 Z)<|yE Z (bS Z Z Z cz Z Z)<|zH Z<|zH Z<|zb h fun y2 j2 h=>yE Z (zx Z Z Z bz j2 Z)<|yE Z (bS Z Z Z cz Z Z)<|yE Z (aa.neqAgg Z Z Z Z Z Am)<|LO.nil<|zT ?_;refine zX Z (fun g3=>?_)<|fun g3=>?_
    ·refine zi g3 h fun h=>qR<|mN Z<|LW.ret<|ao<|af<|af<|ao<|af<|af ?_;cases h;obtain rfl:=(m1 _ rfl);have h:=bT q1;cases h;exact ba Z
    ·refine zo g3 h fun h=>zk<|ae<|zT<|zR<|yS Z (am Z Z Z Z)<|mN Z ?_;cases h;exact⟨_,rfl,au 0 ⟨Z,Z,Z,Z,Z,t_⟩⟩
   ·refine zo g2 h fun h=>zq<|aj<|aj<|zy<|zT ?_;cases h;obtain rfl:=(m1 _ rfl);exact⟨_,rfl,au 0 ⟨Z,t_⟩⟩
  ·obtain rfl:=f1;have h:=cU q1;clear p1;refine zT<|LW.weak u1<|qR<|mN Z<|zr ?_;cases h;exact ba Z
def yd (a:Vw)(b:Vw):Option Bool:=(F9 a.B b.B).bind fun v1=>bif v1 then (Ga a.V b.V).bind fun v2=>some v2 else some false
theorem Hf {b:Vw}(h:yd a b=some r_):aq prog 59 [iW a,iW b] [.bool r_]:=by
 refine zh Tryz.func59 Z Z Z Z ?_;unfold yd at h;refine qR<|yS Z (bv Z Z Z Z Z)<|yS Z (bv Z Z Z Z Z)<|mN Z<|qR<|yS Z (zA Z Z aL)<|yS Z (zD Z Z Z bL Z Z)<|yS Z (zA Z Z aL)<|yS Z (zD Z Z Z bL Z Z)<|zb h fun v1 a1 h=>yS Z (yP Z Z Z (N8 a1) bR)<|zM Z ?_;refine zc 10 Z (fun g1=>?_)<|fun g1=>?_
 ·refine zi g1 h fun h=>yV Z (gd g1 Z) (zA Z Z aS)<|yV Z (gd g1 Z) (zD Z Z Z cq Z Z)<|yV Z (gd g1 Z) (zA Z Z aS)<|yV Z (gd g1 Z) (zD Z Z Z cq Z Z)<|zb h fun v2 a2 h=>yV Z (gd g1 Z) (yP Z Z Z (N9 a2) bR)<|yS Z (bA Z (aK g1 Z) Z)<|mN Z<|zr ?_;cases h;exact ba Z
 ·refine zo g1 h fun h=>yU Z (gd g1 Z) Z<|yU Z (gd g1 Z) Z<|yU Z (gd g1 Z) Z<|yU Z (gd g1 Z) Z<|yU Z (gd g1 Z) Z<|yS Z (aU Z (aK g1 Z) Z)<|mN Z<|zr ?_;cases h;exact ba Z
def F4 (x:Of)(y:Of):Option Bool:=bif x.Slot==y.Slot then bif x.From==y.From then bif ((x.B.Slot==y.B.Slot)&&((x.B.From==y.B.From)&&((x.B.Parent.1==y.B.Parent.1)&&((x.B.Parent.2==y.B.Parent.2)&&((x.B.Salt==y.B.Salt)&&true)))))then (yd x.V y.V).bind fun v1=>some v1 else some false else some false else some false
theorem N1 {x:Of}{y:Of}(h:F4 x y=some r_):aq prog 58 [da x,da y] [.bool r_]:=by
 refine zh Tryz.func58 Z Z Z Z ?_;unfold F4 at h;refine qR<|yS Z (bv Z Z Z Z Z)<|yS Z (bv Z Z Z Z Z)<|mN Z<|qR<|yS Z (zA Z Z lN)<|yS Z (zD Z Z Z aV Z Z)<|yS Z (zA Z Z lN)<|yS Z (zD Z Z Z aV Z Z)<|yS Z (am Z Z Z Z)<|zM Z ?_;refine zc 10 Z (fun g1=>?_)<|fun g1=>?_
 ·refine zi g1 h fun h=>yV Z (gd g1 Z) (zA Z Z lO)<|yV Z (gd g1 Z) (zD Z Z Z aV Z Z)<|yV Z (gd g1 Z) (zA Z Z lO)<|yV Z (gd g1 Z) (zD Z Z Z aV Z Z)<|yV Z (gd g1 Z) (am Z Z Z Z)<|yS Z (bA Z (aK g1 Z) Z)<|zM Z ?_;refine zc 17 Z (fun g2=>?_)<|fun g2=>?_
  ·refine zi g2 h fun h=>yV Z (gd g2 Z) (zA Z Z lP)<|yV Z (gd g2 Z) (zD Z Z Z ca Z Z)<|yV Z (gd g2 Z) (zA Z Z lP)<|yV Z (gd g2 Z) (zD Z Z Z ca Z Z)<|yV Z (gd g2 Z) (aa.eqlAgg Z Z Z Z Z uw)<|yS Z (bA Z (aK g2 Z) Z)<|zM Z ?_;refine zc 24 Z (fun g3=>?_)<|fun g3=>?_
   ·refine zi g3 h fun h=>yV Z (gd g3 Z) (zA Z Z fZ)<|yV Z (gd g3 Z) (zD Z Z Z aI Z Z)<|yV Z (gd g3 Z) (zA Z Z fZ)<|yV Z (gd g3 Z) (zD Z Z Z aI Z Z)<|zb h fun v1 a1 h=>yV Z (gd g3 Z) (yP Z Z Z (Hf a1) bR)<|yS Z (bA Z (aK g3 Z) Z)<|mN Z<|zr ?_;cases h;exact ba Z
   ·refine zo g3 h fun h=>yU Z (gd g3 Z) Z<|yU Z (gd g3 Z) Z<|yU Z (gd g3 Z) Z<|yU Z (gd g3 Z) Z<|yU Z (gd g3 Z) Z<|yS Z (aU Z (aK g3 Z) Z)<|mN Z<|zr ?_;cases h;exact ba Z
  ·refine zo g2 h fun h=>yU Z (gd g2 Z) Z<|yU Z (gd g2 Z) Z<|yU Z (gd g2 Z) Z<|yU Z (gd g2 Z) Z<|yU Z (gd g2 Z) Z<|yS Z (aU Z (aK g2 Z) Z)<|zM Z<|aB Z<|aB Z<|aB Z<|aB Z<|aB Z<|yS Z (aU Z Z Z)<|mN Z<|zr ?_;cases h;exact ba Z
 ·refine zo g1 h fun h=>yU Z (gd g1 Z) Z<|yU Z (gd g1 Z) Z<|yU Z (gd g1 Z) Z<|yU Z (gd g1 Z) Z<|yU Z (gd g1 Z) Z<|yS Z (aU Z (aK g1 Z) Z)<|zM Z<|aB Z<|aB Z<|aB Z<|aB Z<|aB Z<|yS Z (aU Z Z Z)<|zM Z<|aB Z<|aB Z<|aB Z<|aB Z<|aB Z<|yS Z (aU Z Z Z)<|mN Z<|zr ?_;cases h;exact ba Z
structure mu where
 t17:Int
def C3 (s1:List Of)(s2:List Of)(x1:mu):Option (mu⊕(mu⊕Bool)):=bif decide (x1.t17<(s1.length:Int))then (ix s1 x1.t17).bind fun y1=>(ix s2 x1.t17).bind fun y2=>(F4 y1 y2).bind fun v2=>bif !v2 then some (.inr (.inr false))else some (.inl (mu.mk (i64.wrap (x1.t17+1))))else some (.inr (.inl (mu.mk x1.t17)))
def LA (s1:List Of)(s2:List Of):Option Bool:=bif (s1.length:Int) != (s2.length:Int)then some false else (iter (C3 s1 s2) aY (mu.mk 0)).bind fun b_v1=>Sum.elim (fun _=>some true) some b_v1
theorem OU {s1:List Of}{s2:List Of}(h:LA s1 s2=some r_):LC prog 57 [(kO s1),(kO s2),.fn 58 [] []] [] (Is (bQ r_) []):=by
 refine eP Tryz.func57 Z Z Z ?_;unfold LA at h;refine qR<|mN Z<|zQ<|qR<|zM Z<|yS Z (cx Z Z)<|zM Z<|yS Z (cx Z Z)<|yS Z (am Z Z Z Z)<|nT ?_;refine zX Z (fun g1=>?_)<|fun g1=>?_
 ·refine zi g1 h fun h=>qR<|mN Z<|LW.ret<|af ?_;cases h;exact aD (.one (.tmp Z))<|⟨rfl,rfl⟩
 ·refine zo g1 h fun h=>zk<|zT<|zQ<|qR<|zM Z<|yS Z (cx Z Z)<|mN Z ?_;obtain⟨w1,b1,q1⟩:=zB h;clear h;refine LW.tailB (b:=w1) (E:=fun v1=>[(6,(bQ false))]) (O:=fun v1=>[]) ?_<|fun v1 f1 e1 K1 u1=>?_
  ·refine LW.block ?_;refine LW.iterB (E:=fun x1:mu=>[(1,(kO s2)),(2,.fn 58 [] []),(6,(bQ false)),(15,(kO s1)),(16,.p (.int .i64 (s1.length:Int))),(17,(iQ x1.t17))]) (O:=fun x1=>[]) b1 (au 0 ⟨Z,Z,Z,Z,Z,Z,t_⟩)<|fun x1 z1 h m1=>?_;unfold C3 at h;refine qR<|yS Z (am Z Z Z Z)<|nT<|zQ ?_;refine zX Z (fun g2=>?_)<|fun g2=>?_
   ·refine zi g2 h fun h=>zk<|zT<|zQ<|zl<|qR<|zM Z<|zb h fun y1 j1 h=>yS Z (zx Z Z Z bp j1 Z)<|yS Z (bS Z Z Z er Z Z)<|yS Z (ze Z p7 Z Z)<|zM Z<|yS Z (zs Z Z Z Z er Z Z Z Z)<|nT<|qR<|zM Z<|zM Z<|zb h fun y2 j2 h=>yS Z (zx Z Z Z bp j2 Z)<|yS Z (bS Z Z Z er Z Z)<|yS Z (ze Z p7 Z Z)<|yS Z (zs Z Z Z Z er Z Z Z Z)<|nT<|qR<|zM Z<|yS Z (zD Z Z Z er Z Z)<|yS Z (zD Z Z Z er Z Z)<|zb h fun v2 a2 h=>yS Z (yP Z Z Z (N1 a2) bR)<|yS Z (aa.not Z Z)<|nT ?_;refine zX Z (fun g3=>?_)<|fun g3=>?_
    ·refine zi g3 h fun h=>qR<|mN Z<|LW.ret<|ao<|af<|af<|ao<|af<|af ?_;cases h;obtain rfl:=(m1 _ rfl);have h:=bT q1;cases h;exact bN (env':=[(6,(bQ false))]) (H':=[]) (au 0 ⟨Z,t_⟩) (.one (.tmp Z))<|⟨rfl,rfl⟩
    ·refine zo g3 h fun h=>zk<|ae<|zT<|zR<|yS Z (am Z Z Z Z)<|mN Z ?_;cases h;exact⟨_,rfl,au 0 ⟨Z,Z,Z,Z,Z,Z,t_⟩⟩
   ·refine zo g2 h fun h=>zq<|aj<|aj<|zy<|zT ?_;cases h;obtain rfl:=(m1 _ rfl);exact⟨_,rfl,au 0 ⟨Z,t_⟩⟩
  ·obtain rfl:=f1;have h:=cU q1;clear b1;refine zT<|LW.weak u1<|qR<|mN Z<|zr ?_;cases h;exact aD (.one (.tmp Z))<|⟨rfl,rfl⟩
def CU (a:Nd)(b:Nd):Option Bool:=(LA a.O b.O).bind fun v1=>bif v1 then (yd a.V b.V).bind fun v2=>bif v2 then (yd a.In b.In).bind fun v3=>bif v3 then bif a.No==b.No then bif a.Tick==b.Tick then bif ((a.C.ID.1==b.C.ID.1)&&((a.C.ID.2==b.C.ID.2)&&((a.C.Slot==b.C.Slot)&&((a.C.Revoked==b.C.Revoked)&&true))))then some (a.Full==b.Full)else some false else some false else some false else some false else some false else some false
theorem Kx {a:Nd}{b:Nd}(h:CU a b=some r_):aq prog 21 [dH a,dH b] [.bool r_]:=by
 refine zh Tryz.func21 Z Z Z Z ?_;unfold CU at h;refine qR<|yS Z (bv Z Z Z Z Z)<|yS Z (bv Z Z Z Z Z)<|mN Z<|qR<|yS Z (zA Z Z bB)<|yS Z (zD Z Z Z bq Z Z)<|yS Z (zA Z Z bB)<|yS Z (zD Z Z Z bq Z Z)<|zb h fun v1 a1 h=>yS Z (yC Z Z Z (LC.pre (OU a1) Z Z Z))<|mN Z<|qR<|zM Z<|zM Z ?_;refine zc 12 Z (fun g1=>?_)<|fun g1=>?_
 ·refine zi g1 h fun h=>yV Z (gd g1 Z) (zA Z Z bO)<|yV Z (gd g1 Z) (zD Z Z Z aI Z Z)<|yV Z (gd g1 Z) (zA Z Z bO)<|yV Z (gd g1 Z) (zD Z Z Z aI Z Z)<|zb h fun v2 a2 h=>yV Z (gd g1 Z) (yP Z Z Z (Hf a2) bR)<|yS Z (bA Z (aK g1 Z) Z)<|zM Z ?_;refine zc 19 Z (fun g2=>?_)<|fun g2=>?_
  ·refine zi g2 h fun h=>yV Z (gd g2 Z) (zA Z Z br)<|yV Z (gd g2 Z) (zD Z Z Z aI Z Z)<|yV Z (gd g2 Z) (zA Z Z br)<|yV Z (gd g2 Z) (zD Z Z Z aI Z Z)<|zb h fun v3 a3 h=>yV Z (gd g2 Z) (yP Z Z Z (Hf a3) bR)<|yS Z (bA Z (aK g2 Z) Z)<|zM Z ?_;refine zc 26 Z (fun g3=>?_)<|fun g3=>?_
   ·refine zi g3 h fun h=>yV Z (gd g3 Z) (zA Z Z dE)<|yV Z (gd g3 Z) (zD Z Z Z aV Z Z)<|yV Z (gd g3 Z) (zA Z Z dE)<|yV Z (gd g3 Z) (zD Z Z Z aV Z Z)<|yV Z (gd g3 Z) (am Z Z Z Z)<|yS Z (bA Z (aK g3 Z) Z)<|zM Z ?_;refine zc 33 Z (fun g4=>?_)<|fun g4=>?_
    ·refine zi g4 h fun h=>yV Z (gd g4 Z) (zA Z Z co)<|yV Z (gd g4 Z) (zD Z Z Z aV Z Z)<|yV Z (gd g4 Z) (zA Z Z co)<|yV Z (gd g4 Z) (zD Z Z Z aV Z Z)<|yV Z (gd g4 Z) (am Z Z Z Z)<|yS Z (bA Z (aK g4 Z) Z)<|zM Z ?_;refine zc 40 Z (fun g5=>?_)<|fun g5=>?_
     ·refine zi g5 h fun h=>yV Z (gd g5 Z) (zA Z Z gM)<|yV Z (gd g5 Z) (zD Z Z Z gy Z Z)<|yV Z (gd g5 Z) (zA Z Z gM)<|yV Z (gd g5 Z) (zD Z Z Z gy Z Z)<|yV Z (gd g5 Z) (aa.eqlAgg Z Z Z Z Z KS)<|yS Z (bA Z (aK g5 Z) Z)<|zM Z ?_;refine zc 47 Z (fun g6=>?_)<|fun g6=>?_
      ·refine zi g6 h fun h=>yV Z (gd g6 Z) (zA Z Z eK)<|yV Z (gd g6 Z) (zD Z Z Z vo Z Z)<|yV Z (gd g6 Z) (zA Z Z eK)<|yV Z (gd g6 Z) (zD Z Z Z vo Z Z)<|yV Z (gd g6 Z) (aa.eqlBool Z Z Z Tryz.underlying4)<|yS Z (bA Z (aK g6 Z) Z)<|mN Z<|zr ?_;cases h;exact ba Z
      ·refine zo g6 h fun h=>yU Z (gd g6 Z) Z<|yU Z (gd g6 Z) Z<|yU Z (gd g6 Z) Z<|yU Z (gd g6 Z) Z<|yU Z (gd g6 Z) Z<|yS Z (aU Z (aK g6 Z) Z)<|mN Z<|zr ?_;cases h;exact ba Z
     ·refine zo g5 h fun h=>yU Z (gd g5 Z) Z<|yU Z (gd g5 Z) Z<|yU Z (gd g5 Z) Z<|yU Z (gd g5 Z) Z<|yU Z (gd g5 Z) Z<|yS Z (aU Z (aK g5 Z) Z)<|zM Z<|aB Z<|aB Z<|aB Z<|aB Z<|aB Z<|yS Z (aU Z Z Z)<|mN Z<|zr ?_;cases h;exact ba Z
    ·refine zo g4 h fun h=>yU Z (gd g4 Z) Z<|yU Z (gd g4 Z) Z<|yU Z (gd g4 Z) Z<|yU Z (gd g4 Z) Z<|yU Z (gd g4 Z) Z<|yS Z (aU Z (aK g4 Z) Z)<|zM Z<|aB Z<|aB Z<|aB Z<|aB Z<|aB Z<|yS Z (aU Z Z Z)<|zM Z<|aB Z<|aB Z<|aB Z<|aB Z<|aB Z<|yS Z (aU Z Z Z)<|mN Z<|zr ?_;cases h;exact ba Z
   ·refine zo g3 h fun h=>yU Z (gd g3 Z) Z<|yU Z (gd g3 Z) Z<|yU Z (gd g3 Z) Z<|yU Z (gd g3 Z) Z<|yU Z (gd g3 Z) Z<|yS Z (aU Z (aK g3 Z) Z)<|zM Z<|aB Z<|aB Z<|aB Z<|aB Z<|aB Z<|yS Z (aU Z Z Z)<|zM Z<|aB Z<|aB Z<|aB Z<|aB Z<|aB Z<|yS Z (aU Z Z Z)<|zM Z<|aB Z<|aB Z<|aB Z<|aB Z<|aB Z<|yS Z (aU Z Z Z)<|mN Z<|zr ?_;cases h;exact ba Z
  ·refine zo g2 h fun h=>yU Z (gd g2 Z) Z<|yU Z (gd g2 Z) Z<|yU Z (gd g2 Z) Z<|yU Z (gd g2 Z) Z<|yU Z (gd g2 Z) Z<|yS Z (aU Z (aK g2 Z) Z)<|zM Z<|aB Z<|aB Z<|aB Z<|aB Z<|aB Z<|yS Z (aU Z Z Z)<|zM Z<|aB Z<|aB Z<|aB Z<|aB Z<|aB Z<|yS Z (aU Z Z Z)<|zM Z<|aB Z<|aB Z<|aB Z<|aB Z<|aB Z<|yS Z (aU Z Z Z)<|zM Z<|aB Z<|aB Z<|aB Z<|aB Z<|aB Z<|yS Z (aU Z Z Z)<|mN Z<|zr ?_;cases h;exact ba Z
 ·refine zo g1 h fun h=>yU Z (gd g1 Z) Z<|yU Z (gd g1 Z) Z<|yU Z (gd g1 Z) Z<|yU Z (gd g1 Z) Z<|yU Z (gd g1 Z) Z<|yS Z (aU Z (aK g1 Z) Z)<|zM Z<|aB Z<|aB Z<|aB Z<|aB Z<|aB Z<|yS Z (aU Z Z Z)<|zM Z<|aB Z<|aB Z<|aB Z<|aB Z<|aB Z<|yS Z (aU Z Z Z)<|zM Z<|aB Z<|aB Z<|aB Z<|aB Z<|aB Z<|yS Z (aU Z Z Z)<|zM Z<|aB Z<|aB Z<|aB Z<|aB Z<|aB Z<|yS Z (aU Z Z Z)<|zM Z<|aB Z<|aB Z<|aB Z<|aB Z<|aB Z<|yS Z (aU Z Z Z)<|mN Z<|zr ?_;cases h;exact ba Z
theorem EL {b:Bk}{x y:Vw}:b∈(cQ x y).B↔b∈x.B\/b∈y.B:=sJ b _ _
theorem EM {v:Vt}{x y:Vw}:v∈(cQ x y).V↔v∈x.V\/v∈y.V:=sJ v _ _
theorem Ih {n:Nd}(h1:3<=n.Tick)(h2:n.Tick<=1000000):aF n=n.Tick / 3/\1<=aF n/\aF n<=333333:=by
 unfold aF;rw[Int.tdiv_eq_ediv_of_nonneg (by omega),cR];omega
theorem JF {n:Nd}(hm:cZ c)(h1:3<=n.Tick)(h2:n.Tick<=1000000):ga c n=false:=by
 have:=Ih h1 h2;unfold aF at this;refine aR ?_;rintro(h|h|h)
 ·exact h hm
 ·omega
 ·omega
def oV (c:Cf)(v w:Vw):Prop:=i4 c w/\w.B.take v.B.length=v.B/\w.V.take v.V.length=v.V
theorem pS {v:Vw}(h:i4 c v):oV c v v:=⟨h,take_length,take_length⟩
theorem Bd {a b d:List α}(h1:b.take a.length=a)(h2:d.take b.length=b):d.take a.length=a:=by
 have hl:=congrArg List.length h1;rw[List.length_take]at hl
 have e:d.take a.length=(d.take b.length).take a.length:=by
  rw[List.take_take];congr 1;omega
 rw[e,h2,h1]
theorem sW {u v w:Vw}(h1:oV c u v)(h2:oV c v w):oV c u w:=⟨h2.1,Bd h1.2.1 h2.2.1,Bd h1.2.2 h2.2.2⟩
theorem ip {v:Vw}(h:i4 c v)(i:Vw)(s:Int):oV c v (aN c v i s).1:=by
 have ht:=Ip h i s;obtain⟨h1,h2⟩:=Fa ht;exact⟨ht.may,h1,h2⟩
theorem AH (h:i4 c x.V):oV c x.V (cX x c slot).1:=by
 unfold cX;split
 ·exact sW (ip h _ _)<|ip (ip h _ _).1 _ _
 ·exact pS h
theorem pR {c:Cf}{slot:Int}:∀(o:List Of) (s:Vw×Vw×Bool),i4 c s.1->oV c s.1 (o.foldl (kG c slot) s).1
 |[],s,h=>pS h
 |y::r,s,h=>by
  rw[foldl_cons];have h1:oV c s.1 (kG c slot s y).1:=ip h _ _;exact sW h1<|pR r _ h1.1
theorem xu {o:List Of}(h:i4 c x.V):oV c x.V (dI x o c slot).1:=by
 unfold dI;split
 ·exact pR o _ h
 ·exact pR o _ h
noncomputable def du (c:Cf)(n:Nd)(inp:Vw)(o:List Of):Nd×List Of:=(kx c n inp o).getD (n,[])
theorem wH {n:Nd}{inp:Vw}{o:List Of}(hf:nw c n inp o)(h:ga c n=true):kx c n inp o=some (du c n inp o)/\du c n inp o=(n,[]):=by
 have e:=sL hf h;unfold du;rw[e];exact⟨rfl,rfl⟩
theorem nY {n:Nd}{inp:Vw}{o:List Of}(hf:nw c n inp o):kx c n inp o=some (du c n inp o)/\
    ((ga c n=true/\du c n inp o=(n,[]))\/
     (ga c n=false/\n.Tick.tmod 3=0/\du c n inp o=(Nd.mk n.No (i64.wrap (n.Tick+1)) (cX (cK c n inp o) c (aF n)).1 (cX (cK c n inp o) c (aF n)).2.1 (d8 c n o).1 n.C (cX (cK c n inp o) c (aF n)).2.2.1,(cX (cK c n inp o) c (aF n)).2.2.2))\/
     (ga c n=false/\n.Tick.tmod 3=1/\du c n inp o=(Nd.mk n.No (i64.wrap (n.Tick+1)) (dI (cK c n inp o) (d8 c n o).1 c (aF n)).1 (dI (cK c n inp o) (d8 c n o).1 c (aF n)).2.1 [] n.C (dI (cK c n inp o) (d8 c n o).1 c (aF n)).2.2,[]))\/
     (ga c n=false/\n.Tick.tmod 3=2/\∃cu,du c n inp o=(Nd.mk n.No (i64.wrap (n.Tick+1)) (aN c n.V (gW c n inp) (aF n)).1 (aN c n.V (gW c n inp) (aF n)).2.1 [] cu ((d8 c n o).2||(aN c n.V (gW c n inp) (aF n)).2.2),[]))):=by
  cases hid:ga c n with
  |true=>exact⟨(wH hf hid).1,.inl ⟨rfl,(wH hf hid).2⟩⟩
  | false=>
    rcases Be hid with h|h|h
    · have e:=x7 hf hid h;unfold du;rw[e];exact⟨rfl,.inr (.inl ⟨rfl,h,rfl⟩)⟩
    · have e:=x8 hf hid h;unfold du;rw[e];exact⟨rfl,.inr (.inr (.inl ⟨rfl,h,rfl⟩))⟩
    · obtain⟨cu,e⟩:=FZ hf hid h;unfold du;rw[e];exact⟨rfl,.inr (.inr (.inr ⟨rfl,h,cu,rfl⟩))⟩
def fM (P:Bk->Prop)(Q:Vt->Prop)(v:Vw):Prop:=(∀b∈v.B,P b)/\∀x∈v.V,Q x
def ko (P:Bk->Prop)(Q:Vt->Prop)(o:Of):Prop:=P o.B/\fM P Q o.V
def p9 (P:Bk->Prop)(Q:Vt->Prop)(n:Nd):Prop:=fM P Q n.V/\fM P Q n.In/\∀o∈n.O,ko P Q o
section
variable {P : Bk -> Prop} {Q : Vt -> Prop}
theorem uj :fM P Q ⟨[],[]⟩:=⟨fun b hb=>(by cases hb),fun x hx=>(by cases hx)⟩
theorem dY {a b:Vw}(h1:fM P Q a)(h2:fM P Q b):fM P Q (cQ a b):=⟨fun x hx=>(EL.1 hx).elim (h1.1 x) (h2.1 x),fun x hx=>(EM.1 hx).elim (h1.2 x) (h2.2 x)⟩
theorem oI (h:fM P Q a):fM P Q (bx c a):=⟨fun x hx=>h.1 x (mem_filter.1 hx).1,fun x hx=>h.2 x (mem_filter.1 hx).1⟩
theorem lG (c:Cf){w i:Vw}(s:Int)(h1:fM P Q w)(h2:fM P Q i):fM P Q (aN c w i s).1/\fM P Q (aN c w i s).2.1:=by
 by_cases h:i4 c w
 ·have ht:=Ip h i s;obtain⟨t,e,h3⟩:=ht.preB;obtain⟨u,e2,h4⟩:=ht.preV;refine⟨⟨fun b hb=>?_,fun v hv=>?_⟩,fun b hb=>h2.1 b (mem_filter.1 (ht.subB.subset hb)).1,fun v hv=>h2.2 v (mem_filter.1 (ht.subV.subset hv)).1⟩
  ·rw[e]at hb;rcases mem_append.1 hb with hb|hb
   ·exact h1.1 b hb
   ·exact h2.1 b (mem_filter.1 (h3 b hb).1).1
  ·rw[e2]at hv;rcases mem_append.1 hv with hv|hv
   ·exact h1.2 v hv
   ·exact h2.2 v (mem_filter.1 (h4 v hv).1).1
 ·have e:aN c w i s=(w,i,false):=by unfold aN;rw[i0_ h]
  rw[e];exact⟨h1,h2⟩
theorem rP (c:Cf)(s:Int):∀(o:List Of) (x:Vw×Vw×Bool),(∀y∈o,ko P Q y)->fM P Q x.1->fM P Q x.2.1->fM P Q (o.foldl (kG c s) x).1/\fM P Q (o.foldl (kG c s) x).2.1
 |[],x,_,h1,h2=>⟨h1,h2⟩
 |y::r,x,h,h1,h2=>by
  rw[foldl_cons];have hy:=h y (List.mem_cons_self ..);obtain⟨a1,a2⟩:=lG c (i:=cQ y.V ⟨[y.B],[]⟩) s h1 (dY hy.2 ⟨fun b hb=>by rw[mem_singleton.1 hb];exact hy.1,fun x hx=>(by cases hx)⟩);exact rP c s r _ (fun z hz=>h z (List.mem_cons_of_mem _ hz)) a1<|dY h2 a2
noncomputable def It (c:Cf)(n:Nd)(inp:Vw)(o:List Of):Vt:=⟨n.No,aF n,g0 c (a8 (cK c n inp o) (d8 c n o).1 c (aF n)).1.B (dG c (a8 (cK c n inp o) (d8 c n o).1 c (aF n)).1.V (i64.wrap (aF n-1)))⟩
theorem A8 {n:Nd}{inp:Vw}{o:List Of}(hf:nw c n inp o)(hn:p9 P Q n)(hi:fM P Q inp)(ho:∀y∈o,ko P Q y)
  (hp:ga c n=false->n.Tick.tmod 3=0->n.No=oR c (aF n)->P (l7 (cK c n inp o) c (aF n)))
  (hv:ga c n=false->n.Tick.tmod 3=1->n.No∈nG c (aF n)->Q (It c n inp o)):p9 P Q (du c n inp o).1/\∀y∈(du c n inp o).2,ko P Q y:=by
 obtain⟨n1,n2,n3⟩:=id hn;have hin:fM P Q (gW c n inp):=dY n2 (oI hi)
 have hh:∀y∈(d8 c n o).1,ko P Q y:=fun y hy=>by
  rcases mem_append.1 ((gw n.Tick c (aF n) n.Full (n.O++o)).2.1 y hy).1 with h|h
  ·exact n3 y h
  ·exact ho y h
 rcases(nY hf).2 with⟨-,e⟩|⟨hid,ht,e⟩|⟨hid,ht,e⟩|⟨hid,ht,cu,e⟩
 ·rw[e];exact⟨hn,fun y hy=>by cases hy⟩
 ·rw[e];by_cases h:n.No=oR c (aF n)
  ·have hb:=hp hid ht h;unfold cX;rw[i1_ (show(cK c n inp o).No=oR c (aF n)from h)];obtain⟨a1,a2⟩:=lG c (aF n) n1 hin;have a3:=(lG c (i:=⟨[l7 (cK c n inp o) c (aF n)],[]⟩) (aF n) a1 ⟨fun b hb'=>by rw[mem_singleton.1 hb'];exact hb,fun x hx=>(by cases hx)⟩).1;refine⟨⟨a3,a2,hh⟩,fun y hy=>?_⟩;rw[mem_singleton.1 hy];exact⟨hb,a1⟩
  ·unfold cX;rw[i0_ (show(cK c n inp o).No≠oR c (aF n)from h)];exact⟨⟨n1,hin,hh⟩,fun y hy=>by cases hy⟩
 ·rw[e];obtain⟨a1,a2⟩:=rP c (aF n) (d8 c n o).1 (n.V,gW c n inp,(d8 c n o).2) hh n1 hin;refine⟨?_,fun y hy=>by cases hy⟩;unfold dI;by_cases h:n.No∈nG c (aF n)
  ·rw[i1_ (show(cK c n inp o).No∈nG c (aF n)from h)];refine⟨a1,dY a2 ⟨fun b hb=>(by cases hb),fun x hx=>?_⟩,fun y hy=>by cases hy⟩;rw[mem_singleton.1 hx];exact hv hid ht h
  ·rw[i0_ (show(cK c n inp o).No∉nG c (aF n)from h)];exact⟨a1,a2,fun y hy=>by cases hy⟩
 ·rw[e];obtain⟨a1,a2⟩:=lG c (aF n) n1 hin;exact⟨⟨a1,a2,fun y hy=>by cases hy⟩,fun y hy=>by cases hy⟩
end
def zZ (v:Vw):Prop:=v.B.Nodup/\v.V.Nodup
theorem lX {a b:Vw}(h:zZ a):zZ (cQ a b):=⟨iX h.1,iX h.2⟩
theorem AR (h:zZ a):zZ (bx c a):=⟨h.1.sublist List.filter_sublist,h.2.sublist List.filter_sublist⟩
theorem AQ {w i:Vw}{s:Int}(hw:i4 c w)(h:zZ i):zZ (aN c w i s).2.1:=by
 have ht:=Ip hw i s;exact⟨(AR h).1.sublist ht.subB,(AR h).2.sublist ht.subV⟩
theorem AP (c:Cf)(s:Int):∀(o:List Of) (x:Vw×Vw×Bool),zZ x.2.1->zZ (o.foldl (kG c s) x).2.1
 |[],x,h=>h
 |y::r,x,h=>by
  rw[foldl_cons];exact AP c s r _<|lX h
theorem wI {n:Nd}{inp:Vw}{o:List Of}(hf:nw c n inp o)(hm:i4 c n.V)(hd:zZ n.In)(h8:n.O.length<=8) :
  (du c n inp o).1.No=n.No/\((du c n inp o).1.Tick=if ga c n=true then n.Tick else i64.wrap (n.Tick+1))/\oV c n.V (du c n inp o).1.V/\zZ (du c n inp o).1.In/\(du c n inp o).1.O.length<=8/\
   ((du c n inp o).2≠[]->ga c n=false/\n.Tick.tmod 3=0/\n.No=oR c (aF n))/\(du c n inp o).2.length<=1/\(∀y∈(du c n inp o).1.O,y∈n.O++o)/\∀y∈(du c n inp o).2,i4 c y.V:=by
 have hdi:zZ (gW c n inp):=lX hd;have hh:=(gw n.Tick c (aF n) n.Full (n.O++o)).1;have ho:=fun y hy=>((gw n.Tick c (aF n) n.Full (n.O++o)).2.1 y hy).1;rcases(nY hf).2 with⟨hid,e⟩|⟨hid,ht,e⟩|⟨hid,ht,e⟩|⟨hid,ht,cu,e⟩
 ·rw[e,hid];exact⟨rfl,rfl,pS hm,hd,h8,fun h=>absurd Z h,by simp,fun y hy=>List.mem_append_left _ hy,fun y hy=>by cases hy⟩
 ·rw[e,hid];refine⟨rfl,rfl,AH (x:=cK c n inp o) hm,?_,hh,?_,?_,ho,?_⟩
  ·unfold cX;split
   ·exact AQ hm hdi
   ·exact hdi
  ·unfold cX;split
   ·rename_i h;exact fun _=>⟨rfl,ht,h⟩
   ·exact fun h=>absurd Z h
  ·unfold cX;split <;>simp
  ·unfold cX;split
   ·intro y hy;rw[mem_singleton.1 hy];exact(ip hm _ _).1
   ·exact fun y hy=>by cases hy
 ·rw[e,hid];refine⟨rfl,rfl,xu (x:=cK c n inp o) hm,?_,by simp,fun h=>absurd Z h,by simp,fun y hy=>(by cases hy),fun y hy=>(by cases hy)⟩;have:=AP c (aF n) (d8 c n o).1 (n.V,gW c n inp,(d8 c n o).2) hdi;unfold dI;split
  ·exact lX this
  ·exact this
 ·rw[e,hid];exact⟨rfl,rfl,ip hm _ _,AQ hm hdi,by simp,fun h=>absurd Z h,by simp,fun y hy=>(by cases hy),fun y hy=>(by cases hy)⟩
theorem MF (l:List Int):Eh (rc l):=⟨tH _ _,tH _ _⟩
theorem Pk (b:Bk):Eh (nm b):=MF _
theorem ME {id k:ID}(h:k∈aZ l id):Eh k:=by
 unfold aZ at h;split at h
 ·cases h
 ·obtain⟨b,-,rfl⟩:=List.mem_map.1 h;exact Pk b
theorem AB {c:Cf}{l:List Bk}{v:List Vt}:∀(n:Nat) (id:ID),Eh id->Eh (oZ c l v n id)
 |0,id,h=>h
 | n+1,id,h=>by
  unfold oZ;split
  ·rename_i h2;rcases nD c l v id with⟨-,e⟩|⟨k,hk,e⟩
   ·rw[e]at h2;simp only at h2;omega
   ·exact AB n _ (by rw[e];exact ME hk)
  ·exact h
theorem J0 (c:Cf)(l:List Bk)(v:List Vt):Eh (g0 c l v):=AB _ _ ⟨⟨by decide,by decide⟩,by decide,by decide⟩
theorem DL (n:Int):aW .i64 (i64.wrap n):=cP .i64 n
theorem DI (h:aW .i64 x.No)(c:Cf)(hs:aW .i64 slot):kp (l7 x c slot):=
 have hh:=J0 c (aN c x.V x.In slot).1.B (dG c (aN c x.V x.In slot).1.V (i64.wrap (slot-1)))
 ⟨hs,h,hh.1,hh.2,by show aW .u64 0;exact⟨by decide,by decide⟩⟩
def Fk (v:Vw):Prop:=fM kp (fun _=>True) v
structure Bz (c:Cf)(v:Vw):Prop where
 ok:Fk v
 b:v.B.length<=500
 v:v.V.length<=500
theorem Ap {w i:Vw}(h:Bz c w)(hi:Fk i)(s:Int):Bz c (aN c w i s).1:=by
 obtain⟨h1,h2,h3⟩:=h;have hm:=mg c w i s;exact⟨(lG c s h1 hi).1,by omega,by omega⟩
section
variable {c : Cf} (hW : c.W.length <= 1000)
include hW
theorem qm {n:Nd}{i:Vw}(hv:Bz c n.V)(hi:Fk i)(hl:i.B.length+i.V.length<=999)(slot:Int) :
  sM c n i slot=some (⟨n.No,n.Tick,(aN c n.V i slot).1,n.In,n.O,n.C,n.Full||(aN c n.V i slot).2.2⟩,(aN c n.V i slot).2.1):=by
 obtain⟨a1,a2,a3⟩:=hv;unfold sM;rw[Gc hW a1.1 hi.1 (by omega) (by omega) hl,ob];cases n.Full <;>rfl
theorem F5 {n:Nd}{o:List Of}(hl:n.O.length+o.length<=1000):yf c n o=some ⟨n.No,n.Tick,n.V,n.In,(d8 c n o).1,n.C,(d8 c n o).2⟩:=by
 obtain⟨L,hL⟩:∃L,L=n.O++o:=⟨_,rfl⟩
 have hLl:L.length<=1000:=by rw[hL,List.length_append];exact hl
 have e:=av (step:=lf c n o) (n:=L.length) (fun k=>ew.mk (k:Int) (hY n.Tick c (aF n) n.Full (L.take k)).2 (hY n.Tick c (aF n) n.Full (L.take k)).1) (ew.mk (L.length:Int) (hY n.Tick c (aF n) n.Full L).2 (hY n.Tick c (aF n) n.Full L).1) (fun k hk=>by
  obtain⟨y,hy,-⟩:=aA hk
  have et:L.take (k+1)=L.take k++[y]:=by rw[List.take_add_one,hy];rfl
  have hn:=(gw n.Tick c (aF n) n.Full (L.take k)).1
  have gate:(bif (n.Tick.tmod 3)==2 then some true else(some y).bind fun y1=>bif y1.Slot != aF n then some true else(some y).bind fun y2=>(Zz c (aF n)).bind fun v3=>some (y2.From != v3))=some (!IQ n.Tick c (aF n) y):=by
   rw[wU hW,ob];simp only[ob];unfold IQ;by_cases h1:n.Tick.tmod 3=2
   ·rw[beq_iff_eq.2 h1,ct,aR (by simp[h1])];rfl
   ·rw[show(n.Tick.tmod 3==2)=false by simp[h1],cf];by_cases h2:y.Slot=aF n
    ·rw[show(y.Slot != aF n)=false by simp[h2],cf];by_cases h3:y.From=oR c (aF n)
     ·rw[aQ ⟨h1,h2,h3⟩,h3];simp
     ·rw[aR (by simp[h3])];simp[h3]
    ·rw[show(y.Slot != aF n)=true by simp[h2],ct,aR (by simp[h2])];rfl
  unfold lf;simp only;rw[<-hL,eN,aw hy,et,wo,ah (n:=k)];unfold aF at gate hn⊢;rw[gate,ob];unfold m8;generalize hY n.Tick c (i64.wrap (n.Tick.tdiv 3)) n.Full (L.take k)=s at hn⊢
  cases hk:IQ n.Tick c (i64.wrap (n.Tick.tdiv 3)) y with
  |false=>rw[Bool.not_false,ct,i0_ (by simp)]
  |true=>
   rw[Bool.not_true,cf,i1_ rfl];by_cases h8:s.1.length=8
   ·rw[aQ (by omega),ct,i1_ h8]
   ·rw[aR (by omega),cf,i0_ h8,ob,aC (by simp only[length_singleton];omega),ct]) (by
  unfold lf;simp only
  rw[<-hL,gt,take_length]) (by omega)
 have e':iter (lf c n o) aY (ew.mk 0 n.Full [])=_:=e;unfold yf;rw[aC,ct,aC,ct,e',ob,hL];rfl
theorem F6 (hv:Bz c x.V)(hi:Fk x.In)(hl:x.In.B.length+x.In.V.length<=999)(hn:aW .i64 x.No)(hs:aW .i64 slot) :
  yg c x slot=some (⟨x.No,x.Tick,(cX x c slot).1,(cX x c slot).2.1,x.O,x.C,(cX x c slot).2.2.1⟩,(cX x c slot).2.2.2):=by
 have hf:=Ap hv hi slot;obtain⟨f1,f2,f3⟩:=id hf;unfold yg cX;rw[wU hW,ob];by_cases h:x.No=oR c slot
 ·rw[show(x.No != oR c slot)=false by simp[h],cf,i1_ h,qm hW hv hi hl,ob];simp only;rw[tT hW f1.1 (by omega) (by omega),ob,show Bk.mk slot x.No (g0 c (aN c x.V x.In slot).1.B (dG c (aN c x.V x.In slot).1.V (i64.wrap (slot-1)))) 0=l7 x c slot from rfl,qm hW (i:=⟨[l7 x c slot],[]⟩) hf ⟨fun b hb=>by rw[mem_singleton.1 hb];exact DI hn c hs,fun x hx=>(by cases hx)⟩ (by simp),ob]
 ·rw[show(x.No != oR c slot)=true by simp[h],ct,i0_ h]
theorem F7 (hv:Bz c x.V)(hi:Fk x.In)(hi1:x.In.B.length<=500)(hi2:x.In.V.length<=500)(ho:x.O.length<=8)(hs:∀y∈x.O,ko kp (fun _=>True) y)(hz:∀y∈x.O,y.V.B.length<=500/\y.V.V.length<=500)(hz2:∀y∈x.O,y.V.B.length+y.V.V.length<=998) :
  yh c x slot=some ⟨x.No,x.Tick,(dI x x.O c slot).1,(dI x x.O c slot).2.1,[],x.C,(dI x x.O c slot).2.2⟩:=by
 have hall:=fun(l:List Of) (h:∀y∈l,y∈x.O)=>rP c slot l (x.V,x.In,x.Full) (fun y hy=>hs y (h y hy)) hv.ok hi;have hsz:=fun(l:List Of) (h1:l.length<=8) (h:∀y∈l,y∈x.O)=>rx (c:=c) (slot:=slot) hv.b hv.v hi1 hi2 8 l h1 fun z hy=>hz z (h z hy)
 have e:=av (step:=lg c slot) (n:=x.O.length) (fun k=>fP.mk (k:Int) ⟨x.No,x.Tick,(a8 x (x.O.take k) c slot).1,(a8 x (x.O.take k) c slot).2.1,x.O,x.C,(a8 x (x.O.take k) c slot).2.2⟩)
  (fP.mk (x.O.length:Int) ⟨x.No,x.Tick,(a8 x x.O c slot).1,(a8 x x.O c slot).2.1,x.O,x.C,(a8 x x.O c slot).2.2⟩) (fun k hk=>by
  obtain⟨y,hy,hm⟩:=aA hk
  have et:x.O.take (k+1)=x.O.take k++[y]:=by rw[List.take_add_one,hy];rfl
  have ha:=hall (x.O.take k) fun _=>List.mem_of_mem_take;have hz':=hsz (x.O.take k) (by rw[List.length_take];omega) fun _=>List.mem_of_mem_take;have hy2:=hz y hm;have hy3:=hz2 y hm;have hy4:=hs y hm;have hll:=uR y;have hok:Fk (cQ y.V ⟨[y.B],[]⟩):=dY hy4.2 ⟨fun b hb=>by rw[mem_singleton.1 hb];exact hy4.1,fun x hx=>(by cases hx)⟩;unfold lg;simp only;rw[eN,aw hy,ob,ob,et,u6,ah (n:=k)];have ha':Fk (a8 x (x.O.take k) c slot).1/\Fk (a8 x (x.O.take k) c slot).2.1:=ha;generalize a8 x (x.O.take k) c slot=s at ha' hz'⊢;have hzt:=oS c s.1 (cQ y.V ⟨[y.B],[]⟩) slot;rw[ml (by simp only[length_singleton];omega) (by simp only[List.length_nil];omega),ob,qm hW (n:=⟨x.No,x.Tick,s.1,s.2.1,x.O,x.C,s.2.2⟩) ⟨ha'.1,by simp only;omega,by simp only;omega⟩ hok (by omega),ob];simp only;rw[ml,ob]
  rfl) (by
  unfold lg;simp only
  rw[gt,take_length]) (by omega)
 have e':iter (lg c slot) aY (fP.mk 0 x)=_:=e;have ha:=hall x.O fun _ h=>h;have hz':=hsz x.O ho fun _ h=>h;have ha':Fk (a8 x x.O c slot).1/\Fk (a8 x x.O c slot).2.1:=ha;unfold yh dI;rw[e',ob];simp only;rw[GH hW,ob];generalize a8 x x.O c slot=s at ha' hz'⊢;by_cases h:x.No∈nG c slot
 ·rw[aQ h,ct,i1_ h,tT hW ha'.1.1 (by omega) (by omega),ob,ml (by simp only[List.length_nil];omega) (by simp only[length_singleton];omega),ob]
 ·rw[aR h,cf,i0_ h]
end
structure LE (c:Cf)(n:Nd)(inp:Vw)(o:List Of):Prop where
 g:nw c n inp o
 w:c.W.length<=1000
 ins:(gW c n inp).B.length+(gW c n inp).V.length<=999
 offs:∀y∈n.O++o,y.V.B.length+y.V.V.length<=998
 no:aW .i64 n.No
 all:p9 kp (fun _=>True) n
 inp:Fk inp
 o:∀y∈o,ko kp (fun _=>True) y
theorem F0 {n:Nd}{inp:Vw}{o:List Of}(hf:LE c n inp o):x9 c n inp o=kx c n inp o:=by
 obtain⟨hg,hW,hin,hof,hno,⟨hnv,hni,hno2⟩,hinp,ho⟩:=hf;have hi:(gW c n inp).B.length<=500/\(gW c n inp).V.length<=500:=hg.ins;have hok:Fk (gW c n inp):=dY hni (oI hinp);obtain⟨hr1,hr2⟩:=pP hg;have hh:=(gw n.Tick c (aF n) n.Full (n.O++o)).2.1;have hr3:∀y∈(d8 c n o).1,ko kp (fun _=>True) y:=fun y hy=>(mem_append.1 (hh y hy).1).elim (hno2 y) (ho y);have hr4:∀y∈(d8 c n o).1,y.V.B.length+y.V.V.length<=998:=fun y hy=>hof y (hh y hy).1;obtain⟨⟨a1,a2⟩,⟨b1,b2⟩,⟨e1,e2⟩,-,g1,g2⟩:=id hg;have hfv:Bz c n.V:=⟨hnv,a1,a2⟩;have hol:=uV c inp;have gate:=sg c n;rw[mr,ob]at gate;unfold x9;rw[pp hW,ob,gate,ob]
 cases h:ga c n with
 |true=>rw[ct,sL hg h]
 | false=>
  rw[cf,ye hW hinp.1 (by omega) (by omega),ob,ml,ob,F5 hW (n:=Nd.mk n.No n.Tick n.V _ n.O n.C n.Full) (by simp only;omega),ob];simp only;have x1:Bz c (cK c n inp o).V:=hfv;rcases Be h with ht|ht|ht
  ·rw[x7 hg h ht,ht,show((0:Int)==0)=true from rfl,ct];have:=F6 (slot:=aF n) hW (x:=⟨n.No,n.Tick,n.V,gW c n inp,(d8 c n o).1,n.C,(d8 c n o).2⟩) hfv hok hin hno (DL _);exact(congrArg (fun z=>(z.bind fun v7=>some (v7.2,v7.1)).bind fun v6:List Of×Nd=>some (Nd.mk v6.2.No (i64.wrap (v6.2.Tick+1)) v6.2.V v6.2.In v6.2.O v6.2.C v6.2.Full,v6.1)) this).trans Z
  ·rw[x8 hg h ht,ht,show((1:Int)==0)=false from rfl,cf,show((1:Int)==1)=true from rfl,ct];have:=F7 (slot:=aF n) hW (x:=⟨n.No,n.Tick,n.V,gW c n inp,(d8 c n o).1,n.C,(d8 c n o).2⟩) hfv hok hi.1 hi.2 hr1 hr3 hr2 hr4;exact(congrArg (fun z=>(z.bind fun v8=>some (([]:List Of),v8)).bind fun v6:List Of×Nd=>some (Nd.mk v6.2.No (i64.wrap (v6.2.Tick+1)) v6.2.V v6.2.In v6.2.O v6.2.C v6.2.Full,v6.1)) this).trans Z
  ·have hm:cZ c:=by
    have:=of_decide_eq_false h;exact Decidable.not_not.1 fun h=>this<|.inl h
   rw[qi hg h,ht,show((2:Int)==0)=false from rfl,cf,show((2:Int)==1)=false from rfl,cf,show((2:Int)==2)=true from rfl,ct];obtain⟨r,hr,-,e⟩:=uh (x:=cK c n inp o) (slot:=aF n) hm a1 a2 hi.1 hi.2;rw[e,ob];have hft:=Ap (i:=gW c n inp) hfv hok (aF n);obtain⟨f1,f2,f3⟩:=hft
   have h86:yi c ⟨n.No,n.Tick,n.V,gW c n inp,(d8 c n o).1,n.C,(d8 c n o).2⟩ (aF n)=some ⟨n.No,n.Tick,(aN c n.V (gW c n inp) (aF n)).1,(aN c n.V (gW c n inp) (aF n)).2.1,[],dL n.C (aN c n.V (gW c n inp) (aF n)).1.B (g0 c (aN c n.V (gW c n inp) (aF n)).1.B (dG c (aN c n.V (gW c n inp) (aF n)).1.V (aF n))) r.1 r.2 (aF n),(d8 c n o).2||(aN c n.V (gW c n inp) (aF n)).2.2⟩:=by
    unfold yi;rw[qm hW (n:=⟨n.No,n.Tick,n.V,gW c n inp,(d8 c n o).1,n.C,(d8 c n o).2⟩) hfv hok hin,ob];simp only;rw[tT hW f1.1 (by omega) (by omega),ob,Gb hm f1.1 (by omega) (by omega)];have hr':qk c (aN c n.V (gW c n inp) (aF n)).1 (aF n) (g0 c (aN c n.V (gW c n inp) (aF n)).1.B (dG c (aN c n.V (gW c n inp) (aF n)).1.V (aF n)))=some r:=hr;rw[hr',ob,Lk f1.1 (by omega),ob]
   exact(congrArg (fun z=>(z.bind fun v8=>some (([]:List Of),v8)).bind fun v6:List Of×Nd=>some (Nd.mk v6.2.No (i64.wrap (v6.2.Tick+1)) v6.2.V v6.2.In v6.2.O v6.2.C v6.2.Full,v6.1)) h86).trans Z
theorem BS (x:Nd)(c:Cf)(slot:Int):(cX x c slot).2.2.2.length<=1:=by
 unfold cX;split <;>simp
theorem BI {l:List α}(hb:bG 0 l.length 8=true):LC prog 62 [.p (.slice 1 (l.map f))] [] (Is (.vec 1 0 (l.map f).length 0 (l.map f).length) [.vec 1 (l.map f)]):=by
 refine eP Tryz.func62 Z Z Z ?_;refine qR<|yS Z (za Z Z)<|nT<|zQ<|qR<|yS Z (zm Z Z)<|ax.cons Z Z Z (aa.eqNil Z Z Z dN) ?_;rintro _ _ ⟨rfl,b,rfl,hn⟩;refine nT ?_;refine zX Z (fun g=>?_)<|fun g=>?_
 ·have hl:l=[]:=List.map_eq_nil_iff.1 (hn g);subst hl;exact qR<|yS Z (za Z Z)<|nT<|LW.ent (bW.lazy (t:=2) (m:=1) Z Z Z)<|zr<|af<|aD (.one (.tmp Z)) ⟨rfl,rfl⟩
 ·refine LW.skip ?_;exact zT<|qR<|yS Z (aa.buildSlice0 Z dN)<|yS Z (zm Z Z)<|yS Z (aa.appendZX f l Z Z Z Z iC.p Z dN hb Z)<|yS Z (za Z Z)<|nT<|zr<|aD (.one (.tmp Z)) ⟨rfl,rfl⟩
theorem L4 {l:List α}(hb:bG 0 l.length 176=true):LC prog 104 [.p (.slice 12 (l.map f))] [] (Is (.vec 12 0 (l.map f).length 0 (l.map f).length) [.vec 12 (l.map f)]):=by
 refine eP Tryz.func104 Z Z Z ?_;refine qR<|yS Z (za Z Z)<|nT<|zQ<|qR<|yS Z (zm Z Z)<|ax.cons Z Z Z (aa.eqNil Z Z Z dM) ?_;rintro _ _ ⟨rfl,b,rfl,hn⟩;refine nT ?_;refine zX Z (fun g=>?_)<|fun g=>?_
 ·have hl:l=[]:=List.map_eq_nil_iff.1 (hn g);subst hl;exact qR<|yS Z (za Z Z)<|nT<|LW.ent (bW.lazy (t:=2) (m:=12) Z Z Z)<|zr<|af<|aD (.one (.tmp Z)) ⟨rfl,rfl⟩
 ·refine LW.skip ?_;exact zT<|qR<|yS Z (aa.buildSlice0 Z dM)<|yS Z (zm Z Z)<|yS Z (aa.appendZX f l Z Z Z Z iC.p Z dM hb Z)<|yS Z (za Z Z)<|nT<|zr<|aD (.one (.tmp Z)) ⟨rfl,rfl⟩
theorem Hk {l:List α}(hb:bG 0 l.length 104=true):LC prog 118 [.p (.slice 9 (l.map f))] [] (Is (.vec 9 0 (l.map f).length 0 (l.map f).length) [.vec 9 (l.map f)]):=by
 refine eP Tryz.func118 Z Z Z ?_;refine qR<|yS Z (za Z Z)<|nT<|zQ<|qR<|yS Z (zm Z Z)<|ax.cons Z Z Z (aa.eqNil Z Z Z bp) ?_;rintro _ _ ⟨rfl,b,rfl,hn⟩;refine nT ?_;refine zX Z (fun g=>?_)<|fun g=>?_
 ·have hl:l=[]:=List.map_eq_nil_iff.1 (hn g);subst hl;exact qR<|yS Z (za Z Z)<|nT<|LW.ent (bW.lazy (t:=2) (m:=9) Z Z Z)<|zr<|af<|aD (.one (.tmp Z)) ⟨rfl,rfl⟩
 ·refine LW.skip ?_;exact zT<|qR<|yS Z (aa.buildSlice0 Z bp)<|yS Z (zm Z Z)<|yS Z (aa.appendZX f l Z Z Z Z iC.p Z bp hb Z)<|yS Z (za Z Z)<|nT<|zr<|aD (.one (.tmp Z)) ⟨rfl,rfl⟩
def qv (v:Vw):Option Vw:=bif bG 0 v.B.length 40 then bif bG 0 v.V.length 32 then some v else none else none
theorem Hi {v:Vw}{r_:Vw}(h:qv v=some r_):aq prog 106 [iW v] [iW r_]:=by
 refine zh Tryz.func106 Z Z Z Z ?_;unfold qv at h;refine qR<|yS Z (bv Z Z Z Z Z)<|yS Z (ze Z d7 Z Z)<|nT<|zQ<|LW.ent (bW.slot Z)<|LW.ent (bW.slot Z)<|fC<|yG Z (fun H _=>zA Z Z aL)<|yF Z (zd Z Z Z bL Z Z) Z<|zg h fun q1 h=>?_;refine yF Z (ch.callV (id:=2) (qs:=[(kB v.B)]) Z Z Z (by kernel_rfl) (Ab q1) (fun H=>(.consC zv .nil)) Z) Z ?_;refine yG Z (fun H _=>zA Z Z aS)<|yF Z (zd Z Z Z cq Z Z) Z<|zg h fun q2 h=>?_;refine yF Z (ch.callV (id:=3) (qs:=[(kV v.V)]) Z Z Z (by kernel_rfl) (Ad q2) (fun H=>(.consC zv .nil)) Z) Z ?_;refine yG Z (fun H _=>aa.build Z nF Z Z Z)<|yF Z (zt Z Z Z Z aI Z Z Z) Z ?_;refine LF.nil ⟨by kernel_rfl,?_⟩;refine zT<|zr ?_;cases h;exact zf (.one (eh Z Z))<|(Conv.agg (.cons (Conv.vecAll Z Z Z) (.cons (Conv.vecAll Z Z Z) .nil)))
theorem tZ {v r_:Vw}(h:qv v=some r_):v=r_:=by
 unfold qv at h;obtain⟨_,h⟩:=zG h;obtain⟨_,h⟩:=zG h;exact zJ h
structure fU where
 t8:Int
def lq (l:List Of)(x1:fU):Option (fU⊕fU):=bif decide (x1.t8<(l.length:Int))then (ix l x1.t8).bind fun y1=>(qv y1.V).bind fun _=>(ix l x1.t8).bind fun _=>some (.inl (fU.mk (i64.wrap (x1.t8+1))))else some (.inr (fU.mk x1.t8))
def sQ (l:List Of):Option (List Of):=bif bG 0 l.length 104 then (iter (lq l) aY (fU.mk 0)).bind fun _=>some l else none
theorem KJ {l:List Of}{r_:(List Of)}(h:sQ l=some r_):aq prog 105 [.slice 9 (l.map da)] [.slice 9 (r_.map da)]:=by
 refine zh Tryz.func105 Z Z Z Z ?_;unfold sQ at h;refine qR<|mN Z<|qR<|zM Z<|zg h fun q1 h=>yS Z (aa.callV (qs:=[(kO l)]) Z Z Z (by kernel_rfl) (Hk q1) (.consC zv .nil) Z Z)<|mN Z<|zQ<|qR<|zM Z<|yS Z (aa.lenVM Z Z Z (by kernel_rfl))<|mN Z ?_;obtain⟨v1,p1,b1⟩:=zB h;clear h;refine LW.tail (E:=[(0,(jO 0 l)),(2,.zs)]) (O:=[.vec 9 (l.map da)]) ?_<|fun e1 K1 u1=>?_
 ·refine LW.block ?_;refine LW.iterB (E:=fun x1:fU=>[(0,(jO 0 l)),(2,.zs),(7,.p (.int .i64 (l.length:Int))),(8,(iQ x1.t8))]) (O:=fun x1=>[.vec 9 (l.map da)]) p1 (au 1 ⟨Z,Z,Z,Z,t_⟩)<|fun x1 z1 h m1=>?_;unfold lq at h;refine qR<|yS Z (am Z Z Z Z)<|nT<|zQ ?_;refine zX Z (fun g1=>?_)<|fun g1=>?_
  ·refine zi g1 h fun h=>zk<|zT<|zQ<|zl<|qR<|zM Z<|mN Z<|zR<|zM Z<|zM Z<|zM Z<|zM Z<|zb h fun y1 j1 h=>yS Z (aa.indexAddrVX Z Z Z Z bp j1)<|yS Z (aa.fieldAddrV Z Z Z Z fZ)<|yS Z (aa.loadVX Z Z Z aI j1 Z Z Z Z)<|zb h fun v2 a2 h=>?_;obtain rfl:=tZ a2;refine yS Z (yP Z Z Z (Hi a2) dB)<|zb h fun y2 j2 h=>yS Z (aa.indexAddrVX Z Z Z Z bp j2)<|yS Z (aa.fieldAddrV Z Z Z Z fZ) ?_;obtain rfl:=zJ (j1.symm.trans j2);refine yS Z (aa.storeVS (f:=da) (l:=l) Z Z Z Z aI (fun _=>rfl) j2 Z Z Z Z Z) ?_;refine zN<|ae<|zT<|zR<|yS Z (am Z Z Z Z)<|mN Z ?_;cases h;exact⟨_,rfl,au 1 ⟨Z,Z,Z,Z,t_⟩⟩
  ·refine zo g1 h fun h=>zq<|aj<|aj<|zy<|zT ?_;cases h;obtain rfl:=(m1 _ rfl);exact au 1 ⟨Z,Z,t_⟩
 ·have h:=b1;clear p1;refine zT<|LW.weak u1<|qR<|zM Z<|mN Z<|zr ?_;cases h;exact zf (.one (.tmp Z))<|(Conv.vecAll Z Z Z)
theorem yQ {v r_:List Of}(h:sQ v=some r_):v=r_:=by
 unfold sQ at h;obtain⟨_,h⟩:=zG h;obtain⟨_,_,h⟩:=zB h;exact zJ h
structure fT where
 t20:Int
def lp (w:Wd)(x1:fT):Option (fT⊕fT):=bif decide (x1.t20<(w.N.length:Int))then (ix w.N x1.t20).bind fun y1=>(qv y1.V).bind fun _=>(qv y1.In).bind fun _=>(sQ y1.O).bind fun _=>some (.inl (fT.mk (i64.wrap (x1.t20+1))))else some (.inr (fT.mk x1.t20))
def sP (w:Wd):Option Wd:=bif bG 0 w.Bad.length 8 then bif bG 0 w.N.length 176 then (sQ w.O).bind fun _=>(iter (lp w) aY (fT.mk 0)).bind fun _=>some w else none else none
theorem KI {w:Wd}{r_:Wd}(h:sP w=some r_):aq prog 60 [xJ w] [xJ r_]:=by
 refine zh Tryz.func60 Z Z Z Z ?_;unfold sP at h;refine qR<|yS Z (bv Z Z Z Z Z)<|yS Z (ze Z gS Z Z)<|nT<|zQ<|LW.ent (bW.slot Z)<|LW.ent (bW.slot Z)<|fC<|yG Z (fun H _=>zA Z Z dc)<|yF Z (zd Z Z Z d6 Z Z) Z<|zg h fun q1 h=>?_;refine yF Z (ch.callV (id:=2) (qs:=[(kI w.Bad)]) Z Z Z (by kernel_rfl) (BI q1) (fun H=>(.consC zv .nil)) Z) Z ?_;refine yG Z (fun H _=>zA Z Z bF)<|yF Z (zd Z Z Z cY Z Z) Z<|zg h fun q2 h=>?_;refine yF Z (ch.callV (id:=3) (qs:=[.p (.slice 12 (w.N.map dH))]) Z Z Z (by kernel_rfl) (L4 q2) (fun H=>(.consC zv .nil)) Z) Z ?_;refine yG Z (fun H _=>zA Z Z eJ)<|yF Z (zd Z Z Z bq Z Z) Z<|zb h fun v1 a1 h=>?_;obtain rfl:=yQ a1;refine yF (F:=[]) (s:=none) Z (fun H _=>yP Z Z Z (KJ a1) dB) Z ?_;refine yG Z (fun H _=>zA Z Z dc)<|yF Z (zt Z Z Z Z d6 Z Z Z) Z<|yG Z (fun H _=>zA Z Z bF)<|yF Z (zt Z Z Z Z cY Z Z Z) Z<|yG Z (fun H _=>zA Z Z eJ)<|yF Z (zt Z Z Z Z bq Z Z Z) Z ?_;refine LF.nil ⟨by kernel_rfl,?_⟩;refine zT<|zQ<|qR<|yS Z (zA Z Z bF)<|yS Z (zD Z Z Z cY Z Z)<|yS Z (aa.lenVM Z Z Z (by kernel_rfl))<|mN Z ?_;obtain⟨v2,p2,b2⟩:=zB h;clear h;refine LW.tail (E:=[(1,.ptr 0 0),(2,.ptr 1 0)]) (O:=[.box [(kI w.C.W),(uQ w.C.Seed),(iQ w.C.Epoch),(iQ w.C.Num),(iQ w.C.Den),(jI 2 w.Bad),(iQ w.Tick),.vec 12 3 (w.N.map dH).length 0 (w.N.map dH).length,(kO w.O)],.box ph,.vec 1 (w.Bad.map be),.vec 12 (w.N.map dH)]) ?_<|fun e2 K2 u2=>?_
 ·refine LW.block ?_;refine LW.iterB (E:=fun x1:fT=>[(1,.ptr 0 0),(2,.ptr 1 0),(19,.p (.int .i64 (w.N.length:Int))),(20,(iQ x1.t20))]) (O:=fun x1=>[.box [(kI w.C.W),(uQ w.C.Seed),(iQ w.C.Epoch),(iQ w.C.Num),(iQ w.C.Den),(jI 2 w.Bad),(iQ w.Tick),.vec 12 3 (w.N.map dH).length 0 (w.N.map dH).length,(kO w.O)],.box ph,.vec 1 (w.Bad.map be),.vec 12 (w.N.map dH)]) p2 (au 4 ⟨Z,Z,Z,Z,t_⟩)<|fun x1 z1 h m1=>?_;unfold lp at h;refine qR<|yS Z (am Z Z Z Z)<|nT<|zQ ?_;refine zX Z (fun g1=>?_)<|fun g1=>?_
  ·refine zi g1 h fun h=>zk<|zT<|zQ<|zl<|qR<|zM Z<|mN Z<|qR<|yS Z (zA Z Z bF)<|yS Z (zD Z Z Z cY Z Z)<|zM Z<|zb h fun y1 j1 h=>yS Z (aa.indexAddrVX Z Z Z Z dM j1)<|mN Z<|dy<|zH Z<|zH Z<|zH Z<|zH Z<|yE Z (aa.nilCheckV Z Z Z Z)<|yE Z (aa.fieldAddrV Z Z Z Z bO)<|yE Z (aa.loadVX Z Z Z aI j1 Z Z Z Z)<|zb h fun v3 a3 h=>?_;obtain rfl:=tZ a3;refine yE Z (yP Z Z Z (Hi a3) dB)<|zH Z<|yE Z (aa.nilCheckV Z Z Z Z)<|yE Z (aa.fieldAddrV Z Z Z Z br)<|yE Z (aa.loadVX Z Z Z aI j1 Z Z Z Z)<|zb h fun v4 a4 h=>?_;obtain rfl:=tZ a4;refine yE Z (yP Z Z Z (Hi a4) dB)<|zH Z<|yE Z (aa.nilCheckV Z Z Z Z)<|yE Z (aa.fieldAddrV Z Z Z Z bB)<|yE Z (aa.loadVX Z Z Z bq j1 Z Z Z Z)<|zb h fun v5 a5 h=>?_;obtain rfl:=yQ a5;refine yE Z (yP Z Z Z (KJ a5) dB)<|yE Z (aa.nilCheckV Z Z Z Z)<|yE Z (aa.fieldAddrV Z Z Z Z bO) ?_;refine yE Z (aa.storeVS (f:=dH) (l:=w.N) Z Z Z Z aI (fun _=>rfl) j1 Z Z Z Z Z) ?_;refine yE Z (aa.nilCheckV Z Z Z Z)<|yE Z (aa.fieldAddrV Z Z Z Z br) ?_;refine yE Z (aa.storeVS (f:=dH) (l:=w.N) Z Z Z Z aI (fun _=>rfl) j1 Z Z Z Z Z) ?_;refine yE Z (aa.nilCheckV Z Z Z Z)<|yE Z (aa.fieldAddrV Z Z Z Z bB) ?_;refine yE Z (aa.storeVS (f:=dH) (l:=w.N) Z Z Z Z bq (fun _=>rfl) j1 Z Z Z Z Z) ?_;refine LO.nil<|ae<|zT<|zR<|yS Z (am Z Z Z Z)<|mN Z ?_;cases h;exact⟨_,rfl,au 4 ⟨Z,Z,Z,Z,t_⟩⟩
  ·refine zo g1 h fun h=>zq<|aj<|aj<|zy<|zT ?_;cases h;obtain rfl:=(m1 _ rfl);exact au 4 ⟨Z,Z,t_⟩
 ·have h:=b2;clear p2;refine zT<|LW.weak u2<|qR<|yS Z (zD Z Z Z bD Z Z)<|yS Z (zs Z Z Z Z bD Z Z Z Z)<|nT<|zr ?_;cases h;exact zf (.one (eh Z Z))<|(Conv.agg (.cons zv (.cons zv (.cons zv (.cons zv (.cons zv (.cons (Conv.vecAll Z Z Z) (.cons zv (.cons (Conv.vecAll Z Z Z) dB)))))))))
end Go.Mg
