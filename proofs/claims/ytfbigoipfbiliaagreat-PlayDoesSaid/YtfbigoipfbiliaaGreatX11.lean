/- What the references of trees and cursors tell is what the program tells; CursorMoves, TreeTells. Conditions: none. -/
import Derived.Test.YtfbigoipfbiliaaGreatX10
set_option maxRecDepth 100000
set_option linter.unusedSimpArgs false
set_option linter.unusedVariables false
namespace Go.Mg
open IntKind (i64 u64)
open Go.Proofs.Tryz (prog)
open List (length_drop length_singleton mem_append mem_filter)
open Go.Proofs
variable {α : Type} {a : Vw} {c : Cf} {f : α -> PV} {id : ID} {l : List Bk} {m : List (ID × Int)} {r_ : Bool} {slot : Int} {x : Nd}
theorem CH (h:places l=some m){i:Int}(hf:am m id=some i):ap (l.map nm) id=i:=by
 have:=ml h id;rw[hf]at this;split at this
 ·rename_i e;subst e;rw[pD h];cases this;rfl
 ·split at this
  ·cases this;rfl
  ·cases this
theorem DX (h:places l=some m)(hf:am m id=none):ap (l.map nm) id= -1/\id≠(0,0):=by
 have:=ml h id;rw[hf]at this;split at this
 ·cases this
 ·rename_i hne;split at this
  ·cases this
  ·rename_i h2;have:=Bq (l.map nm) id;exact⟨by omega,hne⟩
section
variable {l : List Bk} (hk : kd l) (hl : l.length <= 1000)
include hk hl
omit hk in
theorem Hk :Cr (l.map nm) id=some (ap (l.map nm) id):=rl (by simp;omega)
omit hk in
theorem Bc (h:places l=some m){names:List ID}(hnames:l.map nm=names){i:Int}(hf:am m id=some i) :
  ∃b,iter (rh l names) aY ⟨i,id,[id]⟩=some b/\b.out=cr l (i+1).toNat id i:=by
 have h98:∀x,Cr names x=some (ap names x):=fun x=>rl (by rw[<-hnames];simp;omega)
 refine bA (step:=rh l names)
  (fun x=>∃d,am m d=some x.i/\x.out.length+(x.i+1).toNat<=1001+1/\∃o,x.out=o++[d]/\cr l (i+1).toNat id i=o++cr l (x.i+1).toNat d x.i)
  (fun x=>(x.i+1).toNat) (fun b=>b.out=cr l (i+1).toNat id i) ?_ ⟨id,hf,?_,[],rfl,rfl⟩ (cq ?_)
 ·rintro⟨j,d',out⟩ ⟨d,hd,hlen,o,ho,hc⟩;simp only at hd hlen ho hc⊢;obtain⟨h1,h2⟩|⟨b,p,h0,h1,h2,h3,h4,h5,h6,h7⟩:=(bd h).known _ _ hd
  ·right;refine⟨⟨j,d',out⟩,?_,?_⟩
   ·simp only[rh];rw[aR (by omega)];rfl
   ·rw[hc,ho,h1];rfl
  ·left;refine⟨⟨p,b.Parent,out++[b.Parent]⟩,?_,⟨b.Parent,h4,?_,out,rfl,?_⟩,?_⟩
   ·simp only[rh];rw[aP (by omega),Kb h0 h2];simp only[ct,ob,h98];rw[aC (by simp;omega),<-hnames,CH h h4];rfl
   ·simp;omega
   ·rw[hc,gy (id:=d) h (by omega) h0 h2 h4 h5 h6,ho];simp
   ·simp only;omega
 ·simp only[length_singleton];rcases np h hf with⟨rfl,-⟩|⟨b,h0,h1,-⟩ <;>omega
 ·simp only;rcases np h hf with⟨rfl,-⟩|⟨b,h0,h1,-⟩ <;>omega
theorem FQ (id:ID):L2 l id=some (ao l id):=by
 simp only[L2,wt hk hl,ob,AT hl,Hk hl];unfold ao
 cases h:places l with
 |none=>rfl
 | some m=>
  simp only[Option.isSome_some,Bool.not_true,cf,yO]
  cases hf:am m id with
  |none=>
   have:=DX h hf;rw[this.1];simp[this.2]
  | some i=>
   rw[CH h hf];obtain⟨b,hb,hpost⟩:=Bc hl h rfl hf
   have hin:(bif decide (i<0)then bif !(decide (id=(0,0)))then(some (.inr []):Option (Unit⊕List ID))else some (.inl ())else some (.inl ()))=some (.inl ()):=by
    rcases np h hf with⟨rfl,rfl⟩|⟨b,h0,h1,-⟩
    ·rfl
    ·rw[aR (by omega)];rfl
   rw[hin];simp only[ob,sl,hb,hpost]
theorem KC (low id:ID):KB l low id=some (decide (ap (ao l id) low>=0)):=by
 have:=oc (l:=l) id;simp only[KB,FQ hk hl,ob,rl (names:=ao l id) (id:=low) (by omega)]
theorem Kz (c:Cu)(head found:ID)(is:Bool)(slot:Int):Mf c l head found is slot=some (dK c l head found is slot):=by
 simp only[Mf,KC hk hl,ob,ry];by_cases h:0<=ap (ao l head) c.ID
 ·rw [Hf h,aP (show ap (ao l head) c.ID>=0 from h)];simp only[Bool.not_true,cf,ob];by_cases hf:0<=ap (ao l head) found
  ·rw [aP (show ap (ao l head) found>=0 from hf)];have hle:=GK (dj.1 hf) (dj.1 h);by_cases e:c.ID=found
   ·rw[aP e,i0_ (by rintro⟨-,-,h3⟩;rw[e]at h3;omega)];cases is <;>simp
   ·rw[aR e];by_cases hlow:0<=ap (ao l found) c.ID
    ·have h1:=hle.1 (dj.1 hlow)
     have h2:ap (ao l head) found≠ap (ao l head) c.ID:=fun e2=>by
      obtain⟨a,h3,h4⟩:=gz (dj.1 hf);obtain⟨b,h5,h6⟩:=gz (dj.1 h);rw[h4,h6]at e2
      have:a=b:=by omega
      subst this;rw[h3]at h5;cases h5;exact e rfl
     rw[aP (show ap (ao l found) c.ID>=0 from hlow)];cases is
     ·simp
     ·rw[i1_ ⟨rfl,hf,by omega⟩];simp
    ·rw[aR (show¬ap (ao l found) c.ID>=0 from hlow),i0_ (by rintro⟨-,-,h3⟩;exact hlow (dj.2 (hle.2 (by omega))))];cases is <;>simp
  ·rw[aR (show¬ap (ao l head) found>=0 from hf),i0_ (by rintro⟨-,h2,-⟩;exact hf h2)];cases is <;>cases decide (ap (ao l found) c.ID>=0) <;>simp
 ·rw [He hl (by omega),aR (show¬ap (ao l head) c.ID>=0 from h)];simp only[Bool.not_false,ct,ob];by_cases hf:0<=ap (ao l head) found
  ·rw[aP (show ap (ao l head) found>=0 from hf)];have hf':=dj.1 hf
   have hne:ao l head≠[]:=fun e=>by rw[e]at hf';cases hf'
   have hself:=Bd hf';have hz:0<=ap (ao l found) (0,0):=dj.2 (pb (fun e=>by rw[e]at hself;cases hself));rw[aP (show ap (ao l found) (0,0)>=0 from hz)]
   have hlast:ap (ao l head) (0,0)=(ao l head).length-1:=by
    obtain⟨a,h3,h4⟩:=gz (pb hne);have h5:=tQ h3
    have h6:(ao l (0,0)).length=1:=by
     unfold ao
     cases hp:places l with
     |none=>unfold ao at hne;rw[hp]at hne;exact absurd rfl hne
     |some m=>simp only[(bd hp).zero];rfl
    have ha:=(List.getElem?_eq_some_iff.1 h3).1;rw[h5,length_drop]at h6;rw[h4];omega
   by_cases e:(0,0)=found
   ·rw[aP e,i0_ (by rintro⟨-,-,h3⟩;rw[<-e]at h3;omega)];cases is <;>simp
   ·rw[aR e]
    have h2:ap (ao l head) found≠ap (ao l head) (0,0):=fun e2=>by
     obtain⟨a,h3,h4⟩:=gz hf';obtain⟨b,h5,h6⟩:=gz (pb hne);rw[h4,h6]at e2
     have:a=b:=by omega
     subst this;rw[h3]at h5;cases h5;exact e rfl
    have h3:=uk (l:=ao l head) (v:=found);cases is
    ·simp
    ·rw[i1_ ⟨rfl,hf,by omega⟩];simp
  ·rw[aR (show¬ap (ao l head) found>=0 from hf),i0_ (by rintro⟨-,h2,-⟩;exact hf h2)];cases is <;>cases decide (ap (ao l found) (0,0)>=0) <;>simp
end
theorem sf {a b:Int}(ha:0<=a/\a<=26388279066624)(hb:0<=b/\b<=3000):vq a b=some (0,0,a / 4294967296*b+a % 4294967296*b / 4294967296,a % 4294967296*b % 4294967296):=by
 have hM:decide ((4294967296:Int)≠0)=true:=by decide
 have e1:b.tdiv 4294967296=0:=by rw[Int.tdiv_eq_ediv_of_nonneg (by omega)];omega
 have e2:b.tmod 4294967296=b:=by rw[Int.tmod_eq_emod_of_nonneg (by omega)];omega
 have e3:a.tdiv 4294967296=a / 4294967296:=Int.tdiv_eq_ediv_of_nonneg (by omega);have e4:a.tmod 4294967296=a % 4294967296:=Int.tmod_eq_emod_of_nonneg (by omega)
 have q0:0<=a / 4294967296/\a / 4294967296<=6144:=by omega
 have r0:0<=a % 4294967296/\a % 4294967296<=4294967295:=by omega
 unfold vq;generalize a / 4294967296=q at e3 q0⊢;generalize a % 4294967296=r at e4 r0⊢;have u0:0<=r*b:=Int.mul_nonneg r0.1 hb.1;have u1:r*b<=4294967295*3000:=Int.mul_le_mul r0.2 hb.2 hb.1 (by omega);have v0:0<=q*b:=Int.mul_nonneg q0.1 hb.1;have v1:q*b<=6144*3000:=Int.mul_le_mul q0.2 hb.2 hb.1 (by omega);have f1:i64.wrap q=q:=cX;have f2:u64.wrap q=q:=gO;have f3:u64.wrap r=r:=gO;have f4:u64.wrap b=b:=gO
 have w0:u64.wrap 0=0:=by decide
 have i0:i64.wrap 0=0:=by decide
 simp only[hM,cond_true,e1,e2,e3,e4,f1,f2,f3,f4,w0,i0,Int.mul_zero];generalize r*b=u at u0 u1⊢;generalize q*b=v at v0 v1⊢;have g1:u64.wrap u=u:=gO;have g2:u.tdiv 4294967296=u / 4294967296:=Int.tdiv_eq_ediv_of_nonneg u0;have g3:u.tmod 4294967296=u % 4294967296:=Int.tmod_eq_emod_of_nonneg u0;have g4:u64.wrap v=v:=gO;simp only[g1,g2,g3,g4]
 have k1:0<=u / 4294967296/\u / 4294967296<=3000:=by omega
 have k2:0<=u % 4294967296/\u % 4294967296<=4294967295:=by omega
 generalize u / 4294967296=s at k1⊢;generalize u % 4294967296=t at k2⊢;have j1:u64.wrap s=s:=gO;have j2:i64.wrap s=s:=cX;have j3:i64.wrap t=t:=cX;have j4:u64.wrap (v+s)=v+s:=gO;simp only[j1,j2,j3,j4]
 have l1:(v+s).tmod 4294967296=v+s:=by rw[Int.tmod_eq_emod_of_nonneg (by omega)];omega
 have l2:(v+s).tdiv 4294967296=0:=by rw[Int.tdiv_eq_ediv_of_nonneg (by omega)];omega
 have l3:i64.wrap (v+s)=v+s:=cX
 have l4:(0:Int).tdiv 4294967296=0:=by decide
 have l5:(0:Int).tmod 4294967296=0:=by decide
 simp only[l1,l2,l3,l4,l5,j4,w0,i0,Int.zero_add,Int.add_zero];rfl
theorem p0 {n:Int}(h:0<=n/\n<=4611686018427387904):se n=some true:=by
 unfold se;rw[aP (show n>=0 from h.1),ct,aP h.2]
theorem FC {a b c d:Int}(ha:0<=a/\a<=26388279066624)(hb:0<=b/\b<=3000)(hc:0<=c/\c<=26388279066624)(hd:0<=d/\d<=3000):xX a b c d=some (decide (a*b>c*d)):=by
  have split:∀x y:Int,x*y=4294967296*(x / 4294967296*y+x % 4294967296*y / 4294967296)+x % 4294967296*y % 4294967296:=by
    intro x y;have h1:=Int.emod_add_mul_ediv (x % 4294967296*y) 4294967296;have h2:=Int.emod_add_mul_ediv x 4294967296
    have h3:x*y=x % 4294967296*y+4294967296*(x / 4294967296*y):=by
      conv=>lhs;rw[<-h2]
      rw[Int.add_mul,Int.mul_assoc]
    generalize x % 4294967296*y=p at h1 h3⊢;generalize x / 4294967296*y=q at h3⊢;omega
  have sa:=split a b;have sc:=split c d
  have ma:0<=a % 4294967296*b % 4294967296/\a % 4294967296*b % 4294967296<4294967296:=by omega
  have mc:0<=c % 4294967296*d % 4294967296/\c % 4294967296*d % 4294967296<4294967296:=by omega
  unfold xX;rw[p0 ⟨ha.1,by omega⟩,ob,p0 ⟨hb.1,by omega⟩,ob,p0 ⟨hc.1,by omega⟩,ob,p0 ⟨hd.1,by omega⟩,ob,Bool.not_true,cf,cf,cf,ob,cf,sf ha hb,ob,sf hc hd,ob,sa,sc];generalize a / 4294967296*b+a % 4294967296*b / 4294967296=h1;generalize a % 4294967296*b % 4294967296=l1 at ma⊢;generalize c / 4294967296*d+c % 4294967296*d / 4294967296=h2;generalize c % 4294967296*d % 4294967296=l2 at mc⊢
  obtain⟨r,hr,hp⟩:=bA (step:=pX (0,0,h1,l1) (0,0,h2,l2)) (fun x=>(x.i=0\/x.i=1\/x.i=2\/x.i=3\/x.i=4)/\(3<=x.i->h1=h2)/\(4<=x.i->l1=l2)) (fun x=>(4-x.i).toNat) (fun b=>b=.inr (decide (4294967296*h1+l1>4294967296*h2+l2))\/((∃x,b=.inl x)/\h1=h2/\l1=l2)) (by
    rintro⟨i⟩ ⟨hi,k1,k2⟩;simp only at hi k1 k2;unfold pX;rcases hi with rfl|rfl|rfl|rfl|rfl
    · exact .inl ⟨⟨1⟩,rfl,⟨by simp,by simp,by simp⟩,by simp⟩
    · exact .inl ⟨⟨2⟩,rfl,⟨by simp,by simp,by simp⟩,by simp⟩
    · by_cases e:h1=h2
      · subst e;refine .inl ⟨⟨3⟩,?_,⟨by simp,fun _=>rfl,by simp⟩,by simp⟩;show(bif h1 != h1 then _ else _)=_;rw[show(h1 != h1)=false by simp,cf];rfl
      · refine .inr ⟨.inr (decide (h1>h2)),?_,.inl ?_⟩
        · show(bif h1 != h2 then _ else _)=_;rw[show(h1 != h2)=true by simp[e],ct]
        · congr 1;exact decide_eq_decide.2 (by omega)
    · have e:=k1 (by omega);subst e;by_cases e:l1=l2
      · subst e;refine .inl ⟨⟨4⟩,?_,⟨by simp,fun _=>rfl,fun _=>rfl⟩,by simp⟩;show(bif l1 != l1 then _ else _)=_;rw[show(l1 != l1)=false by simp,cf];rfl
      · refine .inr ⟨.inr (decide (l1>l2)),?_,.inl ?_⟩
        · show(bif l1 != l2 then _ else _)=_;rw[show(l1 != l2)=true by simp[e],ct]
        · congr 1;exact decide_eq_decide.2 (by omega)
    · exact .inr ⟨_,rfl,.inr ⟨⟨_,rfl⟩,k1 (by omega),k2 (by omega)⟩⟩) (n:=aY) (x:=⟨0⟩) ⟨.inl rfl,by simp,by simp⟩ (cq (by simp))
  rw[hr,ob];rcases hp with rfl|⟨⟨x,rfl⟩,rfl,rfl⟩
  · rfl
  · rw[aR (by omega)];rfl
theorem LQ (h:¬dV l)(v:List Vt)(id:ID):lJ c l v id=0:=by
 have hn:places l=none:=by
  cases hp:places l with
  |none=>rfl
  |some m=>exact absurd (show(places l).isSome=true by rw[hp];rfl) h
 have:mL l v id=[]:=by
  unfold mL;rw[show(v.filter fun x=>gM l id x.Head)=[]from List.filter_eq_nil_iff.2 fun x _=>by unfold gM ao;rw[hn];simp];rfl
 unfold lJ;rw[this,LZ]
theorem FF (hW:c.W.length<=1000)(hb:kd l)(hl:l.length<=1000){v:List Vt}(hv:v.length<=1000)(id:ID):x5 c l v id=some (lJ c l v id):=by
 unfold x5;rw[wt hb hl,ob,Ca hl,ob]
 cases hp:places l with
 |none=>
  rw[LQ (by intro h;unfold dV at h;rw[hp]at h;cases h)];rfl
 |some m=>
  rw[Option.isSome_some,Bool.not_true,cf,Ch hW hl hp hv,ob]
theorem Fz (hm:cY c){w:Vw}(hb:kd w.B)(h1:w.B.length<=1000)(h2:w.V.length<=1000)(slot:Int)(id:ID):xU c w slot id=some (decide (m8 c w slot id)):=by
 have hW:c.W.length<=1000:=by have:=hm.2.1;omega
 have hg:=qu c w.V slot;have hc:=rx c slot;have hwt:=Df c (pF c slot);have hon:0<=lJ c w.B (dF c w.V slot) id/\lJ c w.B (dF c w.V slot) id<=13194139533312:=Df _ _;obtain⟨-,-,-,-,-,m1,m2,m3,m4⟩:=hm;unfold xU Cp;rw[AQ hW,ob,F3 hW (by omega),ob,xS hW (by omega),ob,FF hW hb h1 (by omega),ob,ob,cX,cX (n:=2*c.Num),cX,FC ⟨by omega,by omega⟩ ⟨by omega,by omega⟩ ⟨by omega,by omega⟩ ⟨by omega,by omega⟩,ob];rfl
theorem Fx (hm:cY c){w:Vw}(hb:kd w.B)(h1:w.B.length<=1000)(h2:w.V.length<=1000)(slot:Int)(head:ID):xR c w slot head=pR c w slot head:=by
 rw[xM hm h1 h2];have hcl:(ao w.B head).length<=w.B.length+1:=oc head;unfold xR;rw[FQ hb h1,ob];generalize ao w.B head=C at hcl⊢
 obtain⟨r,hr,hp⟩:=bA (step:=pW c w slot C) (fun x=>∃k:Nat,x.i=k/\k<=C.length/\pz c w slot (C.drop k)=pz c w slot C) (fun x=>C.length-x.i.toNat) (fun b=>b=.inr (pz c w slot C)\/((∃x,b=.inl x)/\pz c w slot C=((0,0),false))) (by
  rintro⟨i⟩ ⟨k,hi,hk,ht⟩;simp only at hi;subst hi;unfold pW;simp only;rw[ah (n:=k)];by_cases hlt:k+1<C.length
  ·obtain⟨y,hy,-⟩:=az (l:=C) (n:=k);have hat:=Da (c:=c) (w:=w) (slot:=slot) (l:=C.drop k) (y:=y) (by rw[List.getElem?_drop];exact hy) (by rw[length_drop];omega);rw[aP (show((k+1:Nat):Int)<(C.length:Int) by omega),ct,au hy,ob,Fz hm hb h1 h2,ob,ob];by_cases hs:m8 c w slot y
   ·rw[aP hs,ct];exact .inr ⟨_,rfl,.inl (by rw[<-ht,hat,i1_ hs])⟩
   ·rw[aR hs,cf];refine .inl ⟨_,rfl,⟨k+1,rfl,by omega,?_⟩,by simp only;omega⟩;rw[<-ht,hat,i0_ hs,List.drop_drop]
  ·rw[aR (show¬((k+1:Nat):Int)<(C.length:Int) by omega),cf]
   exact .inr ⟨_,rfl,.inr ⟨⟨_,rfl⟩,by rw[<-ht,uJ (by rw[length_drop];omega)]⟩⟩) (n:=aY) (x:=⟨0⟩) ⟨0,rfl,by omega,rfl⟩ (cq (by simp only;omega))
 rw[hr,ob];rcases hp with rfl|⟨⟨x,rfl⟩,e⟩
 ·rfl
 ·rw[e];rfl
def Co (no:Int):Option Nd:=some (Nd.mk no 3 (Vw.mk [] []) (Vw.mk [] []) [] (Cu.mk (0,0) 0 0) false)
theorem Nf {no:Int}{r_:Nd}(h:Co no=some r_):aq prog 18 [.int .i64 no] [du r_]:=by
 refine zh Tryz.func18 Z Z Z Z ?_;unfold Co at h;refine qR<|yS Z (ze Z eU Z Z)<|nT<|qR<|zM Z<|yS Z (aa.build Z wz Z Z Z)<|yS Z (zs Z Z Z Z aM Z Z Z Z)<|nT<|zr ?_;cases h;exact zf (.one (er Z Z))<|(Conv.agg (.cons zv (.cons zv (.cons Conv.zs (.cons Conv.zs (.cons Conv.zs (.cons Conv.zs (.cons Conv.zs BP))))))))
def xD (n:Nd):Option Vw:=(tc n.V n.In).bind fun v1=>some v1
theorem Nb {n:Nd}{r_:Vw}(h:xD n=some r_):aq prog 16 [du n] [iB r_]:=by
 refine zh Tryz.func16 Z Z Z Z ?_;unfold xD at h;refine qR<|yS Z (bx Z Z Z Z Z)<|yS Z (ze Z d5 Z Z)<|nT<|qR<|yS Z (zA Z Z bI)<|yS Z (zD Z Z Z aG Z Z)<|yS Z (zA Z Z bp)<|yS Z (zD Z Z Z aG Z Z)<|zb h fun v1 a1 h=>yS Z (yP Z Z Z (A6 a1) bG)<|yS Z (zs Z Z Z Z aG Z Z Z Z)<|nT<|zr ?_;cases h;exact zf (.one (er Z Z)) zv
structure ew where
 i:Int
 n_11:Bool
 o3:List Of
def kZ (c:Cf)(n:Nd)(o:List Of)(x1:ew):Option (ew⊕ew):=bif decide (x1.i<((n.O++o).length:Int))then (bif (n.Tick.tmod 3)==2 then some true else (ix (n.O++o) x1.i).bind fun y1=>bif y1.Slot != (i64.wrap (n.Tick.tdiv 3))then some true else (ix (n.O++o) x1.i).bind fun y2=>(HW c (i64.wrap (n.Tick.tdiv 3))).bind fun v3=>some (y2.From != v3)).bind fun v2=>bif v2 then some (.inl (ew.mk (i64.wrap (x1.i+1)) x1.n_11 x1.o3))else bif decide ((x1.o3.length:Int)>=8)then some (.inl (ew.mk (i64.wrap (x1.i+1)) true x1.o3))else (ix (n.O++o) x1.i).bind fun y3=>bif bJ x1.o3.length [y3].length 104 then some (.inl (ew.mk (i64.wrap (x1.i+1)) x1.n_11 (x1.o3++[y3])))else none else some (.inr (ew.mk x1.i x1.n_11 x1.o3))
def xG (c:Cf)(n:Nd)(o:List Of):Option Nd:=bif bJ 0 n.O.length 104 then bif bJ n.O.length o.length 104 then (iter (kZ c n o) aY (ew.mk 0 n.Full ([]:List Of))).bind fun v1=>some (Nd.mk n.No n.Tick n.V n.In v1.o3 n.C v1.n_11)else none else none
theorem Nh {n:Nd}{o:List Of}{r_:Nd}(h:xG c n o=some r_):aq prog 48 [gQ c,du n,.slice 9 (o.map cZ)] [du r_]:=by
 refine zh Tryz.func48 Z Z Z Z ?_;unfold xG at h;refine qR<|yS Z (bx Z Z Z Z Z)<|yS Z (bx Z Z Z Z Z)<|yS Z (ze Z eU Z Z)<|nT<|qR<|yS Z (zA Z Z cv)<|yS Z (zD Z Z Z aW Z Z)<|yS Z (aa.quo Z Z Z (by decide))<|mN Z<|qR<|yS Z (zA Z Z bz)<|yS Z (zD Z Z Z bk Z Z)<|zg h fun q1 h=>yS Z (aa.appendZX cZ n.O Z Z Z Z iy.p Z bq q1 Z)<|zM Z<|zg h fun q2 h=>yS Z (aa.appendX cZ n.O o Z Z Z Z iy.p Z bq q2 Z)<|mN Z<|zQ<|LW.ent (bY.frz (t:=8) (env':=[(0,.p (gQ c)),(1,.p (du n)),(2,(kO o)),(3,.ptr 0 0),(4,.ptr 1 0),(6,.ptr 2 0),(7,.p (.int .i64 (i64.wrap (n.Tick.tdiv 3)))),(10,.ptr 1 1),(11,(iQ n.Tick)),(12,.p (.int .i64 (i64.wrap (n.Tick.tdiv 3)))),(13,.ptr 1 6),(14,(kO n.O)),(16,(kO o))]) (H0:=[.box (ch c),.box (ol n),.box mP]) Z Z Z Z Z ⟨Z,Z,Z,Z,Z,Z,Z,Z,Z,Z,Z,Z,Z,t_⟩ Z Z)<|zR<|yS Z (zA Z Z bz)<|yS Z (zs Z Z Z Z bk Z Z Z Z)<|nT<|zQ<|zQ<|LW.ent (bY.lazyCell (i:=1) (j:=6) (m:=9) Z Z Z Z Z Z)<|zR<|mN Z ?_;obtain⟨v1,p1,c1⟩:=zB h;clear h;refine LW.tail (E:=[(4,.ptr 1 0),(6,.ptr 2 0)]) (O:=[.box (ch c),.box [(iQ n.No),(iQ n.Tick),(kB n.V.B),(kV n.V.V),(kB n.In.B),(kV n.In.V),(jO 3 v1.o3),(uQ n.C.ID.1),(uQ n.C.ID.2),(iQ n.C.Slot),(iQ n.C.Revoked),(bQ v1.n_11)],.box mP,.vec 9 (v1.o3.map cZ)]) ?_<|fun e1 K1 u1=>?_
 ·refine LW.block ?_;refine LW.iterB (E:=fun x1:ew=>[(3,.ptr 0 0),(4,.ptr 1 0),(6,.ptr 2 0),(7,.p (.int .i64 (i64.wrap (n.Tick.tdiv 3)))),(8,.p (.slice 9 ((n.O++o).map cZ))),(9,(iQ x1.i))]) (O:=fun x1=>[.box (ch c),.box [(iQ n.No),(iQ n.Tick),(kB n.V.B),(kV n.V.V),(kB n.In.B),(kV n.In.V),(jO 3 x1.o3),(uQ n.C.ID.1),(uQ n.C.ID.2),(iQ n.C.Slot),(iQ n.C.Revoked),(bQ x1.n_11)],.box mP,.vec 9 (x1.o3.map cZ)]) p1 (av 4 ⟨Z,Z,Z,Z,Z,Z,t_⟩)<|fun x1 z1 h m1=>?_;unfold kZ at h;refine zQ<|qR<|zM Z<|zM Z<|yS Z (ck Z Z)<|yS Z (an Z Z Z Z)<|nT ?_;refine zX Z (fun g1=>?_)<|fun g1=>?_
  ·refine zi g1 h fun h=>zk<|zT<|zQ<|zl<|zQ ?_;obtain⟨v2,p2,c2⟩:=zB h;clear h;refine LW.cut (E:=[(3,.ptr 0 0),(4,.ptr 1 0),(6,.ptr 2 0),(7,.p (.int .i64 (i64.wrap (n.Tick.tdiv 3)))),(8,.p (.slice 9 ((n.O++o).map cZ))),(9,(iQ x1.i)),(48,(bQ v2))]) (O:=[.box (ch c),.box [(iQ n.No),(iQ n.Tick),(kB n.V.B),(kV n.V.V),(kB n.In.B),(kV n.In.V),(jO 3 x1.o3),(uQ n.C.ID.1),(uQ n.C.ID.2),(iQ n.C.Slot),(iQ n.C.Revoked),(bQ x1.n_11)],.box mP,.vec 9 (x1.o3.map cZ)]) ?_ ?_
   ·have h:=p2;refine dx<|yE Z (zA Z Z cv)<|yE Z (zD Z Z Z aW Z Z)<|yE Z (aa.rem Z Z Z (by decide))<|yE Z (an Z Z Z Z)<|zH Z ?_;refine LO.cases 29 Z (fun(g2:((n.Tick.tmod 3)==2)=true)=>?_) (fun(g2:((n.Tick.tmod 3)==2)=false)=>?_)
    ·refine zi g2 h fun h=>yK Z (gd g2 Z) Z<|yK Z (gd g2 Z) Z<|yK Z (gd g2 Z) Z<|yK Z (gd g2 Z) Z<|yK Z (gd g2 Z) Z<|yK Z (gd g2 Z) Z<|yK Z (gd g2 Z) Z<|yE Z (bv Z (aJ g2 Z) Z)<|zH Z<|b8 Z<|b8 Z<|b8 Z<|b8 Z<|b8 Z<|b8 Z<|b8 Z<|b8 Z<|b8 Z<|yE Z (bv Z Z Z)<|LO.nil<|zT ?_;cases h;exact av 4 ⟨Z,Z,Z,Z,Z,Z,Z,t_⟩
    ·refine zo g2 h fun h=>yL Z (gd g2 Z) (zm Z Z)<|yL Z (gd g2 Z) (zm Z Z)<|zb h fun y1 j1 h=>yL Z (gd g2 Z) (zx Z Z Z bq j1 Z)<|yL Z (gd g2 Z) (aa.fieldAddrC Z Z lA Z)<|yL Z (gd g2 Z) (bR Z Z Z aW Z Z)<|yL Z (gd g2 Z) (zm Z Z)<|yL Z (gd g2 Z) (an Z Z Z Z)<|yE Z (aT Z (aJ g2 Z) Z)<|zH Z ?_;refine LO.cases 38 Z (fun(g3:(y1.Slot != (i64.wrap (n.Tick.tdiv 3)))=true)=>?_) (fun(g3:(y1.Slot != (i64.wrap (n.Tick.tdiv 3)))=false)=>?_)
     ·refine zi g3 h fun h=>yK Z (gd g3 Z) Z<|yK Z (gd g3 Z) Z<|yK Z (gd g3 Z) Z<|yK Z (gd g3 Z) Z<|yK Z (gd g3 Z) Z<|yK Z (gd g3 Z) Z<|yK Z (gd g3 Z) Z<|yK Z (gd g3 Z) Z<|yK Z (gd g3 Z) Z<|yE Z (bv Z (aJ g3 Z) Z)<|LO.nil<|zT ?_;cases h;exact av 4 ⟨Z,Z,Z,Z,Z,Z,Z,t_⟩
     ·refine zo g3 h fun h=>yL Z (gd g3 Z) (zm Z Z)<|yL Z (gd g3 Z) (zm Z Z)<|zb h fun y2 j2 h=>yL Z (gd g3 Z) (zx Z Z Z bq j2 Z)<|yL Z (gd g3 Z) (aa.fieldAddrC Z Z lC Z)<|yL Z (gd g3 Z) (bR Z Z Z aW Z Z)<|yL Z (gd g3 Z) (zD Z Z Z be Z Z)<|yL Z (gd g3 Z) (zm Z Z)<|zb h fun v3 a3 h=>yL Z (gd g3 Z) (yP Z Z Z (Pd a3) bG)<|yL Z (gd g3 Z) (an Z Z Z Z)<|yE Z (aT Z (aJ g3 Z) Z)<|LO.nil<|zT ?_;cases h;exact av 4 ⟨Z,Z,Z,Z,Z,Z,Z,t_⟩
   ·have h:=c2;clear p2;refine zX Z (fun g4=>?_)<|fun g4=>?_
    ·refine zi g4 h fun h=>zq<|ai<|zy<|zT<|zR<|zM Z<|yS Z (an Z Z Z Z)<|mN Z ?_;cases h;exact⟨_,rfl,av 4 ⟨Z,Z,Z,Z,Z,Z,t_⟩⟩
    ·refine zo g4 h fun h=>zk<|zT<|zQ<|qR<|yS Z (zA Z Z bz)<|yS Z (zD Z Z Z bk Z Z)<|yS Z (aa.lenVM Z Z Z (by kernel_rfl))<|yS Z (an Z Z Z Z)<|nT ?_;refine zX Z (fun g5=>?_)<|fun g5=>?_
     ·refine zi g5 h fun h=>qR<|yS Z (zA Z Z eJ)<|yS Z (zs Z Z Z Z uS Z Z Z Z)<|nT<|zq<|ai<|zy<|zT<|zR<|zM Z<|yS Z (an Z Z Z Z)<|mN Z ?_;cases h;exact⟨_,rfl,av 4 ⟨Z,Z,Z,Z,Z,Z,t_⟩⟩
     ·refine zo g5 h fun h=>zk<|zT<|fB<|yG Z (fun H _=>zA Z Z bz)<|yF Z (zd Z Z Z bk Z Z) Z<|zK Z<|zK Z<|zb h fun y3 j3 h=>yG Z (fun H _=>zx Z Z Z bq j3 Z)<|yG Z (fun H _=>bR Z Z Z eo Z Z)<|yG Z (fun H _=>gR Z bq Z Z Z Z Z)<|zg h fun q3 h=>yF Z (cj.appendX cZ x1.o3 [y3] rfl Z Z Z Z bq q3) Z<|yG Z (fun H _=>zA Z Z bz)<|yF Z (zt Z Z Z Z bk Z Z Z) Z ?_;refine LF.nil ⟨by kernel_rfl,?_⟩;refine af<|zT<|zR<|zM Z<|yS Z (an Z Z Z Z)<|mN Z ?_;cases h;exact⟨_,rfl,av 4 ⟨Z,Z,Z,Z,Z,Z,t_⟩⟩
  ·refine zo g1 h fun h=>zq<|ai<|ai<|zy<|zT ?_;cases h;obtain rfl:=(m1 _ rfl);exact av 4 ⟨Z,Z,t_⟩
 ·have h:=c1;clear p1;refine zT<|LW.weak u1<|qR<|yS Z (zD Z Z Z aM Z Z)<|yS Z (zs Z Z Z Z aM Z Z Z Z)<|nT<|zr ?_;cases h;exact zf (.one (er Z Z))<|(Conv.agg (.cons zv (.cons zv (.cons zv (.cons zv (.cons zv (.cons zv (.cons (Conv.vecAll Z Z Z) BP))))))))
def sd (c:Cf)(n:Nd)(v_in:Vw)(slot:Int):Option (Nd×Vw):=(xT c n.V v_in slot).bind fun v1=>bif n.Full then some (Nd.mk n.No n.Tick v1.1 n.In n.O n.C true,v1.2.1)else some (Nd.mk n.No n.Tick v1.1 n.In n.O n.C v1.2.2,v1.2.1)
theorem Cy {n:Nd}{v_in:Vw}{r_:Nd×Vw}(h:sd c n v_in slot=some r_):aq prog 94 [gQ c,du n,iB v_in,.int .i64 slot] [du r_.1,iB r_.2]:=by
 refine zh Tryz.func94 Z Z Z Z ?_;unfold sd at h;refine qR<|yS Z (bx Z Z Z Z Z)<|yS Z (bx Z Z Z Z Z)<|yS Z (bx Z Z Z Z Z)<|yS Z (ze Z eU Z Z)<|yS Z (ze Z d5 Z Z)<|nT<|qR<|yS Z (zD Z Z Z be Z Z)<|yS Z (zA Z Z bI)<|yS Z (zD Z Z Z aG Z Z)<|yS Z (zD Z Z Z aG Z Z)<|zM Z<|zb h fun v1 a1 h=>yS Z (yP Z Z Z (Nr a1) we)<|zM Z<|yS Z (eW Z Z Z)<|yS Z (eW Z Z Z)<|yS Z (eW Z Z Z)<|yS Z (ze Z d5 Z Z)<|yS Z (ze Z d5 Z Z)<|yS Z (zs Z Z Z Z aG Z Z Z Z)<|yS Z (zs Z Z Z Z aG Z Z Z Z)<|mN Z<|qR<|yS Z (zD Z Z Z aG Z Z)<|yS Z (zA Z Z bI)<|yS Z (zs Z Z Z Z aG Z Z Z Z)<|nT<|qR<|yS Z (zA Z Z eJ)<|yS Z (zD Z Z Z uS Z Z)<|zM Z ?_;refine zc 27 Z (fun g1=>?_)<|fun g1=>?_
 ·refine zi g1 h fun h=>yU Z (gd g1 Z) Z<|yS Z (bv Z (aJ g1 Z) Z)<|yS Z (zA Z Z eJ)<|yS Z (zs Z Z Z Z uS Z Z Z Z)<|nT<|zQ<|fB<|yF Z (zd Z Z Z aM Z Z) Z<|yF Z (zd Z Z Z aG Z Z) Z<|yF Z (zt Z Z Z Z aM Z Z Z) Z<|yF Z (zt Z Z Z Z aG Z Z Z) Z ?_;refine LF.nil ⟨by kernel_rfl,?_⟩;refine zT<|zr ?_;cases h;exact zf (.two (er Z Z) (er Z Z))<|⟨_,rfl,bG⟩
 ·refine zo g1 h fun h=>yV Z (gd g1 Z) (zm Z Z)<|yS Z (aT Z (aJ g1 Z) Z)<|yS Z (zA Z Z eJ)<|yS Z (zs Z Z Z Z uS Z Z Z Z)<|nT<|zQ<|fB<|yF Z (zd Z Z Z aM Z Z) Z<|yF Z (zd Z Z Z aG Z Z) Z<|yF Z (zt Z Z Z Z aM Z Z Z) Z<|yF Z (zt Z Z Z Z aG Z Z Z) Z ?_;refine LF.nil ⟨by kernel_rfl,?_⟩;refine zT<|zr ?_;cases h;exact zf (.two (er Z Z) (er Z Z))<|⟨_,rfl,bG⟩
def xH (c:Cf)(n:Nd)(slot:Int):Option (Nd×(List Of)):=(HW c slot).bind fun v1=>bif n.No != v1 then some (n,[])else (sd c n n.In slot).bind fun v2=>(tk c v2.1.V (i64.wrap (slot-1))).bind fun v3=>(sd c (Nd.mk v2.1.No v2.1.Tick v2.1.V v2.2 v2.1.O v2.1.C v2.1.Full) (Vw.mk [Bk.mk slot n.No v3 0] []) slot).bind fun v4=>some (v4.1,[Of.mk slot n.No (Bk.mk slot n.No v3 0) v2.1.V])
theorem Ni {n:Nd}{r_:Nd×(List Of)}(h:xH c n slot=some r_):aq prog 49 [gQ c,du n,.int .i64 slot] [du r_.1,.slice 9 (r_.2.map cZ)]:=by
 refine zh Tryz.func49 Z Z Z Z ?_;unfold xH at h;refine qR<|yS Z (bx Z Z Z Z Z)<|yS Z (bx Z Z Z Z Z)<|yS Z (ze Z eU Z Z)<|mN Z<|zQ<|zQ<|dx<|yE Z (zA Z Z dD)<|yE Z (zD Z Z Z aW Z Z)<|yE Z (zD Z Z Z be Z Z)<|zH Z<|zb h fun v1 a1 h=>yE Z (yP Z Z Z (Pd a1) bG)<|yE Z (an Z Z Z Z)<|LO.nil<|zT ?_;refine zX Z (fun g1=>?_)<|fun g1=>?_
 ·refine zi g1 h fun h=>qR<|yS Z (zD Z Z Z aM Z Z)<|yS Z (zs Z Z Z Z aM Z Z Z Z)<|mN Z<|zr<|ae ?_;cases h;exact zf (.two (er Z Z) (.tmp Z))<|⟨_,rfl,(.cons zv (.cons Conv.zs .nil))⟩
 ·refine zo g1 h fun h=>zk<|zT<|qR<|yS Z (zD Z Z Z be Z Z)<|yS Z (zD Z Z Z aM Z Z)<|yS Z (zA Z Z bp)<|yS Z (zD Z Z Z aG Z Z)<|zM Z<|zb h fun v2 a2 h=>yS Z (yP Z Z Z (Cy a2) we)<|zM Z<|yS Z (eW Z Z Z)<|yS Z (eW Z Z Z)<|yS Z (ze Z eU Z Z)<|yS Z (ze Z d5 Z Z)<|yS Z (zs Z Z Z Z aM Z Z Z Z)<|yS Z (zs Z Z Z Z aG Z Z Z Z)<|nT<|qR<|yS Z (zD Z Z Z aG Z Z)<|yS Z (zA Z Z bp)<|yS Z (zs Z Z Z Z aG Z Z Z Z)<|nT<|zQ<|LW.ent (bY.slot Z)<|fB<|zK Z<|yG Z (fun H _=>zA Z Z dD)<|yF Z (zd Z Z Z aW Z Z) Z<|yF Z (zd Z Z Z be Z Z) Z<|yG Z (fun H _=>zA Z Z bI)<|yF Z (zd Z Z Z aG Z Z) Z<|zK Z<|yG Z (fun H _=>an Z Z Z Z)<|zb h fun v3 a3 h=>?_;refine yF (F:=[]) (s:=none) Z (fun H _=>yP Z Z Z (GA a3) pA) Z ?_;refine yG Z (fun H _=>aa.build Z K8 Z Z Z)<|yF Z (cj.alloc Z uW (id:=5) Z) Z<|yF Z (zt Z Z Z Z ce Z Z Z) Z ?_;refine LF.nil ⟨by kernel_rfl,?_⟩;refine zT<|qR<|zM Z<|yS Z (zA Z Z dD)<|yS Z (zD Z Z Z aW Z Z)<|yS Z (zD Z Z Z ce Z Z)<|yS Z (zA Z Z bI)<|yS Z (zD Z Z Z aG Z Z)<|yS Z (aa.build Z wA Z Z Z)<|yS Z (ze Z pE Z Z)<|yS Z (zs Z Z Z Z eo Z Z Z Z)<|nT<|qR<|yS Z (zD Z Z Z be Z Z)<|yS Z (zD Z Z Z aM Z Z)<|yS Z (zD Z Z Z ce Z Z)<|yS Z (gR Z cw Z Z Z Z Z)<|yS Z (aa.build Z nh Z Z Z)<|zM Z<|zb h fun v4 a4 h=>yS Z (zC Z Z Z (by kernel_rfl) (zp (Cy a4) (.cons zv (.cons zv (.cons (Conv.agg (.cons zv (.cons Conv.zs .nil))) dG)))))<|zM Z<|yS Z (eW Z Z Z)<|yS Z (eW Z Z Z)<|yS Z (ze Z eU Z Z)<|yS Z (ze Z d5 Z Z)<|yS Z (zs Z Z Z Z aM Z Z Z Z)<|yS Z (zs Z Z Z Z aG Z Z Z Z)<|nT<|zQ<|fB<|yF Z (zd Z Z Z aM Z Z) Z<|yF Z (zd Z Z Z eo Z Z) Z<|yG Z (fun H _=>gR Z bq Z Z Z Z Z)<|yF Z (zt Z Z Z Z aM Z Z Z) Z<|zK Z ?_;refine LF.nil ⟨by kernel_rfl,?_⟩;refine zT<|zr ?_;cases h;exact zf (.two (er Z Z) (.tmp Z))<|⟨_,rfl,bG⟩
structure fR where
 i:Int
 n:Nd
def k7 (c:Cf)(slot:Int)(x1:fR):Option (fR⊕fR):=bif decide (x1.i<(x1.n.O.length:Int))then (ix x1.n.O x1.i).bind fun y1=>(ix x1.n.O x1.i).bind fun y2=>(tc y1.V (Vw.mk [y2.B] [])).bind fun v2=>(sd c x1.n v2 slot).bind fun v3=>(tc v3.1.In v3.2).bind fun v4=>some (.inl (fR.mk (i64.wrap (x1.i+1)) (Nd.mk v3.1.No v3.1.Tick v3.1.V v4 v3.1.O v3.1.C v3.1.Full)))else some (.inr (fR.mk x1.i x1.n))
def xI (c:Cf)(n:Nd)(slot:Int):Option Nd:=(iter (k7 c slot) aY (fR.mk 0 n)).bind fun v1=>(L4 c slot v1.n.No).bind fun v5=>bif v5 then (tk c v1.n.V (i64.wrap (slot-1))).bind fun v6=>(tc v1.n.In (Vw.mk [] [Vt.mk v1.n.No slot v6])).bind fun v7=>some (Nd.mk v1.n.No v1.n.Tick v1.n.V v7 [] v1.n.C v1.n.Full)else some (Nd.mk v1.n.No v1.n.Tick v1.n.V v1.n.In [] v1.n.C v1.n.Full)
theorem Nj {n:Nd}{r_:Nd}(h:xI c n slot=some r_):aq prog 50 [gQ c,du n,.int .i64 slot] [du r_]:=by
 refine zh Tryz.func50 Z Z Z Z ?_;unfold xI at h;refine qR<|yS Z (bx Z Z Z Z Z)<|yS Z (bx Z Z Z Z Z)<|yS Z (ze Z eU Z Z)<|nT<|zQ<|qR<|mN Z ?_;obtain⟨v1,p1,q1⟩:=zB h;clear h;refine LW.tail (E:=[(2,(iQ slot)),(3,.ptr 0 0),(4,.ptr 1 0),(6,.ptr 2 0)]) (O:=[.box (ch c),.box (ol v1.n),.box mP]) ?_<|fun e1 b1 u1=>?_
 ·refine LW.block ?_;refine LW.iterB (E:=fun x1:fR=>[(2,(iQ slot)),(3,.ptr 0 0),(4,.ptr 1 0),(6,.ptr 2 0),(7,(iQ x1.i))]) (O:=fun x1=>[.box (ch c),.box (ol x1.n),.box mP]) p1 (av 3 ⟨Z,Z,Z,Z,Z,t_⟩)<|fun x1 z1 h m1=>?_;unfold k7 at h;refine zQ<|qR<|zM Z<|yS Z (zA Z Z bz)<|yS Z (zD Z Z Z bk Z Z)<|yS Z (ck Z Z)<|yS Z (an Z Z Z Z)<|nT ?_;refine zX Z (fun g1=>?_)<|fun g1=>?_
  ·refine zi g1 h fun h=>zk<|zT<|zQ<|zl<|zQ<|LW.ent (bY.slot Z)<|LW.ent (bY.slot Z)<|fB<|yF Z (zd Z Z Z be Z Z) Z<|yF Z (zd Z Z Z aM Z Z) Z<|yG Z (fun H _=>zA Z Z bz)<|yF Z (zd Z Z Z bk Z Z) Z<|zK Z<|zb h fun y1 j1 h=>yG Z (fun H _=>zx Z Z Z bq j1 Z)<|yG Z (fun H _=>aa.fieldAddrC Z Z fp Z)<|yG Z (fun H _=>bR Z Z Z aG Z Z)<|yG Z (fun H _=>zA Z Z bz)<|yF Z (zd Z Z Z bk Z Z) Z<|zK Z<|zb h fun y2 j2 h=>yG Z (fun H _=>zx Z Z Z bq j2 Z)<|yG Z (fun H _=>aa.fieldAddrC Z Z lD Z)<|yG Z (fun H _=>bR Z Z Z ce Z Z)<|yG Z (fun H _=>gR Z cw Z Z Z Z Z)<|yG Z (fun H _=>aa.build Z nh Z Z Z)<|zb h fun v2 a2 h=>?_;refine yF (F:=[]) (s:=none) Z (fun H _=>zC Z Z Z (by kernel_rfl) (zp (A6 a2) (.cons zv (.cons (Conv.agg (.cons zv (.cons Conv.zs .nil))) .nil)))) Z ?_;refine zK Z<|zb h fun v3 a3 h=>?_;refine yF (F:=[]) (s:=none) Z (fun H _=>yP Z Z Z (Cy a3) we) Z ?_;refine zK Z<|yG Z (fun H _=>eW Z Z Z)<|yG Z (fun H _=>eW Z Z Z)<|yF Z (cj.alloc Z eU (id:=3) Z) Z<|yF Z (cj.alloc Z d5 (id:=4) Z) Z<|yF Z (zt Z Z Z Z aM Z Z Z) Z<|yF Z (zt Z Z Z Z aG Z Z Z) Z ?_;refine LF.nil ⟨by kernel_rfl,?_⟩;refine zT<|qR<|yS Z (zA Z Z bp)<|yS Z (zD Z Z Z aG Z Z)<|yS Z (zD Z Z Z aG Z Z)<|zb h fun v4 a4 h=>yS Z (yP Z Z Z (A6 a4) bG)<|yS Z (zA Z Z bp)<|yS Z (zs Z Z Z Z aG Z Z Z Z)<|nT<|zR<|yS Z (zD Z Z Z aM Z Z)<|yS Z (zs Z Z Z Z aM Z Z Z Z)<|zN<|af<|zT<|zR<|zM Z<|yS Z (an Z Z Z Z)<|mN Z ?_;cases h;exact⟨_,rfl,av 3 ⟨Z,Z,Z,Z,Z,t_⟩⟩
  ·refine zo g1 h fun h=>zq<|ai<|ai<|zy<|zT ?_;cases h;obtain rfl:=(m1 _ rfl);exact av 3 ⟨Z,Z,Z,Z,t_⟩
 ·have h:=q1;clear p1;refine zT<|LW.weak u1<|qR<|yS Z (zA Z Z bz)<|yS Z (zs Z Z Z Z bk Z Z Z Z)<|nT<|qR<|yS Z (zD Z Z Z be Z Z)<|zM Z<|yS Z (zA Z Z dD)<|yS Z (zD Z Z Z aW Z Z)<|zb h fun v5 a5 h=>yS Z (yP Z Z Z (Qs a5) pA)<|mN Z<|zQ<|qR<|mN Z ?_;refine zX Z (fun g2=>?_)<|fun g2=>?_
  ·refine zi g2 h fun h=>zQ<|LW.ent (bY.slot Z)<|fB<|yG Z (fun H _=>zA Z Z dD)<|yF Z (zd Z Z Z aW Z Z) Z<|zK Z<|yF Z (zd Z Z Z be Z Z) Z<|yG Z (fun H _=>zA Z Z bI)<|yF Z (zd Z Z Z aG Z Z) Z<|zK Z<|yG Z (fun H _=>an Z Z Z Z)<|zb h fun v6 a6 h=>?_;refine yF (F:=[]) (s:=none) Z (fun H _=>yP Z Z Z (GA a6) pA) Z ?_;refine yG Z (fun H _=>aa.build Z K9 Z Z Z)<|yF Z (cj.alloc Z uX (id:=3) Z) Z<|yF Z (zt Z Z Z Z cB Z Z Z) Z ?_;refine LF.nil ⟨by kernel_rfl,?_⟩;refine zT<|zR<|yS Z (zA Z Z bp)<|yS Z (zD Z Z Z aG Z Z)<|yS Z (zD Z Z Z cB Z Z)<|yS Z (gR Z bC Z Z Z Z Z)<|yS Z (aa.build Z nh Z Z Z)<|zb h fun v7 a7 h=>yS Z (zC Z Z Z (by kernel_rfl) (zp (A6 a7) (.cons zv (.cons (Conv.agg (.cons Conv.zs dG)) .nil))))<|yS Z (zA Z Z bp)<|yS Z (zs Z Z Z Z aG Z Z Z Z)<|nT<|qR<|yS Z (zD Z Z Z aM Z Z)<|yS Z (zs Z Z Z Z aM Z Z Z Z)<|nT<|zr ?_;cases h;exact zf (.one (er Z Z))<|(Conv.agg (.cons zv (.cons zv (.cons zv (.cons zv (.cons zv (.cons zv (.cons Conv.zs BP))))))))
  ·refine zo g2 h fun h=>zk<|zT<|qR<|yS Z (zD Z Z Z aM Z Z)<|yS Z (zs Z Z Z Z aM Z Z Z Z)<|nT<|zr ?_;cases h;exact zf (.one (er Z Z))<|(Conv.agg (.cons zv (.cons zv (.cons zv (.cons zv (.cons zv (.cons zv (.cons Conv.zs BP))))))))
def xJ (c:Cf)(n:Nd)(slot:Int):Option Nd:=(sd c n n.In slot).bind fun v1=>(tk c v1.1.V slot).bind fun v2=>(xR c v1.1.V slot v2).bind fun v3=>(Mf v1.1.C v1.1.V.B v2 v3.1 v3.2 slot).bind fun v4=>some (Nd.mk v1.1.No v1.1.Tick v1.1.V v1.2 [] v4 v1.1.Full)
theorem Nk {n:Nd}{r_:Nd}(h:xJ c n slot=some r_):aq prog 51 [gQ c,du n,.int .i64 slot] [du r_]:=by
 refine zh Tryz.func51 Z Z Z Z ?_;unfold xJ at h;refine qR<|yS Z (bx Z Z Z Z Z)<|yS Z (bx Z Z Z Z Z)<|yS Z (ze Z eU Z Z)<|nT<|qR<|yS Z (zD Z Z Z be Z Z)<|yS Z (zD Z Z Z aM Z Z)<|yS Z (zA Z Z bp)<|yS Z (zD Z Z Z aG Z Z)<|zM Z<|zb h fun v1 a1 h=>yS Z (yP Z Z Z (Cy a1) we)<|zM Z<|yS Z (eW Z Z Z)<|yS Z (eW Z Z Z)<|yS Z (ze Z eU Z Z)<|yS Z (ze Z d5 Z Z)<|yS Z (zs Z Z Z Z aM Z Z Z Z)<|yS Z (zs Z Z Z Z aG Z Z Z Z)<|nT<|qR<|yS Z (zD Z Z Z aG Z Z)<|yS Z (zA Z Z bp)<|yS Z (zs Z Z Z Z aG Z Z Z Z)<|nT<|qR<|yS Z (zD Z Z Z be Z Z)<|yS Z (zA Z Z bI)<|yS Z (zD Z Z Z aG Z Z)<|zM Z<|zb h fun v2 a2 h=>yS Z (yP Z Z Z (GA a2) pA)<|yS Z (ze Z gP Z Z)<|yS Z (zs Z Z Z Z aF Z Z Z Z)<|nT<|qR<|yS Z (zD Z Z Z be Z Z)<|yS Z (zA Z Z bI)<|yS Z (zD Z Z Z aG Z Z)<|zM Z<|yS Z (zD Z Z Z aF Z Z)<|zb h fun v3 a3 h=>yS Z (yP Z Z Z (Nq a3) we)<|zM Z<|yS Z (eW Z Z Z)<|yS Z (eW Z Z Z)<|yS Z (ze Z gP Z Z)<|yS Z (zs Z Z Z Z aF Z Z Z Z)<|mN Z<|qR<|yS Z (zA Z Z gJ)<|yS Z (zD Z Z Z gv Z Z)<|yS Z (zA Z Z bI)<|yS Z (zA Z Z aK)<|yS Z (zD Z Z Z bM Z Z)<|yS Z (zD Z Z Z aF Z Z)<|yS Z (zD Z Z Z aF Z Z)<|zM Z<|zM Z<|zb h fun v4 a4 h=>yS Z (yP Z Z Z (QG a4) (.cons zv BP))<|yS Z (zA Z Z gJ)<|yS Z (zs Z Z Z Z gv Z Z Z Z)<|nT<|qR<|yS Z (zA Z Z bz)<|yS Z (zs Z Z Z Z bk Z Z Z Z)<|nT<|qR<|yS Z (zD Z Z Z aM Z Z)<|yS Z (zs Z Z Z Z aM Z Z Z Z)<|nT<|zr ?_;cases h;exact zf (.one (er Z Z))<|(Conv.agg (.cons zv (.cons zv (.cons zv (.cons zv (.cons zv (.cons zv (.cons Conv.zs BP))))))))
def xA (c:Cf)(n:Nd)(v_in:Vw)(o:List Of):Option (Nd×(List Of)):=(F0 c).bind fun v1=>(bif !v1 then some true else bif decide (n.Tick<3)then some true else some (decide ((i64.wrap (n.Tick.tdiv 3))>1048576))).bind fun v2=>bif v2 then some (n,[])else (vi c v_in).bind fun v3=>(tc n.In v3).bind fun v4=>(xG c (Nd.mk n.No n.Tick n.V v4 n.O n.C n.Full) o).bind fun v5=>(bif (v5.Tick.tmod 3)==0 then (xH c v5 (i64.wrap (n.Tick.tdiv 3))).bind fun v7=>some (v7.2,v7.1)else bif (v5.Tick.tmod 3)==1 then (xI c v5 (i64.wrap (n.Tick.tdiv 3))).bind fun v8=>some ([],v8)else (xJ c v5 (i64.wrap (n.Tick.tdiv 3))).bind fun v9=>some ([],v9)).bind fun v6=>some (Nd.mk v6.2.No (i64.wrap (v6.2.Tick+1)) v6.2.V v6.2.In v6.2.O v6.2.C v6.2.Full,v6.1)
theorem M8 {n:Nd}{v_in:Vw}{o:List Of}{r_:Nd×(List Of)}(h:xA c n v_in o=some r_):aq prog 11 [gQ c,du n,iB v_in,.slice 9 (o.map cZ)] [du r_.1,.slice 9 (r_.2.map cZ)]:=by
 refine zh Tryz.func11 Z Z Z Z ?_;unfold xA at h;refine qR<|yS Z (bx Z Z Z Z Z)<|yS Z (bx Z Z Z Z Z)<|yS Z (bx Z Z Z Z Z)<|yS Z (ze Z eU Z Z)<|mN Z<|qR<|yS Z (zD Z Z Z be Z Z)<|zb h fun v1 a1 h=>yS Z (yP Z Z Z (Lf a1) dG)<|mN Z<|qR<|yS Z (zA Z Z cv)<|yS Z (zD Z Z Z aW Z Z)<|yS Z (aa.quo Z Z Z (by decide))<|mN Z<|zQ ?_;obtain⟨v2,p2,q2⟩:=zB h;clear h;refine LW.cut (E:=[(3,(kO o)),(4,.ptr 0 0),(5,.ptr 1 0),(6,.ptr 2 0),(8,.ptr 3 0),(9,.zs),(11,.p (.int .i64 (i64.wrap (n.Tick.tdiv 3)))),(28,(bQ v2))]) (O:=[.box (ch c),.box (ol n),.box (cH v_in),.box mP]) ?_ ?_
 ·have h:=p2;refine zR<|zM Z<|yS Z (aa.not Z Z)<|zM Z ?_;refine zc 20 Z (fun g1=>?_)<|fun g1=>?_
  ·refine zi g1 h fun h=>yU Z (gd g1 Z) Z<|yU Z (gd g1 Z) Z<|yU Z (gd g1 Z) Z<|yS Z (bv Z (aJ g1 Z) Z)<|zM Z<|aw Z<|aw Z<|yS Z (bv Z Z Z)<|nT ?_;cases h;exact av 4 ⟨Z,Z,Z,Z,Z,Z,Z,Z,t_⟩
  ·refine zo g1 h fun h=>yV Z (gd g1 Z) (zA Z Z cv)<|yV Z (gd g1 Z) (zD Z Z Z aW Z Z)<|yV Z (gd g1 Z) (an Z Z Z Z)<|yS Z (aT Z (aJ g1 Z) Z)<|zM Z ?_;refine zc 25 Z (fun g2=>?_)<|fun g2=>?_
   ·refine zi g2 h fun h=>yU Z (gd g2 Z) Z<|yU Z (gd g2 Z) Z<|yS Z (bv Z (aJ g2 Z) Z)<|nT ?_;cases h;exact av 4 ⟨Z,Z,Z,Z,Z,Z,Z,Z,t_⟩
   ·refine zo g2 h fun h=>yV Z (gd g2 Z) (zm Z Z)<|yV Z (gd g2 Z) (an Z Z Z Z)<|yS Z (aT Z (aJ g2 Z) Z)<|nT ?_;cases h;exact av 4 ⟨Z,Z,Z,Z,Z,Z,Z,Z,t_⟩
 ·have h:=q2;clear p2;refine zX Z (fun g3=>?_)<|fun g3=>?_
  ·refine zi g3 h fun h=>qR<|yS Z (zD Z Z Z aM Z Z)<|yS Z (zs Z Z Z Z aM Z Z Z Z)<|mN Z<|zr<|ae ?_;cases h;exact zf (.two (er Z Z) (.tmp Z))<|⟨_,rfl,(.cons zv (.cons Conv.zs .nil))⟩
  ·refine zo g3 h fun h=>zk<|zT<|qR<|mN Z<|zQ<|LW.drawLast (m:=7) (by kernel_rfl) (by kernel_rfl) (by kernel_rfl)<|yE Z (zA Z Z bp)<|yE Z (zD Z Z Z aG Z Z)<|yE Z (zD Z Z Z be Z Z)<|yE Z (zD Z Z Z aG Z Z)<|zb h fun v3 a3 h=>yE Z (yP Z Z Z (JL a3) bG)<|zb h fun v4 a4 h=>yE Z (yP Z Z Z (A6 a4) bG)<|yE Z (zA Z Z bp)<|LO.nil<|yS Z (zs Z Z Z Z aG Z Z Z Z)<|nT<|qR<|yS Z (zD Z Z Z be Z Z)<|yS Z (zD Z Z Z aM Z Z)<|zM Z<|zb h fun v5 a5 h=>yS Z (yP Z Z Z (Nh a5) pA)<|yS Z (zs Z Z Z Z aM Z Z Z Z)<|nT<|LW.ent (bY.zsP (t:=12) (m:=9) Z) ?_;obtain⟨v6,p6,q6⟩:=zB h;clear h;refine LW.cut (E:=[(5,.ptr 1 0),(8,.ptr 3 0),(9,.zs),(12,(kO v6.1))]) (O:=[.box (ch c),.box (ol v6.2),.box (cH v_in),.box mP]) ?_ ?_
   ·have h:=p6;refine qR<|yS Z (zA Z Z cv)<|yS Z (zD Z Z Z aW Z Z)<|yS Z (aa.rem Z Z Z (by decide))<|nT<|zl<|qR<|yS Z (an Z Z Z Z)<|mN Z ?_;refine zX Z (fun g4=>?_)<|fun g4=>?_
    ·refine zi g4 h fun h=>zR<|yS Z (zD Z Z Z be Z Z)<|yS Z (zD Z Z Z aM Z Z)<|zM Z<|zb h fun v7 a7 h=>yS Z (yP Z Z Z (Ni a7) pA)<|zM Z<|yS Z (eW Z Z Z)<|yS Z (eW Z Z Z)<|yS Z (zs Z Z Z Z aM Z Z Z Z)<|zM Z<|zN<|af<|zT ?_;cases h;exact av 4 ⟨Z,Z,Z,Z,t_⟩
    ·refine zo g4 h fun h=>qR<|yS Z (an Z Z Z Z)<|mN Z ?_;refine zX Z (fun g5=>?_)<|fun g5=>?_
     ·refine zi g5 h fun h=>zR<|yS Z (zD Z Z Z be Z Z)<|yS Z (zD Z Z Z aM Z Z)<|zM Z<|zb h fun v8 a8 h=>yS Z (yP Z Z Z (Nj a8) pA)<|yS Z (zs Z Z Z Z aM Z Z Z Z)<|zN<|af<|zT ?_;cases h;exact av 4 ⟨Z,Z,Z,Z,t_⟩
     ·refine zo g5 h fun h=>zR<|yS Z (zD Z Z Z be Z Z)<|yS Z (zD Z Z Z aM Z Z)<|zM Z<|zb h fun v9 a9 h=>yS Z (yP Z Z Z (Nk a9) pA)<|yS Z (zs Z Z Z Z aM Z Z Z Z)<|zN<|af<|zT ?_;cases h;exact av 4 ⟨Z,Z,Z,Z,t_⟩
   ·have h:=q6;clear p6;refine qR<|yS Z (zA Z Z cv)<|yS Z (zD Z Z Z aW Z Z)<|yS Z (an Z Z Z Z)<|yS Z (zA Z Z cv)<|yS Z (zs Z Z Z Z aW Z Z Z Z)<|nT<|qR<|yS Z (zD Z Z Z aM Z Z)<|zM Z<|yS Z (zs Z Z Z Z aM Z Z Z Z)<|mN Z<|zr ?_;cases h;exact zf (.two (er Z Z) (.tmp Z))<|⟨_,rfl,bG⟩
structure iF where
 t13:Int
def pS (s1:List Bk)(s2:List Bk)(x1:iF):Option (iF⊕(iF⊕Bool)):=bif decide (x1.t13<(s1.length:Int))then (ix s1 x1.t13).bind fun y1=>(ix s2 x1.t13).bind fun y2=>bif !((y1.Slot==y2.Slot)&&((y1.From==y2.From)&&((y1.Parent.1==y2.Parent.1)&&((y1.Parent.2==y2.Parent.2)&&((y1.Salt==y2.Salt)&&true)))))then some (.inr (.inr false))else some (.inl (iF.mk (i64.wrap (x1.t13+1))))else some (.inr (.inl (iF.mk x1.t13)))
def xN (s1:List Bk)(s2:List Bk):Option Bool:=bif (s1.length:Int) != (s2.length:Int)then some false else (iter (pS s1 s2) aY (iF.mk 0)).bind fun b_v1=>Sum.elim (fun _=>some true) some b_v1
theorem Nn {s1:List Bk}{s2:List Bk}(h:xN s1 s2=some r_):aq prog 102 [.slice 5 (s1.map aA),.slice 5 (s2.map aA)] [.bool r_]:=by
 refine zh Tryz.func102 Z Z Z Z ?_;unfold xN at h;refine qR<|mN Z<|zQ<|qR<|zM Z<|yS Z (ck Z Z)<|zM Z<|yS Z (ck Z Z)<|yS Z (an Z Z Z Z)<|nT ?_;refine zX Z (fun g1=>?_)<|fun g1=>?_
 ·refine zi g1 h fun h=>qR<|mN Z<|LW.ret<|ae ?_;cases h;exact aZ Z
 ·refine zo g1 h fun h=>zk<|zT<|zQ<|qR<|zM Z<|yS Z (ck Z Z)<|mN Z ?_;obtain⟨w1,p1,q1⟩:=zB h;clear h;refine LW.tailB (b:=w1) (E:=fun v1=>[(4,(bQ false))]) (O:=fun v1=>[]) ?_<|fun v1 f1 e1 K1 u1=>?_
  ·refine LW.block ?_;refine LW.iterB (E:=fun x1:iF=>[(0,(kB s1)),(1,(kB s2)),(4,(bQ false)),(12,.p (.int .i64 (s1.length:Int))),(13,(iQ x1.t13))]) (O:=fun x1=>[]) p1 (av 0 ⟨Z,Z,Z,Z,Z,t_⟩)<|fun x1 z1 h m1=>?_;unfold pS at h;refine qR<|yS Z (an Z Z Z Z)<|nT<|zQ ?_;refine zX Z (fun g2=>?_)<|fun g2=>?_
   ·refine zi g2 h fun h=>zk<|zT<|zQ<|zl<|qR<|zM Z<|mN Z<|zQ<|dx<|zH Z<|zH Z<|zb h fun y1 j1 h=>yE Z (zx Z Z Z cw j1 Z)<|yE Z (bR Z Z Z ce Z Z)<|zH Z<|zH Z<|zb h fun y2 j2 h=>yE Z (zx Z Z Z cw j2 Z)<|yE Z (bR Z Z Z ce Z Z)<|yE Z (aa.neqAgg Z Z Z Z Z tW)<|LO.nil<|zT ?_;refine zX Z (fun g3=>?_)<|fun g3=>?_
    ·refine zi g3 h fun h=>qR<|mN Z<|LW.ret<|ak<|ae<|ae<|ak<|ae<|ae ?_;cases h;obtain rfl:=(m1 _ rfl);have h:=bO q1;cases h;exact aZ Z
    ·refine zo g3 h fun h=>zk<|af<|zT<|zR<|yS Z (an Z Z Z Z)<|mN Z ?_;cases h;exact⟨_,rfl,av 0 ⟨Z,Z,Z,Z,Z,t_⟩⟩
   ·refine zo g2 h fun h=>zq<|ai<|ai<|zy<|zT ?_;cases h;obtain rfl:=(m1 _ rfl);exact⟨_,rfl,av 0 ⟨Z,t_⟩⟩
  ·obtain rfl:=f1;have h:=cR q1;clear p1;refine zT<|LW.weak u1<|qR<|mN Z<|zr ?_;cases h;exact aZ Z
structure iG where
 t13:Int
def pT (s1:List Vt)(s2:List Vt)(x1:iG):Option (iG⊕(iG⊕Bool)):=bif decide (x1.t13<(s1.length:Int))then (ix s1 x1.t13).bind fun y1=>(ix s2 x1.t13).bind fun y2=>bif !((y1.From==y2.From)&&((y1.Slot==y2.Slot)&&((y1.Head.1==y2.Head.1)&&((y1.Head.2==y2.Head.2)&&true))))then some (.inr (.inr false))else some (.inl (iG.mk (i64.wrap (x1.t13+1))))else some (.inr (.inl (iG.mk x1.t13)))
def xO (s1:List Vt)(s2:List Vt):Option Bool:=bif (s1.length:Int) != (s2.length:Int)then some false else (iter (pT s1 s2) aY (iG.mk 0)).bind fun b_v1=>Sum.elim (fun _=>some true) some b_v1
theorem Np {s1:List Vt}{s2:List Vt}(h:xO s1 s2=some r_):aq prog 103 [.slice 4 (s1.map aO),.slice 4 (s2.map aO)] [.bool r_]:=by
 refine zh Tryz.func103 Z Z Z Z ?_;unfold xO at h;refine qR<|mN Z<|zQ<|qR<|zM Z<|yS Z (ck Z Z)<|zM Z<|yS Z (ck Z Z)<|yS Z (an Z Z Z Z)<|nT ?_;refine zX Z (fun g1=>?_)<|fun g1=>?_
 ·refine zi g1 h fun h=>qR<|mN Z<|LW.ret<|ae ?_;cases h;exact aZ Z
 ·refine zo g1 h fun h=>zk<|zT<|zQ<|qR<|zM Z<|yS Z (ck Z Z)<|mN Z ?_;obtain⟨w1,p1,q1⟩:=zB h;clear h;refine LW.tailB (b:=w1) (E:=fun v1=>[(4,(bQ false))]) (O:=fun v1=>[]) ?_<|fun v1 f1 e1 K1 u1=>?_
  ·refine LW.block ?_;refine LW.iterB (E:=fun x1:iG=>[(0,(kV s1)),(1,(kV s2)),(4,(bQ false)),(12,.p (.int .i64 (s1.length:Int))),(13,(iQ x1.t13))]) (O:=fun x1=>[]) p1 (av 0 ⟨Z,Z,Z,Z,Z,t_⟩)<|fun x1 z1 h m1=>?_;unfold pT at h;refine qR<|yS Z (an Z Z Z Z)<|nT<|zQ ?_;refine zX Z (fun g2=>?_)<|fun g2=>?_
   ·refine zi g2 h fun h=>zk<|zT<|zQ<|zl<|qR<|zM Z<|mN Z<|zQ<|dx<|zH Z<|zH Z<|zb h fun y1 j1 h=>yE Z (zx Z Z Z bC j1 Z)<|yE Z (bR Z Z Z cB Z Z)<|zH Z<|zH Z<|zb h fun y2 j2 h=>yE Z (zx Z Z Z bC j2 Z)<|yE Z (bR Z Z Z cB Z Z)<|yE Z (aa.neqAgg Z Z Z Z Z yQ)<|LO.nil<|zT ?_;refine zX Z (fun g3=>?_)<|fun g3=>?_
    ·refine zi g3 h fun h=>qR<|mN Z<|LW.ret<|ak<|ae<|ae<|ak<|ae<|ae ?_;cases h;obtain rfl:=(m1 _ rfl);have h:=bO q1;cases h;exact aZ Z
    ·refine zo g3 h fun h=>zk<|af<|zT<|zR<|yS Z (an Z Z Z Z)<|mN Z ?_;cases h;exact⟨_,rfl,av 0 ⟨Z,Z,Z,Z,Z,t_⟩⟩
   ·refine zo g2 h fun h=>zq<|ai<|ai<|zy<|zT ?_;cases h;obtain rfl:=(m1 _ rfl);exact⟨_,rfl,av 0 ⟨Z,t_⟩⟩
  ·obtain rfl:=f1;have h:=cR q1;clear p1;refine zT<|LW.weak u1<|qR<|mN Z<|zr ?_;cases h;exact aZ Z
def ti (a:Vw)(b:Vw):Option Bool:=(xN a.B b.B).bind fun v1=>bif v1 then (xO a.V b.V).bind fun v2=>some v2 else some false
theorem Gz {b:Vw}(h:ti a b=some r_):aq prog 59 [iB a,iB b] [.bool r_]:=by
 refine zh Tryz.func59 Z Z Z Z ?_;unfold ti at h;refine qR<|yS Z (bx Z Z Z Z Z)<|yS Z (bx Z Z Z Z Z)<|mN Z<|qR<|yS Z (zA Z Z aK)<|yS Z (zD Z Z Z bM Z Z)<|yS Z (zA Z Z aK)<|yS Z (zD Z Z Z bM Z Z)<|zb h fun v1 a1 h=>yS Z (yP Z Z Z (Nn a1) bG)<|zM Z ?_;refine zc 10 Z (fun g1=>?_)<|fun g1=>?_
 ·refine zi g1 h fun h=>yV Z (gd g1 Z) (zA Z Z aQ)<|yV Z (gd g1 Z) (zD Z Z Z co Z Z)<|yV Z (gd g1 Z) (zA Z Z aQ)<|yV Z (gd g1 Z) (zD Z Z Z co Z Z)<|zb h fun v2 a2 h=>yV Z (gd g1 Z) (yP Z Z Z (Np a2) bG)<|yS Z (bv Z (aJ g1 Z) Z)<|mN Z<|zr ?_;cases h;exact aZ Z
 ·refine zo g1 h fun h=>yU Z (gd g1 Z) Z<|yU Z (gd g1 Z) Z<|yU Z (gd g1 Z) Z<|yU Z (gd g1 Z) Z<|yU Z (gd g1 Z) Z<|yS Z (aT Z (aJ g1 Z) Z)<|mN Z<|zr ?_;cases h;exact aZ Z
def xE (x:Of)(y:Of):Option Bool:=bif x.Slot==y.Slot then bif x.From==y.From then bif ((x.B.Slot==y.B.Slot)&&((x.B.From==y.B.From)&&((x.B.Parent.1==y.B.Parent.1)&&((x.B.Parent.2==y.B.Parent.2)&&((x.B.Salt==y.B.Salt)&&true)))))then (ti x.V y.V).bind fun v1=>some v1 else some false else some false else some false
theorem Ng {x:Of}{y:Of}(h:xE x y=some r_):aq prog 58 [cZ x,cZ y] [.bool r_]:=by
 refine zh Tryz.func58 Z Z Z Z ?_;unfold xE at h;refine qR<|yS Z (bx Z Z Z Z Z)<|yS Z (bx Z Z Z Z Z)<|mN Z<|qR<|yS Z (zA Z Z lA)<|yS Z (zD Z Z Z aW Z Z)<|yS Z (zA Z Z lA)<|yS Z (zD Z Z Z aW Z Z)<|yS Z (an Z Z Z Z)<|zM Z ?_;refine zc 10 Z (fun g1=>?_)<|fun g1=>?_
 ·refine zi g1 h fun h=>yV Z (gd g1 Z) (zA Z Z lC)<|yV Z (gd g1 Z) (zD Z Z Z aW Z Z)<|yV Z (gd g1 Z) (zA Z Z lC)<|yV Z (gd g1 Z) (zD Z Z Z aW Z Z)<|yV Z (gd g1 Z) (an Z Z Z Z)<|yS Z (bv Z (aJ g1 Z) Z)<|zM Z ?_;refine zc 17 Z (fun g2=>?_)<|fun g2=>?_
  ·refine zi g2 h fun h=>yV Z (gd g2 Z) (zA Z Z lD)<|yV Z (gd g2 Z) (zD Z Z Z ce Z Z)<|yV Z (gd g2 Z) (zA Z Z lD)<|yV Z (gd g2 Z) (zD Z Z Z ce Z Z)<|yV Z (gd g2 Z) (aa.eqlAgg Z Z Z Z Z tW)<|yS Z (bv Z (aJ g2 Z) Z)<|zM Z ?_;refine zc 24 Z (fun g3=>?_)<|fun g3=>?_
   ·refine zi g3 h fun h=>yV Z (gd g3 Z) (zA Z Z fp)<|yV Z (gd g3 Z) (zD Z Z Z aG Z Z)<|yV Z (gd g3 Z) (zA Z Z fp)<|yV Z (gd g3 Z) (zD Z Z Z aG Z Z)<|zb h fun v1 a1 h=>yV Z (gd g3 Z) (yP Z Z Z (Gz a1) bG)<|yS Z (bv Z (aJ g3 Z) Z)<|mN Z<|zr ?_;cases h;exact aZ Z
   ·refine zo g3 h fun h=>yU Z (gd g3 Z) Z<|yU Z (gd g3 Z) Z<|yU Z (gd g3 Z) Z<|yU Z (gd g3 Z) Z<|yU Z (gd g3 Z) Z<|yS Z (aT Z (aJ g3 Z) Z)<|mN Z<|zr ?_;cases h;exact aZ Z
  ·refine zo g2 h fun h=>yU Z (gd g2 Z) Z<|yU Z (gd g2 Z) Z<|yU Z (gd g2 Z) Z<|yU Z (gd g2 Z) Z<|yU Z (gd g2 Z) Z<|yS Z (aT Z (aJ g2 Z) Z)<|zM Z<|aw Z<|aw Z<|aw Z<|aw Z<|aw Z<|yS Z (aT Z Z Z)<|mN Z<|zr ?_;cases h;exact aZ Z
 ·refine zo g1 h fun h=>yU Z (gd g1 Z) Z<|yU Z (gd g1 Z) Z<|yU Z (gd g1 Z) Z<|yU Z (gd g1 Z) Z<|yU Z (gd g1 Z) Z<|yS Z (aT Z (aJ g1 Z) Z)<|zM Z<|aw Z<|aw Z<|aw Z<|aw Z<|aw Z<|yS Z (aT Z Z Z)<|zM Z<|aw Z<|aw Z<|aw Z<|aw Z<|aw Z<|yS Z (aT Z Z Z)<|mN Z<|zr ?_;cases h;exact aZ Z
structure kq where
 t17:Int
def sQ (s1:List Of)(s2:List Of)(x1:kq):Option (kq⊕(kq⊕Bool)):=bif decide (x1.t17<(s1.length:Int))then (ix s1 x1.t17).bind fun y1=>(ix s2 x1.t17).bind fun y2=>(xE y1 y2).bind fun v2=>bif !v2 then some (.inr (.inr false))else some (.inl (kq.mk (i64.wrap (x1.t17+1))))else some (.inr (.inl (kq.mk x1.t17)))
def Gd (s1:List Of)(s2:List Of):Option Bool:=bif (s1.length:Int) != (s2.length:Int)then some false else (iter (sQ s1 s2) aY (kq.mk 0)).bind fun b_v1=>Sum.elim (fun _=>some true) some b_v1
theorem N2 {s1:List Of}{s2:List Of}(h:Gd s1 s2=some r_):LC prog 57 [(kO s1),(kO s2),.fn 58 [] []] [] (Is (bQ r_) []):=by
 refine eN Tryz.func57 Z Z Z ?_;unfold Gd at h;refine qR<|mN Z<|zQ<|qR<|zM Z<|yS Z (ck Z Z)<|zM Z<|yS Z (ck Z Z)<|yS Z (an Z Z Z Z)<|nT ?_;refine zX Z (fun g1=>?_)<|fun g1=>?_
 ·refine zi g1 h fun h=>qR<|mN Z<|LW.ret<|ae ?_;cases h;exact aD (.one (.tmp Z))<|⟨rfl,rfl⟩
 ·refine zo g1 h fun h=>zk<|zT<|zQ<|qR<|zM Z<|yS Z (ck Z Z)<|mN Z ?_;obtain⟨w1,p1,q1⟩:=zB h;clear h;refine LW.tailB (b:=w1) (E:=fun v1=>[(6,(bQ false))]) (O:=fun v1=>[]) ?_<|fun v1 f1 e1 K1 u1=>?_
  ·refine LW.block ?_;refine LW.iterB (E:=fun x1:kq=>[(1,(kO s2)),(2,.fn 58 [] []),(6,(bQ false)),(15,(kO s1)),(16,.p (.int .i64 (s1.length:Int))),(17,(iQ x1.t17))]) (O:=fun x1=>[]) p1 (av 0 ⟨Z,Z,Z,Z,Z,Z,t_⟩)<|fun x1 z1 h m1=>?_;unfold sQ at h;refine qR<|yS Z (an Z Z Z Z)<|nT<|zQ ?_;refine zX Z (fun g2=>?_)<|fun g2=>?_
   ·refine zi g2 h fun h=>zk<|zT<|zQ<|zl<|qR<|zM Z<|zb h fun y1 j1 h=>yS Z (zx Z Z Z bq j1 Z)<|yS Z (bR Z Z Z eo Z Z)<|yS Z (ze Z pE Z Z)<|zM Z<|yS Z (zs Z Z Z Z eo Z Z Z Z)<|nT<|qR<|zM Z<|zM Z<|zb h fun y2 j2 h=>yS Z (zx Z Z Z bq j2 Z)<|yS Z (bR Z Z Z eo Z Z)<|yS Z (ze Z pE Z Z)<|yS Z (zs Z Z Z Z eo Z Z Z Z)<|nT<|qR<|zM Z<|yS Z (zD Z Z Z eo Z Z)<|yS Z (zD Z Z Z eo Z Z)<|zb h fun v2 a2 h=>yS Z (yP Z Z Z (Ng a2) bG)<|yS Z (aa.not Z Z)<|nT ?_;refine zX Z (fun g3=>?_)<|fun g3=>?_
    ·refine zi g3 h fun h=>qR<|mN Z<|LW.ret<|ak<|ae<|ae<|ak<|ae<|ae ?_;cases h;obtain rfl:=(m1 _ rfl);have h:=bO q1;cases h;exact bT (env':=[(6,(bQ false))]) (H':=[]) (av 0 ⟨Z,t_⟩) (.one (.tmp Z))<|⟨rfl,rfl⟩
    ·refine zo g3 h fun h=>zk<|af<|zT<|zR<|yS Z (an Z Z Z Z)<|mN Z ?_;cases h;exact⟨_,rfl,av 0 ⟨Z,Z,Z,Z,Z,Z,t_⟩⟩
   ·refine zo g2 h fun h=>zq<|ai<|ai<|zy<|zT ?_;cases h;obtain rfl:=(m1 _ rfl);exact⟨_,rfl,av 0 ⟨Z,t_⟩⟩
  ·obtain rfl:=f1;have h:=cR q1;clear p1;refine zT<|LW.weak u1<|qR<|mN Z<|zr ?_;cases h;exact aD (.one (.tmp Z))<|⟨rfl,rfl⟩
def vg (a:Nd)(b:Nd):Option Bool:=(Gd a.O b.O).bind fun v1=>bif v1 then (ti a.V b.V).bind fun v2=>bif v2 then (ti a.In b.In).bind fun v3=>bif v3 then bif a.No==b.No then bif a.Tick==b.Tick then bif ((a.C.ID.1==b.C.ID.1)&&((a.C.ID.2==b.C.ID.2)&&((a.C.Slot==b.C.Slot)&&((a.C.Revoked==b.C.Revoked)&&true))))then some (a.Full==b.Full)else some false else some false else some false else some false else some false else some false
theorem JK {a:Nd}{b:Nd}(h:vg a b=some r_):aq prog 21 [du a,du b] [.bool r_]:=by
 refine zh Tryz.func21 Z Z Z Z ?_;unfold vg at h;refine qR<|yS Z (bx Z Z Z Z Z)<|yS Z (bx Z Z Z Z Z)<|mN Z<|qR<|yS Z (zA Z Z bz)<|yS Z (zD Z Z Z bk Z Z)<|yS Z (zA Z Z bz)<|yS Z (zD Z Z Z bk Z Z)<|zb h fun v1 a1 h=>yS Z (yC Z Z Z (LC.pre (N2 a1) Z Z Z))<|mN Z<|qR<|zM Z<|zM Z ?_;refine zc 12 Z (fun g1=>?_)<|fun g1=>?_
 ·refine zi g1 h fun h=>yV Z (gd g1 Z) (zA Z Z bI)<|yV Z (gd g1 Z) (zD Z Z Z aG Z Z)<|yV Z (gd g1 Z) (zA Z Z bI)<|yV Z (gd g1 Z) (zD Z Z Z aG Z Z)<|zb h fun v2 a2 h=>yV Z (gd g1 Z) (yP Z Z Z (Gz a2) bG)<|yS Z (bv Z (aJ g1 Z) Z)<|zM Z ?_;refine zc 19 Z (fun g2=>?_)<|fun g2=>?_
  ·refine zi g2 h fun h=>yV Z (gd g2 Z) (zA Z Z bp)<|yV Z (gd g2 Z) (zD Z Z Z aG Z Z)<|yV Z (gd g2 Z) (zA Z Z bp)<|yV Z (gd g2 Z) (zD Z Z Z aG Z Z)<|zb h fun v3 a3 h=>yV Z (gd g2 Z) (yP Z Z Z (Gz a3) bG)<|yS Z (bv Z (aJ g2 Z) Z)<|zM Z ?_;refine zc 26 Z (fun g3=>?_)<|fun g3=>?_
   ·refine zi g3 h fun h=>yV Z (gd g3 Z) (zA Z Z dD)<|yV Z (gd g3 Z) (zD Z Z Z aW Z Z)<|yV Z (gd g3 Z) (zA Z Z dD)<|yV Z (gd g3 Z) (zD Z Z Z aW Z Z)<|yV Z (gd g3 Z) (an Z Z Z Z)<|yS Z (bv Z (aJ g3 Z) Z)<|zM Z ?_;refine zc 33 Z (fun g4=>?_)<|fun g4=>?_
    ·refine zi g4 h fun h=>yV Z (gd g4 Z) (zA Z Z cv)<|yV Z (gd g4 Z) (zD Z Z Z aW Z Z)<|yV Z (gd g4 Z) (zA Z Z cv)<|yV Z (gd g4 Z) (zD Z Z Z aW Z Z)<|yV Z (gd g4 Z) (an Z Z Z Z)<|yS Z (bv Z (aJ g4 Z) Z)<|zM Z ?_;refine zc 40 Z (fun g5=>?_)<|fun g5=>?_
     ·refine zi g5 h fun h=>yV Z (gd g5 Z) (zA Z Z gJ)<|yV Z (gd g5 Z) (zD Z Z Z gv Z Z)<|yV Z (gd g5 Z) (zA Z Z gJ)<|yV Z (gd g5 Z) (zD Z Z Z gv Z Z)<|yV Z (gd g5 Z) (aa.eqlAgg Z Z Z Z Z J6)<|yS Z (bv Z (aJ g5 Z) Z)<|zM Z ?_;refine zc 47 Z (fun g6=>?_)<|fun g6=>?_
      ·refine zi g6 h fun h=>yV Z (gd g6 Z) (zA Z Z eJ)<|yV Z (gd g6 Z) (zD Z Z Z uS Z Z)<|yV Z (gd g6 Z) (zA Z Z eJ)<|yV Z (gd g6 Z) (zD Z Z Z uS Z Z)<|yV Z (gd g6 Z) (aa.eqlBool Z Z Z Tryz.underlying4)<|yS Z (bv Z (aJ g6 Z) Z)<|mN Z<|zr ?_;cases h;exact aZ Z
      ·refine zo g6 h fun h=>yU Z (gd g6 Z) Z<|yU Z (gd g6 Z) Z<|yU Z (gd g6 Z) Z<|yU Z (gd g6 Z) Z<|yU Z (gd g6 Z) Z<|yS Z (aT Z (aJ g6 Z) Z)<|mN Z<|zr ?_;cases h;exact aZ Z
     ·refine zo g5 h fun h=>yU Z (gd g5 Z) Z<|yU Z (gd g5 Z) Z<|yU Z (gd g5 Z) Z<|yU Z (gd g5 Z) Z<|yU Z (gd g5 Z) Z<|yS Z (aT Z (aJ g5 Z) Z)<|zM Z<|aw Z<|aw Z<|aw Z<|aw Z<|aw Z<|yS Z (aT Z Z Z)<|mN Z<|zr ?_;cases h;exact aZ Z
    ·refine zo g4 h fun h=>yU Z (gd g4 Z) Z<|yU Z (gd g4 Z) Z<|yU Z (gd g4 Z) Z<|yU Z (gd g4 Z) Z<|yU Z (gd g4 Z) Z<|yS Z (aT Z (aJ g4 Z) Z)<|zM Z<|aw Z<|aw Z<|aw Z<|aw Z<|aw Z<|yS Z (aT Z Z Z)<|zM Z<|aw Z<|aw Z<|aw Z<|aw Z<|aw Z<|yS Z (aT Z Z Z)<|mN Z<|zr ?_;cases h;exact aZ Z
   ·refine zo g3 h fun h=>yU Z (gd g3 Z) Z<|yU Z (gd g3 Z) Z<|yU Z (gd g3 Z) Z<|yU Z (gd g3 Z) Z<|yU Z (gd g3 Z) Z<|yS Z (aT Z (aJ g3 Z) Z)<|zM Z<|aw Z<|aw Z<|aw Z<|aw Z<|aw Z<|yS Z (aT Z Z Z)<|zM Z<|aw Z<|aw Z<|aw Z<|aw Z<|aw Z<|yS Z (aT Z Z Z)<|zM Z<|aw Z<|aw Z<|aw Z<|aw Z<|aw Z<|yS Z (aT Z Z Z)<|mN Z<|zr ?_;cases h;exact aZ Z
  ·refine zo g2 h fun h=>yU Z (gd g2 Z) Z<|yU Z (gd g2 Z) Z<|yU Z (gd g2 Z) Z<|yU Z (gd g2 Z) Z<|yU Z (gd g2 Z) Z<|yS Z (aT Z (aJ g2 Z) Z)<|zM Z<|aw Z<|aw Z<|aw Z<|aw Z<|aw Z<|yS Z (aT Z Z Z)<|zM Z<|aw Z<|aw Z<|aw Z<|aw Z<|aw Z<|yS Z (aT Z Z Z)<|zM Z<|aw Z<|aw Z<|aw Z<|aw Z<|aw Z<|yS Z (aT Z Z Z)<|zM Z<|aw Z<|aw Z<|aw Z<|aw Z<|aw Z<|yS Z (aT Z Z Z)<|mN Z<|zr ?_;cases h;exact aZ Z
 ·refine zo g1 h fun h=>yU Z (gd g1 Z) Z<|yU Z (gd g1 Z) Z<|yU Z (gd g1 Z) Z<|yU Z (gd g1 Z) Z<|yU Z (gd g1 Z) Z<|yS Z (aT Z (aJ g1 Z) Z)<|zM Z<|aw Z<|aw Z<|aw Z<|aw Z<|aw Z<|yS Z (aT Z Z Z)<|zM Z<|aw Z<|aw Z<|aw Z<|aw Z<|aw Z<|yS Z (aT Z Z Z)<|zM Z<|aw Z<|aw Z<|aw Z<|aw Z<|aw Z<|yS Z (aT Z Z Z)<|zM Z<|aw Z<|aw Z<|aw Z<|aw Z<|aw Z<|yS Z (aT Z Z Z)<|zM Z<|aw Z<|aw Z<|aw Z<|aw Z<|aw Z<|yS Z (aT Z Z Z)<|mN Z<|zr ?_;cases h;exact aZ Z
theorem D8 {b:Bk}{x y:Vw}:b∈(c8 x y).B↔b∈x.B\/b∈y.B:=r8 b _ _
theorem D9 {v:Vt}{x y:Vw}:v∈(c8 x y).V↔v∈x.V\/v∈y.V:=r8 v _ _
noncomputable def g0 (c:Cf)(n:Nd)(inp:Vw)(o:List Of):Nd×List Of:=(ko c n inp o).getD (n,[])
theorem wb {n:Nd}{inp:Vw}{o:List Of}(hf:tH c n inp o)(h:jL c n=true):ko c n inp o=some (g0 c n inp o)/\g0 c n inp o=(n,[]):=by
 have e:=sb hf h;unfold g0;rw[e];exact⟨rfl,rfl⟩
theorem uG {n:Nd}{inp:Vw}{o:List Of}(hf:tH c n inp o):ko c n inp o=some (g0 c n inp o)/\
    ((jL c n=true/\g0 c n inp o=(n,[]))\/
     (jL c n=false/\n.Tick.tmod 3=0/\g0 c n inp o=(Nd.mk n.No (i64.wrap (n.Tick+1)) (eg (dr c n inp o) c (aS n)).1 (eg (dr c n inp o) c (aS n)).2.1 (fq c n o).1 n.C (eg (dr c n inp o) c (aS n)).2.2.1,(eg (dr c n inp o) c (aS n)).2.2.2))\/
     (jL c n=false/\n.Tick.tmod 3=1/\g0 c n inp o=(Nd.mk n.No (i64.wrap (n.Tick+1)) (fG (dr c n inp o) (fq c n o).1 c (aS n)).1 (fG (dr c n inp o) (fq c n o).1 c (aS n)).2.1 [] n.C (fG (dr c n inp o) (fq c n o).1 c (aS n)).2.2,[]))\/
     (jL c n=false/\n.Tick.tmod 3=2/\∃cu,g0 c n inp o=(Nd.mk n.No (i64.wrap (n.Tick+1)) (aN c n.V (iU c n inp) (aS n)).1 (aN c n.V (iU c n inp) (aS n)).2.1 [] cu ((fq c n o).2||(aN c n.V (iU c n inp) (aS n)).2.2),[]))):=by
  cases hid:jL c n with
  |true=>exact⟨(wb hf hid).1,.inl ⟨rfl,(wb hf hid).2⟩⟩
  | false=>
    rcases AB hid with h|h|h
    · have e:=xw hf hid h;unfold g0;rw[e];exact⟨rfl,.inr (.inl ⟨rfl,h,rfl⟩)⟩
    · have e:=xx hf hid h;unfold g0;rw[e];exact⟨rfl,.inr (.inr (.inl ⟨rfl,h,rfl⟩))⟩
    · obtain⟨cu,e⟩:=Fl hf hid h;unfold g0;rw[e];exact⟨rfl,.inr (.inr (.inr ⟨rfl,h,cu,rfl⟩))⟩
def gS (P:Bk->Prop)(Q:Vt->Prop)(v:Vw):Prop:=(∀b∈v.B,P b)/\∀x∈v.V,Q x
def sB (P:Bk->Prop)(Q:Vt->Prop)(o:Of):Prop:=P o.B/\gS P Q o.V
def EG (P:Bk->Prop)(Q:Vt->Prop)(n:Nd):Prop:=gS P Q n.V/\gS P Q n.In/\∀o∈n.O,sB P Q o
section
variable {P : Bk -> Prop} {Q : Vt -> Prop}
theorem tJ :gS P Q ⟨[],[]⟩:=⟨fun b hb=>(by cases hb),fun x hx=>(by cases hx)⟩
theorem ii {a b:Vw}(h1:gS P Q a)(h2:gS P Q b):gS P Q (c8 a b):=⟨fun x hx=>(D8.1 hx).elim (h1.1 x) (h2.1 x),fun x hx=>(D9.1 hx).elim (h1.2 x) (h2.2 x)⟩
theorem DM (h:gS P Q a):gS P Q (bF c a):=⟨fun x hx=>h.1 x (mem_filter.1 hx).1,fun x hx=>h.2 x (mem_filter.1 hx).1⟩
theorem vB (c:Cf){w i:Vw}(s:Int)(h1:gS P Q w)(h2:gS P Q i):gS P Q (aN c w i s).1/\gS P Q (aN c w i s).2.1:=by
 by_cases h:ov c w
 ·have ht:=LT h i s;obtain⟨t,e,h3⟩:=ht.preB;obtain⟨u,e2,h4⟩:=ht.preV;refine⟨⟨fun b hb=>?_,fun v hv=>?_⟩,fun b hb=>h2.1 b (mem_filter.1 (ht.subB.subset hb)).1,fun v hv=>h2.2 v (mem_filter.1 (ht.subV.subset hv)).1⟩
  ·rw[e]at hb;rcases mem_append.1 hb with hb|hb
   ·exact h1.1 b hb
   ·exact h2.1 b (mem_filter.1 (h3 b hb).1).1
  ·rw[e2]at hv;rcases mem_append.1 hv with hv|hv
   ·exact h1.2 v hv
   ·exact h2.2 v (mem_filter.1 (h4 v hv).1).1
 ·have e:aN c w i s=(w,i,false):=by unfold aN;rw[i0_ h]
  rw[e];exact⟨h1,h2⟩
theorem vA (c:Cf)(s:Int):∀(o:List Of) (x:Vw×Vw×Bool),(∀y∈o,sB P Q y)->gS P Q x.1->gS P Q x.2.1->gS P Q (o.foldl (qT c s) x).1/\gS P Q (o.foldl (qT c s) x).2.1
 |[],x,_,h1,h2=>⟨h1,h2⟩
 |y::r,x,h,h1,h2=>by
  rw[List.foldl_cons];have hy:=h y (List.mem_cons_self ..);obtain⟨a1,a2⟩:=vB c (i:=c8 y.V ⟨[y.B],[]⟩) s h1 (ii hy.2 ⟨fun b hb=>by rw[List.mem_singleton.1 hb];exact hy.1,fun x hx=>(by cases hx)⟩);exact vA c s r _ (fun z hz=>h z (List.mem_cons_of_mem _ hz)) a1<|ii h2 a2
noncomputable def OC (c:Cf)(n:Nd)(inp:Vw)(o:List Of):Vt:=⟨n.No,aS n,gX c (bc (dr c n inp o) (fq c n o).1 c (aS n)).1.B (dF c (bc (dr c n inp o) (fq c n o).1 c (aS n)).1.V (i64.wrap (aS n-1)))⟩
end
def QE (v:Vw):Prop:=v.B.Nodup/\v.V.Nodup
theorem LL (l:List Int):AZ (qB l):=⟨s7 _ _,s7 _ _⟩
theorem Ot (b:Bk):AZ (nm b):=LL _
theorem LK {id k:ID}(h:k∈ba l id):AZ k:=by
 unfold ba at h;split at h
 ·cases h
 ·obtain⟨b,-,rfl⟩:=List.mem_map.1 h;exact Ot b
theorem zS {c:Cf}{l:List Bk}{v:List Vt}:∀(n:Nat) (id:ID),AZ id->AZ (oB c l v n id)
 |0,id,h=>h
 | n+1,id,h=>by
  unfold oB;split
  ·rename_i h2;rcases nf c l v id with⟨-,e⟩|⟨k,hk,e⟩
   ·rw[e]at h2;simp only at h2;omega
   ·exact zS n _ (by rw[e];exact LK hk)
  ·exact h
theorem Jd (c:Cf)(l:List Bk)(v:List Vt):AZ (gX c l v):=zS _ _ ⟨⟨by decide,by decide⟩,by decide,by decide⟩
theorem Jp (n:Int):aU .i64 (i64.wrap n):=cS .i64 n
theorem Jm (h:aU .i64 x.No)(c:Cf)(hs:aU .i64 slot):ou (oC x c slot):=
 have hh:=Jd c (aN c x.V x.In slot).1.B (dF c (aN c x.V x.In slot).1.V (i64.wrap (slot-1)))
 ⟨hs,h,hh.1,hh.2,by show aU .u64 0;exact⟨by decide,by decide⟩⟩
def DG (v:Vw):Prop:=gS ou (fun _=>True) v
theorem Pg {v:Vw}(h:kd v.B):DG v:=⟨h,fun _ _=>trivial⟩
structure AY (c:Cf)(v:Vw):Prop where
 ok:DG v
 b:v.B.length<=500
 v:v.V.length<=500
theorem yW {w i:Vw}(h:AY c w)(hi:DG i)(s:Int):AY c (aN c w i s).1:=by
 obtain⟨h1,h2,h3⟩:=h;have hm:=lS c w i s;exact⟨(vB c s h1 hi).1,by omega,by omega⟩
section
variable {c : Cf} (hW : c.W.length <= 1000)
include hW
theorem pU {n:Nd}{i:Vw}(hv:AY c n.V)(hi:DG i)(hl:i.B.length+i.V.length<=999)(slot:Int) :
  sd c n i slot=some (⟨n.No,n.Tick,(aN c n.V i slot).1,n.In,n.O,n.C,n.Full||(aN c n.V i slot).2.2⟩,(aN c n.V i slot).2.1):=by
 obtain⟨a1,a2,a3⟩:=hv;unfold sd;rw[Fy hW a1.1 hi.1 (by omega) (by omega) hl,ob];cases n.Full <;>rfl
theorem Fr {n:Nd}{o:List Of}(hl:n.O.length+o.length<=1000):xG c n o=some ⟨n.No,n.Tick,n.V,n.In,(fq c n o).1,n.C,(fq c n o).2⟩:=by
 obtain⟨L,hL⟩:∃L,L=n.O++o:=⟨_,rfl⟩
 have hLl:L.length<=1000:=by rw[hL,List.length_append];exact hl
 have e:=ax (step:=kZ c n o) (n:=L.length) (fun k=>ew.mk (k:Int) (gY n.Tick c (aS n) n.Full (L.take k)).2 (gY n.Tick c (aS n) n.Full (L.take k)).1) (ew.mk (L.length:Int) (gY n.Tick c (aS n) n.Full L).2 (gY n.Tick c (aS n) n.Full L).1) (fun k hk=>by
  obtain⟨y,hy,-⟩:=az hk
  have et:L.take (k+1)=L.take k++[y]:=by rw[List.take_add_one,hy];rfl
  have hn:=(mo n.Tick c (aS n) n.Full (L.take k)).1
  have gate:(bif (n.Tick.tmod 3)==2 then some true else(some y).bind fun y1=>bif y1.Slot != aS n then some true else(some y).bind fun y2=>(HW c (aS n)).bind fun v3=>some (y2.From != v3))=some (!HZ n.Tick c (aS n) y):=by
   rw[wq hW,ob];simp only[ob];unfold HZ;by_cases h1:n.Tick.tmod 3=2
   ·rw[beq_iff_eq.2 h1,ct,aR (by simp[h1])];rfl
   ·rw[show(n.Tick.tmod 3==2)=false by simp[h1],cf];by_cases h2:y.Slot=aS n
    ·rw[show(y.Slot != aS n)=false by simp[h2],cf];by_cases h3:y.From=rf c (aS n)
     ·rw[aP ⟨h1,h2,h3⟩,h3];simp
     ·rw[aR (by simp[h3])];simp[h3]
    ·rw[show(y.Slot != aS n)=true by simp[h2],ct,aR (by simp[h2])];rfl
  unfold kZ;simp only;rw[<-hL,dO,au hy,et,vM,ah (n:=k)];unfold aS at gate hn⊢;rw[gate,ob];unfold mJ;generalize gY n.Tick c (i64.wrap (n.Tick.tdiv 3)) n.Full (L.take k)=s at hn⊢
  cases hk:HZ n.Tick c (i64.wrap (n.Tick.tdiv 3)) y with
  |false=>rw[Bool.not_false,ct,i0_ (by simp)]
  |true=>
   rw[Bool.not_true,cf,i1_ rfl];by_cases h8:s.1.length=8
   ·rw[aP (by omega),ct,i1_ h8]
   ·rw[aR (by omega),cf,i0_ h8,ob,aC (by simp only[length_singleton];omega),ct]) (by
  unfold kZ;simp only
  rw[<-hL,ft,List.take_length]) (by omega)
 have e':iter (kZ c n o) aY (ew.mk 0 n.Full [])=_:=e;unfold xG;rw[aC,ct,aC,ct,e',ob,hL];rfl
theorem Fs (hv:AY c x.V)(hi:DG x.In)(hl:x.In.B.length+x.In.V.length<=999)(hn:aU .i64 x.No)(hs:aU .i64 slot) :
  xH c x slot=some (⟨x.No,x.Tick,(eg x c slot).1,(eg x c slot).2.1,x.O,x.C,(eg x c slot).2.2.1⟩,(eg x c slot).2.2.2):=by
 have hf:=yW hv hi slot;obtain⟨f1,f2,f3⟩:=id hf;unfold xH eg;rw[wq hW,ob];by_cases h:x.No=rf c slot
 ·rw[show(x.No != rf c slot)=false by simp[h],cf,i1_ h,pU hW hv hi hl,ob];simp only;rw[tm hW f1.1 (by omega) (by omega),ob,show Bk.mk slot x.No (gX c (aN c x.V x.In slot).1.B (dF c (aN c x.V x.In slot).1.V (i64.wrap (slot-1)))) 0=oC x c slot from rfl,pU hW (i:=⟨[oC x c slot],[]⟩) hf ⟨fun b hb=>by rw[List.mem_singleton.1 hb];exact Jm hn c hs,fun x hx=>(by cases hx)⟩ (by simp),ob]
 ·rw[show(x.No != rf c slot)=true by simp[h],ct,i0_ h]
theorem Ft (hv:AY c x.V)(hi:DG x.In)(hi1:x.In.B.length<=500)(hi2:x.In.V.length<=500)(ho:x.O.length<=8)(hs:∀y∈x.O,sB ou (fun _=>True) y)(hz:∀y∈x.O,y.V.B.length<=500/\y.V.V.length<=500)(hz2:∀y∈x.O,y.V.B.length+y.V.V.length<=998) :
  xI c x slot=some ⟨x.No,x.Tick,(fG x x.O c slot).1,(fG x x.O c slot).2.1,[],x.C,(fG x x.O c slot).2.2⟩:=by
 have hall:=fun(l:List Of) (h:∀y∈l,y∈x.O)=>vA c slot l (x.V,x.In,x.Full) (fun y hy=>hs y (h y hy)) hv.ok hi;have hsz:=fun(l:List Of) (h1:l.length<=8) (h:∀y∈l,y∈x.O)=>qU (c:=c) (slot:=slot) hv.b hv.v hi1 hi2 8 l h1 fun z hy=>hz z (h z hy)
 have e:=ax (step:=k7 c slot) (n:=x.O.length) (fun k=>fR.mk (k:Int) ⟨x.No,x.Tick,(bc x (x.O.take k) c slot).1,(bc x (x.O.take k) c slot).2.1,x.O,x.C,(bc x (x.O.take k) c slot).2.2⟩)
  (fR.mk (x.O.length:Int) ⟨x.No,x.Tick,(bc x x.O c slot).1,(bc x x.O c slot).2.1,x.O,x.C,(bc x x.O c slot).2.2⟩) (fun k hk=>by
  obtain⟨y,hy,hm⟩:=az hk
  have et:x.O.take (k+1)=x.O.take k++[y]:=by rw[List.take_add_one,hy];rfl
  have ha:=hall (x.O.take k) fun _=>List.mem_of_mem_take;have hz':=hsz (x.O.take k) (by rw[List.length_take];omega) fun _=>List.mem_of_mem_take;have hy2:=hz y hm;have hy3:=hz2 y hm;have hy4:=hs y hm;have hll:=up y;have hok:DG (c8 y.V ⟨[y.B],[]⟩):=ii hy4.2 ⟨fun b hb=>by rw[List.mem_singleton.1 hb];exact hy4.1,fun x hx=>(by cases hx)⟩;unfold k7;simp only;rw[dO,au hy,ob,ob,et,uA,ah (n:=k)];have ha':DG (bc x (x.O.take k) c slot).1/\DG (bc x (x.O.take k) c slot).2.1:=ha;generalize bc x (x.O.take k) c slot=s at ha' hz'⊢;have hzt:=ot c s.1 (c8 y.V ⟨[y.B],[]⟩) slot;rw[lX (by simp only[length_singleton];omega) (by simp only[List.length_nil];omega),ob,pU hW (n:=⟨x.No,x.Tick,s.1,s.2.1,x.O,x.C,s.2.2⟩) ⟨ha'.1,by simp only;omega,by simp only;omega⟩ hok (by omega),ob];simp only;rw[lX,ob]
  rfl) (by
  unfold k7;simp only
  rw[ft,List.take_length]) (by omega)
 have e':iter (k7 c slot) aY (fR.mk 0 x)=_:=e;have ha:=hall x.O fun _ h=>h;have hz':=hsz x.O ho fun _ h=>h;have ha':DG (bc x x.O c slot).1/\DG (bc x x.O c slot).2.1:=ha;unfold xI fG;rw[e',ob];simp only;rw[F1 hW,ob];generalize bc x x.O c slot=s at ha' hz'⊢;by_cases h:x.No∈pF c slot
 ·rw[aP h,ct,i1_ h,tm hW ha'.1.1 (by omega) (by omega),ob,lX (by simp only[List.length_nil];omega) (by simp only[length_singleton];omega),ob]
 ·rw[aR h,cf,i0_ h]
end
structure KR (c:Cf)(n:Nd)(inp:Vw)(o:List Of):Prop where
 g:tH c n inp o
 w:c.W.length<=1000
 ins:(iU c n inp).B.length+(iU c n inp).V.length<=999
 offs:∀y∈n.O++o,y.V.B.length+y.V.V.length<=998
 no:aU .i64 n.No
 all:EG ou (fun _=>True) n
 inp:DG inp
 o:∀y∈o,sB ou (fun _=>True) y
theorem Fm {n:Nd}{inp:Vw}{o:List Of}(hf:KR c n inp o):xA c n inp o=ko c n inp o:=by
 obtain⟨hg,hW,hin,hof,hno,⟨hnv,hni,hno2⟩,hinp,ho⟩:=hf;have hi:(iU c n inp).B.length<=500/\(iU c n inp).V.length<=500:=hg.ins;have hok:DG (iU c n inp):=ii hni (DM hinp);obtain⟨hr1,hr2⟩:=pn hg;have hh:=(mo n.Tick c (aS n) n.Full (n.O++o)).2.1;have hr3:∀y∈(fq c n o).1,sB ou (fun _=>True) y:=fun y hy=>(mem_append.1 (hh y hy).1).elim (hno2 y) (ho y);have hr4:∀y∈(fq c n o).1,y.V.B.length+y.V.V.length<=998:=fun y hy=>hof y (hh y hy).1;obtain⟨⟨a1,a2⟩,⟨b1,b2⟩,⟨e1,e2⟩,-,g1,g2⟩:=id hg;have hfv:AY c n.V:=⟨hnv,a1,a2⟩;have hol:=qD c inp;have gate:=rH c n;rw[l8,ob]at gate;unfold xA;rw[oM hW,ob,gate,ob]
 cases h:jL c n with
 |true=>rw[ct,sb hg h]
 | false=>
  rw[cf,xF hW hinp.1 (by omega) (by omega),ob,lX,ob,Fr hW (n:=Nd.mk n.No n.Tick n.V _ n.O n.C n.Full) (by simp only;omega),ob];simp only;have x1:AY c (dr c n inp o).V:=hfv;rcases AB h with ht|ht|ht
  ·rw[xw hg h ht,ht,show((0:Int)==0)=true from rfl,ct];have:=Fs (slot:=aS n) hW (x:=⟨n.No,n.Tick,n.V,iU c n inp,(fq c n o).1,n.C,(fq c n o).2⟩) hfv hok hin hno (Jp _);exact(congrArg (fun z=>(z.bind fun v7=>some (v7.2,v7.1)).bind fun v6:List Of×Nd=>some (Nd.mk v6.2.No (i64.wrap (v6.2.Tick+1)) v6.2.V v6.2.In v6.2.O v6.2.C v6.2.Full,v6.1)) this).trans Z
  ·rw[xx hg h ht,ht,show((1:Int)==0)=false from rfl,cf,show((1:Int)==1)=true from rfl,ct];have:=Ft (slot:=aS n) hW (x:=⟨n.No,n.Tick,n.V,iU c n inp,(fq c n o).1,n.C,(fq c n o).2⟩) hfv hok hi.1 hi.2 hr1 hr3 hr2 hr4;exact(congrArg (fun z=>(z.bind fun v8=>some (([]:List Of),v8)).bind fun v6:List Of×Nd=>some (Nd.mk v6.2.No (i64.wrap (v6.2.Tick+1)) v6.2.V v6.2.In v6.2.O v6.2.C v6.2.Full,v6.1)) this).trans Z
  ·have hm:cY c:=by
    have:=of_decide_eq_false h;exact Decidable.not_not.1 fun h=>this<|.inl h
   rw[pP hg h,ht,show((2:Int)==0)=false from rfl,cf,show((2:Int)==1)=false from rfl,cf,show((2:Int)==2)=true from rfl,ct];obtain⟨r,hr,-,e⟩:=tG (x:=dr c n inp o) (slot:=aS n) hm a1 a2 hi.1 hi.2;rw[e,ob];have hft:=yW (i:=iU c n inp) hfv hok (aS n);obtain⟨f1,f2,f3⟩:=hft
   have h86:xJ c ⟨n.No,n.Tick,n.V,iU c n inp,(fq c n o).1,n.C,(fq c n o).2⟩ (aS n)=some ⟨n.No,n.Tick,(aN c n.V (iU c n inp) (aS n)).1,(aN c n.V (iU c n inp) (aS n)).2.1,[],dK n.C (aN c n.V (iU c n inp) (aS n)).1.B (gX c (aN c n.V (iU c n inp) (aS n)).1.B (dF c (aN c n.V (iU c n inp) (aS n)).1.V (aS n))) r.1 r.2 (aS n),(fq c n o).2||(aN c n.V (iU c n inp) (aS n)).2.2⟩:=by
    unfold xJ;rw[pU hW (n:=⟨n.No,n.Tick,n.V,iU c n inp,(fq c n o).1,n.C,(fq c n o).2⟩) hfv hok hin,ob];simp only;rw[tm hW f1.1 (by omega) (by omega),ob,Fx hm f1.1 (by omega) (by omega)];have hr':pR c (aN c n.V (iU c n inp) (aS n)).1 (aS n) (gX c (aN c n.V (iU c n inp) (aS n)).1.B (dF c (aN c n.V (iU c n inp) (aS n)).1.V (aS n)))=some r:=hr;rw[hr',ob,Kz f1.1 (by omega),ob]
   exact(congrArg (fun z=>(z.bind fun v8=>some (([]:List Of),v8)).bind fun v6:List Of×Nd=>some (Nd.mk v6.2.No (i64.wrap (v6.2.Tick+1)) v6.2.V v6.2.In v6.2.O v6.2.C v6.2.Full,v6.1)) h86).trans Z
theorem Bi (x:Nd)(c:Cf)(slot:Int):(eg x c slot).2.2.2.length<=1:=by
 unfold eg;split <;>simp
theorem A7 {l:List α}(hb:bJ 0 l.length 8=true):LC prog 62 [.p (.slice 1 (l.map f))] [] (Is (.vec 1 0 (l.map f).length 0 (l.map f).length) [.vec 1 (l.map f)]):=by
 refine eN Tryz.func62 Z Z Z ?_;refine qR<|yS Z (za Z Z)<|nT<|zQ<|qR<|yS Z (zm Z Z)<|ay.cons Z Z Z (aa.eqNil Z Z Z dL) ?_;rintro _ _ ⟨rfl,b,rfl,hn⟩;refine nT ?_;refine zX Z (fun g=>?_)<|fun g=>?_
 ·have hl:l=[]:=List.map_eq_nil_iff.1 (hn g);subst hl;exact qR<|yS Z (za Z Z)<|nT<|LW.ent (bY.lazy (t:=2) (m:=1) Z Z Z)<|zr<|ae<|aD (.one (.tmp Z)) ⟨rfl,rfl⟩
 ·refine LW.skip ?_;exact zT<|qR<|yS Z (aa.buildSlice0 Z dL)<|yS Z (zm Z Z)<|yS Z (aa.appendZX f l Z Z Z Z iy.p Z dL hb Z)<|yS Z (za Z Z)<|nT<|zr<|aD (.one (.tmp Z)) ⟨rfl,rfl⟩
theorem Le {l:List α}(hb:bJ 0 l.length 176=true):LC prog 104 [.p (.slice 12 (l.map f))] [] (Is (.vec 12 0 (l.map f).length 0 (l.map f).length) [.vec 12 (l.map f)]):=by
 refine eN Tryz.func104 Z Z Z ?_;refine qR<|yS Z (za Z Z)<|nT<|zQ<|qR<|yS Z (zm Z Z)<|ay.cons Z Z Z (aa.eqNil Z Z Z dy) ?_;rintro _ _ ⟨rfl,b,rfl,hn⟩;refine nT ?_;refine zX Z (fun g=>?_)<|fun g=>?_
 ·have hl:l=[]:=List.map_eq_nil_iff.1 (hn g);subst hl;exact qR<|yS Z (za Z Z)<|nT<|LW.ent (bY.lazy (t:=2) (m:=12) Z Z Z)<|zr<|ae<|aD (.one (.tmp Z)) ⟨rfl,rfl⟩
 ·refine LW.skip ?_;exact zT<|qR<|yS Z (aa.buildSlice0 Z dy)<|yS Z (zm Z Z)<|yS Z (aa.appendZX f l Z Z Z Z iy.p Z dy hb Z)<|yS Z (za Z Z)<|nT<|zr<|aD (.one (.tmp Z)) ⟨rfl,rfl⟩
theorem GE {l:List α}(hb:bJ 0 l.length 104=true):LC prog 118 [.p (.slice 9 (l.map f))] [] (Is (.vec 9 0 (l.map f).length 0 (l.map f).length) [.vec 9 (l.map f)]):=by
 refine eN Tryz.func118 Z Z Z ?_;refine qR<|yS Z (za Z Z)<|nT<|zQ<|qR<|yS Z (zm Z Z)<|ay.cons Z Z Z (aa.eqNil Z Z Z bq) ?_;rintro _ _ ⟨rfl,b,rfl,hn⟩;refine nT ?_;refine zX Z (fun g=>?_)<|fun g=>?_
 ·have hl:l=[]:=List.map_eq_nil_iff.1 (hn g);subst hl;exact qR<|yS Z (za Z Z)<|nT<|LW.ent (bY.lazy (t:=2) (m:=9) Z Z Z)<|zr<|ae<|aD (.one (.tmp Z)) ⟨rfl,rfl⟩
 ·refine LW.skip ?_;exact zT<|qR<|yS Z (aa.buildSlice0 Z bq)<|yS Z (zm Z Z)<|yS Z (aa.appendZX f l Z Z Z Z iy.p Z bq hb Z)<|yS Z (za Z Z)<|nT<|zr<|aD (.one (.tmp Z)) ⟨rfl,rfl⟩
def p4 (v:Vw):Option Vw:=bif bJ 0 v.B.length 40 then bif bJ 0 v.V.length 32 then some v else none else none
theorem GD {v:Vw}{r_:Vw}(h:p4 v=some r_):aq prog 106 [iB v] [iB r_]:=by
 refine zh Tryz.func106 Z Z Z Z ?_;unfold p4 at h;refine qR<|yS Z (bx Z Z Z Z Z)<|yS Z (ze Z d5 Z Z)<|nT<|zQ<|LW.ent (bY.slot Z)<|LW.ent (bY.slot Z)<|fB<|yG Z (fun H _=>zA Z Z aK)<|yF Z (zd Z Z Z bM Z Z) Z<|zg h fun q1 h=>?_;refine yF Z (cj.callV (id:=2) (qs:=[(kB v.B)]) Z Z Z (by kernel_rfl) (yA q1) (fun H=>(.consC zv .nil)) Z) Z ?_;refine yG Z (fun H _=>zA Z Z aQ)<|yF Z (zd Z Z Z co Z Z) Z<|zg h fun q2 h=>?_;refine yF Z (cj.callV (id:=3) (qs:=[(kV v.V)]) Z Z Z (by kernel_rfl) (yB q2) (fun H=>(.consC zv .nil)) Z) Z ?_;refine yG Z (fun H _=>aa.build Z nh Z Z Z)<|yF Z (zt Z Z Z Z aG Z Z Z) Z ?_;refine LF.nil ⟨by kernel_rfl,?_⟩;refine zT<|zr ?_;cases h;exact zf (.one (er Z Z))<|(Conv.agg (.cons (Conv.vecAll Z Z Z) (.cons (Conv.vecAll Z Z Z) .nil)))
theorem tw {v r_:Vw}(h:p4 v=some r_):v=r_:=by
 unfold p4 at h;obtain⟨_,h⟩:=zG h;obtain⟨_,h⟩:=zG h;exact zJ h
structure fV where
 t8:Int
def lg (l:List Of)(x1:fV):Option (fV⊕fV):=bif decide (x1.t8<(l.length:Int))then (ix l x1.t8).bind fun y1=>(p4 y1.V).bind fun _=>(ix l x1.t8).bind fun _=>some (.inl (fV.mk (i64.wrap (x1.t8+1))))else some (.inr (fV.mk x1.t8))
def si (l:List Of):Option (List Of):=bif bJ 0 l.length 104 then (iter (lg l) aY (fV.mk 0)).bind fun _=>some l else none
theorem JY {l:List Of}{r_:(List Of)}(h:si l=some r_):aq prog 105 [.slice 9 (l.map cZ)] [.slice 9 (r_.map cZ)]:=by
 refine zh Tryz.func105 Z Z Z Z ?_;unfold si at h;refine qR<|mN Z<|qR<|zM Z<|zg h fun q1 h=>yS Z (aa.callV (qs:=[(kO l)]) Z Z Z (by kernel_rfl) (GE q1) (.consC zv .nil) Z Z)<|mN Z<|zQ<|qR<|zM Z<|yS Z (aa.lenVM Z Z Z (by kernel_rfl))<|mN Z ?_;obtain⟨v1,p1,b1⟩:=zB h;clear h;refine LW.tail (E:=[(0,(jO 0 l)),(2,.zs)]) (O:=[.vec 9 (l.map cZ)]) ?_<|fun e1 K1 u1=>?_
 ·refine LW.block ?_;refine LW.iterB (E:=fun x1:fV=>[(0,(jO 0 l)),(2,.zs),(7,.p (.int .i64 (l.length:Int))),(8,(iQ x1.t8))]) (O:=fun x1=>[.vec 9 (l.map cZ)]) p1 (av 1 ⟨Z,Z,Z,Z,t_⟩)<|fun x1 z1 h m1=>?_;unfold lg at h;refine qR<|yS Z (an Z Z Z Z)<|nT<|zQ ?_;refine zX Z (fun g1=>?_)<|fun g1=>?_
  ·refine zi g1 h fun h=>zk<|zT<|zQ<|zl<|qR<|zM Z<|mN Z<|zR<|zM Z<|zM Z<|zM Z<|zM Z<|zb h fun y1 j1 h=>yS Z (aa.indexAddrVX Z Z Z Z bq j1)<|yS Z (aa.fieldAddrV Z Z Z Z fp)<|yS Z (aa.loadVX Z Z Z aG j1 Z Z Z Z)<|zb h fun v2 a2 h=>?_;obtain rfl:=tw a2;refine yS Z (yP Z Z Z (GD a2) dG)<|zb h fun y2 j2 h=>yS Z (aa.indexAddrVX Z Z Z Z bq j2)<|yS Z (aa.fieldAddrV Z Z Z Z fp) ?_;obtain rfl:=zJ (j1.symm.trans j2);refine yS Z (aa.storeVS (f:=cZ) (l:=l) Z Z Z Z aG (fun _=>rfl) j2 Z Z Z Z Z) ?_;refine zN<|af<|zT<|zR<|yS Z (an Z Z Z Z)<|mN Z ?_;cases h;exact⟨_,rfl,av 1 ⟨Z,Z,Z,Z,t_⟩⟩
  ·refine zo g1 h fun h=>zq<|ai<|ai<|zy<|zT ?_;cases h;obtain rfl:=(m1 _ rfl);exact av 1 ⟨Z,Z,t_⟩
 ·have h:=b1;clear p1;refine zT<|LW.weak u1<|qR<|zM Z<|mN Z<|zr ?_;cases h;exact zf (.one (.tmp Z))<|(Conv.vecAll Z Z Z)
theorem yb {v r_:List Of}(h:si v=some r_):v=r_:=by
 unfold si at h;obtain⟨_,h⟩:=zG h;obtain⟨_,_,h⟩:=zB h;exact zJ h
structure fU where
 t20:Int
def lf (w:Wd)(x1:fU):Option (fU⊕fU):=bif decide (x1.t20<(w.N.length:Int))then (ix w.N x1.t20).bind fun y1=>(p4 y1.V).bind fun _=>(p4 y1.In).bind fun _=>(si y1.O).bind fun _=>some (.inl (fU.mk (i64.wrap (x1.t20+1))))else some (.inr (fU.mk x1.t20))
def sh (w:Wd):Option Wd:=bif bJ 0 w.Bad.length 8 then bif bJ 0 w.N.length 176 then (si w.O).bind fun _=>(iter (lf w) aY (fU.mk 0)).bind fun _=>some w else none else none
theorem JV {w:Wd}{r_:Wd}(h:sh w=some r_):aq prog 60 [w9 w] [w9 r_]:=by
 refine zh Tryz.func60 Z Z Z Z ?_;unfold sh at h;refine qR<|yS Z (bx Z Z Z Z Z)<|yS Z (ze Z ip Z Z)<|nT<|zQ<|LW.ent (bY.slot Z)<|LW.ent (bY.slot Z)<|fB<|yG Z (fun H _=>zA Z Z cP)<|yF Z (zd Z Z Z dH Z Z) Z<|zg h fun q1 h=>?_;refine yF Z (cj.callV (id:=2) (qs:=[(kI w.Bad)]) Z Z Z (by kernel_rfl) (A7 q1) (fun H=>(.consC zv .nil)) Z) Z ?_;refine yG Z (fun H _=>zA Z Z bD)<|yF Z (zd Z Z Z cT Z Z) Z<|zg h fun q2 h=>?_;refine yF Z (cj.callV (id:=3) (qs:=[.p (.slice 12 (w.N.map du))]) Z Z Z (by kernel_rfl) (Le q2) (fun H=>(.consC zv .nil)) Z) Z ?_;refine yG Z (fun H _=>zA Z Z dZ)<|yF Z (zd Z Z Z bk Z Z) Z<|zb h fun v1 a1 h=>?_;obtain rfl:=yb a1;refine yF (F:=[]) (s:=none) Z (fun H _=>yP Z Z Z (JY a1) dG) Z ?_;refine yG Z (fun H _=>zA Z Z cP)<|yF Z (zt Z Z Z Z dH Z Z Z) Z<|yG Z (fun H _=>zA Z Z bD)<|yF Z (zt Z Z Z Z cT Z Z Z) Z<|yG Z (fun H _=>zA Z Z dZ)<|yF Z (zt Z Z Z Z bk Z Z Z) Z ?_;refine LF.nil ⟨by kernel_rfl,?_⟩;refine zT<|zQ<|qR<|yS Z (zA Z Z bD)<|yS Z (zD Z Z Z cT Z Z)<|yS Z (aa.lenVM Z Z Z (by kernel_rfl))<|mN Z ?_;obtain⟨v2,p2,b2⟩:=zB h;clear h;refine LW.tail (E:=[(1,.ptr 0 0),(2,.ptr 1 0)]) (O:=[.box [(kI w.C.W),(uQ w.C.Seed),(iQ w.C.Epoch),(iQ w.C.Num),(iQ w.C.Den),(jI 2 w.Bad),(iQ w.Tick),.vec 12 3 (w.N.map du).length 0 (w.N.map du).length,(kO w.O)],.box rc,.vec 1 (w.Bad.map bh),.vec 12 (w.N.map du)]) ?_<|fun e2 K2 u2=>?_
 ·refine LW.block ?_;refine LW.iterB (E:=fun x1:fU=>[(1,.ptr 0 0),(2,.ptr 1 0),(19,.p (.int .i64 (w.N.length:Int))),(20,(iQ x1.t20))]) (O:=fun x1=>[.box [(kI w.C.W),(uQ w.C.Seed),(iQ w.C.Epoch),(iQ w.C.Num),(iQ w.C.Den),(jI 2 w.Bad),(iQ w.Tick),.vec 12 3 (w.N.map du).length 0 (w.N.map du).length,(kO w.O)],.box rc,.vec 1 (w.Bad.map bh),.vec 12 (w.N.map du)]) p2 (av 4 ⟨Z,Z,Z,Z,t_⟩)<|fun x1 z1 h m1=>?_;unfold lf at h;refine qR<|yS Z (an Z Z Z Z)<|nT<|zQ ?_;refine zX Z (fun g1=>?_)<|fun g1=>?_
  ·refine zi g1 h fun h=>zk<|zT<|zQ<|zl<|qR<|zM Z<|mN Z<|qR<|yS Z (zA Z Z bD)<|yS Z (zD Z Z Z cT Z Z)<|zM Z<|zb h fun y1 j1 h=>yS Z (aa.indexAddrVX Z Z Z Z dy j1)<|mN Z<|dx<|zH Z<|zH Z<|zH Z<|zH Z<|yE Z (aa.nilCheckV Z Z Z Z)<|yE Z (aa.fieldAddrV Z Z Z Z bI)<|yE Z (aa.loadVX Z Z Z aG j1 Z Z Z Z)<|zb h fun v3 a3 h=>?_;obtain rfl:=tw a3;refine yE Z (yP Z Z Z (GD a3) dG)<|zH Z<|yE Z (aa.nilCheckV Z Z Z Z)<|yE Z (aa.fieldAddrV Z Z Z Z bp)<|yE Z (aa.loadVX Z Z Z aG j1 Z Z Z Z)<|zb h fun v4 a4 h=>?_;obtain rfl:=tw a4;refine yE Z (yP Z Z Z (GD a4) dG)<|zH Z<|yE Z (aa.nilCheckV Z Z Z Z)<|yE Z (aa.fieldAddrV Z Z Z Z bz)<|yE Z (aa.loadVX Z Z Z bk j1 Z Z Z Z)<|zb h fun v5 a5 h=>?_;obtain rfl:=yb a5;refine yE Z (yP Z Z Z (JY a5) dG)<|yE Z (aa.nilCheckV Z Z Z Z)<|yE Z (aa.fieldAddrV Z Z Z Z bI) ?_;refine yE Z (aa.storeVS (f:=du) (l:=w.N) Z Z Z Z aG (fun _=>rfl) j1 Z Z Z Z Z) ?_;refine yE Z (aa.nilCheckV Z Z Z Z)<|yE Z (aa.fieldAddrV Z Z Z Z bp) ?_;refine yE Z (aa.storeVS (f:=du) (l:=w.N) Z Z Z Z aG (fun _=>rfl) j1 Z Z Z Z Z) ?_;refine yE Z (aa.nilCheckV Z Z Z Z)<|yE Z (aa.fieldAddrV Z Z Z Z bz) ?_;refine yE Z (aa.storeVS (f:=du) (l:=w.N) Z Z Z Z bk (fun _=>rfl) j1 Z Z Z Z Z) ?_;refine LO.nil<|af<|zT<|zR<|yS Z (an Z Z Z Z)<|mN Z ?_;cases h;exact⟨_,rfl,av 4 ⟨Z,Z,Z,Z,t_⟩⟩
  ·refine zo g1 h fun h=>zq<|ai<|ai<|zy<|zT ?_;cases h;obtain rfl:=(m1 _ rfl);exact av 4 ⟨Z,Z,t_⟩
 ·have h:=b2;clear p2;refine zT<|LW.weak u2<|qR<|yS Z (zD Z Z Z bB Z Z)<|yS Z (zs Z Z Z Z bB Z Z Z Z)<|nT<|zr ?_;cases h;exact zf (.one (er Z Z))<|(Conv.agg (.cons zv (.cons zv (.cons zv (.cons zv (.cons zv (.cons (Conv.vecAll Z Z Z) (.cons zv (.cons (Conv.vecAll Z Z Z) dG)))))))))
end Go.Mg
