/- What the references of trees and cursors tell is what the program tells; CursorMoves, TreeTells. Conditions: blocks' numbers are of their kinds. The reference of quick tells what the program tells. The reference of nodes. Are two nodes the same? Laws of nodes. Laws of nets, plain: what all have together, in whatever order. NodeKnown, plain. NodeKeeps, plain. What a node is behind a tick: what it has, how much that is. The reference of a node's tick tells what the program tells. NodeTicks, plain. A world once more. Conditions: none. -/
import Derived.Test.YtfbigoipfbiliaaGreatX7
import Derived.Test.YtfbigoipfbiliaaGreatX10
import Derived.Test.YtfbigoipfbiliaaGreatX9
import Derived.Test.YtfbigoipfbiliaaGreatX3
import Derived.Test.YtfbigoipfbiliaaGreatX6
set_option maxRecDepth 100000
set_option linter.unusedSimpArgs false
set_option linter.unusedVariables false
namespace Go.Mg
theorem yr {l:List Bk}{m:List (ID×Int)}(h:places l=some m){id:ID}{i:Int}(hf:ak m id=some i):an (l.map nm) id=i:=by
 have:=kp h id;rw[hf]at this;split at this
 ·rename_i e;subst e;rw[nl h];cases this;rfl
 ·split at this
  ·cases this;rfl
  ·cases this
theorem Au {l:List Bk}{m:List (ID×Int)}(h:places l=some m){id:ID}(hf:ak m id=none):an (l.map nm) id= -1∧id≠(0,0):=by
 have:=kp h id;rw[hf]at this;split at this
 ·cases this
 ·rename_i hne;split at this
  ·cases this
  ·rename_i h2;have:=xg (l.map nm) id;exact⟨by omega,hne⟩
section
variable {l : List Bk} (hk : gX l) (hl : l.length ≤ 1000)
include hk hl
omit hk in
theorem Dx {id:ID}:yb (l.map nm) id=some (an (l.map nm) id):=oZ (by simp;omega)
omit hk in
theorem w5 {m:List (ID×Int)}(h:places l=some m){names:List ID}(hnames:l.map nm=names){id:ID}{i:Int}(hf:ak m id=some i) :
  ∃b,iter (oV l names) bg ⟨i,id,[id]⟩=some b∧b.out=bP l (i+1).toNat id i:=by
 have h98:∀x,yb names x=some (an names x):=fun x=>oZ (by rw[←hnames];simp;omega)
 refine bf (step:=oV l names)
  (fun x=>∃d,ak m d=some x.i∧x.out.length+(x.i+1).toNat≤1001+1∧∃o,x.out=o++[d]∧bP l (i+1).toNat id i=o++bP l (x.i+1).toNat d x.i)
  (fun x=>(x.i+1).toNat) (fun b=>b.out=bP l (i+1).toNat id i) ?_ ⟨id,hf,?_,[],rfl,rfl⟩ (bO ?_)
 ·rintro⟨j,d',out⟩ ⟨d,hd,hlen,o,ho,hc⟩;simp only at hd hlen ho hc⊢;obtain⟨h1,h2⟩|⟨b,p,h0,h1,h2,h3,h4,h5,h6,h7⟩:=(aX h).known _ _ hd
  ·right;refine⟨⟨j,d',out⟩,?_,?_⟩
   ·simp only[oV];rw[decide_eq_false (by omega)];rfl
   ·rw[hc,ho,h1];rfl
  ·left;refine⟨⟨p,b.Parent,out++[b.Parent]⟩,?_,⟨b.Parent,h4,?_,out,rfl,?_⟩,?_⟩
   ·simp only[oV];rw[decide_eq_true (by omega),F4 h0 h2];simp only[ct,ob,h98];rw[aM (by simp;omega) (by omega),←hnames,yr h h4];rfl
   ·simp;omega
   ·rw[hc,fr (id:=d) h (by omega) h0 h2 h4 h5 h6,ho];simp
   ·simp only;omega
 ·simp only[List.length_singleton];rcases lv h hf with⟨rfl,-⟩|⟨b,h0,h1,-⟩ <;>omega
 ·simp only;rcases lv h hf with⟨rfl,-⟩|⟨b,h0,h1,-⟩ <;>omega
theorem Cn (id:ID):HM l id=some (am l id):=by
 simp only[HM,tA hk hl,ob,wN hl,Dx hl];unfold am
 cases h:places l with
 |none=>rfl
 | some m=>
  simp only[Option.isSome_some,Bool.not_true,cf,vA]
  cases hf:ak m id with
  |none=>
   have:=Au h hf;rw[this.1];simp[this.2]
  | some i=>
   rw[yr h hf];obtain⟨b,hb,hpost⟩:=w5 hl h rfl hf
   have hin:(bif decide (i<0)then bif !(decide (id=(0,0)))then(some (.inr []):Option (Unit⊕List ID))else some (.inl ())else some (.inl ()))=some (.inl ()):=by
    rcases lv h hf with⟨rfl,rfl⟩|⟨b,h0,h1,-⟩
    ·rfl
    ·rw[decide_eq_false (by omega)];rfl
   rw[hin];simp only[ob,sl,hb,hpost]
theorem Gu (low id:ID):Gt l low id=some (decide (an (am l id) low≥0)):=by
 have:=mj (l:=l) id;simp only[Gt,Cn hk hl,ob,oZ (names:=am l id) (id:=low) (by omega)]
theorem Gr (c:Cu)(head found:ID)(is:Bool)(slot:Int):H7 c l head found is slot=some (dh c l head found is slot):=by
 simp only[H7,Gu hk hl,ob,n7];by_cases h:0≤an (am l head) c.ID
 ·rw [Dr h,decide_eq_true (show an (am l head) c.ID≥0 from h)];simp only[Bool.not_true,cf,ob];by_cases hf:0≤an (am l head) found
  ·rw [decide_eq_true (show an (am l head) found≥0 from hf)];have hle:=C3 (cQ.1 hf) (cQ.1 h);by_cases e:c.ID=found
   ·rw[decide_eq_true e,if_neg (by rintro⟨-,-,h3⟩;rw[e]at h3;omega)];cases is <;>simp
   ·rw[decide_eq_false e];by_cases hlow:0≤an (am l found) c.ID
    ·have h1:=hle.1 (cQ.1 hlow)
     have h2:an (am l head) found≠an (am l head) c.ID:=fun e2=>by
      obtain⟨a,h3,h4⟩:=ft (cQ.1 hf);obtain⟨b,h5,h6⟩:=ft (cQ.1 h);rw[h4,h6]at e2
      have:a=b:=by omega
      subst this;rw[h3]at h5;cases h5;exact e rfl
     rw[decide_eq_true (show an (am l found) c.ID≥0 from hlow)];cases is
     ·simp
     ·rw[if_pos ⟨rfl,hf,by omega⟩];simp
    ·rw[decide_eq_false (show¬an (am l found) c.ID≥0 from hlow),if_neg (by rintro⟨-,-,h3⟩;exact hlow (cQ.2 (hle.2 (by omega))))];cases is <;>simp
  ·rw[decide_eq_false (show¬an (am l head) found≥0 from hf),if_neg (by rintro⟨-,h2,-⟩;exact hf h2)];cases is <;>cases decide (an (am l found) c.ID≥0) <;>simp
 ·rw [Dq hl (by omega),decide_eq_false (show¬an (am l head) c.ID≥0 from h)];simp only[Bool.not_false,ct,ob];by_cases hf:0≤an (am l head) found
  ·rw[decide_eq_true (show an (am l head) found≥0 from hf)];have hf':=cQ.1 hf
   have hne:am l head≠[]:=fun e=>by rw[e]at hf';cases hf'
   have hself:=w6 hf';have hz:0≤an (am l found) (0,0):=cQ.2 (mX (fun e=>by rw[e]at hself;cases hself));rw[decide_eq_true (show an (am l found) (0,0)≥0 from hz)]
   have hlast:an (am l head) (0,0)=(am l head).length-1:=by
    obtain⟨a,h3,h4⟩:=ft (mX hne);have h5:=rp h3
    have h6:(am l (0,0)).length=1:=by
     unfold am
     cases hp:places l with
     |none=>unfold am at hne;rw[hp]at hne;exact absurd rfl hne
     |some m=>simp only[(aX hp).zero];rfl
    have ha:=(List.getElem?_eq_some_iff.1 h3).1;rw[h5,List.length_drop]at h6;rw[h4];omega
   by_cases e:(0,0)=found
   ·rw[decide_eq_true e,if_neg (by rintro⟨-,-,h3⟩;rw[←e]at h3;omega)];cases is <;>simp
   ·rw[decide_eq_false e]
    have h2:an (am l head) found≠an (am l head) (0,0):=fun e2=>by
     obtain⟨a,h3,h4⟩:=ft hf';obtain⟨b,h5,h6⟩:=ft (mX hne);rw[h4,h6]at e2
     have:a=b:=by omega
     subst this;rw[h3]at h5;cases h5;exact e rfl
    have h3:=rI (l:=am l head) (v:=found);cases is
    ·simp
    ·rw[if_pos ⟨rfl,hf,by omega⟩];simp
  ·rw[decide_eq_false (show¬an (am l head) found≥0 from hf),if_neg (by rintro⟨-,h2,-⟩;exact hf h2)];cases is <;>cases decide (an (am l found) (0,0)≥0) <;>simp
end
theorem pU {a b:Int}(ha:0≤a∧a≤26388279066624)(hb:0≤b∧b≤3000):sM a b=some (0,0,a / 4294967296*b+a % 4294967296*b / 4294967296,a % 4294967296*b % 4294967296):=by
 have hM:decide ((4294967296:Int)≠0)=true:=by decide
 have e1:b.tdiv 4294967296=0:=by rw[Int.tdiv_eq_ediv_of_nonneg (by omega)];omega
 have e2:b.tmod 4294967296=b:=by rw[Int.tmod_eq_emod_of_nonneg (by omega)];omega
 have e3:a.tdiv 4294967296=a / 4294967296:=Int.tdiv_eq_ediv_of_nonneg (by omega);have e4:a.tmod 4294967296=a % 4294967296:=Int.tmod_eq_emod_of_nonneg (by omega)
 have q0:0≤a / 4294967296∧a / 4294967296≤6144:=by omega
 have r0:0≤a % 4294967296∧a % 4294967296≤4294967295:=by omega
 unfold sM;generalize a / 4294967296=q at e3 q0⊢;generalize a % 4294967296=r at e4 r0⊢;have u0:0≤r*b:=Int.mul_nonneg r0.1 hb.1;have u1:r*b≤4294967295*3000:=Int.mul_le_mul r0.2 hb.2 hb.1 (by omega);have v0:0≤q*b:=Int.mul_nonneg q0.1 hb.1;have v1:q*b≤6144*3000:=Int.mul_le_mul q0.2 hb.2 hb.1 (by omega);have f1:IntKind.i64.wrap q=q:=cJ (by omega) (by omega);have f2:IntKind.u64.wrap q=q:=fK (by omega) (by omega);have f3:IntKind.u64.wrap r=r:=fK (by omega) (by omega);have f4:IntKind.u64.wrap b=b:=fK (by omega) (by omega)
 have w0:IntKind.u64.wrap 0=0:=by decide
 have i0:IntKind.i64.wrap 0=0:=by decide
 simp only[hM,cond_true,e1,e2,e3,e4,f1,f2,f3,f4,w0,i0,Int.mul_zero];generalize r*b=u at u0 u1⊢;generalize q*b=v at v0 v1⊢;have g1:IntKind.u64.wrap u=u:=fK (by omega) (by omega);have g2:u.tdiv 4294967296=u / 4294967296:=Int.tdiv_eq_ediv_of_nonneg u0;have g3:u.tmod 4294967296=u % 4294967296:=Int.tmod_eq_emod_of_nonneg u0;have g4:IntKind.u64.wrap v=v:=fK (by omega) (by omega);simp only[g1,g2,g3,g4]
 have k1:0≤u / 4294967296∧u / 4294967296≤3000:=by omega
 have k2:0≤u % 4294967296∧u % 4294967296≤4294967295:=by omega
 generalize u / 4294967296=s at k1⊢;generalize u % 4294967296=t at k2⊢;have j1:IntKind.u64.wrap s=s:=fK (by omega) (by omega);have j2:IntKind.i64.wrap s=s:=cJ (by omega) (by omega);have j3:IntKind.i64.wrap t=t:=cJ (by omega) (by omega);have j4:IntKind.u64.wrap (v+s)=v+s:=fK (by omega) (by omega);simp only[j1,j2,j3,j4]
 have l1:(v+s).tmod 4294967296=v+s:=by rw[Int.tmod_eq_emod_of_nonneg (by omega)];omega
 have l2:(v+s).tdiv 4294967296=0:=by rw[Int.tdiv_eq_ediv_of_nonneg (by omega)];omega
 have l3:IntKind.i64.wrap (v+s)=v+s:=cJ (by omega) (by omega)
 have l4:(0:Int).tdiv 4294967296=0:=by decide
 have l5:(0:Int).tmod 4294967296=0:=by decide
 simp only[l1,l2,l3,l4,l5,j4,w0,i0,Int.zero_add,Int.add_zero];rfl
theorem nO {n:Int}(h:0≤n∧n≤4611686018427387904):pT n=some true:=by
 unfold pT;rw[decide_eq_true (show n≥0 from h.1),ct,decide_eq_true h.2]
theorem Ci {a b c d:Int}(ha:0≤a∧a≤26388279066624)(hb:0≤b∧b≤3000)(hc:0≤c∧c≤26388279066624)(hd:0≤d∧d≤3000):u6 a b c d=some (decide (a*b>c*d)):=by
  have split:∀x y:Int,x*y=4294967296*(x / 4294967296*y+x % 4294967296*y / 4294967296)+x % 4294967296*y % 4294967296:=by
    intro x y;have h1:=Int.emod_add_mul_ediv (x % 4294967296*y) 4294967296;have h2:=Int.emod_add_mul_ediv x 4294967296
    have h3:x*y=x % 4294967296*y+4294967296*(x / 4294967296*y):=by
      conv=>lhs;rw[←h2]
      rw[Int.add_mul,Int.mul_assoc]
    generalize x % 4294967296*y=p at h1 h3⊢;generalize x / 4294967296*y=q at h3⊢;omega
  have sa:=split a b;have sc:=split c d
  have ma:0≤a % 4294967296*b % 4294967296∧a % 4294967296*b % 4294967296<4294967296:=by omega
  have mc:0≤c % 4294967296*d % 4294967296∧c % 4294967296*d % 4294967296<4294967296:=by omega
  unfold u6;rw[nO ⟨ha.1,by omega⟩,ob,nO ⟨hb.1,by omega⟩,ob,nO ⟨hc.1,by omega⟩,ob,nO ⟨hd.1,by omega⟩,ob,Bool.not_true,cf,cf,cf,ob,cf,pU ha hb,ob,pU hc hd,ob,sa,sc];generalize a / 4294967296*b+a % 4294967296*b / 4294967296=h1;generalize a % 4294967296*b % 4294967296=l1 at ma⊢;generalize c / 4294967296*d+c % 4294967296*d / 4294967296=h2;generalize c % 4294967296*d % 4294967296=l2 at mc⊢
  obtain⟨r,hr,hp⟩:=bf (step:=nL (0,0,h1,l1) (0,0,h2,l2)) (fun x=>(x.i=0∨x.i=1∨x.i=2∨x.i=3∨x.i=4)∧(3≤x.i→h1=h2)∧(4≤x.i→l1=l2)) (fun x=>(4-x.i).toNat) (fun b=>b=.inr (decide (4294967296*h1+l1>4294967296*h2+l2))∨((∃x,b=.inl x)∧h1=h2∧l1=l2)) (by
    rintro⟨i⟩ ⟨hi,k1,k2⟩;simp only at hi k1 k2;unfold nL;rcases hi with rfl|rfl|rfl|rfl|rfl
    · exact .inl ⟨⟨1⟩,rfl,⟨by simp,by simp,by simp⟩,by simp⟩
    · exact .inl ⟨⟨2⟩,rfl,⟨by simp,by simp,by simp⟩,by simp⟩
    · by_cases e:h1=h2
      · subst e;refine .inl ⟨⟨3⟩,?_,⟨by simp,fun _=>rfl,by simp⟩,by simp⟩;show(bif h1 != h1 then _ else _)=_;rw[show(h1 != h1)=false by simp,cf];rfl
      · refine .inr ⟨.inr (decide (h1>h2)),?_,.inl ?_⟩
        · show(bif h1 != h2 then _ else _)=_;rw[show(h1 != h2)=true by simp[e],ct]
        · congr 1;exact decide_eq_decide.2 (by omega)
    · have e:=k1 (by omega);subst e;by_cases e:l1=l2
      · subst e;refine .inl ⟨⟨4⟩,?_,⟨by simp,fun _=>rfl,fun _=>rfl⟩,by simp⟩;show(bif l1 != l1 then _ else _)=_;rw[show(l1 != l1)=false by simp,cf];rfl
      · refine .inr ⟨.inr (decide (l1>l2)),?_,.inl ?_⟩
        · show(bif l1 != l2 then _ else _)=_;rw[show(l1 != l2)=true by simp[e],ct]
        · congr 1;exact decide_eq_decide.2 (by omega)
    · exact .inr ⟨_,rfl,.inr ⟨⟨_,rfl⟩,k1 (by omega),k2 (by omega)⟩⟩) (n:=bg) (x:=⟨0⟩) ⟨.inl rfl,by simp,by simp⟩ (bO (by simp))
  rw[hr,ob];rcases hp with rfl|⟨⟨x,rfl⟩,rfl,rfl⟩
  · rfl
  · rw[decide_eq_false (by omega)];rfl
theorem HC {c:Cf}{l:List Bk}(h:¬dy l)(v:List Vt)(id:ID):jR c l v id=0:=by
 have hn:places l=none:=by
  cases hp:places l with
  |none=>rfl
  |some m=>exact absurd (show(places l).isSome=true by rw[hp];rfl) h
 have:kP l v id=[]:=by
  unfold kP;rw[show(v.filter fun x=>fI l id x.Head)=[]from List.filter_eq_nil_iff.2 fun x _=>by unfold fI am;rw[hn];simp];rfl
 unfold jR;rw[this,HJ]
theorem Cl {c:Cf}(hW:c.W.length≤1000){l:List Bk}(hb:gX l)(hl:l.length≤1000){v:List Vt}(hv:v.length≤1000)(id:ID):va c l v id=some (jR c l v id):=by
 unfold va;rw[tA hb hl,ob,xU hl,ob]
 cases hp:places l with
 |none=>
  rw[HC (by intro h;unfold dy at h;rw[hp]at h;cases h)];rfl
 |some m=>
  rw[Option.isSome_some,Bool.not_true,cf,x4 hW hl hp hv,ob]
theorem Ce {c:Cf}(hm:dw c){w:Vw}(hb:gX w.B)(h1:w.B.length≤1000)(h2:w.V.length≤1000)(slot:Int)(id:ID):uZ c w slot id=some (decide (lj c w slot id)):=by
 have hW:c.W.length≤1000:=by have:=hm.2.1;omega
 have hg:=ol c w.V slot;have hc:=pj c slot;have hwt:=zj c (nq c slot);have hon:0≤jR c w.B (de c w.V slot) id∧jR c w.B (de c w.V slot) id≤13194139533312:=zj _ _;obtain⟨-,-,-,-,-,m1,m2,m3,m4⟩:=hm;unfold uZ ya;rw[wK hW,ob,Cr hW (by omega),ob,uX hW (by omega),ob,Cl hW hb h1 (by omega),ob,ob,cJ (by omega) (by omega),cJ (n:=2*c.Num) (by omega) (by omega),cJ (by omega) (by omega),Ci ⟨by omega,by omega⟩ ⟨by omega,by omega⟩ ⟨by omega,by omega⟩ ⟨by omega,by omega⟩,ob];rfl
theorem Cc {c:Cf}(hm:dw c){w:Vw}(hb:gX w.B)(h1:w.B.length≤1000)(h2:w.V.length≤1000)(slot:Int)(head:ID):uW c w slot head=nG c w slot head:=by
 rw[uR hm h1 h2];have hcl:(am w.B head).length≤w.B.length+1:=mj head;unfold uW;rw[Cn hb h1,ob];generalize am w.B head=C at hcl⊢
 obtain⟨r,hr,hp⟩:=bf (step:=nK c w slot C) (fun x=>∃k:Nat,x.i=k∧k≤C.length∧nj c w slot (C.drop k)=nj c w slot C) (fun x=>C.length-x.i.toNat) (fun b=>b=.inr (nj c w slot C)∨((∃x,b=.inl x)∧nj c w slot C=((0,0),false))) (by
  rintro⟨i⟩ ⟨k,hi,hk,ht⟩;simp only at hi;subst hi;unfold nK;simp only;rw[ah (n:=k) (by omega)];by_cases hlt:k+1<C.length
  ·obtain⟨y,hy,-⟩:=ax (l:=C) (n:=k) (by omega);have hat:=yX (c:=c) (w:=w) (slot:=slot) (l:=C.drop k) (y:=y) (by rw[List.getElem?_drop];exact hy) (by rw[List.length_drop];omega);rw[decide_eq_true (show((k+1:Nat):Int)<(C.length:Int) by omega),ct,aw hy,ob,Ce hm hb h1 h2,ob,ob];by_cases hs:lj c w slot y
   ·rw[decide_eq_true hs,ct];exact .inr ⟨_,rfl,.inl (by rw[←ht,hat,if_pos hs])⟩
   ·rw[decide_eq_false hs,cf];refine .inl ⟨_,rfl,⟨k+1,rfl,by omega,?_⟩,by simp only;omega⟩;rw[←ht,hat,if_neg hs,List.drop_drop]
  ·rw[decide_eq_false (show¬((k+1:Nat):Int)<(C.length:Int) by omega),cf]
   exact .inr ⟨_,rfl,.inr ⟨⟨_,rfl⟩,by rw[←ht,r8 (by rw[List.length_drop];omega)]⟩⟩) (n:=bg) (x:=⟨0⟩) ⟨0,rfl,by omega,rfl⟩ (bO (by simp only;omega))
 rw[hr,ob];rcases hp with rfl|⟨⟨x,rfl⟩,e⟩
 ·rfl
 ·rw[e];rfl
open Go.Proofs
def x9 (no:Int):Option Nd:=some (Nd.mk no 3 (Vw.mk [] []) (Vw.mk [] []) [] (Cu.mk (0,0) 0 0) false)
theorem Ja {no:Int}{r_:Nd}(hr:x9 no=some r_):ar Tryz.prog 18 [.int .i64 no] [nr r_]:=by
 refine zh Tryz.func18 Z Z Z Z ?_;unfold x9 at hr;refine zQ<|zR<|yS Z (ze Z eG Z Z)<|zN<|zT<|zQ<|zR<|zM Z<|yS Z (aa.build Z CP Z Z Z)<|yS Z (zs Z Z Z Z aE Z Z Z Z)<|zN<|zT<|zr ?_;obtain rfl:=zJ hr;exact zf (.one (.cellAgg Z Z (by kernel_rfl) Z))<|(Conv.agg (.cons zv (.cons zv (.cons Conv.zs (.cons Conv.zs (.cons Conv.zs (.cons Conv.zs (.cons Conv.zs (.cons zv (.cons zv (.cons zv (.cons zv (.cons zv .nil)))))))))))))
def uF (n:Nd):Option Vw:=(tu n.V n.In).bind fun v1=>some v1
theorem I9 {n:Nd}{r_:Vw}(hr:uF n=some r_):ar Tryz.prog 16 [nr n] [gW r_]:=by
 refine zh Tryz.func16 Z Z Z Z ?_;unfold uF at hr;refine zQ<|zR<|yS Z (bw Z Z Z Z Z)<|yS Z (ze Z f8 Z Z)<|zN<|zT<|zQ<|zR<|yS Z (zA Z Z aZ)<|yS Z (zD Z Z Z aI Z Z)<|yS Z (zA Z Z be)<|yS Z (zD Z Z Z aI Z Z)<|zb hr fun v1 h_v1 hr=>yS Z (zC Z Z Z (by kernel_rfl) (zp (CS h_v1) (.cons zv (.cons zv .nil))))<|yS Z (zs Z Z Z Z aI Z Z Z Z)<|zN<|zT<|zr ?_;obtain rfl:=zJ hr;exact zf (.one (.cellAgg Z Z (by kernel_rfl) Z)) zv
def uH (c:Cf)(n:Nd):Option ID:=bif ((IntKind.i64.wrap (n.Tick-1)).tmod 3)==2 then (nF c n.V (IntKind.i64.wrap ((IntKind.i64.wrap (n.Tick-1)).tdiv 3))).bind fun v1=>some v1 else (nF c n.V (IntKind.i64.wrap ((IntKind.i64.wrap ((IntKind.i64.wrap (n.Tick-1)).tdiv 3))-1))).bind fun v2=>some v2
theorem Jb {c:Cf}{n:Nd}{r_:ID}(hr:uH c n=some r_):ar Tryz.prog 20 [fz c,nr n] [aR r_]:=by
 refine zh Tryz.func20 Z Z Z Z ?_;unfold uH at hr;refine zQ<|zR<|yS Z (bw Z Z Z Z Z)<|yS Z (bw Z Z Z Z Z)<|yS Z (ze Z fm Z Z)<|zN<|zT<|zQ<|zR<|yS Z (zA Z Z bB)<|yS Z (zD Z Z Z aW Z Z)<|yS Z (ap Z Z Z Z)<|zM Z<|zN<|zT<|zQ<|zQ<|zR<|zM Z<|yS Z (aa.rem Z Z Z (by decide))<|yS Z (ap Z Z Z Z)<|zN<|zT ?_;refine zX Z (fun g1=>?_)<|fun g1=>?_
 ·refine zi g1 hr fun hr=>zQ<|zR<|yS Z (zD Z Z Z aY Z Z)<|yS Z (zA Z Z aZ)<|yS Z (zD Z Z Z aI Z Z)<|zM Z<|yS Z (aa.quo Z Z Z (by decide))<|zb hr fun v1 h_v1 hr=>yS Z (zC Z Z Z (by kernel_rfl) (zp (vp h_v1) (.cons zv (.cons zv (.cons zv .nil)))))<|yS Z (zs Z Z Z Z ay Z Z Z Z)<|zN<|zT<|zr<|af ?_;obtain rfl:=zJ hr;exact zf (.one (.cellAgg Z Z (by kernel_rfl) Z)) zv
 ·refine zo g1 hr fun hr=>zk<|zT<|zQ<|zR<|yS Z (zD Z Z Z aY Z Z)<|yS Z (zA Z Z aZ)<|yS Z (zD Z Z Z aI Z Z)<|zM Z<|yS Z (aa.quo Z Z Z (by decide))<|yS Z (ap Z Z Z Z)<|zb hr fun v2 h_v2 hr=>yS Z (zC Z Z Z (by kernel_rfl) (zp (vp h_v2) (.cons zv (.cons zv (.cons zv .nil)))))<|yS Z (zs Z Z Z Z ay Z Z Z Z)<|zN<|zT<|zr ?_;obtain rfl:=zJ hr;exact zf (.one (.cellAgg Z Z (by kernel_rfl) Z)) zv
structure dI where
 i:Int
 n_11:Bool
 o3:List Of
def jw (c:Cf)(n:Nd)(o:List Of)(x1:dI):Option (dI⊕dI):=bif decide (x1.i<((n.O++o).length:Int))then (bif (n.Tick.tmod 3)==2 then some true else (ix (n.O++o) x1.i).bind fun y1=>bif y1.Slot != (IntKind.i64.wrap (n.Tick.tdiv 3))then some true else (ix (n.O++o) x1.i).bind fun y2=>(FA c (IntKind.i64.wrap (n.Tick.tdiv 3))).bind fun v3=>some (y2.From != v3)).bind fun v2=>bif v2 then some (.inl (dI.mk (IntKind.i64.wrap (x1.i+1)) x1.n_11 x1.o3))else bif decide ((x1.o3.length:Int)≥8)then some (.inl (dI.mk (IntKind.i64.wrap (x1.i+1)) true x1.o3))else (ix (n.O++o) x1.i).bind fun y3=>bif cy x1.o3.length [y3].length 104 then some (.inl (dI.mk (IntKind.i64.wrap (x1.i+1)) x1.n_11 (x1.o3++[y3])))else none else some (.inr (dI.mk x1.i x1.n_11 x1.o3))
def uK (c:Cf)(n:Nd)(o:List Of):Option Nd:=bif cy 0 n.O.length 104 then bif cy n.O.length o.length 104 then (iter (jw c n o) bg (dI.mk 0 n.Full ([]:List Of))).bind fun v1=>some (Nd.mk n.No n.Tick n.V n.In v1.o3 n.C v1.n_11)else none else none
theorem Jd {c:Cf}{n:Nd}{o:List Of}{r_:Nd}(hr:uK c n o=some r_):ar Tryz.prog 48 [fz c,nr n,.slice 9 (o.map dC)] [nr r_]:=by
 refine zh Tryz.func48 Z Z Z Z ?_;unfold uK at hr;refine zQ<|zR<|yS Z (bw Z Z Z Z Z)<|yS Z (bw Z Z Z Z Z)<|yS Z (ze Z eG Z Z)<|zN<|zT<|zQ<|zR<|yS Z (zA Z Z bB)<|yS Z (zD Z Z Z aW Z Z)<|yS Z (aa.quo Z Z Z (by decide))<|zM Z<|zN<|zT<|zQ<|zR<|yS Z (zA Z Z bp)<|yS Z (zD Z Z Z bY Z Z)<|zg hr fun q1 hr=>yS Z (aa.appendZX dC n.O Z Z Z Z iR.p Z bL q1 Z)<|zM Z<|zg hr fun q2 hr=>yS Z (aa.appendX dC n.O o Z Z Z Z iR.p Z bL q2 Z) ?_;refine zM Z<|zN<|zT<|zQ<|LW.ent (cz.frz (t:=8) (env':=[(0,.p (fz c)),(1,.p (nr n)),(2,(kO o)),(3,.ptr 0 0),(4,.ptr 1 0),(6,.ptr 2 0),(7,.p (.int .i64 (IntKind.i64.wrap (n.Tick.tdiv 3)))),(10,.ptr 1 1),(11,(iQ n.Tick)),(12,.p (.int .i64 (IntKind.i64.wrap (n.Tick.tdiv 3)))),(13,.ptr 1 6),(14,(kO n.O)),(16,(kO o))]) (H0:=[.box (bN c),.box (kU n),.box kT]) Z Z Z Z Z ⟨rfl,rfl,rfl,rfl,rfl,rfl,rfl,rfl,rfl,rfl,rfl,rfl,rfl,trivial⟩ Z Z)<|zR<|yS Z (zA Z Z bp)<|yS Z (zs Z Z Z Z bY Z Z Z Z)<|zN<|zT<|zQ<|zQ<|LW.ent (cz.lazyCell (i:=1) (j:=6) (m:=9) Z Z Z Z Z Z)<|zR<|zM Z<|zN<|zT ?_;obtain⟨v1,hb_v1,ho_v1⟩:=zB hr;clear hr;refine LW.tail (E:=[(4,.ptr 1 0),(6,.ptr 2 0)]) (O:=[.box (bN c),.box [(iQ n.No),(iQ n.Tick),(kB n.V.B),(kV n.V.V),(kB n.In.B),(kV n.In.V),(jO 3 v1.o3),(uQ n.C.ID.1),(uQ n.C.ID.2),(iQ n.C.Slot),(iQ n.C.Revoked),(bQ v1.n_11)],.box kT,.vec 9 (v1.o3.map dC)]) ?_<|fun env_v1 H_v1 hw_v1=>?_
 ·refine LW.block ?_;refine LW.iterB (E:=fun x1:dI=>[(3,.ptr 0 0),(4,.ptr 1 0),(6,.ptr 2 0),(7,.p (.int .i64 (IntKind.i64.wrap (n.Tick.tdiv 3)))),(8,.p (.slice 9 ((n.O++o).map dC))),(9,(iQ x1.i))]) (O:=fun x1=>[.box (bN c),.box [(iQ n.No),(iQ n.Tick),(kB n.V.B),(kV n.V.V),(kB n.In.B),(kV n.In.V),(jO 3 x1.o3),(uQ n.C.ID.1),(uQ n.C.ID.2),(iQ n.C.Slot),(iQ n.C.Revoked),(bQ x1.n_11)],.box kT,.vec 9 (x1.o3.map dC)]) hb_v1 (zW 4 ⟨rfl,rfl,rfl,rfl,rfl,rfl,trivial⟩ Z Z Z Z)<|fun x1 z_x1 hr hb_x1=>?_;unfold jw at hr;refine zQ<|zQ<|zR<|zM Z<|zM Z<|yS Z (cD Z Z (by kernel_rfl))<|yS Z (ap Z Z Z Z)<|zN<|zT ?_;refine zX Z (fun g1=>?_)<|fun g1=>?_
  ·refine zi g1 hr fun hr=>zk<|zT<|zQ<|zl<|zQ ?_;obtain⟨v2,hb_v2,ho_v2⟩:=zB hr;clear hr;refine LW.cut (E:=[(3,.ptr 0 0),(4,.ptr 1 0),(6,.ptr 2 0),(7,.p (.int .i64 (IntKind.i64.wrap (n.Tick.tdiv 3)))),(8,.p (.slice 9 ((n.O++o).map dC))),(9,(iQ x1.i)),(48,(bQ v2))]) (O:=[.box (bN c),.box [(iQ n.No),(iQ n.Tick),(kB n.V.B),(kV n.V.V),(kB n.In.B),(kV n.In.V),(jO 3 x1.o3),(uQ n.C.ID.1),(uQ n.C.ID.2),(iQ n.C.Slot),(iQ n.C.Revoked),(bQ x1.n_11)],.box kT,.vec 9 (x1.o3.map dC)]) ?_ ?_
   ·have hr:=hb_v2;refine LW.draw2 (by kernel_rfl) (by kernel_rfl)<|yE Z (zA Z Z bB)<|yE Z (zD Z Z Z aW Z Z)<|yE Z (aa.rem Z Z Z (by decide))<|yE Z (ap Z Z Z Z)<|zH Z ?_;refine LO.cases 29 Z (fun(g2:((n.Tick.tmod 3)==2)=true)=>?_) (fun(g2:((n.Tick.tmod 3)==2)=false)=>?_)
    ·refine zi g2 hr fun hr=>LO.sk Z Z Z (gd g2 Z) Z Z<|LO.sk Z Z Z (gd g2 Z) Z Z<|LO.sk Z Z Z (gd g2 Z) Z Z<|LO.sk Z Z Z (gd g2 Z) Z Z<|LO.sk Z Z Z (gd g2 Z) Z Z<|LO.sk Z Z Z (gd g2 Z) Z Z<|LO.sk Z Z Z (gd g2 Z) Z Z<|yE Z (bx Z (aG g2 Z) Z)<|zH Z<|LO.sk Z Z Z Z Z Z<|LO.sk Z Z Z Z Z Z<|LO.sk Z Z Z Z Z Z<|LO.sk Z Z Z Z Z Z<|LO.sk Z Z Z Z Z Z<|LO.sk Z Z Z Z Z Z<|LO.sk Z Z Z Z Z Z<|LO.sk Z Z Z Z Z Z<|LO.sk Z Z Z Z Z Z<|yE Z (bx Z Z Z)<|LO.nil<|zT ?_;obtain rfl:=zJ hr;exact zW 4 ⟨Z,Z,Z,Z,Z,Z,Z,trivial⟩ Z Z Z Z
    ·refine zo g2 hr fun hr=>LO.gd Z Z Z (gd g2 Z) Z (zm Z Z)<|LO.gd Z Z Z (gd g2 Z) Z (zm Z Z)<|zb hr fun y1 h_y1 hr=>LO.gd Z Z Z (gd g2 Z) Z (zx Z Z Z bL h_y1 Z)<|LO.gd Z Z Z (gd g2 Z) Z (aa.fieldAddrC Z Z jK Z)<|LO.gd Z Z Z (gd g2 Z) Z (ci Z Z Z aW Z Z)<|LO.gd Z Z Z (gd g2 Z) Z (zm Z Z)<|LO.gd Z Z Z (gd g2 Z) Z (ap Z Z Z Z)<|yE Z (aO Z (aG g2 Z) Z)<|zH Z ?_;refine LO.cases 38 Z (fun(g3:(y1.Slot != (IntKind.i64.wrap (n.Tick.tdiv 3)))=true)=>?_) (fun(g3:(y1.Slot != (IntKind.i64.wrap (n.Tick.tdiv 3)))=false)=>?_)
     ·refine zi g3 hr fun hr=>LO.sk Z Z Z (gd g3 Z) Z Z<|LO.sk Z Z Z (gd g3 Z) Z Z<|LO.sk Z Z Z (gd g3 Z) Z Z<|LO.sk Z Z Z (gd g3 Z) Z Z<|LO.sk Z Z Z (gd g3 Z) Z Z<|LO.sk Z Z Z (gd g3 Z) Z Z<|LO.sk Z Z Z (gd g3 Z) Z Z<|LO.sk Z Z Z (gd g3 Z) Z Z<|LO.sk Z Z Z (gd g3 Z) Z Z<|yE Z (bx Z (aG g3 Z) Z)<|LO.nil<|zT ?_;obtain rfl:=zJ hr;exact zW 4 ⟨Z,Z,Z,Z,Z,Z,Z,trivial⟩ Z Z Z Z
     ·refine zo g3 hr fun hr=>LO.gd Z Z Z (gd g3 Z) Z (zm Z Z)<|LO.gd Z Z Z (gd g3 Z) Z (zm Z Z)<|zb hr fun y2 h_y2 hr=>LO.gd Z Z Z (gd g3 Z) Z (zx Z Z Z bL h_y2 Z)<|LO.gd Z Z Z (gd g3 Z) Z (aa.fieldAddrC Z Z jL Z)<|LO.gd Z Z Z (gd g3 Z) Z (ci Z Z Z aW Z Z)<|LO.gd Z Z Z (gd g3 Z) Z (zD Z Z Z aY Z Z)<|LO.gd Z Z Z (gd g3 Z) Z (zm Z Z)<|zb hr fun v3 h_v3 hr=>LO.gd Z Z Z (gd g3 Z) Z (zC Z Z Z (by kernel_rfl) (zp (LQ h_v3) (.cons zv (.cons zv .nil))))<|LO.gd Z Z Z (gd g3 Z) Z (ap Z Z Z Z)<|yE Z (aO Z (aG g3 Z) Z)<|LO.nil<|zT ?_;obtain rfl:=zJ hr;exact zW 4 ⟨Z,Z,Z,Z,Z,Z,Z,trivial⟩ Z Z Z Z
   ·have hr:=ho_v2;clear hb_v2;refine zX Z (fun g4=>?_)<|fun g4=>?_
    ·refine zi g4 hr fun hr=>zq<|aj<|zy<|zT<|zR<|zM Z<|yS Z (ap Z Z Z Z)<|zM Z<|zN<|zT ?_;obtain rfl:=zJ hr;exact⟨_,rfl,zW 4 ⟨rfl,rfl,rfl,rfl,rfl,rfl,trivial⟩ Z Z Z rfl⟩
    ·refine zo g4 hr fun hr=>zk<|zT<|zQ<|zQ<|zR<|yS Z (zA Z Z bp)<|yS Z (zD Z Z Z bY Z Z)<|yS Z (aa.lenVM Z Z Z (by kernel_rfl))<|yS Z (ap Z Z Z Z)<|zN<|zT ?_;refine zX Z (fun g5=>?_)<|fun g5=>?_
     ·refine zi g5 hr fun hr=>zQ<|zR<|yS Z (zA Z Z dR)<|yS Z (zs Z Z Z Z uf Z Z Z Z)<|zN<|zT<|zq<|aj<|zy<|zT<|zR<|zM Z<|yS Z (ap Z Z Z Z)<|zM Z<|zN<|zT ?_;obtain rfl:=zJ hr;exact⟨_,rfl,zW 4 ⟨rfl,rfl,rfl,rfl,rfl,rfl,trivial⟩ Z Z Z rfl⟩
     ·refine zo g5 hr fun hr=>zk<|zT<|LW.drawW (by kernel_rfl) (by kernel_rfl) ?_;refine yF (F:=[]) (s:=none) Z (fun H _=>zA Z Z bp) Z ?_;refine yF Z (zd Z Z Z bY Z Z) Z<|zK Z<|zK Z<|zb hr fun y3 h_y3 hr=>?_;refine yF (F:=[]) (s:=none) Z (fun H _=>zx Z Z Z bL h_y3 Z) Z ?_;refine yF (F:=[]) (s:=none) Z (fun H _=>ci Z Z Z dG Z Z) Z ?_;refine yF (F:=[]) (s:=none) Z (fun H _=>iO Z bL Z Z Z Z Z) Z ?_;refine zg hr fun q3 hr=>yF Z (cq.appendX dC x1.o3 [y3] rfl Z Z Z Z bL q3) Z ?_;refine yF (F:=[]) (s:=none) Z (fun H _=>zA Z Z bp) Z ?_;refine yF Z (zt Z Z Z Z bY Z Z Z) Z ?_;refine LF.nil ⟨by kernel_rfl,?_⟩;refine ai<|zT<|zR<|zM Z<|yS Z (ap Z Z Z Z)<|zM Z<|zN<|zT ?_;obtain rfl:=zJ hr;exact⟨_,rfl,zW 4 ⟨rfl,rfl,rfl,rfl,rfl,rfl,trivial⟩ Z Z Z rfl⟩
  ·refine zo g1 hr fun hr=>zq<|aj<|aj<|zy<|zT ?_;obtain rfl:=zJ hr;have hr:=congrArg some (hb_x1 _ rfl);obtain rfl:=zJ hr;exact zW 4 ⟨Z,Z,trivial⟩ Z Z Z Z
 ·have hr:=ho_v1;clear hb_v1;refine zT<|LW.weak hw_v1<|zQ<|zR<|yS Z (zD Z Z Z aE Z Z)<|yS Z (zs Z Z Z Z aE Z Z Z Z)<|zN<|zT<|zr ?_;obtain rfl:=zJ hr;exact zf (.one (.cellAgg Z Z (by kernel_rfl) Z))<|(Conv.agg (.cons zv (.cons zv (.cons zv (.cons zv (.cons zv (.cons zv (.cons (Conv.vecAll Z Z Z) (.cons zv (.cons zv (.cons zv (.cons zv (.cons zv .nil)))))))))))))
def pS (c:Cf)(n:Nd)(v_in:Vw)(slot:Int):Option (Nd×Vw):=(uY c n.V v_in slot).bind fun v1=>bif n.Full then some (Nd.mk n.No n.Tick v1.1 n.In n.O n.C true,v1.2.1)else some (Nd.mk n.No n.Tick v1.1 n.In n.O n.C v1.2.2,v1.2.1)
theorem yi {c:Cf}{n:Nd}{v_in:Vw}{slot:Int}{r_:Nd×Vw}(hr:pS c n v_in slot=some r_):ar Tryz.prog 94 [fz c,nr n,gW v_in,.int .i64 slot] [nr r_.1,gW r_.2]:=by
 refine zh Tryz.func94 Z Z Z Z ?_;unfold pS at hr;refine zQ<|zR<|yS Z (bw Z Z Z Z Z)<|yS Z (bw Z Z Z Z Z)<|yS Z (bw Z Z Z Z Z)<|yS Z (ze Z eG Z Z)<|yS Z (ze Z f8 Z Z)<|zN<|zT<|zQ<|zR<|yS Z (zD Z Z Z aY Z Z)<|yS Z (zA Z Z aZ)<|yS Z (zD Z Z Z aI Z Z)<|yS Z (zD Z Z Z aI Z Z)<|zM Z<|zb hr fun v1 h_v1 hr=>yS Z (zC Z Z Z (by kernel_rfl) (zp (Jm h_v1) (.cons zv (.cons zv (.cons zv (.cons zv .nil))))))<|zM Z<|yS Z (dW Z Z Z)<|yS Z (dW Z Z Z)<|yS Z (dW Z Z Z)<|yS Z (ze Z f8 Z Z)<|yS Z (ze Z f8 Z Z) ?_;refine yS Z (zs Z Z Z Z aI Z Z Z Z)<|yS Z (zs Z Z Z Z aI Z Z Z Z)<|zM Z<|zN<|zT<|zQ<|zR<|yS Z (zD Z Z Z aI Z Z)<|yS Z (zA Z Z aZ)<|yS Z (zs Z Z Z Z aI Z Z Z Z)<|zN<|zT<|zQ<|zR<|yS Z (zA Z Z dR)<|yS Z (zD Z Z Z uf Z Z)<|zM Z ?_;refine zc 27 Z (fun g1=>?_)<|fun g1=>?_
 ·refine zi g1 hr fun hr=>yU Z (gd g1 Z) Z<|yS Z (bx Z (aG g1 Z) Z)<|yS Z (zA Z Z dR)<|yS Z (zs Z Z Z Z uf Z Z Z Z)<|zN<|zT<|zQ<|LW.drawW (by kernel_rfl) (by kernel_rfl)<|yF Z (zd Z Z Z aE Z Z) Z<|yF Z (zd Z Z Z aI Z Z) Z<|yF Z (zt Z Z Z Z aE Z Z Z) Z<|yF Z (zt Z Z Z Z aI Z Z Z) Z ?_;refine LF.nil ⟨by kernel_rfl,?_⟩;refine zT<|zr ?_;obtain rfl:=zJ hr;exact zf (.two (.cellAgg Z Z (by kernel_rfl) Z) (.cellAgg Z Z (by kernel_rfl) Z))<|⟨_,rfl,(.cons zv (.cons zv .nil))⟩
 ·refine zo g1 hr fun hr=>yV Z (gd g1 Z) (zm Z Z)<|yS Z (aO Z (aG g1 Z) Z)<|yS Z (zA Z Z dR)<|yS Z (zs Z Z Z Z uf Z Z Z Z)<|zN<|zT<|zQ<|LW.drawW (by kernel_rfl) (by kernel_rfl)<|yF Z (zd Z Z Z aE Z Z) Z<|yF Z (zd Z Z Z aI Z Z) Z<|yF Z (zt Z Z Z Z aE Z Z Z) Z<|yF Z (zt Z Z Z Z aI Z Z Z) Z ?_;refine LF.nil ⟨by kernel_rfl,?_⟩;refine zT<|zr ?_;obtain rfl:=zJ hr;exact zf (.two (.cellAgg Z Z (by kernel_rfl) Z) (.cellAgg Z Z (by kernel_rfl) Z))<|⟨_,rfl,(.cons zv (.cons zv .nil))⟩
def uL (c:Cf)(n:Nd)(slot:Int):Option (Nd×(List Of)):=(FA c slot).bind fun v1=>bif n.No != v1 then some (n,[])else (pS c n n.In slot).bind fun v2=>(nF c v2.1.V (IntKind.i64.wrap (slot-1))).bind fun v3=>(pS c (Nd.mk v2.1.No v2.1.Tick v2.1.V v2.2 v2.1.O v2.1.C v2.1.Full) (Vw.mk [Bk.mk slot n.No v3 0] []) slot).bind fun v4=>some (v4.1,[Of.mk slot n.No (Bk.mk slot n.No v3 0) v2.1.V])
theorem Je {c:Cf}{n:Nd}{slot:Int}{r_:Nd×(List Of)}(hr:uL c n slot=some r_):ar Tryz.prog 49 [fz c,nr n,.int .i64 slot] [nr r_.1,.slice 9 (r_.2.map dC)]:=by
 refine zh Tryz.func49 Z Z Z Z ?_;unfold uL at hr;refine zQ<|zR<|yS Z (bw Z Z Z Z Z)<|yS Z (bw Z Z Z Z Z)<|yS Z (ze Z eG Z Z)<|zM Z<|zN<|zT<|zQ<|zQ<|LW.draw2 (by kernel_rfl) (by kernel_rfl)<|yE Z (zA Z Z cI)<|yE Z (zD Z Z Z aW Z Z)<|yE Z (zD Z Z Z aY Z Z)<|zH Z<|zb hr fun v1 h_v1 hr=>yE Z (zC Z Z Z (by kernel_rfl) (zp (LQ h_v1) (.cons zv (.cons zv .nil))))<|yE Z (ap Z Z Z Z)<|LO.nil<|zT ?_;refine zX Z (fun g1=>?_)<|fun g1=>?_
 ·refine zi g1 hr fun hr=>zQ<|zR<|yS Z (zD Z Z Z aE Z Z)<|yS Z (zs Z Z Z Z aE Z Z Z Z)<|zM Z<|zN<|zT<|zr<|af ?_;obtain rfl:=zJ hr;exact zf (.two (.cellAgg Z Z (by kernel_rfl) Z) (.tmp Z))<|⟨_,rfl,(.cons zv (.cons Conv.zs .nil))⟩
 ·refine zo g1 hr fun hr=>zk<|zT<|zQ<|zR<|yS Z (zD Z Z Z aY Z Z)<|yS Z (zD Z Z Z aE Z Z)<|yS Z (zA Z Z be)<|yS Z (zD Z Z Z aI Z Z)<|zM Z<|zb hr fun v2 h_v2 hr=>yS Z (zC Z Z Z (by kernel_rfl) (zp (yi h_v2) (.cons zv (.cons zv (.cons zv (.cons zv .nil))))))<|zM Z<|yS Z (dW Z Z Z)<|yS Z (dW Z Z Z)<|yS Z (ze Z eG Z Z)<|yS Z (ze Z f8 Z Z)<|yS Z (zs Z Z Z Z aE Z Z Z Z)<|yS Z (zs Z Z Z Z aI Z Z Z Z)<|zN<|zT<|zQ<|zR<|yS Z (zD Z Z Z aI Z Z) ?_;refine yS Z (zA Z Z be)<|yS Z (zs Z Z Z Z aI Z Z Z Z)<|zN<|zT<|zQ<|LW.ent (cz.slot Z)<|LW.drawW (by kernel_rfl) (by kernel_rfl)<|zK Z ?_;refine yF (F:=[]) (s:=none) Z (fun H _=>zA Z Z cI) Z ?_;refine yF Z (zd Z Z Z aW Z Z) Z<|yF Z (zd Z Z Z aY Z Z) Z ?_;refine yF (F:=[]) (s:=none) Z (fun H _=>zA Z Z aZ) Z ?_;refine yF Z (zd Z Z Z aI Z Z) Z<|zK Z ?_;refine yF (F:=[]) (s:=none) Z (fun H _=>ap Z Z Z Z) Z ?_;obtain⟨v3,h_v3,hr⟩:=zB hr;refine yF (F:=[]) (s:=none) Z (fun H _=>zC Z Z Z (by kernel_rfl) (zp (vp h_v3) (.cons zv (.cons zv (.cons zv .nil))))) Z ?_;refine yF (F:=[]) (s:=none) Z (fun H _=>aa.build Z GW Z Z Z) Z ?_;refine yF Z (cq.alloc Z sn (id:=5) Z) Z<|yF Z (zt Z Z Z Z bW Z Z Z) Z ?_;refine LF.nil ⟨by kernel_rfl,?_⟩;refine zT<|zQ<|zR<|zM Z<|yS Z (zA Z Z cI)<|yS Z (zD Z Z Z aW Z Z)<|yS Z (zD Z Z Z bW Z Z)<|yS Z (zA Z Z aZ)<|yS Z (zD Z Z Z aI Z Z)<|yS Z (aa.build Z CQ Z Z Z)<|yS Z (ze Z np Z Z)<|yS Z (zs Z Z Z Z dG Z Z Z Z)<|zN<|zT<|zQ<|zR<|yS Z (zD Z Z Z aY Z Z)<|yS Z (zD Z Z Z aE Z Z)<|yS Z (zD Z Z Z bW Z Z)<|yS Z (iO Z cw Z Z Z Z Z)<|yS Z (aa.build Z mt Z Z Z)<|zM Z<|zb hr fun v4 h_v4 hr=>yS Z (zC Z Z Z (by kernel_rfl) (zp (yi h_v4) (.cons zv (.cons zv (.cons (Conv.agg (.cons zv (.cons Conv.zs .nil))) (.cons zv .nil)))))) ?_;refine zM Z<|yS Z (dW Z Z Z)<|yS Z (dW Z Z Z)<|yS Z (ze Z eG Z Z)<|yS Z (ze Z f8 Z Z)<|yS Z (zs Z Z Z Z aE Z Z Z Z)<|yS Z (zs Z Z Z Z aI Z Z Z Z)<|zN<|zT<|zQ<|LW.drawW (by kernel_rfl) (by kernel_rfl)<|yF Z (zd Z Z Z aE Z Z) Z<|yF Z (zd Z Z Z dG Z Z) Z ?_;refine yF (F:=[]) (s:=none) Z (fun H _=>iO Z bL Z Z Z Z Z) Z ?_;refine yF Z (zt Z Z Z Z aE Z Z Z) Z<|zK Z ?_;refine LF.nil ⟨by kernel_rfl,?_⟩;refine zT<|zr ?_;obtain rfl:=zJ hr;exact zf (.two (.cellAgg Z Z (by kernel_rfl) Z) (.tmp Z))<|⟨_,rfl,(.cons zv (.cons zv .nil))⟩
structure eN where
 i:Int
 n:Nd
def jx (c:Cf)(slot:Int)(x1:eN):Option (eN⊕eN):=bif decide (x1.i<(x1.n.O.length:Int))then (ix x1.n.O x1.i).bind fun y1=>(ix x1.n.O x1.i).bind fun y2=>(tu y1.V (Vw.mk [y2.B] [])).bind fun v2=>(pS c x1.n v2 slot).bind fun v3=>(tu v3.1.In v3.2).bind fun v4=>some (.inl (eN.mk (IntKind.i64.wrap (x1.i+1)) (Nd.mk v3.1.No v3.1.Tick v3.1.V v4 v3.1.O v3.1.C v3.1.Full)))else some (.inr (eN.mk x1.i x1.n))
def uM (c:Cf)(n:Nd)(slot:Int):Option Nd:=(iter (jx c slot) bg (eN.mk 0 n)).bind fun v1=>(HO c slot v1.n.No).bind fun v5=>bif v5 then (nF c v1.n.V (IntKind.i64.wrap (slot-1))).bind fun v6=>(tu v1.n.In (Vw.mk [] [Vt.mk v1.n.No slot v6])).bind fun v7=>some (Nd.mk v1.n.No v1.n.Tick v1.n.V v7 [] v1.n.C v1.n.Full)else some (Nd.mk v1.n.No v1.n.Tick v1.n.V v1.n.In [] v1.n.C v1.n.Full)
theorem Jf {c:Cf}{n:Nd}{slot:Int}{r_:Nd}(hr:uM c n slot=some r_):ar Tryz.prog 50 [fz c,nr n,.int .i64 slot] [nr r_]:=by
 refine zh Tryz.func50 Z Z Z Z ?_;unfold uM at hr;refine zQ<|zR<|yS Z (bw Z Z Z Z Z)<|yS Z (bw Z Z Z Z Z)<|yS Z (ze Z eG Z Z)<|zN<|zT<|zQ<|zQ<|zR<|zM Z<|zN<|zT ?_;obtain⟨v1,hb_v1,ho_v1⟩:=zB hr;clear hr;refine LW.tail (E:=[(2,(iQ slot)),(3,.ptr 0 0),(4,.ptr 1 0),(6,.ptr 2 0)]) (O:=[.box (bN c),.box (kU v1.n),.box kT]) ?_<|fun env_v1 H_v1 hw_v1=>?_
 ·refine LW.block ?_;refine LW.iterB (E:=fun x1:eN=>[(2,(iQ slot)),(3,.ptr 0 0),(4,.ptr 1 0),(6,.ptr 2 0),(7,(iQ x1.i))]) (O:=fun x1=>[.box (bN c),.box (kU x1.n),.box kT]) hb_v1 (zW 3 ⟨rfl,rfl,rfl,rfl,rfl,trivial⟩ Z Z Z Z)<|fun x1 z_x1 hr hb_x1=>?_;unfold jx at hr;refine zQ<|zQ<|zR<|zM Z<|yS Z (zA Z Z bp)<|yS Z (zD Z Z Z bY Z Z)<|yS Z (cD Z Z (by kernel_rfl))<|yS Z (ap Z Z Z Z)<|zN<|zT ?_;refine zX Z (fun g1=>?_)<|fun g1=>?_
  ·refine zi g1 hr fun hr=>zk<|zT<|zQ<|zl<|zQ<|LW.ent (cz.slot Z)<|LW.ent (cz.slot Z)<|LW.drawW (by kernel_rfl) (by kernel_rfl)<|yF Z (zd Z Z Z aY Z Z) Z<|yF Z (zd Z Z Z aE Z Z) Z ?_;refine yF (F:=[]) (s:=none) Z (fun H _=>zA Z Z bp) Z ?_;refine yF Z (zd Z Z Z bY Z Z) Z<|zK Z<|zb hr fun y1 h_y1 hr=>?_;refine yF (F:=[]) (s:=none) Z (fun H _=>zx Z Z Z bL h_y1 Z) Z ?_;refine yF (F:=[]) (s:=none) Z (fun H _=>aa.fieldAddrC Z Z fG Z) Z ?_;refine yF (F:=[]) (s:=none) Z (fun H _=>ci Z Z Z aI Z Z) Z ?_;refine yF (F:=[]) (s:=none) Z (fun H _=>zA Z Z bp) Z ?_;refine yF Z (zd Z Z Z bY Z Z) Z<|zK Z<|zb hr fun y2 h_y2 hr=>?_;refine yF (F:=[]) (s:=none) Z (fun H _=>zx Z Z Z bL h_y2 Z) Z ?_;refine yF (F:=[]) (s:=none) Z (fun H _=>aa.fieldAddrC Z Z il Z) Z ?_;refine yF (F:=[]) (s:=none) Z (fun H _=>ci Z Z Z bW Z Z) Z ?_;refine yF (F:=[]) (s:=none) Z (fun H _=>iO Z cw Z Z Z Z Z) Z ?_;refine yF (F:=[]) (s:=none) Z (fun H _=>aa.build Z mt Z Z Z) Z ?_;obtain⟨v2,h_v2,hr⟩:=zB hr;refine yF (F:=[]) (s:=none) Z (fun H _=>zC Z Z Z (by kernel_rfl) (zp (CS h_v2) (.cons zv (.cons (Conv.agg (.cons zv (.cons Conv.zs .nil))) .nil)))) Z ?_;refine zK Z<|zb hr fun v3 h_v3 hr=>?_;refine yF (F:=[]) (s:=none) Z (fun H _=>zC Z Z Z (by kernel_rfl) (zp (yi h_v3) (.cons zv (.cons zv (.cons zv (.cons zv .nil)))))) Z ?_;refine zK Z ?_;refine yF (F:=[]) (s:=none) Z (fun H _=>dW Z Z Z) Z ?_;refine yF (F:=[]) (s:=none) Z (fun H _=>dW Z Z Z) Z ?_;refine yF Z (cq.alloc Z eG (id:=3) Z) Z<|yF Z (cq.alloc Z f8 (id:=4) Z) Z<|yF Z (zt Z Z Z Z aE Z Z Z) Z<|yF Z (zt Z Z Z Z aI Z Z Z) Z ?_;refine LF.nil ⟨by kernel_rfl,?_⟩;refine zT<|zQ<|zR<|yS Z (zA Z Z be)<|yS Z (zD Z Z Z aI Z Z)<|yS Z (zD Z Z Z aI Z Z)<|zb hr fun v4 h_v4 hr=>yS Z (zC Z Z Z (by kernel_rfl) (zp (CS h_v4) (.cons zv (.cons zv .nil))))<|yS Z (zA Z Z be)<|yS Z (zs Z Z Z Z aI Z Z Z Z)<|zN<|zT<|zR<|yS Z (zD Z Z Z aE Z Z)<|yS Z (zs Z Z Z Z aE Z Z Z Z)<|zN<|ai<|zT<|zR<|zM Z<|yS Z (ap Z Z Z Z)<|zM Z<|zN<|zT ?_;obtain rfl:=zJ hr;exact⟨_,rfl,zW 3 ⟨rfl,rfl,rfl,rfl,rfl,trivial⟩ Z Z Z rfl⟩
  ·refine zo g1 hr fun hr=>zq<|aj<|aj<|zy<|zT ?_;obtain rfl:=zJ hr;have hr:=congrArg some (hb_x1 _ rfl);obtain rfl:=zJ hr;exact zW 3 ⟨Z,Z,Z,Z,trivial⟩ Z Z Z Z
 ·have hr:=ho_v1;clear hb_v1;refine zT<|LW.weak hw_v1<|zQ<|zR<|yS Z (zA Z Z bp)<|yS Z (zs Z Z Z Z bY Z Z Z Z)<|zN<|zT<|zQ<|zR<|yS Z (zD Z Z Z aY Z Z)<|zM Z<|yS Z (zA Z Z cI)<|yS Z (zD Z Z Z aW Z Z)<|zb hr fun v5 h_v5 hr=>yS Z (zC Z Z Z (by kernel_rfl) (zp (Ma h_v5) (.cons zv (.cons zv (.cons zv .nil)))))<|zM Z<|zN<|zT<|zQ<|zQ<|zR<|zM Z<|zN ?_;refine zT ?_;refine zX Z (fun g2=>?_)<|fun g2=>?_
  ·refine zi g2 hr fun hr=>zQ<|LW.ent (cz.slot Z)<|LW.drawW (by kernel_rfl) (by kernel_rfl) ?_;refine yF (F:=[]) (s:=none) Z (fun H _=>zA Z Z cI) Z ?_;refine yF Z (zd Z Z Z aW Z Z) Z<|zK Z<|yF Z (zd Z Z Z aY Z Z) Z ?_;refine yF (F:=[]) (s:=none) Z (fun H _=>zA Z Z aZ) Z ?_;refine yF Z (zd Z Z Z aI Z Z) Z<|zK Z ?_;refine yF (F:=[]) (s:=none) Z (fun H _=>ap Z Z Z Z) Z ?_;obtain⟨v6,h_v6,hr⟩:=zB hr;refine yF (F:=[]) (s:=none) Z (fun H _=>zC Z Z Z (by kernel_rfl) (zp (vp h_v6) (.cons zv (.cons zv (.cons zv .nil))))) Z ?_;refine yF (F:=[]) (s:=none) Z (fun H _=>aa.build Z GX Z Z Z) Z ?_;refine yF Z (cq.alloc Z sz (id:=3) Z) Z<|yF Z (zt Z Z Z Z cp Z Z Z) Z ?_;refine LF.nil ⟨by kernel_rfl,?_⟩;refine zT<|zR<|yS Z (zA Z Z be)<|yS Z (zD Z Z Z aI Z Z)<|yS Z (zD Z Z Z cp Z Z)<|yS Z (iO Z bD Z Z Z Z Z)<|yS Z (aa.build Z mt Z Z Z)<|zb hr fun v7 h_v7 hr=>yS Z (zC Z Z Z (by kernel_rfl) (zp (CS h_v7) (.cons zv (.cons (Conv.agg (.cons Conv.zs (.cons zv .nil))) .nil))))<|yS Z (zA Z Z be)<|yS Z (zs Z Z Z Z aI Z Z Z Z)<|zN<|zT<|zQ<|zR<|yS Z (zD Z Z Z aE Z Z)<|yS Z (zs Z Z Z Z aE Z Z Z Z)<|zN<|zT<|zr ?_;obtain rfl:=zJ hr;exact zf (.one (.cellAgg Z Z (by kernel_rfl) Z))<|(Conv.agg (.cons zv (.cons zv (.cons zv (.cons zv (.cons zv (.cons zv (.cons Conv.zs (.cons zv (.cons zv (.cons zv (.cons zv (.cons zv .nil)))))))))))))
  ·refine zo g2 hr fun hr=>zk<|zT<|zQ<|zR<|yS Z (zD Z Z Z aE Z Z)<|yS Z (zs Z Z Z Z aE Z Z Z Z)<|zN<|zT<|zr ?_;obtain rfl:=zJ hr;exact zf (.one (.cellAgg Z Z (by kernel_rfl) Z))<|(Conv.agg (.cons zv (.cons zv (.cons zv (.cons zv (.cons zv (.cons zv (.cons Conv.zs (.cons zv (.cons zv (.cons zv (.cons zv (.cons zv .nil)))))))))))))
def uN (c:Cf)(n:Nd)(slot:Int):Option Nd:=(pS c n n.In slot).bind fun v1=>(nF c v1.1.V slot).bind fun v2=>(uW c v1.1.V slot v2).bind fun v3=>(H7 v1.1.C v1.1.V.B v2 v3.1 v3.2 slot).bind fun v4=>some (Nd.mk v1.1.No v1.1.Tick v1.1.V v1.2 [] v4 v1.1.Full)
theorem Jg {c:Cf}{n:Nd}{slot:Int}{r_:Nd}(hr:uN c n slot=some r_):ar Tryz.prog 51 [fz c,nr n,.int .i64 slot] [nr r_]:=by
 refine zh Tryz.func51 Z Z Z Z ?_;unfold uN at hr;refine zQ<|zR<|yS Z (bw Z Z Z Z Z)<|yS Z (bw Z Z Z Z Z)<|yS Z (ze Z eG Z Z)<|zN<|zT<|zQ<|zR<|yS Z (zD Z Z Z aY Z Z)<|yS Z (zD Z Z Z aE Z Z)<|yS Z (zA Z Z be)<|yS Z (zD Z Z Z aI Z Z)<|zM Z<|zb hr fun v1 h_v1 hr=>yS Z (zC Z Z Z (by kernel_rfl) (zp (yi h_v1) (.cons zv (.cons zv (.cons zv (.cons zv .nil))))))<|zM Z<|yS Z (dW Z Z Z)<|yS Z (dW Z Z Z)<|yS Z (ze Z eG Z Z)<|yS Z (ze Z f8 Z Z)<|yS Z (zs Z Z Z Z aE Z Z Z Z)<|yS Z (zs Z Z Z Z aI Z Z Z Z)<|zN ?_;refine zT<|zQ<|zR<|yS Z (zD Z Z Z aI Z Z)<|yS Z (zA Z Z be)<|yS Z (zs Z Z Z Z aI Z Z Z Z)<|zN<|zT<|zQ<|zR<|yS Z (zD Z Z Z aY Z Z)<|yS Z (zA Z Z aZ)<|yS Z (zD Z Z Z aI Z Z)<|zM Z<|zb hr fun v2 h_v2 hr=>yS Z (zC Z Z Z (by kernel_rfl) (zp (vp h_v2) (.cons zv (.cons zv (.cons zv .nil)))))<|yS Z (ze Z fm Z Z)<|yS Z (zs Z Z Z Z ay Z Z Z Z)<|zN<|zT<|zQ<|zR<|yS Z (zD Z Z Z aY Z Z)<|yS Z (zA Z Z aZ) ?_;refine yS Z (zD Z Z Z aI Z Z)<|zM Z<|yS Z (zD Z Z Z ay Z Z)<|zb hr fun v3 h_v3 hr=>yS Z (zC Z Z Z (by kernel_rfl) (zp (Jl h_v3) (.cons zv (.cons zv (.cons zv (.cons zv .nil))))))<|zM Z<|yS Z (dW Z Z Z)<|yS Z (dW Z Z Z)<|yS Z (ze Z fm Z Z)<|yS Z (zs Z Z Z Z ay Z Z Z Z)<|zM Z<|zN<|zT<|zQ<|zR<|yS Z (zA Z Z eR)<|yS Z (zD Z Z Z fl Z Z)<|yS Z (zA Z Z aZ)<|yS Z (zA Z Z aL)<|yS Z (zD Z Z Z cd Z Z)<|yS Z (zD Z Z Z ay Z Z)<|yS Z (zD Z Z Z ay Z Z)<|zM Z<|zM Z ?_;refine zb hr fun v4 h_v4 hr=>yS Z (zC Z Z Z (by kernel_rfl) (zp (Mp h_v4) (.cons zv (.cons zv (.cons zv (.cons zv (.cons zv (.cons zv .nil))))))))<|yS Z (zA Z Z eR)<|yS Z (zs Z Z Z Z fl Z Z Z Z)<|zN<|zT<|zQ<|zR<|yS Z (zA Z Z bp)<|yS Z (zs Z Z Z Z bY Z Z Z Z)<|zN<|zT<|zQ<|zR<|yS Z (zD Z Z Z aE Z Z)<|yS Z (zs Z Z Z Z aE Z Z Z Z)<|zN<|zT<|zr ?_;obtain rfl:=zJ hr;exact zf (.one (.cellAgg Z Z (by kernel_rfl) Z))<|(Conv.agg (.cons zv (.cons zv (.cons zv (.cons zv (.cons zv (.cons zv (.cons Conv.zs (.cons zv (.cons zv (.cons zv (.cons zv (.cons zv .nil)))))))))))))
def uD (c:Cf)(n:Nd)(v_in:Vw)(o:List Of):Option (Nd×(List Of)):=(EH c).bind fun v1=>(bif !v1 then some true else bif decide (n.Tick<3)then some true else some (decide ((IntKind.i64.wrap (n.Tick.tdiv 3))>1048576))).bind fun v2=>bif v2 then some (n,[])else (sF c v_in).bind fun v3=>(tu n.In v3).bind fun v4=>(uK c (Nd.mk n.No n.Tick n.V v4 n.O n.C n.Full) o).bind fun v5=>(bif (v5.Tick.tmod 3)==0 then (uL c v5 (IntKind.i64.wrap (n.Tick.tdiv 3))).bind fun v7=>some (v7.2,v7.1)else bif (v5.Tick.tmod 3)==1 then (uM c v5 (IntKind.i64.wrap (n.Tick.tdiv 3))).bind fun v8=>some ([],v8)else (uN c v5 (IntKind.i64.wrap (n.Tick.tdiv 3))).bind fun v9=>some ([],v9)).bind fun v6=>some (Nd.mk v6.2.No (IntKind.i64.wrap (v6.2.Tick+1)) v6.2.V v6.2.In v6.2.O v6.2.C v6.2.Full,v6.1)
theorem I7 {c:Cf}{n:Nd}{v_in:Vw}{o:List Of}{r_:Nd×(List Of)}(hr:uD c n v_in o=some r_):ar Tryz.prog 11 [fz c,nr n,gW v_in,.slice 9 (o.map dC)] [nr r_.1,.slice 9 (r_.2.map dC)]:=by
 refine zh Tryz.func11 Z Z Z Z ?_;unfold uD at hr;refine zQ<|zR<|yS Z (bw Z Z Z Z Z)<|yS Z (bw Z Z Z Z Z)<|yS Z (bw Z Z Z Z Z)<|yS Z (ze Z eG Z Z)<|zM Z<|zN<|zT<|zQ<|zR<|yS Z (zD Z Z Z aY Z Z)<|zb hr fun v1 h_v1 hr=>yS Z (zC Z Z Z (by kernel_rfl) (zp (Jw h_v1) (.cons zv .nil)))<|zM Z<|zN<|zT<|zQ<|zR<|yS Z (zA Z Z bB)<|yS Z (zD Z Z Z aW Z Z)<|yS Z (aa.quo Z Z Z (by decide))<|zM Z<|zN ?_;refine zT<|zQ ?_;obtain⟨v2,hb_v2,ho_v2⟩:=zB hr;clear hr;refine LW.cut (E:=[(3,(kO o)),(4,.ptr 0 0),(5,.ptr 1 0),(6,.ptr 2 0),(8,.ptr 3 0),(9,.zs),(11,.p (.int .i64 (IntKind.i64.wrap (n.Tick.tdiv 3)))),(28,(bQ v2))]) (O:=[.box (bN c),.box (kU n),.box (cG v_in),.box kT]) ?_ ?_
 ·have hr:=hb_v2;refine zR<|zM Z<|yS Z (aa.not Z Z)<|zM Z ?_;refine zc 20 Z (fun g1=>?_)<|fun g1=>?_
  ·refine zi g1 hr fun hr=>yU Z (gd g1 Z) Z<|yU Z (gd g1 Z) Z<|yU Z (gd g1 Z) Z<|yS Z (bx Z (aG g1 Z) Z)<|zM Z<|yU Z Z Z<|yU Z Z Z<|yS Z (bx Z Z Z)<|zN<|zT ?_;obtain rfl:=zJ hr;exact zW 4 ⟨Z,Z,Z,Z,Z,Z,Z,Z,trivial⟩ Z Z Z Z
  ·refine zo g1 hr fun hr=>yV Z (gd g1 Z) (zA Z Z bB)<|yV Z (gd g1 Z) (zD Z Z Z aW Z Z)<|yV Z (gd g1 Z) (ap Z Z Z Z)<|yS Z (aO Z (aG g1 Z) Z)<|zM Z ?_;refine zc 25 Z (fun g2=>?_)<|fun g2=>?_
   ·refine zi g2 hr fun hr=>yU Z (gd g2 Z) Z<|yU Z (gd g2 Z) Z<|yS Z (bx Z (aG g2 Z) Z)<|zN<|zT ?_;obtain rfl:=zJ hr;exact zW 4 ⟨Z,Z,Z,Z,Z,Z,Z,Z,trivial⟩ Z Z Z Z
   ·refine zo g2 hr fun hr=>yV Z (gd g2 Z) (zm Z Z)<|yV Z (gd g2 Z) (ap Z Z Z Z)<|yS Z (aO Z (aG g2 Z) Z)<|zN<|zT ?_;obtain rfl:=zJ hr;exact zW 4 ⟨Z,Z,Z,Z,Z,Z,Z,Z,trivial⟩ Z Z Z Z
 ·have hr:=ho_v2;clear hb_v2;refine zX Z (fun g3=>?_)<|fun g3=>?_
  ·refine zi g3 hr fun hr=>zQ<|zR<|yS Z (zD Z Z Z aE Z Z)<|yS Z (zs Z Z Z Z aE Z Z Z Z)<|zM Z<|zN<|zT<|zr<|af ?_;obtain rfl:=zJ hr;exact zf (.two (.cellAgg Z Z (by kernel_rfl) Z) (.tmp Z))<|⟨_,rfl,(.cons zv (.cons Conv.zs .nil))⟩
  ·refine zo g3 hr fun hr=>zk<|zT<|zQ<|zR<|zM Z<|zN<|zT<|zQ<|LW.drawLast (m:=7) (by kernel_rfl) (by kernel_rfl) (by kernel_rfl)<|yE Z (zA Z Z be)<|yE Z (zD Z Z Z aI Z Z)<|yE Z (zD Z Z Z aY Z Z)<|yE Z (zD Z Z Z aI Z Z)<|zb hr fun v3 h_v3 hr=>yE Z (zC Z Z Z (by kernel_rfl) (zp (FL h_v3) (.cons zv (.cons zv .nil))))<|zb hr fun v4 h_v4 hr=>yE Z (zC Z Z Z (by kernel_rfl) (zp (CS h_v4) (.cons zv (.cons zv .nil))))<|yE Z (zA Z Z be)<|LO.nil<|yS Z (zs Z Z Z Z aI Z Z Z Z)<|zN<|zT<|zQ ?_;refine zR<|yS Z (zD Z Z Z aY Z Z)<|yS Z (zD Z Z Z aE Z Z)<|zM Z<|zb hr fun v5 h_v5 hr=>yS Z (zC Z Z Z (by kernel_rfl) (zp (Jd h_v5) (.cons zv (.cons zv (.cons zv .nil)))))<|yS Z (zs Z Z Z Z aE Z Z Z Z)<|zN<|zT<|LW.ent (cz.zsP (t:=12) (m:=9) Z) ?_;obtain⟨v6,hb_v6,ho_v6⟩:=zB hr;clear hr;refine LW.cut (E:=[(5,.ptr 1 0),(8,.ptr 3 0),(9,.zs),(12,(kO v6.1))]) (O:=[.box (bN c),.box (kU v6.2),.box (cG v_in),.box kT]) ?_ ?_
   ·have hr:=hb_v6;refine zQ<|zR<|yS Z (zA Z Z bB)<|yS Z (zD Z Z Z aW Z Z)<|yS Z (aa.rem Z Z Z (by decide))<|zN<|zT<|zl<|zQ<|zR<|yS Z (ap Z Z Z Z)<|zM Z<|zN<|zT ?_;refine zX Z (fun g4=>?_)<|fun g4=>?_
    ·refine zi g4 hr fun hr=>zR<|yS Z (zD Z Z Z aY Z Z)<|yS Z (zD Z Z Z aE Z Z)<|zM Z<|zb hr fun v7 h_v7 hr=>yS Z (zC Z Z Z (by kernel_rfl) (zp (Je h_v7) (.cons zv (.cons zv (.cons zv .nil)))))<|zM Z<|yS Z (dW Z Z Z)<|yS Z (dW Z Z Z)<|yS Z (zs Z Z Z Z aE Z Z Z Z)<|zM Z<|zN<|ai<|zT ?_;obtain rfl:=zJ hr;exact zW 4 ⟨Z,Z,Z,Z,trivial⟩ Z Z Z Z
    ·refine zo g4 hr fun hr=>zQ<|zR<|yS Z (ap Z Z Z Z)<|zM Z<|zN<|zT ?_;refine zX Z (fun g5=>?_)<|fun g5=>?_
     ·refine zi g5 hr fun hr=>zR<|yS Z (zD Z Z Z aY Z Z)<|yS Z (zD Z Z Z aE Z Z)<|zM Z<|zb hr fun v8 h_v8 hr=>yS Z (zC Z Z Z (by kernel_rfl) (zp (Jf h_v8) (.cons zv (.cons zv (.cons zv .nil)))))<|yS Z (zs Z Z Z Z aE Z Z Z Z)<|zN<|ai<|zT ?_;obtain rfl:=zJ hr;exact zW 4 ⟨Z,Z,Z,Z,trivial⟩ Z Z Z Z
     ·refine zo g5 hr fun hr=>zR<|yS Z (zD Z Z Z aY Z Z)<|yS Z (zD Z Z Z aE Z Z)<|zM Z<|zb hr fun v9 h_v9 hr=>yS Z (zC Z Z Z (by kernel_rfl) (zp (Jg h_v9) (.cons zv (.cons zv (.cons zv .nil)))))<|yS Z (zs Z Z Z Z aE Z Z Z Z)<|zN<|ai<|zT ?_;obtain rfl:=zJ hr;exact zW 4 ⟨Z,Z,Z,Z,trivial⟩ Z Z Z Z
   ·have hr:=ho_v6;clear hb_v6;refine zQ<|zR<|yS Z (zA Z Z bB)<|yS Z (zD Z Z Z aW Z Z)<|yS Z (ap Z Z Z Z)<|yS Z (zA Z Z bB)<|yS Z (zs Z Z Z Z aW Z Z Z Z)<|zN<|zT<|zQ<|zR<|yS Z (zD Z Z Z aE Z Z)<|zM Z<|yS Z (zs Z Z Z Z aE Z Z Z Z)<|zM Z<|zN<|zT<|zr ?_;obtain rfl:=zJ hr;exact zf (.two (.cellAgg Z Z (by kernel_rfl) Z) (.tmp Z))<|⟨_,rfl,(.cons zv (.cons zv .nil))⟩
open Go.Proofs
structure gp where
 t13:Int
def nH (s1:List Bk)(s2:List Bk)(x1:gp):Option (gp⊕(gp⊕Bool)):=bif decide (x1.t13<(s1.length:Int))then (ix s1 x1.t13).bind fun y1=>(ix s2 x1.t13).bind fun y2=>bif !((y1.Slot==y2.Slot)&&((y1.From==y2.From)&&((y1.Parent.1==y2.Parent.1)&&((y1.Parent.2==y2.Parent.2)&&((y1.Salt==y2.Salt)&&true)))))then some (.inr (.inr false))else some (.inl (gp.mk (IntKind.i64.wrap (x1.t13+1))))else some (.inr (.inl (gp.mk x1.t13)))
def uS (s1:List Bk)(s2:List Bk):Option Bool:=bif (s1.length:Int) != (s2.length:Int)then some false else (iter (nH s1 s2) bg (gp.mk 0)).bind fun b_v1=>Sum.elim (fun _=>some true) some b_v1
theorem Jj {s1:List Bk}{s2:List Bk}{r_:Bool}(hr:uS s1 s2=some r_):ar Tryz.prog 102 [.slice 5 (s1.map av),.slice 5 (s2.map av)] [.bool r_]:=by
 refine zh Tryz.func102 Z Z Z Z ?_;unfold uS at hr;refine zQ<|zR<|zM Z<|zN<|zT<|zQ<|zQ<|zR<|zM Z<|yS Z (cD Z Z (by kernel_rfl))<|zM Z<|yS Z (cD Z Z (by kernel_rfl))<|yS Z (ap Z Z Z Z)<|zN<|zT ?_;refine zX Z (fun g1=>?_)<|fun g1=>?_
 ·refine zi g1 hr fun hr=>zQ<|zR<|zM Z<|zN<|zT<|zr<|af ?_;obtain rfl:=zJ hr;exact zf (.one (.tmp Z)) zv
 ·refine zo g1 hr fun hr=>zk<|zT<|zQ<|zQ<|zR<|zM Z<|yS Z (cD Z Z (by kernel_rfl))<|zM Z<|zN<|zT ?_;obtain⟨b_v1,hb_v1,ho_v1⟩:=zB hr;clear hr;refine LW.tailB (b:=b_v1) (E:=fun v1=>[(4,(bQ false))]) (O:=fun v1=>[]) ?_<|fun v1 e_v1 env_v1 H_v1 hw_v1=>?_
  ·refine LW.block ?_;refine LW.iterB (E:=fun x1:gp=>[(0,(kB s1)),(1,(kB s2)),(4,(bQ false)),(12,.p (.int .i64 (s1.length:Int))),(13,(iQ x1.t13))]) (O:=fun x1=>[]) hb_v1 (zW 0 ⟨rfl,rfl,rfl,rfl,rfl,trivial⟩ Z Z Z Z)<|fun x1 z_x1 hr hb_x1=>?_;unfold nH at hr;refine zQ<|zR<|yS Z (ap Z Z Z Z)<|zN<|zT<|zQ ?_;refine zX Z (fun g2=>?_)<|fun g2=>?_
   ·refine zi g2 hr fun hr=>zk<|zT<|zQ<|zl<|zQ<|zR<|zM Z<|zM Z<|zN<|zT<|zQ<|LW.draw2 (by kernel_rfl) (by kernel_rfl)<|zH Z<|zH Z<|zb hr fun y1 h_y1 hr=>yE Z (zx Z Z Z cw h_y1 Z)<|yE Z (ci Z Z Z bW Z Z)<|zH Z<|zH Z<|zb hr fun y2 h_y2 hr=>yE Z (zx Z Z Z cw h_y2 Z)<|yE Z (ci Z Z Z bW Z Z)<|yE Z (aa.neqAgg Z Z Z Z Z rx) ?_;refine LO.nil<|zT ?_;refine zX Z (fun g3=>?_)<|fun g3=>?_
    ·refine zi g3 hr fun hr=>zQ<|zR<|zM Z<|zN<|zT<|zr<|aq<|af<|af<|aq<|af<|af ?_;obtain rfl:=zJ hr;have hr:=congrArg some (hb_x1 _ rfl);obtain rfl:=zJ hr;have hr:=bV ho_v1;obtain rfl:=zJ hr;exact zf (.one (.tmp Z)) zv
    ·refine zo g3 hr fun hr=>zk<|ai<|zT<|zR<|yS Z (ap Z Z Z Z)<|zM Z<|zN<|zT ?_;obtain rfl:=zJ hr;exact⟨_,rfl,zW 0 ⟨rfl,rfl,rfl,rfl,rfl,trivial⟩ Z Z Z rfl⟩
   ·refine zo g2 hr fun hr=>zq<|aj<|aj<|zy<|zT ?_;obtain rfl:=zJ hr;have hr:=congrArg some (hb_x1 _ rfl);obtain rfl:=zJ hr;exact⟨_,rfl,zW 0 ⟨rfl,trivial⟩ Z Z Z rfl⟩
  ·obtain rfl:=e_v1;have hr:=cU ho_v1;clear hb_v1;refine zT<|LW.weak hw_v1<|zQ<|zR<|zM Z<|zN<|zT<|zr ?_;obtain rfl:=zJ hr;exact zf (.one (.tmp Z)) zv
structure gq where
 t13:Int
def nI (s1:List Vt)(s2:List Vt)(x1:gq):Option (gq⊕(gq⊕Bool)):=bif decide (x1.t13<(s1.length:Int))then (ix s1 x1.t13).bind fun y1=>(ix s2 x1.t13).bind fun y2=>bif !((y1.From==y2.From)&&((y1.Slot==y2.Slot)&&((y1.Head.1==y2.Head.1)&&((y1.Head.2==y2.Head.2)&&true))))then some (.inr (.inr false))else some (.inl (gq.mk (IntKind.i64.wrap (x1.t13+1))))else some (.inr (.inl (gq.mk x1.t13)))
def uT (s1:List Vt)(s2:List Vt):Option Bool:=bif (s1.length:Int) != (s2.length:Int)then some false else (iter (nI s1 s2) bg (gq.mk 0)).bind fun b_v1=>Sum.elim (fun _=>some true) some b_v1
theorem Jk {s1:List Vt}{s2:List Vt}{r_:Bool}(hr:uT s1 s2=some r_):ar Tryz.prog 103 [.slice 4 (s1.map aK),.slice 4 (s2.map aK)] [.bool r_]:=by
 refine zh Tryz.func103 Z Z Z Z ?_;unfold uT at hr;refine zQ<|zR<|zM Z<|zN<|zT<|zQ<|zQ<|zR<|zM Z<|yS Z (cD Z Z (by kernel_rfl))<|zM Z<|yS Z (cD Z Z (by kernel_rfl))<|yS Z (ap Z Z Z Z)<|zN<|zT ?_;refine zX Z (fun g1=>?_)<|fun g1=>?_
 ·refine zi g1 hr fun hr=>zQ<|zR<|zM Z<|zN<|zT<|zr<|af ?_;obtain rfl:=zJ hr;exact zf (.one (.tmp Z)) zv
 ·refine zo g1 hr fun hr=>zk<|zT<|zQ<|zQ<|zR<|zM Z<|yS Z (cD Z Z (by kernel_rfl))<|zM Z<|zN<|zT ?_;obtain⟨b_v1,hb_v1,ho_v1⟩:=zB hr;clear hr;refine LW.tailB (b:=b_v1) (E:=fun v1=>[(4,(bQ false))]) (O:=fun v1=>[]) ?_<|fun v1 e_v1 env_v1 H_v1 hw_v1=>?_
  ·refine LW.block ?_;refine LW.iterB (E:=fun x1:gq=>[(0,(kV s1)),(1,(kV s2)),(4,(bQ false)),(12,.p (.int .i64 (s1.length:Int))),(13,(iQ x1.t13))]) (O:=fun x1=>[]) hb_v1 (zW 0 ⟨rfl,rfl,rfl,rfl,rfl,trivial⟩ Z Z Z Z)<|fun x1 z_x1 hr hb_x1=>?_;unfold nI at hr;refine zQ<|zR<|yS Z (ap Z Z Z Z)<|zN<|zT<|zQ ?_;refine zX Z (fun g2=>?_)<|fun g2=>?_
   ·refine zi g2 hr fun hr=>zk<|zT<|zQ<|zl<|zQ<|zR<|zM Z<|zM Z<|zN<|zT<|zQ<|LW.draw2 (by kernel_rfl) (by kernel_rfl)<|zH Z<|zH Z<|zb hr fun y1 h_y1 hr=>yE Z (zx Z Z Z bD h_y1 Z)<|yE Z (ci Z Z Z cp Z Z)<|zH Z<|zH Z<|zb hr fun y2 h_y2 hr=>yE Z (zx Z Z Z bD h_y2 Z)<|yE Z (ci Z Z Z cp Z Z)<|yE Z (aa.neqAgg Z Z Z Z Z yp) ?_;refine LO.nil<|zT ?_;refine zX Z (fun g3=>?_)<|fun g3=>?_
    ·refine zi g3 hr fun hr=>zQ<|zR<|zM Z<|zN<|zT<|zr<|aq<|af<|af<|aq<|af<|af ?_;obtain rfl:=zJ hr;have hr:=congrArg some (hb_x1 _ rfl);obtain rfl:=zJ hr;have hr:=bV ho_v1;obtain rfl:=zJ hr;exact zf (.one (.tmp Z)) zv
    ·refine zo g3 hr fun hr=>zk<|ai<|zT<|zR<|yS Z (ap Z Z Z Z)<|zM Z<|zN<|zT ?_;obtain rfl:=zJ hr;exact⟨_,rfl,zW 0 ⟨rfl,rfl,rfl,rfl,rfl,trivial⟩ Z Z Z rfl⟩
   ·refine zo g2 hr fun hr=>zq<|aj<|aj<|zy<|zT ?_;obtain rfl:=zJ hr;have hr:=congrArg some (hb_x1 _ rfl);obtain rfl:=zJ hr;exact⟨_,rfl,zW 0 ⟨rfl,trivial⟩ Z Z Z rfl⟩
  ·obtain rfl:=e_v1;have hr:=cU ho_v1;clear hb_v1;refine zT<|LW.weak hw_v1<|zQ<|zR<|zM Z<|zN<|zT<|zr ?_;obtain rfl:=zJ hr;exact zf (.one (.tmp Z)) zv
def qN (a:Vw)(b:Vw):Option Bool:=(uS a.B b.B).bind fun v1=>bif v1 then (uT a.V b.V).bind fun v2=>some v2 else some false
theorem CW {a:Vw}{b:Vw}{r_:Bool}(hr:qN a b=some r_):ar Tryz.prog 59 [gW a,gW b] [.bool r_]:=by
 refine zh Tryz.func59 Z Z Z Z ?_;unfold qN at hr;refine zQ<|zR<|yS Z (bw Z Z Z Z Z)<|yS Z (bw Z Z Z Z Z)<|zM Z<|zN<|zT<|zQ<|zR<|yS Z (zA Z Z aL)<|yS Z (zD Z Z Z cd Z Z)<|yS Z (zA Z Z aL)<|yS Z (zD Z Z Z cd Z Z)<|zb hr fun v1 h_v1 hr=>yS Z (zC Z Z Z (by kernel_rfl) (zp (Jj h_v1) (.cons zv (.cons zv .nil))))<|zM Z ?_;refine zc 10 Z (fun g1=>?_)<|fun g1=>?_
 ·refine zi g1 hr fun hr=>yV Z (gd g1 Z) (zA Z Z aQ)<|yV Z (gd g1 Z) (zD Z Z Z co Z Z)<|yV Z (gd g1 Z) (zA Z Z aQ)<|yV Z (gd g1 Z) (zD Z Z Z co Z Z)<|zb hr fun v2 h_v2 hr=>yV Z (gd g1 Z) (zC Z Z Z (by kernel_rfl) (zp (Jk h_v2) (.cons zv (.cons zv .nil))))<|yS Z (bx Z (aG g1 Z) Z)<|zM Z<|zN<|zT<|zr ?_;obtain rfl:=zJ hr;exact zf (.one (.tmp Z)) zv
 ·refine zo g1 hr fun hr=>yU Z (gd g1 Z) Z<|yU Z (gd g1 Z) Z<|yU Z (gd g1 Z) Z<|yU Z (gd g1 Z) Z<|yU Z (gd g1 Z) Z<|yS Z (aO Z (aG g1 Z) Z)<|zM Z<|zN<|zT<|zr ?_;obtain rfl:=zJ hr;exact zf (.one (.tmp Z)) zv
def uI (x:Of)(y:Of):Option Bool:=bif x.Slot==y.Slot then bif x.From==y.From then bif ((x.B.Slot==y.B.Slot)&&((x.B.From==y.B.From)&&((x.B.Parent.1==y.B.Parent.1)&&((x.B.Parent.2==y.B.Parent.2)&&((x.B.Salt==y.B.Salt)&&true)))))then (qN x.V y.V).bind fun v1=>some v1 else some false else some false else some false
theorem Jc {x:Of}{y:Of}{r_:Bool}(hr:uI x y=some r_):ar Tryz.prog 58 [dC x,dC y] [.bool r_]:=by
 refine zh Tryz.func58 Z Z Z Z ?_;unfold uI at hr;refine zQ<|zR<|yS Z (bw Z Z Z Z Z)<|yS Z (bw Z Z Z Z Z)<|zM Z<|zN<|zT<|zQ<|zR<|yS Z (zA Z Z jK)<|yS Z (zD Z Z Z aW Z Z)<|yS Z (zA Z Z jK)<|yS Z (zD Z Z Z aW Z Z)<|yS Z (ap Z Z Z Z)<|zM Z ?_;refine zc 10 Z (fun g1=>?_)<|fun g1=>?_
 ·refine zi g1 hr fun hr=>yV Z (gd g1 Z) (zA Z Z jL)<|yV Z (gd g1 Z) (zD Z Z Z aW Z Z)<|yV Z (gd g1 Z) (zA Z Z jL)<|yV Z (gd g1 Z) (zD Z Z Z aW Z Z)<|yV Z (gd g1 Z) (ap Z Z Z Z)<|yS Z (bx Z (aG g1 Z) Z)<|zM Z ?_;refine zc 17 Z (fun g2=>?_)<|fun g2=>?_
  ·refine zi g2 hr fun hr=>yV Z (gd g2 Z) (zA Z Z il)<|yV Z (gd g2 Z) (zD Z Z Z bW Z Z)<|yV Z (gd g2 Z) (zA Z Z il)<|yV Z (gd g2 Z) (zD Z Z Z bW Z Z)<|yV Z (gd g2 Z) (aa.eqlAgg Z Z Z Z Z rx)<|yS Z (bx Z (aG g2 Z) Z)<|zM Z ?_;refine zc 24 Z (fun g3=>?_)<|fun g3=>?_
   ·refine zi g3 hr fun hr=>yV Z (gd g3 Z) (zA Z Z fG)<|yV Z (gd g3 Z) (zD Z Z Z aI Z Z)<|yV Z (gd g3 Z) (zA Z Z fG)<|yV Z (gd g3 Z) (zD Z Z Z aI Z Z)<|zb hr fun v1 h_v1 hr=>yV Z (gd g3 Z) (zC Z Z Z (by kernel_rfl) (zp (CW h_v1) (.cons zv (.cons zv .nil))))<|yS Z (bx Z (aG g3 Z) Z)<|zM Z<|zN<|zT<|zr ?_;obtain rfl:=zJ hr;exact zf (.one (.tmp Z)) zv
   ·refine zo g3 hr fun hr=>yU Z (gd g3 Z) Z<|yU Z (gd g3 Z) Z<|yU Z (gd g3 Z) Z<|yU Z (gd g3 Z) Z<|yU Z (gd g3 Z) Z<|yS Z (aO Z (aG g3 Z) Z)<|zM Z<|zN<|zT<|zr ?_;obtain rfl:=zJ hr;exact zf (.one (.tmp Z)) zv
  ·refine zo g2 hr fun hr=>yU Z (gd g2 Z) Z<|yU Z (gd g2 Z) Z<|yU Z (gd g2 Z) Z<|yU Z (gd g2 Z) Z<|yU Z (gd g2 Z) Z<|yS Z (aO Z (aG g2 Z) Z)<|zM Z<|yU Z Z Z<|yU Z Z Z<|yU Z Z Z<|yU Z Z Z<|yU Z Z Z<|yS Z (aO Z Z Z)<|zM Z<|zN<|zT<|zr ?_;obtain rfl:=zJ hr;exact zf (.one (.tmp Z)) zv
 ·refine zo g1 hr fun hr=>yU Z (gd g1 Z) Z<|yU Z (gd g1 Z) Z<|yU Z (gd g1 Z) Z<|yU Z (gd g1 Z) Z<|yU Z (gd g1 Z) Z<|yS Z (aO Z (aG g1 Z) Z)<|zM Z<|yU Z Z Z<|yU Z Z Z<|yU Z Z Z<|yU Z Z Z<|yU Z Z Z<|yS Z (aO Z Z Z)<|zM Z<|yU Z Z Z<|yU Z Z Z<|yU Z Z Z<|yU Z Z Z<|yU Z Z Z<|yS Z (aO Z Z Z)<|zM Z<|zN<|zT ?_;refine LW.ret ?_;obtain rfl:=zJ hr;exact zf (.one (.tmp Z)) zv
structure iY where
 t17:Int
def qo (s1:List Of)(s2:List Of)(x1:iY):Option (iY⊕(iY⊕Bool)):=bif decide (x1.t17<(s1.length:Int))then (ix s1 x1.t17).bind fun y1=>(ix s2 x1.t17).bind fun y2=>(uI y1 y2).bind fun v2=>bif !v2 then some (.inr (.inr false))else some (.inl (iY.mk (IntKind.i64.wrap (x1.t17+1))))else some (.inr (.inl (iY.mk x1.t17)))
def CA (s1:List Of)(s2:List Of):Option Bool:=bif (s1.length:Int) != (s2.length:Int)then some false else (iter (qo s1 s2) bg (iY.mk 0)).bind fun b_v1=>Sum.elim (fun _=>some true) some b_v1
theorem JM {s1:List Of}{s2:List Of}{r_:Bool}(hr:CA s1 s2=some r_):LC Tryz.prog 57 [(kO s1),(kO s2),.fn 58 [] []] [] (Is (bQ r_) []):=by
 refine fy Tryz.func57 Z Z Z ?_;unfold CA at hr;refine zQ<|zR<|zM Z<|zN<|zT<|zQ<|zQ<|zR<|zM Z<|yS Z (cD Z Z (by kernel_rfl))<|zM Z<|yS Z (cD Z Z (by kernel_rfl))<|yS Z (ap Z Z Z Z)<|zN<|zT ?_;refine zX Z (fun g1=>?_)<|fun g1=>?_
 ·refine zi g1 hr fun hr=>zQ<|zR<|zM Z<|zN<|zT<|zr<|af ?_;obtain rfl:=zJ hr;exact aH (.one (.tmp Z))<|⟨rfl,rfl⟩
 ·refine zo g1 hr fun hr=>zk<|zT<|zQ<|zQ<|zR<|zM Z<|yS Z (cD Z Z (by kernel_rfl))<|zM Z<|zN<|zT ?_;obtain⟨b_v1,hb_v1,ho_v1⟩:=zB hr;clear hr;refine LW.tailB (b:=b_v1) (E:=fun v1=>[(6,(bQ false))]) (O:=fun v1=>[]) ?_<|fun v1 e_v1 env_v1 H_v1 hw_v1=>?_
  ·refine LW.block ?_;refine LW.iterB (E:=fun x1:iY=>[(1,(kO s2)),(2,.fn 58 [] []),(6,(bQ false)),(15,(kO s1)),(16,.p (.int .i64 (s1.length:Int))),(17,(iQ x1.t17))]) (O:=fun x1=>[]) hb_v1 (zW 0 ⟨rfl,rfl,rfl,rfl,rfl,rfl,trivial⟩ Z Z Z Z)<|fun x1 z_x1 hr hb_x1=>?_;unfold qo at hr;refine zQ<|zR<|yS Z (ap Z Z Z Z)<|zN<|zT<|zQ ?_;refine zX Z (fun g2=>?_)<|fun g2=>?_
   ·refine zi g2 hr fun hr=>zk<|zT<|zQ<|zl<|zQ<|zR<|zM Z<|zb hr fun y1 h_y1 hr=>yS Z (zx Z Z Z bL h_y1 Z)<|yS Z (ci Z Z Z dG Z Z)<|yS Z (ze Z np Z Z)<|zM Z<|yS Z (zs Z Z Z Z dG Z Z Z Z)<|zN<|zT<|zQ<|zR<|zM Z<|zM Z<|zb hr fun y2 h_y2 hr=>yS Z (zx Z Z Z bL h_y2 Z)<|yS Z (ci Z Z Z dG Z Z)<|yS Z (ze Z np Z Z) ?_;refine yS Z (zs Z Z Z Z dG Z Z Z Z)<|zN<|zT<|zQ<|zR<|zM Z<|yS Z (zD Z Z Z dG Z Z)<|yS Z (zD Z Z Z dG Z Z)<|zb hr fun v2 h_v2 hr=>yS Z (zC Z Z Z (by kernel_rfl) (zp (Jc h_v2) (.cons zv (.cons zv .nil))))<|yS Z (aa.not Z Z)<|zN<|zT ?_;refine zX Z (fun g3=>?_)<|fun g3=>?_
    ·refine zi g3 hr fun hr=>zQ<|zR<|zM Z<|zN<|zT<|zr<|aq<|af<|af<|aq<|af<|af ?_;obtain rfl:=zJ hr;have hr:=congrArg some (hb_x1 _ rfl);obtain rfl:=zJ hr;have hr:=bV ho_v1;obtain rfl:=zJ hr;exact cr (env':=[(6,(bQ false))]) (H':=[]) (zW 0 ⟨rfl,trivial⟩ Z Z Z Z) (.one (.tmp Z))<|⟨rfl,rfl⟩
    ·refine zo g3 hr fun hr=>zk<|ai<|zT<|zR<|yS Z (ap Z Z Z Z)<|zM Z<|zN<|zT ?_;obtain rfl:=zJ hr;exact⟨_,rfl,zW 0 ⟨rfl,rfl,rfl,rfl,rfl,rfl,trivial⟩ Z Z Z rfl⟩
   ·refine zo g2 hr fun hr=>zq<|aj<|aj<|zy<|zT ?_;obtain rfl:=zJ hr;have hr:=congrArg some (hb_x1 _ rfl);obtain rfl:=zJ hr;exact⟨_,rfl,zW 0 ⟨rfl,trivial⟩ Z Z Z rfl⟩
  ·obtain rfl:=e_v1;have hr:=cU ho_v1;clear hb_v1;refine zT<|LW.weak hw_v1<|zQ<|zR<|zM Z<|zN<|zT<|zr ?_;obtain rfl:=zJ hr;exact aH (.one (.tmp Z))<|⟨rfl,rfl⟩
def uC (a:Nd)(b:Nd):Option Bool:=(CA a.O b.O).bind fun v1=>bif v1 then (qN a.V b.V).bind fun v2=>bif v2 then (qN a.In b.In).bind fun v3=>bif v3 then bif a.No==b.No then bif a.Tick==b.Tick then bif ((a.C.ID.1==b.C.ID.1)&&((a.C.ID.2==b.C.ID.2)&&((a.C.Slot==b.C.Slot)&&((a.C.Revoked==b.C.Revoked)&&true))))then some (a.Full==b.Full)else some false else some false else some false else some false else some false else some false
theorem I6 {a:Nd}{b:Nd}{r_:Bool}(hr:uC a b=some r_):ar Tryz.prog 21 [nr a,nr b] [.bool r_]:=by
 refine zh Tryz.func21 Z Z Z Z ?_;unfold uC at hr;refine zQ<|zR<|yS Z (bw Z Z Z Z Z)<|yS Z (bw Z Z Z Z Z)<|zM Z<|zN<|zT<|zQ<|zR<|yS Z (zA Z Z bp)<|yS Z (zD Z Z Z bY Z Z)<|yS Z (zA Z Z bp)<|yS Z (zD Z Z Z bY Z Z)<|zb hr fun v1 h_v1 hr=>yS Z (zC Z Z Z (by kernel_rfl) (LC.pre (JM h_v1) Z Z Z))<|zM Z<|zN<|zT<|zQ<|zR<|zM Z<|zM Z ?_;refine zc 12 Z (fun g1=>?_)<|fun g1=>?_
 ·refine zi g1 hr fun hr=>yV Z (gd g1 Z) (zA Z Z aZ)<|yV Z (gd g1 Z) (zD Z Z Z aI Z Z)<|yV Z (gd g1 Z) (zA Z Z aZ)<|yV Z (gd g1 Z) (zD Z Z Z aI Z Z)<|zb hr fun v2 h_v2 hr=>yV Z (gd g1 Z) (zC Z Z Z (by kernel_rfl) (zp (CW h_v2) (.cons zv (.cons zv .nil))))<|yS Z (bx Z (aG g1 Z) Z)<|zM Z ?_;refine zc 19 Z (fun g2=>?_)<|fun g2=>?_
  ·refine zi g2 hr fun hr=>yV Z (gd g2 Z) (zA Z Z be)<|yV Z (gd g2 Z) (zD Z Z Z aI Z Z)<|yV Z (gd g2 Z) (zA Z Z be)<|yV Z (gd g2 Z) (zD Z Z Z aI Z Z)<|zb hr fun v3 h_v3 hr=>yV Z (gd g2 Z) (zC Z Z Z (by kernel_rfl) (zp (CW h_v3) (.cons zv (.cons zv .nil))))<|yS Z (bx Z (aG g2 Z) Z)<|zM Z ?_;refine zc 26 Z (fun g3=>?_)<|fun g3=>?_
   ·refine zi g3 hr fun hr=>yV Z (gd g3 Z) (zA Z Z cI)<|yV Z (gd g3 Z) (zD Z Z Z aW Z Z)<|yV Z (gd g3 Z) (zA Z Z cI)<|yV Z (gd g3 Z) (zD Z Z Z aW Z Z)<|yV Z (gd g3 Z) (ap Z Z Z Z)<|yS Z (bx Z (aG g3 Z) Z)<|zM Z ?_;refine zc 33 Z (fun g4=>?_)<|fun g4=>?_
    ·refine zi g4 hr fun hr=>yV Z (gd g4 Z) (zA Z Z bB)<|yV Z (gd g4 Z) (zD Z Z Z aW Z Z)<|yV Z (gd g4 Z) (zA Z Z bB)<|yV Z (gd g4 Z) (zD Z Z Z aW Z Z)<|yV Z (gd g4 Z) (ap Z Z Z Z)<|yS Z (bx Z (aG g4 Z) Z)<|zM Z ?_;refine zc 40 Z (fun g5=>?_)<|fun g5=>?_
     ·refine zi g5 hr fun hr=>yV Z (gd g5 Z) (zA Z Z eR)<|yV Z (gd g5 Z) (zD Z Z Z fl Z Z)<|yV Z (gd g5 Z) (zA Z Z eR)<|yV Z (gd g5 Z) (zD Z Z Z fl Z Z)<|yV Z (gd g5 Z) (aa.eqlAgg Z Z Z Z Z F0)<|yS Z (bx Z (aG g5 Z) Z)<|zM Z ?_;refine zc 47 Z (fun g6=>?_)<|fun g6=>?_
      ·refine zi g6 hr fun hr=>yV Z (gd g6 Z) (zA Z Z dR)<|yV Z (gd g6 Z) (zD Z Z Z uf Z Z)<|yV Z (gd g6 Z) (zA Z Z dR)<|yV Z (gd g6 Z) (zD Z Z Z uf Z Z)<|yV Z (gd g6 Z) (aa.eqlBool Z Z Z Tryz.underlying4)<|yS Z (bx Z (aG g6 Z) Z)<|zM Z<|zN<|zT<|zr ?_;obtain rfl:=zJ hr;exact zf (.one (.tmp Z)) zv
      ·refine zo g6 hr fun hr=>yU Z (gd g6 Z) Z<|yU Z (gd g6 Z) Z<|yU Z (gd g6 Z) Z<|yU Z (gd g6 Z) Z<|yU Z (gd g6 Z) Z<|yS Z (aO Z (aG g6 Z) Z)<|zM Z<|zN<|zT<|zr ?_;obtain rfl:=zJ hr;exact zf (.one (.tmp Z)) zv
     ·refine zo g5 hr fun hr=>yU Z (gd g5 Z) Z<|yU Z (gd g5 Z) Z<|yU Z (gd g5 Z) Z<|yU Z (gd g5 Z) Z<|yU Z (gd g5 Z) Z<|yS Z (aO Z (aG g5 Z) Z)<|zM Z<|yU Z Z Z<|yU Z Z Z<|yU Z Z Z<|yU Z Z Z<|yU Z Z Z<|yS Z (aO Z Z Z)<|zM Z<|zN<|zT<|zr ?_;obtain rfl:=zJ hr;exact zf (.one (.tmp Z)) zv
    ·refine zo g4 hr fun hr=>yU Z (gd g4 Z) Z<|yU Z (gd g4 Z) Z<|yU Z (gd g4 Z) Z<|yU Z (gd g4 Z) Z<|yU Z (gd g4 Z) Z<|yS Z (aO Z (aG g4 Z) Z)<|zM Z<|yU Z Z Z<|yU Z Z Z<|yU Z Z Z<|yU Z Z Z<|yU Z Z Z<|yS Z (aO Z Z Z)<|zM Z<|yU Z Z Z<|yU Z Z Z<|yU Z Z Z<|yU Z Z Z<|yU Z Z Z<|yS Z (aO Z Z Z)<|zM Z<|zN<|zT ?_;refine LW.ret ?_;obtain rfl:=zJ hr;exact zf (.one (.tmp Z)) zv
   ·refine zo g3 hr fun hr=>yU Z (gd g3 Z) Z<|yU Z (gd g3 Z) Z<|yU Z (gd g3 Z) Z<|yU Z (gd g3 Z) Z<|yU Z (gd g3 Z) Z<|yS Z (aO Z (aG g3 Z) Z)<|zM Z<|yU Z Z Z<|yU Z Z Z<|yU Z Z Z<|yU Z Z Z<|yU Z Z Z<|yS Z (aO Z Z Z)<|zM Z<|yU Z Z Z<|yU Z Z Z<|yU Z Z Z<|yU Z Z Z<|yU Z Z Z<|yS Z (aO Z Z Z)<|zM Z<|yU Z Z Z<|yU Z Z Z ?_;refine yU Z Z Z<|yU Z Z Z<|yU Z Z Z<|yS Z (aO Z Z Z)<|zM Z<|zN<|zT<|zr ?_;obtain rfl:=zJ hr;exact zf (.one (.tmp Z)) zv
  ·refine zo g2 hr fun hr=>yU Z (gd g2 Z) Z<|yU Z (gd g2 Z) Z<|yU Z (gd g2 Z) Z<|yU Z (gd g2 Z) Z<|yU Z (gd g2 Z) Z<|yS Z (aO Z (aG g2 Z) Z)<|zM Z<|yU Z Z Z<|yU Z Z Z<|yU Z Z Z<|yU Z Z Z<|yU Z Z Z<|yS Z (aO Z Z Z)<|zM Z<|yU Z Z Z<|yU Z Z Z<|yU Z Z Z<|yU Z Z Z<|yU Z Z Z<|yS Z (aO Z Z Z)<|zM Z<|yU Z Z Z<|yU Z Z Z ?_;refine yU Z Z Z<|yU Z Z Z<|yU Z Z Z<|yS Z (aO Z Z Z)<|zM Z<|yU Z Z Z<|yU Z Z Z<|yU Z Z Z<|yU Z Z Z<|yU Z Z Z<|yS Z (aO Z Z Z)<|zM Z<|zN<|zT<|zr ?_;obtain rfl:=zJ hr;exact zf (.one (.tmp Z)) zv
 ·refine zo g1 hr fun hr=>yU Z (gd g1 Z) Z<|yU Z (gd g1 Z) Z<|yU Z (gd g1 Z) Z<|yU Z (gd g1 Z) Z<|yU Z (gd g1 Z) Z<|yS Z (aO Z (aG g1 Z) Z)<|zM Z<|yU Z Z Z<|yU Z Z Z<|yU Z Z Z<|yU Z Z Z<|yU Z Z Z<|yS Z (aO Z Z Z)<|zM Z<|yU Z Z Z<|yU Z Z Z<|yU Z Z Z<|yU Z Z Z<|yU Z Z Z<|yS Z (aO Z Z Z)<|zM Z<|yU Z Z Z<|yU Z Z Z ?_;refine yU Z Z Z<|yU Z Z Z<|yU Z Z Z<|yS Z (aO Z Z Z)<|zM Z<|yU Z Z Z<|yU Z Z Z<|yU Z Z Z<|yU Z Z Z<|yU Z Z Z<|yS Z (aO Z Z Z)<|zM Z<|yU Z Z Z<|yU Z Z Z<|yU Z Z Z<|yU Z Z Z<|yU Z Z Z<|yS Z (aO Z Z Z)<|zM Z<|zN<|zT<|zr ?_;obtain rfl:=zJ hr;exact zf (.one (.tmp Z)) zv
open Go.Proofs
def uz :Option Bool:=(Gp).bind fun v1=>(uG 0).bind fun v2=>(fN v1 v2 (Vw.mk [] []) ([]:List Of)).bind fun v3=>(bif (v3.2.length:Int) != 1 then some true else (ix v3.2 0).bind fun y1=>bif !((y1.B.Slot==1)&&((y1.B.From==0)&&((y1.B.Parent.1==0)&&((y1.B.Parent.2==0)&&((y1.B.Salt==0)&&true)))))then some true else some ((v3.1.V.B.length:Int) != 1)).bind fun v4=>bif v4 then some false else (fN v1 v3.1 (Vw.mk [] []) v3.2).bind fun v5=>(fN v1 v5.1 (Vw.mk [] []) ([]:List Of)).bind fun v6=>bif (v6.1.V.V.length:Int)==1 then bif ((v6.1.C.ID.1==((nm (Bk.mk 1 0 (0,0) 0)).1))&&((v6.1.C.ID.2==((nm (Bk.mk 1 0 (0,0) 0)).2))&&true))then bif v6.1.C.Revoked==0 then (sA v1 v6.1).bind fun v7=>bif ((v7.1==((nm (Bk.mk 1 0 (0,0) 0)).1))&&((v7.2==((nm (Bk.mk 1 0 (0,0) 0)).2))&&true))then some (v6.1.Tick==6)else some false else some false else some false else some false
theorem I4 {r_:Bool}(hr:uz=some r_):ar Tryz.prog 6 [] [.bool r_]:=by
 refine zh Tryz.func6 Z Z Z Z ?_;unfold uz at hr;refine zQ<|zR<|zM Z<|zN<|zT<|zQ<|zR<|zb hr fun v1 h_v1 hr=>yS Z (zC Z Z Z (by kernel_rfl) (zp (Lh h_v1) .nil))<|yS Z (ze Z KN Z Z)<|yS Z (zs Z Z Z Z aY Z Z Z Z)<|zN<|zT<|zQ<|zR<|zb hr fun v2 h_v2 hr=>yS Z (zC Z Z Z (by kernel_rfl) (zp (FK h_v2) (.cons zv .nil)))<|yS Z (ze Z eG Z Z)<|yS Z (zs Z Z Z Z aE Z Z Z Z)<|zN<|zT<|zQ<|zR<|yS Z (zD Z Z Z aY Z Z) ?_;refine yS Z (zD Z Z Z aE Z Z)<|yS Z (aa.build Z mt Z Z Z)<|zb hr fun v3 h_v3 hr=>yS Z (zC Z Z Z (by kernel_rfl) (zp (yh h_v3) (.cons zv (.cons zv (.cons (Conv.agg (.cons Conv.zs (.cons Conv.zs .nil))) (.cons Conv.zs .nil))))))<|zM Z<|yS Z (dW Z Z Z)<|yS Z (dW Z Z Z)<|yS Z (zs Z Z Z Z aE Z Z Z Z)<|zM Z<|zN<|zT<|zQ<|zR<|yS Z (aa.build Z GW Z Z Z)<|yS Z (ze Z sn Z Z)<|yS Z (zs Z Z Z Z bW Z Z Z Z)<|zN<|zT<|zQ ?_;obtain⟨v4,hb_v4,ho_v4⟩:=zB hr;clear hr;refine LW.cut (E:=[(0,(bQ false)),(1,.ptr 0 0),(2,.ptr 1 0),(3,(kO v3.2)),(4,.ptr 2 0),(32,(bQ v4))]) (O:=[.box (bN v1),.box (kU v3.1),.box [(iQ 1),(iQ 0),(uQ 0),(uQ 0),(uQ 0)]]) ?_ ?_
 ·have hr:=hb_v4;refine LW.draw2 (by kernel_rfl) (by kernel_rfl)<|zH Z<|yE Z (cD Z Z (by kernel_rfl))<|yE Z (ap Z Z Z Z)<|zH Z ?_;refine LO.cases 18 Z (fun(g1:((v3.2.length:Int) != 1)=true)=>?_) (fun(g1:((v3.2.length:Int) != 1)=false)=>?_)
  ·refine zi g1 hr fun hr=>LO.sk Z Z Z (gd g1 Z) Z Z<|LO.sk Z Z Z (gd g1 Z) Z Z<|LO.sk Z Z Z (gd g1 Z) Z Z<|LO.sk Z Z Z (gd g1 Z) Z Z<|LO.sk Z Z Z (gd g1 Z) Z Z<|LO.sk Z Z Z (gd g1 Z) Z Z<|yE Z (bx Z (aG g1 Z) Z)<|zH Z<|LO.sk Z Z Z Z Z Z<|LO.sk Z Z Z Z Z Z<|LO.sk Z Z Z Z Z Z<|LO.sk Z Z Z Z Z Z<|LO.sk Z Z Z Z Z Z<|yE Z (bx Z Z Z)<|LO.nil<|zT ?_;obtain rfl:=zJ hr;exact zW 3 ⟨Z,Z,Z,Z,Z,Z,trivial⟩ Z Z Z Z
  ·refine zo g1 hr fun hr=>LO.gd Z Z Z (gd g1 Z) Z (zm Z Z)<|zb hr fun y1 h_y1 hr=>LO.gd Z Z Z (gd g1 Z) Z (zx Z Z Z bL h_y1 Z)<|LO.gd Z Z Z (gd g1 Z) Z (aa.fieldAddrC Z Z il Z)<|LO.gd Z Z Z (gd g1 Z) Z (ci Z Z Z bW Z Z)<|LO.gd Z Z Z (gd g1 Z) Z (zD Z Z Z bW Z Z)<|LO.gd Z Z Z (gd g1 Z) Z (aa.neqAgg Z Z Z Z Z rx)<|yE Z (aO Z (aG g1 Z) Z)<|zH Z ?_;refine LO.cases 26 Z (fun(g2:(!((y1.B.Slot==1)&&((y1.B.From==0)&&((y1.B.Parent.1==0)&&((y1.B.Parent.2==0)&&((y1.B.Salt==0)&&true))))))=true)=>?_) (fun(g2:(!((y1.B.Slot==1)&&((y1.B.From==0)&&((y1.B.Parent.1==0)&&((y1.B.Parent.2==0)&&((y1.B.Salt==0)&&true))))))=false)=>?_)
   ·refine zi g2 hr fun hr=>LO.sk Z Z Z (gd g2 Z) Z Z<|LO.sk Z Z Z (gd g2 Z) Z Z<|LO.sk Z Z Z (gd g2 Z) Z Z<|LO.sk Z Z Z (gd g2 Z) Z Z<|LO.sk Z Z Z (gd g2 Z) Z Z<|yE Z (bx Z (aG g2 Z) Z)<|LO.nil<|zT ?_;obtain rfl:=zJ hr;exact zW 3 ⟨Z,Z,Z,Z,Z,Z,trivial⟩ Z Z Z Z
   ·refine zo g2 hr fun hr=>LO.gd Z Z Z (gd g2 Z) Z (zA Z Z aZ)<|LO.gd Z Z Z (gd g2 Z) Z (zA Z Z aL)<|LO.gd Z Z Z (gd g2 Z) Z (zD Z Z Z cd Z Z)<|LO.gd Z Z Z (gd g2 Z) Z (cD Z Z (by kernel_rfl))<|LO.gd Z Z Z (gd g2 Z) Z (ap Z Z Z Z)<|yE Z (aO Z (aG g2 Z) Z)<|LO.nil<|zT ?_;obtain rfl:=zJ hr;exact zW 3 ⟨Z,Z,Z,Z,Z,Z,trivial⟩ Z Z Z Z
 ·have hr:=ho_v4;clear hb_v4;refine zX Z (fun g3=>?_)<|fun g3=>?_
  ·refine zi g3 hr fun hr=>zQ<|zR<|zM Z<|zN<|zT<|zr<|af ?_;obtain rfl:=zJ hr;exact zf (.one (.tmp Z)) zv
  ·refine zo g3 hr fun hr=>zk<|zT<|zQ<|zR<|yS Z (zD Z Z Z aY Z Z)<|yS Z (zD Z Z Z aE Z Z)<|yS Z (aa.build Z mt Z Z Z)<|zM Z<|zb hr fun v5 h_v5 hr=>yS Z (zC Z Z Z (by kernel_rfl) (zp (yh h_v5) (.cons zv (.cons zv (.cons (Conv.agg (.cons Conv.zs (.cons Conv.zs .nil))) (.cons zv .nil))))))<|zM Z<|yS Z (dW Z Z Z)<|yS Z (dW Z Z Z)<|yS Z (zs Z Z Z Z aE Z Z Z Z)<|zN<|zT<|zQ<|zR<|yS Z (zD Z Z Z aY Z Z)<|yS Z (zD Z Z Z aE Z Z)<|yS Z (aa.build Z mt Z Z Z)<|zb hr fun v6 h_v6 hr=>yS Z (zC Z Z Z (by kernel_rfl) (zp (yh h_v6) (.cons zv (.cons zv (.cons (Conv.agg (.cons Conv.zs (.cons Conv.zs .nil))) (.cons Conv.zs .nil)))))) ?_;refine zM Z<|yS Z (dW Z Z Z)<|yS Z (dW Z Z Z)<|yS Z (zs Z Z Z Z aE Z Z Z Z)<|zN<|zT<|zQ<|LW.draw2 (by kernel_rfl) (by kernel_rfl)<|yE Z (zA Z Z aZ)<|yE Z (zA Z Z aQ)<|yE Z (zD Z Z Z co Z Z)<|yE Z (cD Z Z (by kernel_rfl))<|yE Z (ap Z Z Z Z)<|zH Z ?_;refine LO.cases 53 Z (fun(g4:((v6.1.V.V.length:Int)==1)=true)=>?_) (fun(g4:((v6.1.V.V.length:Int)==1)=false)=>?_)
   ·refine zi g4 hr fun hr=>LO.gd Z Z Z (gd g4 Z) Z (zA Z Z eR)<|LO.gd Z Z Z (gd g4 Z) Z (zA Z Z kr)<|LO.gd Z Z Z (gd g4 Z) Z (zD Z Z Z ay Z Z)<|LO.gd Z Z Z (gd g4 Z) Z (zD Z Z Z bW Z Z)<|LO.gd Z Z Z (gd g4 Z) Z (zC Z Z Z (by kernel_rfl) (zp (G4 (b:=(Bk.mk 1 0 (0,0) 0))) (.cons zv .nil)))<|LO.gd Z Z Z (gd g4 Z) Z (aa.eqlAgg Z Z Z Z Z fu)<|yE Z (bx Z (aG g4 Z) Z)<|zH Z ?_;refine LO.cases 61 Z (fun(g5:((v6.1.C.ID.1==((nm (Bk.mk 1 0 (0,0) 0)).1))&&((v6.1.C.ID.2==((nm (Bk.mk 1 0 (0,0) 0)).2))&&true))=true)=>?_) (fun(g5:((v6.1.C.ID.1==((nm (Bk.mk 1 0 (0,0) 0)).1))&&((v6.1.C.ID.2==((nm (Bk.mk 1 0 (0,0) 0)).2))&&true))=false)=>?_)
    ·refine zi g5 hr fun hr=>LO.gd Z Z Z (gd g5 Z) Z (zA Z Z eR)<|LO.gd Z Z Z (gd g5 Z) Z (zA Z Z tQ)<|LO.gd Z Z Z (gd g5 Z) Z (zD Z Z Z aW Z Z)<|LO.gd Z Z Z (gd g5 Z) Z (ap Z Z Z Z)<|yE Z (bx Z (aG g5 Z) Z)<|zH Z ?_;refine LO.cases 67 Z (fun(g6:(v6.1.C.Revoked==0)=true)=>?_) (fun(g6:(v6.1.C.Revoked==0)=false)=>?_)
     ·refine zi g6 hr fun hr=>LO.gd Z Z Z (gd g6 Z) Z (zD Z Z Z aY Z Z)<|LO.gd Z Z Z (gd g6 Z) Z (zD Z Z Z aE Z Z)<|zb hr fun v7 h_v7 hr=>LO.gd Z Z Z (gd g6 Z) Z (zC Z Z Z (by kernel_rfl) (zp (FF h_v7) (.cons zv (.cons zv .nil))))<|LO.gd Z Z Z (gd g6 Z) Z (zD Z Z Z bW Z Z)<|LO.gd Z Z Z (gd g6 Z) Z (zC Z Z Z (by kernel_rfl) (zp (G4 (b:=(Bk.mk 1 0 (0,0) 0))) (.cons zv .nil)))<|LO.gd Z Z Z (gd g6 Z) Z (aa.eqlAgg Z Z Z Z Z fu)<|yE Z (bx Z (aG g6 Z) Z)<|zH Z ?_;refine LO.cases 75 Z (fun(g7:((v7.1==((nm (Bk.mk 1 0 (0,0) 0)).1))&&((v7.2==((nm (Bk.mk 1 0 (0,0) 0)).2))&&true))=true)=>?_) (fun(g7:((v7.1==((nm (Bk.mk 1 0 (0,0) 0)).1))&&((v7.2==((nm (Bk.mk 1 0 (0,0) 0)).2))&&true))=false)=>?_)
      ·refine zi g7 hr fun hr=>LO.gd Z Z Z (gd g7 Z) Z (zA Z Z bB)<|LO.gd Z Z Z (gd g7 Z) Z (zD Z Z Z aW Z Z)<|LO.gd Z Z Z (gd g7 Z) Z (ap Z Z Z Z)<|yE Z (bx Z (aG g7 Z) Z)<|zH Z<|LO.nil<|zT<|zr ?_;obtain rfl:=zJ hr;exact zf (.one (.tmp Z)) zv
      ·refine zo g7 hr fun hr=>LO.sk Z Z Z (gd g7 Z) Z Z<|LO.sk Z Z Z (gd g7 Z) Z Z<|LO.sk Z Z Z (gd g7 Z) Z Z<|yE Z (aO Z (aG g7 Z) Z)<|zH Z<|LO.nil<|zT<|zr ?_;obtain rfl:=zJ hr;exact zf (.one (.tmp Z)) zv
     ·refine zo g6 hr fun hr=>LO.sk Z Z Z (gd g6 Z) Z Z<|LO.sk Z Z Z (gd g6 Z) Z Z<|LO.sk Z Z Z (gd g6 Z) Z Z<|LO.sk Z Z Z (gd g6 Z) Z Z<|LO.sk Z Z Z (gd g6 Z) Z Z<|LO.sk Z Z Z (gd g6 Z) Z Z<|yE Z (aO Z (aG g6 Z) Z)<|zH Z<|LO.sk Z Z Z Z Z Z<|LO.sk Z Z Z Z Z Z<|LO.sk Z Z Z Z Z Z<|yE Z (aO Z Z Z)<|zH Z<|LO.nil<|zT<|zr ?_;obtain rfl:=zJ hr;exact zf (.one (.tmp Z)) zv
    ·refine zo g5 hr fun hr=>LO.sk Z Z Z (gd g5 Z) Z Z<|LO.sk Z Z Z (gd g5 Z) Z Z<|LO.sk Z Z Z (gd g5 Z) Z Z<|LO.sk Z Z Z (gd g5 Z) Z Z<|yE Z (aO Z (aG g5 Z) Z)<|zH Z<|LO.sk Z Z Z Z Z Z<|LO.sk Z Z Z Z Z Z<|LO.sk Z Z Z Z Z Z<|LO.sk Z Z Z Z Z Z<|LO.sk Z Z Z Z Z Z<|LO.sk Z Z Z Z Z Z<|yE Z (aO Z Z Z)<|zH Z<|LO.sk Z Z Z Z Z Z<|LO.sk Z Z Z Z Z Z<|LO.sk Z Z Z Z Z Z<|yE Z (aO Z Z Z)<|zH Z<|LO.nil<|zT<|zr ?_;obtain rfl:=zJ hr;exact zf (.one (.tmp Z)) zv
   ·refine zo g4 hr fun hr=>LO.sk Z Z Z (gd g4 Z) Z Z<|LO.sk Z Z Z (gd g4 Z) Z Z<|LO.sk Z Z Z (gd g4 Z) Z Z<|LO.sk Z Z Z (gd g4 Z) Z Z<|LO.sk Z Z Z (gd g4 Z) Z Z<|LO.sk Z Z Z (gd g4 Z) Z Z<|yE Z (aO Z (aG g4 Z) Z)<|zH Z<|LO.sk Z Z Z Z Z Z<|LO.sk Z Z Z Z Z Z<|LO.sk Z Z Z Z Z Z<|LO.sk Z Z Z Z Z Z<|yE Z (aO Z Z Z)<|zH Z<|LO.sk Z Z Z Z Z Z<|LO.sk Z Z Z Z Z Z<|LO.sk Z Z Z Z Z Z<|LO.sk Z Z Z Z Z Z<|LO.sk Z Z Z Z Z Z<|LO.sk Z Z Z Z Z Z<|yE Z (aO Z Z Z)<|zH Z<|LO.sk Z Z Z Z Z Z ?_;refine LO.sk Z Z Z Z Z Z<|LO.sk Z Z Z Z Z Z<|yE Z (aO Z Z Z)<|zH Z<|LO.nil<|zT<|zr ?_;obtain rfl:=zJ hr;exact zf (.one (.tmp Z)) zv
theorem AF {b:Bk}{x y:Vw}:b∈(dq x y).B↔b∈x.B∨b∈y.B:=pP b _ _
theorem AG {v:Vt}{x y:Vw}:v∈(dq x y).V↔v∈x.V∨v∈y.V:=pP v _ _
noncomputable def iJ (c:Cf)(n:Nd)(inp:Vw)(o:List Of):Nd×List Of:=(fN c n inp o).getD (n,[])
theorem tk {c:Cf}{n:Nd}{inp:Vw}{o:List Of}(hf:rc c n inp o)(h:ir c n=true):fN c n inp o=some (iJ c n inp o)∧iJ c n inp o=(n,[]):=by
 have e:=pR hf h;unfold iJ;rw[e];exact⟨rfl,rfl⟩
theorem wo {c:Cf}{n:Nd}{inp:Vw}{o:List Of}(hf:rc c n inp o):fN c n inp o=some (iJ c n inp o)∧
    ((ir c n=true∧iJ c n inp o=(n,[]))∨
     (ir c n=false∧n.Tick.tmod 3=0∧iJ c n inp o=(Nd.mk n.No (IntKind.i64.wrap (n.Tick+1)) (dA (di c n inp o) c (aP n)).1 (dA (di c n inp o) c (aP n)).2.1 (eE c n o).1 n.C (dA (di c n inp o) c (aP n)).2.2.1,(dA (di c n inp o) c (aP n)).2.2.2))∨
     (ir c n=false∧n.Tick.tmod 3=1∧iJ c n inp o=(Nd.mk n.No (IntKind.i64.wrap (n.Tick+1)) (ew (di c n inp o) (eE c n o).1 c (aP n)).1 (ew (di c n inp o) (eE c n o).1 c (aP n)).2.1 [] n.C (ew (di c n inp o) (eE c n o).1 c (aP n)).2.2,[]))∨
     (ir c n=false∧n.Tick.tmod 3=2∧∃cu,iJ c n inp o=(Nd.mk n.No (IntKind.i64.wrap (n.Tick+1)) (aF c n.V (gg c n inp) (aP n)).1 (aF c n.V (gg c n inp) (aP n)).2.1 [] cu ((eE c n o).2||(aF c n.V (gg c n inp) (aP n)).2.2),[]))):=by
  cases hid:ir c n with
  |true=>exact⟨(tk hf hid).1,.inl ⟨rfl,(tk hf hid).2⟩⟩
  | false=>
    rcases wu hid with h|h|h
    · have e:=uA hf hid h;unfold iJ;rw[e];exact⟨rfl,.inr (.inl ⟨rfl,h,rfl⟩)⟩
    · have e:=uB hf hid h;unfold iJ;rw[e];exact⟨rfl,.inr (.inr (.inl ⟨rfl,h,rfl⟩))⟩
    · obtain⟨cu,e⟩:=BX hf hid h;unfold iJ;rw[e];exact⟨rfl,.inr (.inr (.inr ⟨rfl,h,cu,rfl⟩))⟩
def kW (P:Bk→Prop)(Q:Vt→Prop)(v:Vw):Prop:=(∀b∈v.B,P b)∧∀x∈v.V,Q x
def zu (P:Bk→Prop)(Q:Vt→Prop)(o:Of):Prop:=P o.B∧kW P Q o.V
def H4 (P:Bk→Prop)(Q:Vt→Prop)(n:Nd):Prop:=kW P Q n.V∧kW P Q n.In∧∀o∈n.O,zu P Q o
section
variable {P : Bk → Prop} {Q : Vt → Prop}
theorem mh {a b:Vw}(h1:kW P Q a)(h2:kW P Q b):kW P Q (dq a b):=⟨fun x hx=>(AF.1 hx).elim (h1.1 x) (h2.1 x),fun x hx=>(AG.1 hx).elim (h1.2 x) (h2.2 x)⟩
theorem Ak {c:Cf}{a:Vw}(h:kW P Q a):kW P Q (bh c a):=⟨fun x hx=>h.1 x (List.mem_filter.1 hx).1,fun x hx=>h.2 x (List.mem_filter.1 hx).1⟩
theorem sP (c:Cf){w i:Vw}(s:Int)(h1:kW P Q w)(h2:kW P Q i):kW P Q (aF c w i s).1∧kW P Q (aF c w i s).2.1:=by
 by_cases h:nS c w
 ·have ht:=HF h i s;obtain⟨t,e,h3⟩:=ht.preB;obtain⟨u,e2,h4⟩:=ht.preV;refine⟨⟨fun b hb=>?_,fun v hv=>?_⟩,fun b hb=>h2.1 b (List.mem_filter.1 (ht.subB.subset hb)).1,fun v hv=>h2.2 v (List.mem_filter.1 (ht.subV.subset hv)).1⟩
  ·rw[e]at hb;rcases List.mem_append.1 hb with hb|hb
   ·exact h1.1 b hb
   ·exact h2.1 b (List.mem_filter.1 (h3 b hb).1).1
  ·rw[e2]at hv;rcases List.mem_append.1 hv with hv|hv
   ·exact h1.2 v hv
   ·exact h2.2 v (List.mem_filter.1 (h4 v hv).1).1
 ·have e:aF c w i s=(w,i,false):=by unfold aF;rw[if_neg h]
  rw[e];exact⟨h1,h2⟩
theorem sO (c:Cf)(s:Int):∀(o:List Of) (x:Vw×Vw×Bool),(∀y∈o,zu P Q y)→kW P Q x.1→kW P Q x.2.1→kW P Q (o.foldl (oM c s) x).1∧kW P Q (o.foldl (oM c s) x).2.1
 |[],x,_,h1,h2=>⟨h1,h2⟩
 |y::r,x,h,h1,h2=>by
  rw[List.foldl_cons];have hy:=h y (List.mem_cons_self ..);obtain⟨a1,a2⟩:=sP c (i:=dq y.V ⟨[y.B],[]⟩) s h1 (mh hy.2 ⟨fun b hb=>by rw[List.mem_singleton.1 hb];exact hy.1,fun x hx=>(by cases hx)⟩);exact sO c s r _ (fun z hz=>h z (List.mem_cons_of_mem _ hz)) a1<|mh h2 a2
end
theorem Hz (l:List Int):wR (ow l):=⟨qC _ _,qC _ _⟩
theorem J8 (b:Bk):wR (nm b):=Hz _
theorem Hy {l:List Bk}{id k:ID}(h:k∈aU l id):wR k:=by
 unfold aU at h;split at h
 ·cases h
 ·obtain⟨b,-,rfl⟩:=List.mem_map.1 h;exact J8 b
theorem vJ {c:Cf}{l:List Bk}{v:List Vt}:∀(n:Nat) (id:ID),wR id→wR (mA c l v n id)
 |0,id,h=>h
 | n+1,id,h=>by
  unfold mA;split
  ·rename_i h2;rcases ll c l v id with⟨-,e⟩|⟨k,hk,e⟩
   ·rw[e]at h2;simp only at h2;omega
   ·exact vJ n _ (by rw[e];exact Hy hk)
  ·exact h
theorem Fa (c:Cf)(l:List Bk)(v:List Vt):wR (fP c l v):=vJ _ _ ⟨⟨by decide,by decide⟩,by decide,by decide⟩
theorem Fo (n:Int):aS .i64 (IntKind.i64.wrap n):=cx .i64 n
theorem Fk {x:Nd}(h:aS .i64 x.No)(c:Cf){slot:Int}(hs:aS .i64 slot):nt (oB x c slot):=
 have hh:=Fa c (aF c x.V x.In slot).1.B (de c (aF c x.V x.In slot).1.V (IntKind.i64.wrap (slot-1)))
 ⟨hs,h,hh.1,hh.2,by show aS .u64 0;exact⟨by decide,by decide⟩⟩
def Af (v:Vw):Prop:=kW nt (fun _=>True) v
theorem Kb {v:Vw}(h:gX v.B):Af v:=⟨h,fun _ _=>trivial⟩
structure wQ (c:Cf)(v:Vw):Prop where
 ok:Af v
 b:v.B.length≤500
 v:v.V.length≤500
theorem vC {c:Cf}{w i:Vw}(h:wQ c w)(hi:Af i)(s:Int):wQ c (aF c w i s).1:=by
 obtain⟨h1,h2,h3⟩:=h;have hm:=j6 c w i s;exact⟨(sP c s h1 hi).1,by omega,by omega⟩
section
variable {c : Cf} (hW : c.W.length ≤ 1000)
include hW
theorem nJ {n:Nd}{i:Vw}(hv:wQ c n.V)(hi:Af i)(hl:i.B.length+i.V.length≤999)(slot:Int) :
  pS c n i slot=some (⟨n.No,n.Tick,(aF c n.V i slot).1,n.In,n.O,n.C,n.Full||(aF c n.V i slot).2.2⟩,(aF c n.V i slot).2.1):=by
 obtain⟨a1,a2,a3⟩:=hv;unfold pS;rw[Cd hW a1.1 hi.1 (by omega) (by omega) hl,ob];cases n.Full <;>rfl
theorem B6 {n:Nd}{o:List Of}(hl:n.O.length+o.length≤1000):uK c n o=some ⟨n.No,n.Tick,n.V,n.In,(eE c n o).1,n.C,(eE c n o).2⟩:=by
 obtain⟨L,hL⟩:∃L,L=n.O++o:=⟨_,rfl⟩
 have hLl:L.length≤1000:=by rw[hL,List.length_append];exact hl
 have e:=aC (step:=jw c n o) (n:=L.length) (fun k=>dI.mk (k:Int) (fQ n.Tick c (aP n) n.Full (L.take k)).2 (fQ n.Tick c (aP n) n.Full (L.take k)).1) (dI.mk (L.length:Int) (fQ n.Tick c (aP n) n.Full L).2 (fQ n.Tick c (aP n) n.Full L).1) (fun k hk=>by
  obtain⟨y,hy,-⟩:=ax hk
  have et:L.take (k+1)=L.take k++[y]:=by rw[List.take_add_one,hy];rfl
  have hn:=(ks n.Tick c (aP n) n.Full (L.take k)).1
  have gate:(bif (n.Tick.tmod 3)==2 then some true else(some y).bind fun y1=>bif y1.Slot != aP n then some true else(some y).bind fun y2=>(FA c (aP n)).bind fun v3=>some (y2.From != v3))=some (!D4 n.Tick c (aP n) y):=by
   rw[wL hW,ob];simp only[ob];unfold D4;by_cases h1:n.Tick.tmod 3=2
   ·rw[beq_iff_eq.2 h1,ct,decide_eq_false (by simp[h1])];rfl
   ·rw[show(n.Tick.tmod 3==2)=false by simp[h1],cf];by_cases h2:y.Slot=aP n
    ·rw[show(y.Slot != aP n)=false by simp[h2],cf];by_cases h3:y.From=pE c (aP n)
     ·rw[decide_eq_true ⟨h1,h2,h3⟩,h3];simp
     ·rw[decide_eq_false (by simp[h3])];simp[h3]
    ·rw[show(y.Slot != aP n)=true by simp[h2],ct,decide_eq_false (by simp[h2])];rfl
  unfold jw;simp only;rw[←hL,decide_eq_true (show(k:Int)<(L.length:Int) by omega),ct,aw hy,et,s4,ah (n:=k) (by omega)];unfold aP at gate hn⊢;rw[gate,ob];unfold kM;generalize fQ n.Tick c (IntKind.i64.wrap (n.Tick.tdiv 3)) n.Full (L.take k)=s at hn⊢
  cases hk:D4 n.Tick c (IntKind.i64.wrap (n.Tick.tdiv 3)) y with
  |false=>rw[Bool.not_false,ct,if_neg (by simp)]
  |true=>
   rw[Bool.not_true,cf,if_pos rfl];by_cases h8:s.1.length=8
   ·rw[decide_eq_true (by omega),ct,if_pos h8]
   ·rw[decide_eq_false (by omega),cf,if_neg h8,ob,aM (by simp only[List.length_singleton];omega) (by omega),ct]) (by
  unfold jw;simp only
  rw[←hL,decide_eq_false (show¬(L.length:Int)<(L.length:Int) by omega),cf,List.take_length]) (by omega)
 have e':iter (jw c n o) bg (dI.mk 0 n.Full [])=_:=e;unfold uK;rw[aM (by omega) (by omega),ct,aM (by omega) (by omega),ct,e',ob,hL];rfl
theorem B7 {x:Nd}{slot:Int}(hv:wQ c x.V)(hi:Af x.In)(hl:x.In.B.length+x.In.V.length≤999)(hn:aS .i64 x.No)(hs:aS .i64 slot) :
  uL c x slot=some (⟨x.No,x.Tick,(dA x c slot).1,(dA x c slot).2.1,x.O,x.C,(dA x c slot).2.2.1⟩,(dA x c slot).2.2.2):=by
 have hf:=vC hv hi slot;obtain⟨f1,f2,f3⟩:=id hf;unfold uL dA;rw[wL hW,ob];by_cases h:x.No=pE c slot
 ·rw[show(x.No != pE c slot)=false by simp[h],cf,if_pos h,nJ hW hv hi hl,ob];simp only;rw[k7 hW f1.1 (by omega) (by omega),ob,show Bk.mk slot x.No (fP c (aF c x.V x.In slot).1.B (de c (aF c x.V x.In slot).1.V (IntKind.i64.wrap (slot-1)))) 0=oB x c slot from rfl,nJ hW (i:=⟨[oB x c slot],[]⟩) hf ⟨fun b hb=>by rw[List.mem_singleton.1 hb];exact Fk hn c hs,fun x hx=>(by cases hx)⟩ (by simp),ob]
 ·rw[show(x.No != pE c slot)=true by simp[h],ct,if_neg h]
theorem B8 {x:Nd}{slot:Int}(hv:wQ c x.V)(hi:Af x.In)(hi1:x.In.B.length≤500)(hi2:x.In.V.length≤500)(ho:x.O.length≤8)(hs:∀y∈x.O,zu nt (fun _=>True) y)(hz:∀y∈x.O,y.V.B.length≤500∧y.V.V.length≤500)(hz2:∀y∈x.O,y.V.B.length+y.V.V.length≤998) :
  uM c x slot=some ⟨x.No,x.Tick,(ew x x.O c slot).1,(ew x x.O c slot).2.1,[],x.C,(ew x x.O c slot).2.2⟩:=by
 have hall:=fun(l:List Of) (h:∀y∈l,y∈x.O)=>sO c slot l (x.V,x.In,x.Full) (fun y hy=>hs y (h y hy)) hv.ok hi;have hsz:=fun(l:List Of) (h1:l.length≤8) (h:∀y∈l,y∈x.O)=>oN (c:=c) (slot:=slot) hv.b hv.v hi1 hi2 8 l h1 fun z hy=>hz z (h z hy)
 have e:=aC (step:=jx c slot) (n:=x.O.length) (fun k=>eN.mk (k:Int) ⟨x.No,x.Tick,(aV x (x.O.take k) c slot).1,(aV x (x.O.take k) c slot).2.1,x.O,x.C,(aV x (x.O.take k) c slot).2.2⟩)
  (eN.mk (x.O.length:Int) ⟨x.No,x.Tick,(aV x x.O c slot).1,(aV x x.O c slot).2.1,x.O,x.C,(aV x x.O c slot).2.2⟩) (fun k hk=>by
  obtain⟨y,hy,hm⟩:=ax hk
  have et:x.O.take (k+1)=x.O.take k++[y]:=by rw[List.take_add_one,hy];rfl
  have ha:=hall (x.O.take k) fun _=>List.mem_of_mem_take;have hz':=hsz (x.O.take k) (by rw[List.length_take];omega) fun _=>List.mem_of_mem_take;have hy2:=hz y hm;have hy3:=hz2 y hm;have hy4:=hs y hm;have hll:=rO y;have hok:Af (dq y.V ⟨[y.B],[]⟩):=mh hy4.2 ⟨fun b hb=>by rw[List.mem_singleton.1 hb];exact hy4.1,fun x hx=>(by cases hx)⟩;unfold jx;simp only;rw[decide_eq_true (show(k:Int)<(x.O.length:Int) by omega),ct,aw hy,ob,ob,et,rZ,ah (n:=k) (by omega)];have ha':Af (aV x (x.O.take k) c slot).1∧Af (aV x (x.O.take k) c slot).2.1:=ha;generalize aV x (x.O.take k) c slot=s at ha' hz'⊢;have hzt:=mr c s.1 (dq y.V ⟨[y.B],[]⟩) slot;rw[ny (by simp only[List.length_singleton];omega) (by simp only[List.length_nil];omega),ob,nJ hW (n:=⟨x.No,x.Tick,s.1,s.2.1,x.O,x.C,s.2.2⟩) ⟨ha'.1,by simp only;omega,by simp only;omega⟩ hok (by omega),ob];simp only;rw[ny (by omega) (by omega),ob]
  rfl) (by
  unfold jx;simp only
  rw[decide_eq_false (show¬(x.O.length:Int)<(x.O.length:Int) by omega),cf,List.take_length]) (by omega)
 have e':iter (jx c slot) bg (eN.mk 0 x)=_:=e;have ha:=hall x.O fun _ h=>h;have hz':=hsz x.O ho fun _ h=>h;have ha':Af (aV x x.O c slot).1∧Af (aV x x.O c slot).2.1:=ha;unfold uM ew;rw[e',ob];simp only;rw[Cp hW,ob];generalize aV x x.O c slot=s at ha' hz'⊢;by_cases h:x.No∈nq c slot
 ·rw[decide_eq_true h,ct,if_pos h,k7 hW ha'.1.1 (by omega) (by omega),ob,ny (by simp only[List.length_nil];omega) (by simp only[List.length_singleton];omega),ob]
 ·rw[decide_eq_false h,cf,if_neg h]
end
structure It (c:Cf)(n:Nd)(inp:Vw)(o:List Of):Prop where
 g:rc c n inp o
 w:c.W.length≤1000
 ins:(gg c n inp).B.length+(gg c n inp).V.length≤999
 offs:∀y∈n.O++o,y.V.B.length+y.V.V.length≤998
 no:aS .i64 n.No
 all:H4 nt (fun _=>True) n
 inp:Af inp
 o:∀y∈o,zu nt (fun _=>True) y
theorem BZ {c:Cf}{n:Nd}{inp:Vw}{o:List Of}(hf:It c n inp o):uD c n inp o=fN c n inp o:=by
 obtain⟨hg,hW,hin,hof,hno,⟨hnv,hni,hno2⟩,hinp,ho⟩:=hf;have hi:(gg c n inp).B.length≤500∧(gg c n inp).V.length≤500:=hg.ins;have hok:Af (gg c n inp):=mh hni (Ak hinp);obtain⟨hr1,hr2⟩:=m9 hg;have hh:=(ks n.Tick c (aP n) n.Full (n.O++o)).2.1;have hr3:∀y∈(eE c n o).1,zu nt (fun _=>True) y:=fun y hy=>(List.mem_append.1 (hh y hy).1).elim (hno2 y) (ho y);have hr4:∀y∈(eE c n o).1,y.V.B.length+y.V.V.length≤998:=fun y hy=>hof y (hh y hy).1;obtain⟨⟨a1,a2⟩,⟨b1,b2⟩,⟨e1,e2⟩,-,g1,g2⟩:=id hg;have hfv:wQ c n.V:=⟨hnv,a1,a2⟩;have hol:=lC c inp;have gate:=pr c n;rw[qS,ob]at gate;unfold uD;rw[qT hW,ob,gate,ob]
 cases h:ir c n with
 |true=>rw[ct,pR hg h]
 | false=>
  rw[cf,uJ hW hinp.1 (by omega) (by omega),ob,ny (by omega) (by omega),ob,B6 hW (n:=Nd.mk n.No n.Tick n.V _ n.O n.C n.Full) (by simp only;omega),ob];simp only;have x1:wQ c (di c n inp o).V:=hfv;rcases wu h with ht|ht|ht
  ·rw[uA hg h ht,ht,show((0:Int)==0)=true from rfl,ct];have:=B7 (slot:=aP n) hW (x:=⟨n.No,n.Tick,n.V,gg c n inp,(eE c n o).1,n.C,(eE c n o).2⟩) hfv hok hin hno (Fo _);exact(congrArg (fun z=>(z.bind fun v7=>some (v7.2,v7.1)).bind fun v6:List Of×Nd=>some (Nd.mk v6.2.No (IntKind.i64.wrap (v6.2.Tick+1)) v6.2.V v6.2.In v6.2.O v6.2.C v6.2.Full,v6.1)) this).trans Z
  ·rw[uB hg h ht,ht,show((1:Int)==0)=false from rfl,cf,show((1:Int)==1)=true from rfl,ct];have:=B8 (slot:=aP n) hW (x:=⟨n.No,n.Tick,n.V,gg c n inp,(eE c n o).1,n.C,(eE c n o).2⟩) hfv hok hi.1 hi.2 hr1 hr3 hr2 hr4;exact(congrArg (fun z=>(z.bind fun v8=>some (([]:List Of),v8)).bind fun v6:List Of×Nd=>some (Nd.mk v6.2.No (IntKind.i64.wrap (v6.2.Tick+1)) v6.2.V v6.2.In v6.2.O v6.2.C v6.2.Full,v6.1)) this).trans Z
  ·have hm:dw c:=by
    have:=of_decide_eq_false h;exact Decidable.not_not.1 fun h=>this<|.inl h
   rw[nD hg h,ht,show((2:Int)==0)=false from rfl,cf,show((2:Int)==1)=false from rfl,cf,show((2:Int)==2)=true from rfl,ct];obtain⟨r,hr,-,e⟩:=q9 (x:=di c n inp o) (slot:=aP n) hm a1 a2 hi.1 hi.2;rw[e,ob];have hft:=vC (i:=gg c n inp) hfv hok (aP n);obtain⟨f1,f2,f3⟩:=hft
   have h86:uN c ⟨n.No,n.Tick,n.V,gg c n inp,(eE c n o).1,n.C,(eE c n o).2⟩ (aP n)=some ⟨n.No,n.Tick,(aF c n.V (gg c n inp) (aP n)).1,(aF c n.V (gg c n inp) (aP n)).2.1,[],dh n.C (aF c n.V (gg c n inp) (aP n)).1.B (fP c (aF c n.V (gg c n inp) (aP n)).1.B (de c (aF c n.V (gg c n inp) (aP n)).1.V (aP n))) r.1 r.2 (aP n),(eE c n o).2||(aF c n.V (gg c n inp) (aP n)).2.2⟩:=by
    unfold uN;rw[nJ hW (n:=⟨n.No,n.Tick,n.V,gg c n inp,(eE c n o).1,n.C,(eE c n o).2⟩) hfv hok hin,ob];simp only;rw[k7 hW f1.1 (by omega) (by omega),ob,Cc hm f1.1 (by omega) (by omega)];have hr':nG c (aF c n.V (gg c n inp) (aP n)).1 (aP n) (fP c (aF c n.V (gg c n inp) (aP n)).1.B (de c (aF c n.V (gg c n inp) (aP n)).1.V (aP n)))=some r:=hr;rw[hr',ob,Gr f1.1 (by omega),ob]
   exact(congrArg (fun z=>(z.bind fun v8=>some (([]:List Of),v8)).bind fun v6:List Of×Nd=>some (Nd.mk v6.2.No (IntKind.i64.wrap (v6.2.Tick+1)) v6.2.V v6.2.In v6.2.O v6.2.C v6.2.Full,v6.1)) h86).trans Z
theorem xb (x:Nd)(c:Cf)(slot:Int):(dA x c slot).2.2.2.length≤1:=by
 unfold dA;split <;>simp
open Go.Proofs
structure If where
 t8:Int
structure Ie where
 t20:Int
end Go.Mg
