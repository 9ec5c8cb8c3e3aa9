/- Appends, makes, stores into one's own slices; ghost steps; functions that hand back a new slice. Conditions: none. -/
import Derived.Test.YtfbigoipfbiliaaGreatX1
import Derived.WideKeyRuns
import Derived.Deep.Slices
import Derived.ProofKit
import Derived.OpenShut
namespace Go.Mg
open IntKind (i64 signed u64 wrap)
open List (any_eq_true eq_nil_of_length_eq_zero getElem?_append getElem?_append_left getElem?_append_right getElem?_eq_getElem getElem?_map getElem?_set getElem?_set_ne getElem?_set_self getElem?_take length length_append length_cons map_cons map_nil map_toArray mem_append mem_append_left mem_iff_getElem mem_map range range' replicate)
open Nat (add_comm add_mul add_zero ble blt le_refl le_trans mul_comm mul_zero zero_add zero_le)
open Option (bind_none getD_some)
variable {α β : Type} {B : ci} {F : List Nat} {H H' H0 H1 O : List ab} {I : Nat -> Prop} {J : ab -> Prop} {P : Program} {Q : Exit -> aE -> List ab -> Prop} {R : LV -> List ab -> Prop} {a : α} {ag again apart b c fresh handsOn : Bool} {als cs cs' ls qs : List LV} {args : Array Value} {bytes clock d i id j m n off : Nat} {e ek ev t ty : TypeId} {env' : aE} {es : List (PV × LV)} {f : α -> PV} {fn : Func} {g : β -> LV} {k : IntKind} {l r x z : LV} {ms : Array MapEntry} {o : Oper} {olds vs : List Value} {ps xs ys : List PV} {s : Option (Nat × ab)} {v : Value} {w w' : World} {μ : List ci}
section
variable {μ : List ci} {I : Nat -> Prop} {w : World} {H : List ab}
theorem St.growS (hs:St μ I w H){id b n:Nat}{o:ab}(hid:μ[id]?=some B)(hle:B.n<=n)(hlt:B.b=none\/B.n<n)(h0:B.n=0->B.b=none)(hb:B.b=some b\/w.heap.size<=b)(hbl:b<w'.heap.size)
    (hk:∀c,c<w.heap.size->c≠b->w'.heap[c]?=w.heap[c]?) (hsz:w.heap.size<=w'.heap.size) (hos:w'.os=w.os) (htp:w'.tape=w.tape) (hout:w'.output=w.output)
    (hsh:∀c e f,w.heap[b]?=some (.cells c e f)->∃c',w'.heap[b]?=some (.cells c' e f)/\c'.size=c.size)
    (ho:∀μ',cI μ.length μ I w μ' I w'->dN μ' I w' o ⟨some b,n⟩):St (μ.set id ⟨some b,n⟩) I w' (H.set id o)/\cI μ.length μ I w (μ.set id ⟨some b,n⟩) I w':=by
  have hidl:=(List.getElem?_eq_some_iff.1 hid).1;have hself:B.b=some b->gC μ b:=fun e=>.of hid e
  have hnI:¬I b:=fun hi=>by
    rcases hb with e|e
    · exact hs.off b (hself e) hi
    · have:=hs.ilt b hi;omega
  have hmem:∀c q,(⟨some c,q⟩:ci)∈μ.set id ⟨some b,n⟩->c=b\/gC μ c:=fun c q hc=>by
    rcases List.mem_or_eq_of_mem_set hc with h|h
    · exact .inr ⟨q,h⟩
    · cases h;exact .inl rfl
  have hE :cI μ.length μ I w (μ.set id ⟨some b,n⟩) I w':=
    { get :=fun i C hi hc=>by
        by_cases e:i=id
        · subst e;rw[hid]at hc;cases hc;exact⟨_,by rw[getElem?_set_self hidl],hle,fun e=>hlt.elim .inr (fun h=>by simp at e;omega),fun e e'=>absurd (h0 e) e'⟩
        · exact⟨C,by rw[getElem?_set_ne (fun h=>e h.symm)];exact hc,le_refl _,fun _=>.inl rfl,fun _ _=>rfl⟩
      len:=le_refl _
      len':=by simp
      os:=hos
      tape:=htp
      output:=hout
      size:=hsz
      imm:=fun c hc=>⟨hc,hk c (hs.ilt c hc) fun e=>hnI (e▸hc)⟩
      shape:=fun c cs e f hc=>by
        by_cases hcb:c=b
        · subst hcb;exact hsh cs e f hc
        · exact⟨cs,by rw[hk c (Array.getElem?_eq_some_iff.1 hc).1 hcb];exact hc,rfl⟩
      inew:=fun _ h=>.inl h
      mnew:=fun c ⟨q,hc⟩=>by
        rcases hmem c q hc with e|h
        · subst e;rcases hb with e|e
          · exact .inl<|hself e
          · exact .inr e
        · exact .inl h
      keep:=fun c hc hno=>hk c hc fun e=>by
        subst e;rcases hb with e|e
        · exact hno<|hself e
        · omega}
  have hother:∀i C,i≠id->(μ.set id ⟨some b,n⟩)[i]?=some C->μ[i]?=some C:=fun i C hi h=>by rwa [getElem?_set_ne (fun e=>hi e.symm)]at h
  have hone:∀i q,i≠id->(μ.set id ⟨some b,n⟩)[i]?=some ⟨some b,q⟩->False:=fun i q hi h=>by
    have h1:=hother i _ hi h;rcases hb with e|e
    · have:μ[id]?=some ⟨some b,B.n⟩:=by rw[hid,<-e]
      exact hi<|hs.inj i id b _ _ h1 this
    · have:=hs.lt b (.mk h1);omega
  refine⟨{ len:=by simp[hs.len],inj:=?_,lt:=?_,off:=?_,ilt:=fun c hc=>Nat.lt_of_lt_of_le (hs.ilt c hc) hsz,objs:=?_},hE⟩
  · intro i j c q q' hi hj;by_cases e1:i=id <;>by_cases e2:j=id
    · omega
    · subst e1;rw[getElem?_set_self hidl]at hi;cases hi;exact(hone j q' e2 hj).elim
    · subst e2;rw[getElem?_set_self hidl]at hj;cases hj;exact(hone i q e1 hi).elim
    · exact hs.inj i j c q q' (hother i _ e1 hi)<|hother j _ e2 hj
  · rintro c ⟨q,hc⟩;rcases hmem c q hc with e|h
    · subst e;exact hbl
    · exact Nat.lt_of_lt_of_le (hs.lt c h) hsz
  · rintro c ⟨q,hc⟩ hi;rcases hmem c q hc with e|h
    · subst e;exact hnI hi
    · exact hs.off c h hi
  · intro i ob C hob hC;by_cases e:i=id
    · subst e;rw[getElem?_set_self hidl]at hC;cases hC;rw[getElem?_set]at hob;simp at hob;obtain⟨-,rfl⟩:=hob;exact ho _ hE
    · rw[getElem?_set_ne (fun h=>e h.symm)]at hob;have hC':=hother i C e hC;refine(hs.objs i ob C hob hC').ext hE fun d hd=>hk d (hs.lt d (.of hC' hd)) fun e'=>?_;subst e';obtain⟨cb,cn⟩:=C;simp only at hd;subst hd;exact hone i cn e hC
theorem St.grow (hs:St μ I w H){id b n:Nat}{o:ab}(hid:μ[id]?=some B)(hlt:B.n<n)(h0:B.n=0->B.b=none)(hb:B.b=some b\/w.heap.size<=b)(hbl:b<w'.heap.size)
  (hk:∀c,c<w.heap.size->c≠b->w'.heap[c]?=w.heap[c]?) (hsz:w.heap.size<=w'.heap.size) (hos:w'.os=w.os) (htp:w'.tape=w.tape) (hout:w'.output=w.output)
  (hsh:∀c e f,w.heap[b]?=some (.cells c e f)->∃c',w'.heap[b]?=some (.cells c' e f)/\c'.size=c.size)
  (ho:∀μ',cI μ.length μ I w μ' I w'->dN μ' I w' o ⟨some b,n⟩):St (μ.set id ⟨some b,n⟩) I w' (H.set id o)/\cI μ.length μ I w (μ.set id ⟨some b,n⟩) I w':=
 hs.growS hid (Nat.le_of_lt hlt) (.inr hlt) h0 hb hbl hk hsz hos htp hout hsh ho
end
section
variable {P : Program} {w : World}
theorem mH (hT:dn P t=some (m,bytes))(base a2:Option Addr)(len cap cap2:Nat)(h:len<=cap) :
  (Builtin.append_ #[t,t] ty #[.slice base len cap,.slice a2 0 cap2]).run P w=.ok (.slice base len cap) w:=by
 obtain⟨e,i,z,hu,hi,hz,hzs,rfl,rfl,hpos⟩:=cA hT;cases base <;>cases a2 <;>simp[Builtin.append_,run_underlying hu,sizeOf,typeInfo,hi,Builtin.lenOf,Builtin.firstCells,loadCells,loadCellsFrom,storeCells,h]
theorem lN {t ty e':TypeId}(hT:dn P t=some (m,bytes))(g sLen sCap:Nat)(cur:Array Value)(hg:w.heap[g]?=some (.cells cur e' (0,0)))
  (a:Addr) (q c:Nat) (news:List Value) (hl:news.length=q*m) (hnews:∀j u,news[j]?=some u->w.cell? (a.add j)=some u) (h1:∀u∈news,eT u=true)
  (hroom:sLen+q<=sCap) (hfit:sLen*m+news.length<=cur.size) :
  (Builtin.append_ #[t,t] ty #[.slice (some ⟨g,0,none⟩) sLen sCap,.slice (some a) q c]).run P w =
   .ok (.slice (some ⟨g,0,none⟩) (sLen+q) sCap) (w.setRow g (cur.toList.take (sLen*m)++news++cur.toList.drop (sLen*m+news.length)).toArray):=by
 obtain⟨e,i,z,hu,hi,hz,hzs,rfl,rfl,hpos⟩:=cA hT;have hf:=run_firstCells_some (P:=P) w i.size q a q c news hl hnews;have hst:=run_storeCells_at P g (sLen*i.size) e' news 0 cur w hg (by simpa using hfit) (fun u hu=>by have:=h1 u hu;cases u <;>simp_all [eT,Value.oneCell']);simp only[add_zero]at hst;simp[Builtin.append_,run_underlying hu,sizeOf,typeInfo,hi,Builtin.lenOf,hroom,hf,Addr.add_lit,hst]
theorem rS (hT:dn P t=some (m,bytes))(base:Option Addr)(sLen sCap:Nat)(olds:List Value)(hlo:olds.length=sLen*m)
  (holds:∀b,base=some b->∀j v,olds[j]?=some v->w.cell? (b.add j)=some v) (hb0:base=none->sLen=0/\sCap=0)
  (a:Addr) (q c:Nat) (news:List Value) (hl:news.length=q*m) (hnews:∀j v,news[j]?=some v->w.cell? (a.add j)=some v)
  (hg:sCap<sLen+q) (hsc:sLen<=sCap) (hbound:(sLen+q)*(bytes+1)<=140737488355328) :
  ∃e z cap,(Builtin.append_ #[t,t] ty #[.slice base sLen sCap,.slice (some a) q c]).run P w =
   .ok (.slice (some ⟨w.heap.size,0,none⟩) (sLen+q) cap) (w.drew.alloc (.cells (olds.toArray++news.toArray++Builtin.zeroCells z (cap-(sLen+q))) e))/\sLen+q<=cap/\cap<=maxLen/\z.size=m:=by
 obtain⟨e,i,z,hu,hi,hz,hzs,rfl,rfl,hpos⟩:=cA hT;have hsm:sLen+q<=140737488355328:=le_trans (Nat.le_mul_of_pos_right _ (by omega)) hbound;have hby:(sLen+q)*i.bytes<=140737488355328:=le_trans (Nat.mul_le_mul_left _ (by omega)) hbound
 cases base with
 |none=>
  obtain⟨rfl,rfl⟩:=hb0 rfl;have ho:olds=[]:=eq_nil_of_length_eq_zero (by simpa using hlo);subst ho;have hr:=run_append_nil (P:=P) w t ty e i z hu hi hz a q c news hl hnews (by omega) (by omega) (by have:=hby;simp only[zero_add]at this;omega);refine⟨e,z.cells,grownCap w q 0 e,?_,?_,?_,hzs⟩
  ·simpa using hr
  ·have:=grownCap_ge w q 0 e;omega
  ·exact grownCap_le_maxLen w q 0 e (by unfold maxLen;omega)
 |some b=>
  have hr:=run_append_grow (P:=P) w t ty e i z hu hi hz b sLen sCap olds hlo (holds b rfl) a q c news hl hnews hg (by omega) (growslice_fits (by omega) hby);exact⟨e,z.cells,grownCap w (sLen+q) sCap e,hr,grownCap_ge w _ _ e,grownCap_le_maxLen w _ _ e (by unfold maxLen;omega),hzs⟩
end
section
variable {P : Program} {o : Oper} {env : aE} {H : List ab}
def iy (H:List ab)(l:LV)(m:Nat)(ys:List PV):Prop:=∀ μ I w v,St μ I w H->aH μ I w l v->b9 m ys/\∃(a:Option Addr) (cap:Nat),v=.slice a ys.length cap/\ (0<m->ys≠[]->∃(b off:Nat) (news:List Value),a=some ⟨b,off,none⟩/\news.length=ys.length*m/\(∀(j:Nat) u,news[j]?=some u->w.cell? ((⟨b,off,none⟩:Addr).add j)=some u)/\ (∀u∈news,eT u=true)/\∀(j:Nat) c u,(flat ys)[j]?=some c->news[j]?=some u->fA I w c u)
theorem iy.p {H:List ab}{m:Nat}{ys:List PV}:iy H (.p (.slice m ys)) m ys:=by
 intro μ I w v hs hr0;obtain⟨a,cap,f,rfl,hcap,hmax,hel,hc,hr⟩:=fF (jS hr0);refine⟨hel,a,cap,rfl,fun hm hne=>?_⟩;have hfl:=cF hel
 have hpos:0<(flat ys).length:=by rw[hfl];exact Nat.mul_pos hm (List.length_pos_iff.2 hne)
 obtain⟨b,off,rfl,-,-⟩:=hc 0 _ (getElem?_eq_getElem hpos);refine⟨b,off,(range (flat ys).length).map f,rfl,by simp[hfl,mul_comm],fun j u hu=>?_,fun u hu=>?_,fun j c u hcj hu=>?_⟩
 ·rw[getElem?_map]at hu
  cases hx:(range (flat ys).length)[j]? with
  |none=>rw[hx]at hu;cases hu
  |some j'=>
   rw[hx]at hu;cases hu;obtain⟨h1,h2⟩:=List.getElem?_eq_some_iff.1 hx;simp at h1 h2;subst h2;obtain⟨b',off',hb',-,hcell⟩:=hc j _ (getElem?_eq_getElem h1);cases hb';rw[dX];exact hcell
 ·simp at hu;obtain⟨j,hj,rfl⟩:=hu;have hcj:=getElem?_eq_getElem hj;exact(hr j _ hcj).one (od hel _ (List.getElem_mem _))
 ·have h1:=(List.getElem?_eq_some_iff.1 hcj).1;simp[h1]at hu;subst hu;exact hr j c hcj
theorem iy.zs {H:List ab}{m:Nat}:iy H .zs m []:=by
 intro μ I w v hs hr;cases hr;exact⟨.nil,_,0,rfl,fun _ h=>absurd Z h⟩
theorem iy.vec {H:List ab}{m id n len:Nat}{xs:List PV}(hH:br H id=some (.vec m xs))(hn:n=xs.length)(hl:len=n):iy H (.vec m id n 0 len) m xs:=by
 intro μ I w v hs hr;obtain⟨B,hid,hBn,hob,hf⟩:=kD hs hH hn hr
 cases hob with
 |vecE=>
  rcases hf with⟨h0,⟨a,rfl⟩,-⟩|⟨b,cap,hB,-⟩
  ·exact⟨.nil,a,0,rfl,fun _ h=>absurd Z h⟩
  ·cases hB
 | @vec _ _ b vs e hb hlen hne hm hrep=>
  rcases hf with⟨h0,⟨a,rfl⟩,-⟩|⟨b',cap,hB,rfl,hlc,hmax,c,e',hb',hsz⟩
  ·exact absurd (eq_nil_of_length_eq_zero (by omega)) hne
  ·cases hB;refine⟨hm,_,cap,by rw[hl,hn],fun hpos _=>⟨b,0,vs.toList.take (xs.length*m),by rw[mul_zero],?_,fun j u hu=>?_,fun u hu=>?_,fun j c' u hc hu=>?_⟩⟩
   ·rw[List.length_take,Array.length_toList];show min (xs.length*m) vs.size=xs.length*m;rw[mul_comm xs.length m];omega
   ·rw[dX,zero_add];rw[getElem?_take]at hu;split at hu
    ·simp[World.cell?,hb];simpa using hu
    ·cases hu
   ·have hu':=List.mem_of_mem_take hu;obtain⟨j,hj,rfl⟩:=mem_iff_getElem.1 hu;simp at hj
    have hjf:j<(flat xs).length:=by rw[cF hm,mul_comm];omega
    have hc':=getElem?_eq_getElem hjf;have:=hrep j _ vs[j] hc' (Array.getElem?_eq_getElem (by omega));simpa using this.one (od hm _ (List.getElem_mem _))
   ·rw[getElem?_take]at hu;split at hu
    ·exact hrep j c' u hc (by simpa using hu)
    ·cases hu
theorem vZ (hx:b9 m xs){olds news:List Value}{rest:List Value}(ho:olds.length=xs.length*m)(hn:news.length=ys.length*m)
  (h1:∀(j:Nat) c u,(flat xs)[j]?=some c->olds[j]?=some u->fA I w c u) (hy:b9 m ys) (h2:∀(j:Nat) c u,(flat ys)[j]?=some c->news[j]?=some u->fA I w c u)
  (j:Nat) (c:PV) (u:Value) (hc:(flat (xs++ys))[j]?=some c) (hu:(olds++news++rest)[j]?=some u):fA I w c u:=by
 rw[iM,getElem?_append]at hc;rw[List.append_assoc,getElem?_append,getElem?_append]at hu;have hfx:=cF hx;have hfy:=cF hy;rw[mul_comm]at hfx hfy;split at hc
 ·rw[i1_ (by omega)]at hu;exact h1 j c u hc hu
 ·rename_i hj;have:=(List.getElem?_eq_some_iff.1 hc).1;rw[i0_ (by omega),i1_ (by omega)]at hu;rw[hfx,<-ho]at hc;exact h2 _ c u hc hu
theorem qI (hI:∀b,I b->w'.heap[b]?=w.heap[b]?)(h:∀(j:Nat) c u,(flat xs)[j]?=some c->olds[j]?=some u->fA I w c u) :
  ∀(j:Nat) c u,(flat xs)[j]?=some c->olds[j]?=some u->fA I w' c u:=fun j c u hc hu=>(h j c u hc hu).mono fun b hb=>⟨hb,hI b hb⟩
theorem ne {m bytes id n len:Nat}{vx vy:Value}(hs:St μ I w H)(hr:aH μ I w (.vec m id n 0 len) vx)
  (hH:br H id=some (.vec m xs)) (hn:n=xs.length) (hlen:len=n) (hry:aH μ I w l vy) (hc:iy H l m ys) (hT:dn P t=some (m,bytes))
  (hb:(xs.length+ys.length)*(bytes+1)<=140737488355328) :
  ∃v' w' μ',(Builtin.append_ #[t,t] ty #[vx,vy]).run P w=.ok v' w'/\St μ' I w' (H.set id (.vec m (xs++ys)))/\aH μ' I w' (.vec m id (n+ys.length) 0 (n+ys.length)) v'/\cI μ.length μ I w μ' I w':=by
 obtain⟨hyel,a2,cap2,hyv,hnews⟩:=hc μ I w _ hs hry;obtain⟨B,hid,hBn,hob,hf⟩:=kD hs hH hn hr;obtain⟨el,i,z,hu,hi,hz,hzs,hsz,hby,hpos⟩:=cA hT
 have hHid:H[id]?=some (.vec m xs):=by rw[<-bj];exact hH
 have e2:id<H.length:=(List.getElem?_eq_some_iff.1 hHid).1;by_cases hys:ys=[]
 ·subst hys
  have hbase:∃base cap,vx=.slice base n cap/\n<=cap:=by
   rcases hf with⟨h0,⟨b,hv⟩,-⟩|⟨b,cap,hB,hv,hlc,hmax,-⟩
   ·exact⟨b,0,by rw[hv,<-hlen,h0],by omega⟩
   ·exact⟨_,cap,by rw[hv,hlen],by omega⟩
  obtain⟨base,cap,hxv,hnc⟩:=hbase;have hrun:=mH (P:=P) (w:=w) (ty:=ty) hT base a2 n cap cap2 hnc
  have hset:H.set id (.vec m (xs++[]))=H:=by
   rw[List.append_nil];apply List.ext_getElem?;intro j;rw[getElem?_set];split
   ·rename_i e;subst e;first|exact hHid.symm|(rw[i1_ e2];exact hHid.symm)
   ·rfl
  refine⟨.slice base n cap,w,μ,?_,by rw[hset];exact hs,?_,cI.refl _ _ _ _ (le_refl _)⟩
  ·rw[hxv,hyv];exact hrun
  ·rw[<-hxv];simp only[List.length_nil,add_zero];rw[hlen]at hr;exact hr
 ·obtain⟨b2,off2,news,rfl,hnl,hnc2,hn1,hnr⟩:=hnews hpos hys;have hyl:0<ys.length:=List.length_pos_iff.2 hys
  have hxel:b9 m xs:=by
   cases hob with
   |vecE=>exact .nil
   |vec _ _ _ h _=>exact h
  have hxyel:=hxel.append hyel
  have hB0:B.n=0->B.b=none:=fun e=>by
   cases hob with
   |vecE=>rfl
   |vec _ _ hne=>simp only at e;exact absurd (eq_nil_of_length_eq_zero e) hne
  have hxy0:xs++ys≠[]:=by simp[hys]
  have hlenxy:(xs++ys).length=n+ys.length:=by simp[hn]
  -- in a new block
  have fresh:∀(base:Option Addr) (cap:Nat) (olds:List Value),vx=.slice base n cap->n<=cap->cap<n+ys.length->olds.length=n*m->
    (∀b,base=some b->∀(j:Nat) v,olds[j]?=some v->w.cell? (b.add j)=some v)->(base=none->n=0/\cap=0)->
    (∀(j:Nat) c u,(flat xs)[j]?=some c->olds[j]?=some u->fA I w c u)->∃v' w' μ',(Builtin.append_ #[t,t] ty #[vx,vy]).run P w=.ok v' w'/\St μ' I w' (H.set id (.vec m (xs++ys)))/\aH μ' I w' (.vec m id (n+ys.length) 0 (n+ys.length)) v'/\cI μ.length μ I w μ' I w':=by
   intro base cap olds hxv hnc hlt hol holds hb0 hor;obtain⟨e,zc,cap',hrun,hc1,hc2,hz3⟩:=rS (P:=P) (w:=w) (ty:=ty) hT base n cap olds hol holds hb0 ⟨b2,off2,none⟩ ys.length cap2 news hnl hnc2 hlt hnc (by rw[hn];exact hb);obtain⟨blk,hblk⟩:∃blk,blk=olds.toArray++news.toArray++Builtin.zeroCells zc (cap'-(n+ys.length)):=⟨_,rfl⟩;rw[<-hblk]at hrun
   have hbsz:blk.size=m*(0+cap'):=by
    rw[hblk];simp[size_zeroCells,hol,hnl,hz3];rw[<-add_mul,<-add_mul,mul_comm];congr 1;omega
   have hnew:(w.drew.alloc (.cells blk e)).heap[w.heap.size]?=some (.cells blk e):=heap_alloc_new w.drew _;have hold:∀c,c<w.heap.size->(w.drew.alloc (.cells blk e)).heap[c]?=w.heap[c]?:=fun c hc=>heap_alloc_old w.drew _ hc
   obtain⟨hs',hE⟩:=hs.grow (w':=w.drew.alloc (.cells blk e)) (id:=id) (b:=w.heap.size) (n:=n+ys.length) (o:=.vec m (xs++ys)) hid (by omega) hB0 (.inr (le_refl _)) (by show w.heap.size<(w.heap.push _).size;simp)
    (fun c hc _=>hold c hc) (by show w.heap.size<=(w.heap.push _).size;simp) rfl rfl rfl (fun c e f h=>by have:=(Array.getElem?_eq_some_iff.1 h).1;omega)
    (fun μ' hE=>by
     rw[<-hlenxy];refine .vec hnew (by rw[hbsz,hlenxy,zero_add];exact Nat.mul_le_mul_left _ hc1) hxy0 hxyel fun j c u hcj hu=>?_
     have hu':blk.toList[j]?=some u:=by simpa using hu
     rw[hblk]at hu';simp only[Array.toList_append]at hu';have hI:∀b,I b->(w.drew.alloc (.cells blk e)).heap[b]?=w.heap[b]?:=fun b hb=>hold b (hs.ilt b hb)
     exact vZ (I:=I) hxel (by rw[hol,hn]) hnl (qI hI hor) hyel (qI hI hnr) j c u hcj hu')
   refine⟨.slice (some ⟨w.heap.size,0,none⟩) (n+ys.length) cap',_,_,?_,hs',?_,hE⟩
   ·rw[hxv,hyv];exact hrun
   ·have hidl:=(List.getElem?_eq_some_iff.1 hid).1;exact .vec (getElem?_set_self hidl) Z (le_refl _) fun _=>.inr ⟨w.heap.size,cap',rfl,by rw[mul_zero],hc1,hc2,blk,e,hnew,by omega,Nat.le_of_eq hbsz.symm⟩
  rcases hf with⟨h0,⟨b,hv⟩,-⟩|⟨b,cap,hB,hv,hlc,hmax,cc,ee,hcb,hcs⟩
  ·have hn0:n=0:=by omega
   have hx0:xs=[]:=eq_nil_of_length_eq_zero (by omega);refine fresh b 0 [] (by rw[hv,hn0]) (by omega) (by omega) (by simp[hn0]) (fun _ _ j v h=>by simp at h) (fun _=>⟨hn0,rfl⟩) ?_;rw[hx0];intro j c u h;simp[flat]at h
  ·rw [mul_zero]at hv
   cases hob with
   |vecE=>cases hB
   | @vec _ _ b' vs e hbh hlen' hne hm hrep=>
    cases hB;rw[hbh]at hcb;simp only[Option.some.injEq,Obj.cells.injEq]at hcb;obtain⟨rfl,rfl,-⟩:=hcb
    have hnm:n*m<=vs.size:=by rw[hn,mul_comm];exact hlen'
    have hor:∀(j:Nat) c u,(flat xs)[j]?=some c->(vs.toList.take (n*m))[j]?=some u->fA I w c u:=fun j c u hc hu=>by
     rw[getElem?_take]at hu;split at hu
     ·exact hrep j c u hc (by simpa using hu)
     ·cases hu
    by_cases hroom:n+ys.length<=cap
    ·have hfit:n*m+news.length<=vs.size:=by
      rw[hnl,<-add_mul,mul_comm];exact le_trans (Nat.mul_le_mul_left _ hroom) (by have:=hcs.2;rwa [zero_add]at this)
     have hrun:=lN (P:=P) (w:=w) (ty:=ty) hT b n cap vs hbh ⟨b2,off2,none⟩ ys.length cap2 news hnl hnc2 hn1 hroom hfit;obtain⟨blk,hblk⟩:∃blk,blk=(vs.toList.take (n*m)++news++vs.toList.drop (n*m+news.length)).toArray:=⟨_,rfl⟩;rw[<-hblk]at hrun
     have hbsz:blk.size=vs.size:=by rw[hblk];simp;omega
     have hnew:=setRow_heap w b vs blk _ (0,0) hbh
     obtain⟨hs',hE⟩:=hs.grow (w':=w.setRow b blk) (id:=id) (b:=b) (n:=n+ys.length) (o:=.vec m (xs++ys)) hid (by simp only at hBn⊢;omega) hB0 (.inl rfl) (by have:=(Array.getElem?_eq_some_iff.1 hbh).1;simp[World.setRow];omega)
      (fun c _ hc=>setRow_other w b c _ hc) (by simp[World.setRow]) rfl rfl rfl (fun c e f h=>by rw[hbh]at h;cases h;exact⟨blk,hnew,hbsz⟩)
      (fun μ' hE=>by
       rw[<-hlenxy];refine .vec hnew (by rw[hbsz,hlenxy];exact le_trans (Nat.mul_le_mul_left _ hroom) (by have:=hcs.2;rwa [zero_add]at this)) hxy0 hxyel fun j c u hcj hu=>?_
       have hu':blk.toList[j]?=some u:=by simpa using hu
       rw[hblk]at hu';simp only at hu';have hI:∀c,I c->(w.setRow b blk).heap[c]?=w.heap[c]?:=fun c hc=>(hE.imm c hc).2
       exact vZ (I:=I) hxel (by simp;rw[<-hn];omega) hnl (qI hI hor) hyel (qI hI hnr) j c u hcj hu')
     refine⟨.slice (some ⟨b,0,none⟩) (n+ys.length) cap,_,_,?_,hs',?_,hE⟩
     ·rw[hv,hyv,hlen];exact hrun
     ·have hidl:=(List.getElem?_eq_some_iff.1 hid).1;exact .vec (getElem?_set_self hidl) Z (le_refl _) fun _=>.inr ⟨b,cap,rfl,by rw[mul_zero],hroom,hmax,blk,_,hnew,by omega,by rw[hbsz];exact hcs.2⟩
    ·refine fresh (some ⟨b,0,none⟩) cap (vs.toList.take (n*m)) (by rw[hv,hlen]) (by omega) (by omega) (by simp;omega) (fun bb hbb j v hj=>?_) (by simp) hor;cases hbb;rw[dX,zero_add];rw[getElem?_take]at hj;split at hj
     ·simp[World.cell?,hbh];simpa using hj
     ·cases hj
theorem kr {x y:Operand}{a:Act}{v':Value}(ho:o.op=.call { callee:=.builtin .append,args:=#[x,y],argTypes:=#[t,t]})
  (h1:(Builtin.append_ #[t,t] o.type #[a.eval x,a.eval y]).run P w=.ok v' w'):(execOp a.eval o).run P w=.ok (.value v') w':=by
 simp only[execOp,ho,resolve,invoke,builtin,Sem.run_bind,Sem.run_pure,Result.andThen_ok,map_toArray,map_cons,map_nil,h1]
theorem aa.append {t:TypeId}{x y:Operand}{m bytes id n len:Nat}{xs ys:List PV}{l:LV}{H':List ab}
  (ho:o.op=.call { callee:=.builtin .append,args:=#[x,y],argTypes:=#[t,t]}) (hx:bf env x=some (.vec m id n 0 len)) (hH:br H id=some (.vec m xs)) (hn:n=xs.length) (hlen:len=n)
  (hy:bf env y=some l) (hc:iy H l m ys) (hT:dn P t=some (m,bytes)) (hb:(xs.length+ys.length)*(bytes+1)<=140737488355328) (hH':bK H id (.vec m (xs++ys))=some H') :
  aa P o env H (Is (.vec m id (n+ys.length) 0 (n+ys.length)) H'):=
 aa.step fun a w μ I hs he=>by
  have hr:=he.ev (x:=x) (by simp[ho,Op.operands,Call.operands]) hx;have hry:=he.ev (x:=y) (by simp[ho,Op.operands,Call.operands]) hy;obtain⟨e1,e2⟩:=bH hH';subst e1;obtain⟨v',w',μ',h1,h2,h3,h4⟩:=ne (ty:=o.type) hs hr hH hn hlen hry hc hT hb;exact⟨v',w',μ',kr ho h1,h2,h3,h4⟩
theorem St.lazy (hs:St μ I w H)(m:Nat):St (μ++[⟨none,0⟩]) I w (H++[.vec m []])/\cI μ.length μ I w (μ++[⟨none,0⟩]) I w:=by
 have hown:∀c,gC (μ++[⟨none,0⟩]) c->gC μ c:=fun c ⟨q,h⟩=>by
  rcases mem_append.1 h with h|h
  ·exact⟨q,h⟩
  ·simp at h
 have hE:cI μ.length μ I w (μ++[⟨none,0⟩]) I w:=
  ⟨fun i B hi hc=>⟨B,by rw[getElem?_append_left hi];exact hc,le_refl _,fun _=>.inl rfl,fun _ _=>rfl⟩,le_refl _,by simp,rfl,rfl,rfl,le_refl _,fun _ h=>⟨h,rfl⟩,
   fun _ c _ _ h=>⟨c,h,rfl⟩,fun _ h=>.inl h,fun c h=>.inl (hown c h),fun _ _ _=>rfl⟩
 have hidx:∀(i:Nat) (B:ci),(μ++[⟨none,0⟩])[i]?=some B->μ[i]?=some B\/(i=μ.length/\B=⟨none,0⟩):=fun i B h=>by
  rw[getElem?_append]at h;split at h
  ·exact .inl h
  ·rename_i hi;have h1:=(List.getElem?_eq_some_iff.1 h).1;simp at h1;rw[show i-μ.length=0 by omega]at h;simp at h;exact .inr ⟨by omega,h.symm⟩
 refine⟨{ len:=by simp[hs.len],inj:=fun i j b n n' hi hj=>?_,lt:=fun c h=>hs.lt c (hown c h),off:=fun c h=>hs.off c (hown c h),ilt:=hs.ilt,objs:=fun i o B ho hB=>?_},hE⟩
 ·rcases hidx i _ hi with h1|⟨-,h1⟩
  ·rcases hidx j _ hj with h2|⟨-,h2⟩
   ·exact hs.inj i j b n n' h1 h2
   ·cases h2
  ·cases h1
 ·rcases hidx i _ hB with h1|⟨e,rfl⟩
  ·have hi:=(List.getElem?_eq_some_iff.1 h1).1;rw[hs.len]at hi;rw[getElem?_append_left hi]at ho;exact(hs.objs i o B ho h1).ext hE fun _ _=>rfl
  ·subst e;rw[hs.len,getElem?_append_right (le_refl _)]at ho;simp at ho;subst ho;exact .vecE
theorem aa.appendZ {x y:Operand}
  (ho:o.op=.call { callee:=.builtin .append,args:=#[x,y],argTypes:=#[t,t]}) (hx:bf env x=some .zs) (hid:dq H=some id)
  (hy:bf env y=some l) (hc:iy (H++[.vec m []]) l m ys) (hT:dn P t=some (m,bytes)) (hb:ys.length*(bytes+1)<=140737488355328) (hH':jF H (.vec m ys)=some H') :
  aa P o env H (Is (.vec m id ys.length 0 ys.length) H'):=
 aa.step fun a w μ I hs he=>by
  have hr:=he.ev (x:=x) (by simp[ho,Op.operands,Call.operands]) hx;have hry:=he.ev (x:=y) (by simp[ho,Op.operands,Call.operands]) hy;have hid':=cd hid;have hH2:=dC hH';subst hH2;obtain⟨hs',hE'⟩:=hs.lazy m
  have hidm:(μ++[(⟨none,0⟩:ci)])[id]?=some ⟨none,0⟩:=by rw[hid',<-hs.len];simp
  generalize hv:a.eval x=vx at hr
  cases hr with
  |@zs ad=>
   have hr':aH (μ++[(⟨none,0⟩:ci)]) I w (.vec m id 0 0 0) (.slice ad 0 0):=.vec hidm rfl (le_refl _) fun _=>.inl ⟨rfl,⟨ad,rfl⟩,fun _=>rfl⟩;obtain⟨v',w',μ',h1,h2,h3,h4⟩:=ne (ty:=o.type) (xs:=[]) hs' hr' (by rw[bj,hid'];simp) rfl rfl (hry.ext hE') hc hT (by simpa using hb);rw[<-hv]at h1
   have e:(H++[ab.vec m []]).set id (.vec m ([]++ys))=H++[.vec m ys]:=by rw[hid',List.set_append_right _ _ (le_refl _)];simp
   rw[e]at h2;simp only[zero_add]at h3;exact⟨v',w',μ',kr ho h1,h2,h3,hE'.trans (h4.weak (by simp))⟩
end
open Go.RowKit (Below)
section
variable {P : Program} {n k : Nat} {env : aE} {H : List ab} {Q : Exit -> aE -> List ab -> Prop} {ops : Array Oper}
def bY (k:Nat)(env:aE)(H:List ab)(env':aE)(H':List ab):Prop:=
 ∀n μ I w a,re n μ I w H env a->k<=μ.length->∃μ' I',re n μ' I' w H' env' a/\cI k μ I w μ' I' w
theorem bY.weak {env':aE}{H':List ab}(h:dW k env' H' env H):bY k env H env' H':=fun _ _ I _ _ hn hk=>
 let ⟨μ',h1,h2⟩:=hn.weak h hk
 ⟨μ',I,h1,h2⟩
theorem bY.trans {e1 e2 e3:aE}{H1 H2 H3:List ab}(h:bY k e1 H1 e2 H2)(h':bY k e2 H2 e3 H3):bY k e1 H1 e3 H3:=fun n μ I w a hn hk=>
 let ⟨μ1,I1,h1,h2⟩:=h n μ I w a hn hk
 let ⟨μ2,I2,h3,h4⟩:=h' n μ1 I1 w a h1 h2.len'
 ⟨μ2,I2,h3,h2.trans h4⟩
theorem LW.ent {c:Code}(h:bY k env H env' H')(hw:LW P n k c env' H' Q):LW P n k c env H Q:=by
 intro a w μ I hn hk Q' hq;obtain⟨μ',I',hn',hE⟩:=h n μ I w a hn hk;exact hw a w μ' I' hn' hE.len' Q' fun e env'' H'' a' w' μ'' I'' q hn'' hE'=>hq e env'' H'' a' w' μ'' I'' q hn''<|hE.trans hE'
theorem bY.lazy {t m id:Nat}{H':List ab}(ht:env.get t=some .zs)(hid:dq H=some id)(hH:jF H (.vec m [])=some H'):bY k env H ((t,.vec m id 0 0 0)::env) H':=by
 intro n μ I w a hn hk;have hid':=cd hid;have e:=dC hH;subst e;obtain⟨hs',hE'⟩:=hn.st.lazy m;refine⟨_,I,⟨hn.size,hn.defers,hs',fun u x hu=>?_⟩,hE'.weak hk⟩;rw[aE.get_cons]at hu;split at hu
 ·rename_i e;subst e;cases hu;obtain⟨v,hv,hr⟩:=hn.env t _ ht
  cases hr with
  |@zs ad=>exact⟨_,hv,.vec (B:=⟨none,0⟩) (by rw[hid',<-hn.st.len];simp) rfl (le_refl _) fun _=>.inl ⟨rfl,⟨ad,rfl⟩,fun _=>rfl⟩⟩
 ·obtain⟨v,hv,hr⟩:=hn.env u x hu;exact⟨v,hv,hr.ext hE'⟩
theorem bY.lazyCell {H' H'':List ab}(hi:br H i=some (.box cs))(hj:br cs j=some .zs)(hid:dq H=some id)(hcs:bK cs j (.vec m id 0 0 0)=some cs')
  (hH:bK H i (.box cs')=some H') (hH':jF H' (.vec m [])=some H''):bY k env H env H'':=by
 intro n μ I w a hn hk;have hid':=cd hid;obtain⟨e1,e2⟩:=bH hcs;obtain⟨e3,e4⟩:=bH hH;have e5:=dC hH';subst e5;subst e3;subst e1;rw[bj]at hi hj;obtain⟨hs',hE'⟩:=hn.st.lazy m;refine⟨_,I,⟨hn.size,hn.defers,{ hs' with len:=?_,objs:=?_},hn.env.ext hE'⟩,hE'.weak hk⟩
 ·simp[hn.st.len]
 ·intro q ob B hob hB;by_cases hq:q<H.length
  ·rw [getElem?_append_left (by simpa using hq),getElem?_set]at hob;by_cases hqi:i=q
   ·subst hqi;simp[hq]at hob;subst hob;have hold:=hs'.objs i (.box cs) B (by rw[getElem?_append_left hq];exact hi) hB
    cases hold with
    | @box _ b vs e hb hl ho hr=>
     refine .box hb (by simpa using hl) ho fun p c v hc hv=>?_;rw[getElem?_set]at hc;split at hc
     ·rename_i e;subst e;cases hc;have:=hr j _ v hj hv
      cases this with
      |@zs ad=>exact .vec (B:=⟨none,0⟩) (by rw[hid',<-hn.st.len];simp) rfl (le_refl _) fun _=>.inl ⟨rfl,⟨ad,rfl⟩,fun _=>rfl⟩
     ·exact hr p c v hc hv
   ·rw[i0_ hqi]at hob;exact hs'.objs q ob B (by rw[getElem?_append_left hq];exact hob) hB
  ·rw[getElem?_append_right (by simp;omega)]at hob;exact hs'.objs q ob B (by rw[getElem?_append_right (by omega)];simpa using hob) hB
mutual
def LV.shift (d:Nat):LV->LV
 |.p x=>.p x
 |.agg cs=>.agg (LV.shifts d cs)
 |.tup cs=>.tup (LV.shifts d cs)
 |.ptr id o=>.ptr (d+id) o
 |.cptr cs=>.cptr cs
 |.vec m id n o l=>.vec m (d+id) n o l
 |.vptr m id n j f=>.vptr m (d+id) n j f
 |.zs=>.zs
 |.map id=>.map (d+id)
 |.nilmap=>.nilmap
 |.fn f a c=>.fn f (LV.shifts d a) (LV.shifts d c)
 |.any=>.any
 |.yld id=>.yld (d+id)
 |.fptr x=>.fptr (LV.shift d x)
def LV.shifts (d:Nat):List LV->List LV
 |[]=>[]
 |x::r=>LV.shift d x::LV.shifts d r
end
theorem LV.shifts_eq (d:Nat):∀xs:List LV,LV.shifts d xs=xs.map (LV.shift d)
 |[]=>rfl
 |x::r=>by simp[LV.shifts,LV.shifts_eq d r]
def ab.shift (d:Nat):ab->ab
 |.box cs=>.box (LV.shifts d cs)
 |.vec m xs=>.vec m xs
 |.map es=>.map (es.map fun e=>(e.1,LV.shift d e.2))
 |.dead=>.dead
 |.slot=>.slot
 |.loop bu n env ps A B=>.loop bu n (env.map fun e=>(e.1,LV.shift d e.2)) ps A B
 |.defd=>.defd
 |.iter x n s=>.iter (LV.shift d x) n s
theorem aE.get_map (f:LV->LV):∀(env:aE) (t:Nat),aE.get (env.map fun e=>(e.1,f e.2)) t=(env.get t).map f
 |[],_=>rfl
 |(j,v)::r,t=>by
  rw[map_cons,aE.get_cons,aE.get_cons,aE.get_map f r t];split <;>rfl
theorem aH.shift {μ μ0:List ci}{I:Nat->Prop}{w:World}{x:LV}{v:Value}(h:aH μ0 I w x v):aH (μ++μ0) I w (x.shift μ.length) v:=by
 have hget:∀(i:Nat) (B:ci),μ0[i]?=some B->(μ++μ0)[μ.length+i]?=some B:=fun i B h=>by rw[getElem?_append_right (by omega)];simpa using h
 induction h with
 |p h=>exact .p h
 |agg hl ho h ih=>
  simp only[LV.shift,LV.shifts_eq];refine .agg (by simpa using hl) ho fun i c v hc hv=>?_;rw[getElem?_map]at hc
  cases hx:(_:List LV)[i]? with
  |none=>rw[hx]at hc;cases hc
  |some y=>rw[hx]at hc;cases hc;exact ih i y v hx hv
 |tup hl h ih=>
  simp only[LV.shift,LV.shifts_eq];refine .tup (by simpa using hl) fun i c v hc hv=>?_;rw[getElem?_map]at hc
  cases hx:(_:List LV)[i]? with
  |none=>rw[hx]at hc;cases hc
  |some y=>rw[hx]at hc;cases hc;exact ih i y v hx hv
 |ptr h=>exact .ptr (hget _ _ h)
 |cptr f hI hc=>exact .cptr f hI hc
 |vec h h1 hn hf=>exact .vec (hget _ _ h) h1 hn hf
 |vptr h h1 hn hf=>exact .vptr (hget _ _ h) h1 hn hf
 |zs=>exact .zs
 |map h=>exact .map (hget _ _ h)
 |nilmap=>exact .nilmap
 | fn hl hl' h h' ih ih'=>
  simp only[LV.shift,LV.shifts_eq];refine .fn (by simpa using hl) (by simpa using hl') (fun i c v hc hv=>?_)<|fun i c v hc hv=>?_
  ·rw[getElem?_map]at hc
   cases hx:(_:List LV)[i]? with
   |none=>rw[hx]at hc;cases hc
   |some y=>rw[hx]at hc;cases hc;exact ih i y v hx hv
  ·rw[getElem?_map]at hc
   cases hx:(_:List LV)[i]? with
   |none=>rw[hx]at hc;cases hc
   |some y=>rw[hx]at hc;cases hc;exact ih' i y v hx hv
 |any=>exact .any
 |yld h=>exact .yld (hget _ _ h)
 |fptr hI hc ho h ih=>exact .fptr hI hc ho ih
theorem dN.shift {μ μ0:List ci}{I:Nat->Prop}{w:World}{o:ab}{B:ci}(h:dN μ0 I w o B):dN (μ++μ0) I w (o.shift μ.length) B:=by
 cases h with
 |box hb hl ho h=>
  simp only[ab.shift,LV.shifts_eq];refine .box hb (by simpa using hl) ho fun i c v hc hv=>?_;rw[getElem?_map]at hc
  cases hx:(_:List LV)[i]? with
  |none=>rw[hx]at hc;cases hc
  |some y=>rw[hx]at hc;cases hc;exact(h i y v hx hv).shift
 |vecE=>exact .vecE
 |vec hb hl hne hm h=>exact .vec hb hl hne hm h
 |map hb hl h h2 h3=>
  refine .map hb (by simpa using hl) (fun i c e hc he=>?_) h2 h3;rw[getElem?_map]at hc
  cases hx:(_:List (PV×LV))[i]? with
  |none=>rw[hx]at hc;cases hc
  |some y=>rw[hx]at hc;cases hc;exact⟨(h i y e hx he).1,(h i y e hx he).2.shift⟩
 |dead=>exact .dead
 |slot=>exact .slot
 | loop h1 hs hp hps hA hB hn he=>
  refine .loop h1 hs hp hps hA hB hn fun t x ht=>?_;rw[aE.get_map]at ht
  cases hx:aE.get _ t with
  |none=>rw[hx]at ht;cases ht
  |some y=>
   rw[hx]at ht;cases ht;obtain⟨v,h2,h3⟩:=he t y hx;exact⟨v,h2,h3.shift⟩
 |defd h1=>exact .defd h1
 |iter h1 hx=>exact .iter h1 hx.shift
def fI (H:List ab)(ls qs:List LV):Prop:=∀μ I w vs,St μ I w H->cC μ I w ls vs->cC [] I w qs vs
theorem fI.nil {H:List ab}:fI H [] []:=fun _ _ _ vs _ h=>by
 cases vs with
 |nil=>trivial
 |cons v r=>exact h.elim
theorem fI.consC {p:PV}(h:Conv false H x p)(hr:fI H ls qs):fI H (x::ls) (.p p::qs):=fun μ I w vs hs hv=>by
 cases vs with
 |nil=>exact hv.elim
 |cons v r=>
  refine⟨.p ?_,hr μ I w r hs hv.2⟩;have:=h μ I w v hs hv.1
  have e:(fun c=>I c\/(false=true/\gC μ c))=I:=by funext c;simp
  rwa [e]at this
theorem fI.consF {f:FuncId}(hr:fI H ls qs):fI H (.fn f [] []::ls) (.fn f [] []::qs):=fun μ I w vs hs hv=>by
 cases vs with
 |nil=>exact hv.elim
 |cons v r=>
  refine⟨?_,hr μ I w r hs hv.2⟩;have h1:=hv.1
  cases h1 with
  |fn h1 h2 h3 h4=>exact .fn h1 h2 (fun i c v hc=>by simp at hc) (fun i c v hc=>by simp at hc)
theorem LC.frameG {f:FuncId}(h:LC P f qs [] (Is x H0))(hc:fI H ls qs)(hd:dq H=some d) :
    LC P f ls H (Is (x.shift d) (H++H0.map (ab.shift d))):=by
  have hd':=cd hd;intro args w μ I hs ha
  have hnil:∀b,¬gC [] b:=fun b ⟨n,h⟩=>by cases h
  have hs0:St [] I w []:=⟨rfl,by simp,fun b h=>absurd h (hnil b),fun b h=>absurd h (hnil b),hs.ilt,by simp⟩;have ha':cC [] I w qs args.toList:=hc μ I w _ hs ha;refine(h args w [] I hs0 ha').mono ?_;rintro e w' ⟨y,v,H',μ0,I',rfl,⟨rfl,rfl⟩,hs',hv,hE⟩;have hold:∀b,b<w.heap.size->w'.heap[b]?=w.heap[b]?:=fun b hb=>hE.keep b hb (hnil b);have hown0:∀b,gC μ0 b->w.heap.size<=b:=fun b hb=>(hE.mnew b hb).resolve_left (hnil b)
  have hI':∀b,I' b->I b\/w.heap.size<=b:=fun b hb=>by
    rcases hE.inew b hb with h|h|h
    · exact .inl h
    · exact absurd h<|hnil b
    · exact .inr h
  have hownA:∀b,gC (μ++μ0) b->gC μ b\/gC μ0 b:=fun b ⟨q,h⟩=>by
    rcases mem_append.1 h with h|h
    · exact .inl ⟨q,h⟩
    · exact .inr ⟨q,h⟩
  have hEx:cI μ.length μ I w (μ++μ0) I' w':=
    { get:=fun i B hi hb=>⟨B,by rw[getElem?_append_left hi];exact hb,le_refl _,fun _=>.inl rfl,fun _ _=>rfl⟩
      len:=le_refl _
      len':=by simp
      os:=hE.os
      tape:=hE.tape
      output:=hE.output
      size:=hE.size
      imm:=hE.imm
      shape:=fun b c e f hb=>⟨c,by rw[hold b (Array.getElem?_eq_some_iff.1 hb).1];exact hb,rfl⟩
      inew:=fun b hb=>(hI' b hb).elim .inl fun h=>.inr (.inr h)
      mnew:=fun b hb=>(hownA b hb).elim .inl fun h=>.inr (hown0 b h)
      keep:=fun b hb _=>hold b hb}
  have hdm:d=μ.length:=by rw[hd',hs.len]
  subst hdm;refine⟨_,v,_,μ++μ0,I',rfl,⟨rfl,rfl⟩,?_,hv.shift,hEx⟩;refine { len:=by simp[hs.len,hs'.len],inj:=?_,lt:=?_,off:=?_,ilt:=hs'.ilt,objs:=?_}
  · intro i j b q q' hi hj;rw[getElem?_append]at hi hj;split at hi <;>split at hj
    · exact hs.inj i j b q q' hi hj
    · have h1:=hs.lt b (.mk hi);have h2:=hown0 b (.mk hj);omega
    · have h1:=hs.lt b (.mk hj);have h2:=hown0 b (.mk hi);omega
    · have:=hs'.inj _ _ b q q' hi hj;omega
  · intro b hb;rcases hownA b hb with h|h
    · exact Nat.lt_of_lt_of_le (hs.lt b h) hE.size
    · exact hs'.lt b h
  · intro b hb hi;rcases hownA b hb with h|h
    · rcases hI' b hi with h'|h'
      · exact hs.off b h h'
      · have:=hs.lt b h;omega
    · exact hs'.off b h hi
  · intro i o B ho hB;rw[getElem?_append]at ho hB;rw[<-hs.len]at ho;split at ho
    · rename_i hlt;rw[i1_ hlt]at hB;exact(hs.objs i o B ho hB).ext hEx fun c hc=>hold c<|hs.lt c<|.of hB hc
    · rename_i hge;rw[i0_ hge]at hB;rw[getElem?_map]at ho
      cases hx:(_:List ab)[i-μ.length]? with
      |none=>rw[hx]at ho;cases ho
      | some o'=>
        rw[hx]at ho;cases ho;exact(hs'.objs _ o' B hx hB).shift
theorem LC.frame {f:FuncId}{as:List PV}(h:LC P f (as.map .p) [] (Is x H0))(hc:eX false H ls as)(hd:dq H=some d) :
  LC P f ls H (Is (x.shift d) (H++H0.map (ab.shift d))):=
 LC.frameG h (fun μ I w vs hs ha=>by
  have:=jH hs hc ha
  have e:(fun c=>I c\/(false=true/\gC μ c))=I:=by funext c;simp
  rw[e]at this
  exact cC.of_repL this) hd
end
def DH (x:PV):Prop:=∃I w v,fA I w x v
theorem DH.int {k:IntKind}{n:Int}(h:DH (.int k n)):aU k n:=by
 obtain⟨I,w,v,h⟩:=h;cases h;assumption
theorem DH.agg {cs:List PV}(h:DH (.agg cs)):∀c∈cs,DH c:=by
 obtain⟨I,w,v,h⟩:=h
 cases h with
 |agg hl ho h=>
  intro c hc;obtain⟨i,hi,rfl⟩:=mem_iff_getElem.1 hc;exact⟨I,w,_,h i _ _ (getElem?_eq_getElem hi) (Array.getElem?_eq_getElem (by omega))⟩
theorem DH.len (h:DH (.slice m xs)):xs.length<=maxLen:=by
 obtain⟨I,w,v,h⟩:=h;obtain⟨a,cap,f,-,h1,h2,-⟩:=fF h;omega
theorem DH.elems (h:DH (.slice m xs)):b9 m xs:=by
 obtain⟨I,w,v,h⟩:=h;obtain⟨a,cap,f,-,h1,h2,h3,-⟩:=fF h;exact h3
theorem DH.cells {m:Nat}{xs:List PV}(h:DH (.slice m xs)){x:PV}(hx:x∈xs):∀c∈x.cells,DH c:=by
 have he:=h.elems;obtain⟨I,w,v,h⟩:=h;obtain⟨a,cap,f,-,h1,h2,h3,h4,h5⟩:=fF h;intro c hc;obtain⟨i,hi⟩:=mq hx;obtain⟨j,hj⟩:=mq hc;exact⟨I,w,_,h5 _ c (lv he hi hj)⟩
section
variable {P : Program} {n k : Nat} {env : aE} {H : List ab} {Q : Exit -> aE -> List ab -> Prop} {o : Oper}
theorem LW.ok {c:Code}{t:Nat}{x:PV}(h:env.get t=some (.p x))(hw:DH x->LW P n k c env H Q):LW P n k c env H Q:=by
 intro a w μ I hn;obtain⟨v,-,hr⟩:=hn.env t _ h
 cases hr with
 |p hr=>exact hw ⟨_,_,_,hr⟩ a w μ I hn
theorem po {id:Nat}(h:Q .normal env H):ss id Q (.exit id) env H:=by
 simp only[ss,if_true];exact h
theorem iO {id id':Nat}(hne:id'≠id)(h:Q (.exit id') env H):ss id Q (.exit id') env H:=by
 simp only[ss,i0_ hne];exact h
theorem Conv.pe {x y:PV}(h:x=y):Conv b H (.p x) y:=by subst h;exact Conv.p
theorem aa.isEq {x y:LV}(h:aa P o env H (Is x H'))(e:x=y):aa P o env H (Is y H'):=e▸h
theorem aa.max {t:Array TypeId}{x y:Operand}{k:IntKind}{p q:Int}(ho:o.op=.call { callee:=.builtin .max,args:=#[x,y],argTypes:=t})(hx:bf env x=some (.p (.int k p)))
  (hy:bf env y=some (.p (.int k q))):aa P o env H (Is (.p (.int k (if q>p then q else p))) H):=
 aa.val fun a w μ I hst he=>by
  obtain⟨e1,h1⟩:=bE (he.ev (x:=x) (by simp[ho,Op.operands,Call.operands]) hx);obtain⟨e2,h2⟩:=bE (he.ev (x:=y) (by simp[ho,Op.operands,Call.operands]) hy);refine⟨.int k (if q>p then q else p),?_,.p (.int (by split <;>assumption))⟩;simp only[execOp,ho,resolve,invoke,builtin,Sem.run_bind,Sem.run_pure,Result.andThen_ok,map_toArray,map_cons,map_nil,e1,e2,Builtin.max_,List.foldlM_cons,List.foldlM_nil,Builtin.max2]
theorem aa.min {t:Array TypeId}{x y:Operand}{k:IntKind}{p q:Int}(ho:o.op=.call { callee:=.builtin .min,args:=#[x,y],argTypes:=t})(hx:bf env x=some (.p (.int k p)))
  (hy:bf env y=some (.p (.int k q))):aa P o env H (Is (.p (.int k (if q<p then q else p))) H):=
 aa.val fun a w μ I hst he=>by
  obtain⟨e1,h1⟩:=bE (he.ev (x:=x) (by simp[ho,Op.operands,Call.operands]) hx);obtain⟨e2,h2⟩:=bE (he.ev (x:=y) (by simp[ho,Op.operands,Call.operands]) hy);refine⟨.int k (if q<p then q else p),?_,.p (.int (by split <;>assumption))⟩;simp only[execOp,ho,resolve,invoke,builtin,Sem.run_bind,Sem.run_pure,Result.andThen_ok,map_toArray,map_cons,map_nil,e1,e2,Builtin.min_,List.foldlM_cons,List.foldlM_nil,Builtin.min2]
end
section
variable {P : Program}
theorem qP : ∀ {d : Nat} {t:TypeId} {n:Nat},u9 P d t=some n->∀(em:Bool) (D:Nat),d<=D->∀(w:World) (xs:List Value),xs.length=n->
    (Instr.checkKey em D t (i3 P t xs)).run P w=.ok () w:=by
  intro d
  induction d with
  |zero=>intro t n h;cases h
  | succ d ih =>
    intro t n h em D hD w xs hl;obtain⟨D,rfl⟩:∃E,D=E+1:=⟨D-1,by omega⟩;unfold u9 at h;unfold i3
    cases hu:P.underlying t with
    |none=>simp[hu]at h
    | some q=>
      cases q with
      | int k=>
        rw[Instr.checkKey];simp only[Sem.run_bind,run_underlying hu,Result.andThen_ok];rfl
      | array len e=>
        simp only[hu]at h;split at h
        · rename_i m hm;split at h
          · rename_i hs;cases h;have hse:=qQ hm
            obtain⟨i,hi⟩:∃i,P.info? e=some i:=by
              cases hi:P.info? e with
              |none=>simp[hi]at hse
              |some i=>exact⟨i,rfl⟩
            have hc:P.cellsOf e=m:=by simp[Program.cellsOf,hse]
            dsimp only;rw[Instr.checkKey];simp only[Sem.run_bind,run_underlying hu,Result.andThen_ok];simp only[Std.Legacy.Range.forIn_eq_forIn_range',Std.Legacy.Range.size,Nat.sub_zero,Nat.add_one_sub_one,Nat.div_one]
            have key:∀(k s:Nat),s*m+k*m=xs.length->((forIn (range' s k) PUnit.unit fun i (_:PUnit)=>do
                Instr.checkKey em D e (<-part e xs.toArray (i*(<-sizeOf e)))
                pure (ForInStep.yield PUnit.unit)):Sem PUnit).run P w=.ok PUnit.unit w:=by
              intro k
              induction k with
              |zero=>intro s _;simp
              | succ k ihk=>
                intro s hs'
                have hm1:s*m+m<=xs.toArray.size:=by simp;rw[<-hs',add_mul];omega
                have p1:=nz hm w xs.toArray (s*m) hm1;have p2:=ih hm em D (by omega) w ((xs.toArray.toList.drop (s*m)).take m) (by simp at hm1⊢;omega);have hrec:=ihk (s+1) (by rw[add_mul,Nat.one_mul,<-hs',add_mul];omega);rw[List.range'_succ];simp only[List.forIn_cons,Sem.run_bind,run_sizeOf w hi,hc,Result.andThen_ok,p1,p2,Sem.run_pure];simpa [Sem.run_bind]using hrec
            have:=key len 0 (by simp;omega);simp at this⊢;rw[this];rfl
          · cases h
        · cases h
      | struct fs =>
        simp only[hu]at h;split at h
        · cases h
        · split at h
          · rename_i n' hf;split at h
            · cases h;dsimp only;rw[Instr.checkKey];simp only[Sem.run_bind,run_underlying hu,Result.andThen_ok];rw[<-Array.forIn_toList]
              have none_fold:∀(fs:List Field),fs.foldl (fun acc f=>match acc with
                  | some off => if f.name != "_" && f.offset == off then (match u9 P d f.type with | some m => some (off + m) | none => none) else none
                  |none=>none) none=none:=by
                intro fs
                induction fs with
                |nil=>rfl
                |cons f fs ih=>simpa using ih
              have mono:∀(fs:List Field) (s n:Nat),fs.foldl (fun acc f=>match acc with
                  | some off => if f.name != "_" && f.offset == off then (match u9 P d f.type with | some m => some (off + m) | none => none) else none
                  |none=>none) (some s)=some n->s<=n:=by
                intro fs
                induction fs with
                |nil=>intro s n h;simp at h;omega
                | cons f fs ih=>
                  intro s n h;rw[List.foldl_cons]at h;dsimp only at h;split at h
                  · split at h
                    · have:=ih _ _ h;omega
                    · rw[none_fold]at h;cases h
                  · rw[none_fold]at h;cases h
              clear hu;generalize fs.toList=L at hf
              have key:∀(L:List Field) (s:Nat),L.foldl (fun acc f=>match acc with
                  | some off => if f.name != "_" && f.offset == off then (match u9 P d f.type with | some m => some (off + m) | none => none) else none
                  |none=>none) (some s)=some n->((forIn L PUnit.unit fun f (_:PUnit)=>
                if f.name ≠ "_" then do
                  Instr.checkKey em D f.type (<-part f.type xs.toArray f.offset)
                  pure (ForInStep.yield PUnit.unit)
                else pure (ForInStep.yield PUnit.unit)):Sem PUnit).run P w=.ok PUnit.unit w:=by
                intro L
                induction L with
                |nil=>intro s _;simp
                | cons f L ihL=>
                  intro s hf;rw[List.foldl_cons]at hf;dsimp only at hf;split at hf
                  · rename_i hnm;simp only[Bool.and_eq_true,bne_iff_ne,ne_eq,beq_iff_eq]at hnm;split at hf
                    · rename_i m hm;have hle:=mono _ _ _ hf;have p1:=nz hm w xs.toArray s (by simp;omega);have p2:=ih hm em D (by omega) w ((xs.toArray.toList.drop s).take m) (by simp;omega);have hrec:=ihL _ hf;simp only[List.forIn_cons,Sem.run_bind,hnm.1,hnm.2,ne_eq,not_false_eq_true,if_true,Result.andThen_ok,p1,p2,Sem.run_pure];simpa [Sem.run_bind]using hrec
                    · rw[none_fold]at hf;cases hf
                  · rw[none_fold]at hf;cases hf
              have:=key L 0 hf;simp at this⊢;rw[this];rfl
            · cases h
          · cases h
      |_=>simp[hu]at h
def jP :PV->PV->Option Bool |.int k a,.int k' b=>if k=k' then some (a==b)else none |.agg ps,.agg qs=>dc ps qs |_,_=>none
def eM (P:Program)(t:TypeId):Option (TypeId×TypeId×Nat×Bool):=
 match P.underlying t with
 |some (.map k e)=>
  match P.underlying k with
  |some (.int _)=>some (k,e,1,false)
  |some (.array _ _)=>match u9 P 9 k with|some n=>if ni P k n then some (k,e,n,true)else none|none=>none
  |some (.struct _)=>match u9 P 9 k with|some n=>if ni P k n then some (k,e,n,true)else none|none=>none
  |_=>none
 |_=>none
def de (n:Nat)(ag:Bool):PV->Bool
 |.int _ _=> !ag
 |.agg ps=>ag&&(match dq ps with|some q=>Nat.beq q n|none=>false)
 |_=>false
theorem eh {t k e:TypeId}(h:eM P t=some (k,e,n,ag)) :
  P.underlying t=some (.map k e)/\((ag=false/\∃q,P.underlying k=some (.int q))\/
   (ag=true/\u9 P 9 k=some n/\ni P k n=true/\(match P.underlying k with|some (.array _ _)|some (.struct _)=>true|_=>false)=true)):=by
 unfold eM at h;split at h
 ·rename_i k' e' hu;split at h
  ·rename_i q hq;cases h;exact⟨hu,.inl ⟨rfl,q,hq⟩⟩
  ·rename_i a b hq;split at h
   ·rename_i n' hn;split at h
    ·rename_i he;cases h;exact⟨hu,.inr ⟨rfl,hn,he,by rw[hq]⟩⟩
    ·cases h
   ·cases h
  ·rename_i a hq;split at h
   ·rename_i n' hn;split at h
    ·rename_i he;cases h;exact⟨hu,.inr ⟨rfl,hn,he,by rw[hq]⟩⟩
    ·cases h
   ·cases h
  ·cases h
 ·cases h
theorem dz {t k e:TypeId}(h:eM P t=some (k,e,n,ag)){key:PV}(hk:de n ag key=true)(hr:fA I w key v)(em:Bool)(w':World) :
  (Instr.checkKey em 10000 k v).run P w'=.ok () w':=by
 obtain⟨-,⟨rfl,q,hq⟩|⟨rfl,hs,he,-⟩⟩:=eh h
 ·cases hr <;>simp[de]at hk;rw[show(10000:Nat)=9999+1 from rfl,Instr.checkKey];simp only[Sem.run_bind,run_underlying hq,Result.andThen_ok];rfl
 ·cases hr with
  |int=>simp[de]at hk
  |bool=>simp[de]at hk
  |slice=>simp[de]at hk
  | @agg cs vs hl ho hr=>
   simp only[de,Bool.true_and]at hk;split at hk
   ·rename_i q hq;have hq':=cd hq;have hqn:=Nat.eq_of_beq_eq_true hk;have:=qP hs em 10000 (by decide) w' vs.toList (by simp;omega)
    have e:i3 P k vs.toList=.agg vs:=by
     simp only[ni,Bool.and_eq_true]at he;have h2:=he.1.2;unfold va at h2;unfold i3
     cases hu:P.underlying k with
     |none=>simp[hu]at h2
     |some q=>cases q <;>simp[hu]at h2 <;>simp
    rwa [e]at this
   ·cases hk
theorem rV (d:Nat){k:TypeId}{z:IntKind}(hz:P.underlying k=some (.int z))(q:IntKind)(a b:Int)(w:World):(Op.equalIn (d+1) k (.int q a) (.int q b)).run P w=.ok (a==b) w:=by
 simp[Op.equalIn,run_underlying hz]
theorem qS (d:Nat)(k:IntKind)(a:Int):Instr.sameBits d (.int k a) (.int k a)=true:=by cases d <;>simp[Instr.sameBits]
theorem jQ {t k e:TypeId}(h:eM P t=some (k,e,n,ag)){p q:PV}(hk:de n ag p=true){r:Bool}(hr:jP p q=some r){u v:Value}(hp:fA I w p u)(hq:fA I w q v)(w':World) :
  (Op.equal k u v).run P w'=.ok r w'/\(∀z,P.underlying k=some (.int z)->Instr.sameNow (.int z) u v=some r)/\(r=true->u=v/\Instr.sameBits 10000 u u=true):=by
 obtain⟨-,⟨rfl,z,hz⟩|⟨rfl,hs,he,hw⟩⟩:=eh h
 ·cases hp <;>simp[de]at hk;cases hq <;>simp[jP]at hr;obtain⟨rfl,rfl⟩:=hr;refine⟨?_,fun z' hz'=>by simp[Instr.sameNow],fun hr=>?_⟩
  ·unfold Op.equal;rw[show Op.maxDepth=9999+1 from rfl];exact rV 9999 hz _ _ _ w'
  ·have:=eq_of_beq hr;subst this;exact⟨rfl,qS _ _ _⟩
 ·cases hp with
  |int=>simp[de]at hk
  |bool=>simp[de]at hk
  |slice=>simp[de]at hk
  | @agg cs us hl ho hr1=>
   simp only[de,Bool.true_and]at hk;split at hk
   ·rename_i qn hqn;have h1:=cd hqn;have h2:=Nat.eq_of_beq_eq_true hk
    cases hq with
    |int=>simp[jP]at hr
    |bool=>simp[jP]at hr
    |slice=>simp[jP]at hr
    | @agg ds vs hl' ho' hr2=>
     simp only[jP]at hr;have hv:cz us.toList vs.toList=some r:=i6 hr (by simpa using hl) (by simpa using hl') (fun i c v hc hv=>hr1 i c v hc (by simpa using hv)) (fun i c v hc hv=>hr2 i c v hc (by simpa using hv));refine⟨kN he w' (by omega) hv,fun z hz=>by rw[hz]at hw;simp at hw,fun hrt=>?_⟩;subst hrt
     have same:∀(xs ys:List Value),cz xs ys=some true->xs=ys/\(xs.zip xs).all (fun p=>Instr.sameBits 9999 p.1 p.2)=true:=by
      intro xs
      induction xs with
      |nil=>
       intro ys h
       cases ys with
       |nil=>exact⟨rfl,by simp⟩
       |cons=>simp[cz]at h
      | cons x xs ih=>
       intro ys h
       cases ys with
       |nil=>simp[cz]at h
       | cons y ys=>
        simp only[cz]at h;split at h
        ·rename_i a b ha hb;simp only[Option.some.injEq,Bool.and_eq_true]at h;obtain⟨rfl,rfl⟩:=h;obtain⟨rfl,h2⟩:=ih ys hb;simp only[List.zip_cons_cons,List.all_cons,h2,Bool.and_true];unfold Jb at ha;split at ha
         ·split at ha
          ·rename_i hk;simp only[Option.some.injEq,beq_iff_eq]at ha;subst hk;subst ha;exact⟨rfl,qS _ _ _⟩
          ·cases ha
         ·cases ha
        ·cases h
     obtain⟨s1,s2⟩:=same _ _ hv
     have s1':us=vs:=by rw[<-Array.toArray_toList (xs:=us),s1]
     subst s1';refine⟨rfl,?_⟩;rw[show(10000:Nat)=9999+1 from rfl];simp only[Instr.sameBits,Bool.and_eq_true,beq_iff_eq];exact⟨trivial,s2⟩
   ·cases hk
inductive mE (key:PV)(es:List (PV×LV)):Option Nat->Prop
 |hit {i:Nat} {e:PV×LV} (hi:es[i]?=some e) (he:jP key e.1=some true) (hlt:∀(j:Nat) e,j<i->es[j]?=some e->jP key e.1=some false):mE key es (some i)
 |miss (h:∀e∈es,jP key e.1=some false):mE key es none
theorem fw {t k e:TypeId}(h:eM P t=some (k,e,n,ag)){key:PV}(hk:de n ag key=true){u:Value}(hu:fA I w key u){r:Option Nat}(hf:mE key es r)
  {ms:List MapEntry} (hl:ms.length=es.length) (hr:∀(i:Nat) c m,es[i]?=some c->ms[i]?=some m->fA I w c.1 m.key) (w':World) :
  (Instr.findKey k u ms).run P w'=.ok (r.bind fun i=>(ms[i]?).map fun m=>(i,m.val)) w':=by
 -- by asking, and by looking
 have ask:∀(es:List (PV×LV)) (ms:List MapEntry) (s:Nat) (r:Option Nat),mE key es r->ms.length=es.length->(∀(i:Nat) c m,es[i]?=some c->ms[i]?=some m->fA I w c.1 m.key)->
   (Instr.findAsking k u ms s).run P w'=.ok (r.bind fun i=>(ms[i]?).map fun m=>(s+i,m.val)) w'/\
   ∀z,P.underlying k=some (.int z)->Instr.findNow (.int z) u ms s=some (r.bind fun i=>(ms[i]?).map fun m=>(s+i,m.val)):=by
  intro es
  induction es with
  |nil=>
   intro ms s r hf hl _;obtain rfl:=eq_nil_of_length_eq_zero (show ms.length=0 by simpa using hl)
   cases hf with
   |hit hi=>simp at hi
   |miss=>simp[Instr.findAsking,Instr.findNow]
  | cons c es ih=>
   intro ms s r hf hl hr
   cases ms with
   |nil=>simp at hl
   | cons m ms=>
    have hc:=hr 0 c m rfl rfl;have hr':∀(i:Nat) c m,es[i]?=some c->ms[i]?=some m->fA I w c.1 m.key:=fun i c m h1 h2=>hr (i+1) c m (by simpa using h1) (by simpa using h2)
    cases hf with
    | @hit i e hi he hlt=>
     cases i with
     |zero=>
      simp at hi;subst hi;obtain⟨q1,q2,-⟩:=jQ h hk he hu hc w';refine⟨by simp[Instr.findAsking,q1],fun z hz=>?_⟩;simp[Instr.findNow,q2 z hz]
     |succ i=>
      have h0:=hlt 0 c (by omega) rfl;obtain⟨q1,q2,-⟩:=jQ h hk h0 hu hc w';obtain⟨r1,r2⟩:=ih ms (s+1) (some i) (.hit (by simpa using hi) he fun j e hj hje=>hlt (j+1) e (by omega) (by simpa using hje)) (by simpa using hl) hr';refine⟨?_,fun z hz=>?_⟩
      ·simp only[Instr.findAsking,Sem.run_bind,q1,Result.andThen_ok,Bool.false_eq_true,if_false,r1];simp[show s+1+i=s+(i+1) by omega]
      ·simp only[Instr.findNow,q2 z hz,r2 z hz];simp[show s+1+i=s+(i+1) by omega]
    |miss hm=>
     have h0:=hm c (.head _);obtain⟨q1,q2,-⟩:=jQ h hk h0 hu hc w';obtain⟨r1,r2⟩:=ih ms (s+1) none (.miss fun e he=>hm e (.tail _ he)) (by simpa using hl) hr';refine⟨?_,fun z hz=>?_⟩
     ·simp only[Instr.findAsking,Sem.run_bind,q1,Result.andThen_ok,Bool.false_eq_true,if_false,r1];simp
     ·simp only[Instr.findNow,q2 z hz,r2 z hz];simp
 obtain⟨a1,a2⟩:=ask es ms 0 r hf hl hr;simp only[zero_add]at a1 a2;obtain⟨-,⟨rfl,z,hz⟩|⟨rfl,hs,he,hw⟩⟩:=eh h
 ·unfold Instr.findKey;simp only[Sem.run_bind,run_underlying hz,Result.andThen_ok,a2 z hz,Sem.run_pure]
 ·rw[run_findKey_eq w' hw];exact a1
end
section
variable {P : Program} {o : Oper} {env : aE} {H : List ab}
theorem aa.makeMap {t:TypeId}{id:Nat}{H':List ab}(ho:o.op=.makeMap t none)(hid:dq H=some id)(hH:jF H (.map [])=some H'):aa P o env H (Is (.map id) H'):=
 aa.step fun a w μ I hs he=>by
  have hid':=cd hid;have hH':=dC hH;subst hH';obtain⟨hs',hE⟩:=hs.push (.map #[] 0) (.map []) 0 fun μ' w' hE hb=>.map hb rfl (fun i c e hc=>by simp at hc) rfl (fun i e he=>by simp at he);refine⟨.map (some w.heap.size),_,_,by simp[execOp,ho,Instr.makeMap],hs',.map ?_,hE⟩;rw[hid',<-hs.len];simp
theorem f9 (hs:St μ I w H)(hr:aH μ I w (.map id) v)(hH:br H id=some (.map es)) :
  ∃(b:Nat) (ms:Array MapEntry) (clock:Nat),v=.map (some b)/\μ[id]?=some ⟨some b,0⟩/\w.heap[b]?=some (.map ms clock)/\ms.size=es.length/\
   (∀(i:Nat) c e,es[i]?=some c->ms[i]?=some e->fA I w c.1 e.key/\aH μ I w c.2 e.val)/\clock=ms.size/\∀(i:Nat) (e:MapEntry),ms[i]?=some e->e.born=i:=by
 rw[bj]at hH
 cases hr with
 |@map _ b hid=>
  have hob:=hs.objs id _ _ hH hid
  cases hob with
  |map hb hl h h2 h3=>exact⟨b,_,_,rfl,hid,hb,hl,h,h2,h3⟩
theorem en {b:Nat}(hb:w.heap[b]?=some (.map ms clock)):(getObj b).run P w=.ok (.map ms clock) w:=by
 simp[getObj,Sem.run,hb]
def mK (P:Program)(t:TypeId):Option LV:=
 match P.info? t with
 |some i=>match i.zero with
  |some z=>sZ z
  |none=>none
 |none=>none
theorem rX (h:mK P t=some z)(w:World):∃v,(zeroValue t).run P w=.ok v w/\∀μ I w',aH μ I w' z v:=by
 unfold mK at h;split at h
 ·rename_i i hi;split at h
  ·rename_i v hv;exact⟨v,by simp[zeroValue,typeInfo,hi,hv],fun μ I w'=>nu h⟩
  ·cases h
 ·cases h
theorem uv (h:aH μ I w x v):aH μ I w (.tup [x,.p (.bool b)]) (.tuple #[v,.bool b]):=
 qz h (.p .bool)
section
variable {t k e : TypeId} {n : Nat} {ag : Bool} {x y : Operand} {id : Nat} {es : List (PV × LV)} {key : PV}
theorem aa.lookupHit {ok:Bool}{c:PV×LV}(ho:o.op=.lookup t x y ok)(hx:bf env x=some (.map id))(hy:bf env y=some (.p key))(hH:br H id=some (.map es))
  (hT:eM P t=some (k,e,n,ag)) (hk:de n ag key=true) (hf:mE key es (some i)) (hi:es[i]?=some c) (hr:r=if ok then .tup [c.2,.p (.bool true)]else c.2) :
  aa P o env H (Is r H):=
 aa.val fun a w μ I hst he=>by
  have hrx:=he.ev (x:=x) (by simp[ho,Op.operands]) hx;have hry:=he.ev (x:=y) (by simp[ho,Op.operands]) hy
  cases hry with
  | p hry=>
   obtain⟨b,ms,clock,hv,hid,hb,hl,hrep,-,-⟩:=f9 hst hrx hH;have hu:=(eh hT).1;have h1:=dz hT hk hry ms.isEmpty w;have h2:=fw hT hk hry hf (ms:=ms.toList) (by simpa using hl) (fun i c m hc hm=>(hrep i c m hc (by simpa using hm)).1) w;have hil:=(List.getElem?_eq_some_iff.1 hi).1;have hmi:ms[i]?=some ms[i]:=Array.getElem?_eq_getElem (by omega)
   have h3:(Instr.findKey k (a.eval y) ms.toList).run P w=.ok (some (i,ms[i].val)) w:=by
    rw[h2];simp[hmi]
   have hval:=(hrep i c ms[i] hi hmi).2
   have hrun:(Instr.lookup t (.map (some b)) (a.eval y) ok).run P w=.ok (if ok then .tuple #[ms[i].val,.bool true]else ms[i].val) w:=by
    unfold Instr.lookup;simp only[Sem.run_bind,run_underlying hu,Result.andThen_ok,en hb,Sem.run_pure,h1,h3]
   refine⟨if ok then .tuple #[ms[i].val,.bool true]else ms[i].val,by simp only[execOp,ho,hv];simp[hrun],?_⟩;subst hr;cases ok
   ·simpa using hval
   ·simpa using uv hval
theorem aa.lookupMiss {ok:Bool}(ho:o.op=.lookup t x y ok)(hx:bf env x=some (.map id))(hy:bf env y=some (.p key))(hH:br H id=some (.map es))
  (hT:eM P t=some (k,e,n,ag)) (hk:de n ag key=true) (hz:mK P e=some z) (hf:mE key es none) (hr:r=if ok then .tup [z,.p (.bool false)]else z) :
  aa P o env H (Is r H):=
 aa.val fun a w μ I hst he=>by
  have hrx:=he.ev (x:=x) (by simp[ho,Op.operands]) hx;have hry:=he.ev (x:=y) (by simp[ho,Op.operands]) hy
  cases hry with
  | p hry=>
   obtain⟨b,ms,clock,hv,hid,hb,hl,hrep,-,-⟩:=f9 hst hrx hH;have hu:=(eh hT).1;have h1:=dz hT hk hry ms.isEmpty w;have h2:=fw hT hk hry hf (ms:=ms.toList) (by simpa using hl) (fun i c m hc hm=>(hrep i c m hc (by simpa using hm)).1) w;obtain⟨zv,hzv,hzr⟩:=rX hz w
   have hrun:(Instr.lookup t (.map (some b)) (a.eval y) ok).run P w=.ok (if ok then .tuple #[zv,.bool false]else zv) w:=by
    unfold Instr.lookup;simp only[Sem.run_bind,run_underlying hu,Result.andThen_ok,en hb,Sem.run_pure,h1,h2,bind_none,hzv]
   refine⟨if ok then .tuple #[zv,.bool false]else zv,by simp only[execOp,ho,hv];simp[hrun],?_⟩;subst hr;cases ok
   ·simpa using hzr μ I w
   ·simpa using uv (hzr μ I w)
theorem aa.lookupNil {ok:Bool}(ho:o.op=.lookup t x y ok)(hx:bf env x=some .nilmap)(hy:bf env y=some (.p key))
  (hT:eM P t=some (k,e,n,ag)) (hk:de n ag key=true) (hz:mK P e=some z) (hr:r=if ok then .tup [z,.p (.bool false)]else z):aa P o env H (Is r H):=
 aa.val fun a w μ I hst he=>by
  have hrx:=he.ev (x:=x) (by simp[ho,Op.operands]) hx;have hry:=he.ev (x:=y) (by simp[ho,Op.operands]) hy
  cases hry with
  | p hry=>
   generalize hv:a.eval x=v at hrx;cases hrx;have hu:=(eh hT).1;have h1:=dz hT hk hry true w;have h2:=fw hT hk hry (es:=[]) (.miss (by simp)) (ms:=[]) rfl (fun i c m hc=>by simp at hc) w;obtain⟨zv,hzv,hzr⟩:=rX hz w
   have hrun:(Instr.lookup t (.map none) (a.eval y) ok).run P w=.ok (if ok then .tuple #[zv,.bool false]else zv) w:=by
    unfold Instr.lookup;simp only[Sem.run_bind,run_underlying hu,Result.andThen_ok,Sem.run_pure];simp[h1,h2,hzv]
   refine⟨if ok then .tuple #[zv,.bool false]else zv,by simp only[execOp,ho,hv];simp[hrun],?_⟩;subst hr;cases ok
   ·simpa using hzr μ I w
   ·simpa using uv (hzr μ I w)
theorem jX {b:Nat}(hb:w.heap[b]?=some (.map ms clock))(o:Obj) :
  (setObj b o).run P w=.ok () { w with heap:=w.heap.setIfInBounds b o}:=by
 simp[setObj,Sem.run,hb]
theorem Jt {z:Operand}(hop:o.op=.mapUpdate t x y z\/o.op=.insert t x y z)(hx:bf env x=some (.map id))(hy:bf env y=some (.p key))(hz:bf env z=some l)(hH:br H id=some (.map es))
  (hT:eM P t=some (k,e,n,ag)) (hk:de n ag key=true) (hf:mE key es none) (hH':bK H id (.map (es++[(key,l)]))=some H'):aa P o env H (Is .any H'):=
 aa.unit fun a w μ I hst he=>by
  have m1:x∈o.op.operands:=by rcases hop with h|h <;>simp[h,Op.operands]
  have m2:y∈o.op.operands:=by rcases hop with h|h <;>simp[h,Op.operands]
  have m3:z∈o.op.operands:=by rcases hop with h|h <;>simp[h,Op.operands]
  have hrx:=he.ev m1 hx;have hry:=he.ev m2 hy;have hrz:=he.ev m3 hz;obtain⟨e1,e2⟩:=bH hH';subst e1
  cases hry with
  | p hry=>
   obtain⟨b,ms,clock,hv,hid,hb,hl,hrep,hclock,hborn⟩:=f9 hst hrx hH;have hu:=(eh hT).1;have h1:=dz hT hk hry false w;have h2:=fw hT hk hry hf (ms:=ms.toList) (by simpa using hl) (fun i c m hc hm=>(hrep i c m hc (by simpa using hm)).1) w;have hbl:=(Array.getElem?_eq_some_iff.1 hb).1
   have hrun:(Instr.mapUpdate t (.map (some b)) (a.eval y) (a.eval z)).run P w =
     .ok () { w with heap:=w.heap.setIfInBounds b (.map (ms.push { key:=a.eval y,val:=a.eval z,born:=clock}) (clock+1))}:=by
    unfold Instr.mapUpdate;simp only[Sem.run_bind,run_underlying hu,Result.andThen_ok,en hb,h1,h2,bind_none,jX hb]
   obtain⟨hs',hE⟩:=hst.write (o:=.map (es++[(key,l)])) hid (w':={ w with heap:=w.heap.setIfInBounds b (.map (ms.push { key:=a.eval y,val:=a.eval z,born:=clock}) (clock+1))})
    (fun c hc=>Array.getElem?_setIfInBounds_ne (fun h=>hc h.symm)) (by simp) rfl rfl rfl (fun c e f h=>by rw[hb]at h;cases h)
    (fun hE=>by
     refine .map (ms:=ms.push { key:=a.eval y,val:=a.eval z,born:=clock}) (clock:=clock+1) (by simp[hbl]) (by simp[hl]) (fun i c m hc hm=>?_) (by simp[hclock])<|fun i m hm=>?_
     ·rw[getElem?_append]at hc;rw[Array.getElem?_push]at hm;split at hc
      ·rename_i hi;rw[i0_ (by omega)]at hm;exact⟨(hrep i c m hc hm).1.mono hE.imm,(hrep i c m hc hm).2.ext hE⟩
      ·rename_i hi;have h5:=(List.getElem?_eq_some_iff.1 hc).1;simp at h5;rw[i1_ (by omega)]at hm;cases hm;rw[show i-es.length=0 by omega]at hc;simp at hc;subst hc;exact⟨hry.mono hE.imm,hrz.ext hE⟩
     ·rw[Array.getElem?_push]at hm;split at hm
      ·rename_i hi;cases hm;subst hi;exact hclock
      ·exact hborn i m hm)
   refine⟨_,μ,?_,hs',hE⟩;rcases hop with h|h <;>(simp only[execOp,h,hv];simp[hrun])
theorem Ju {z:Operand}(hop:o.op=.mapUpdate t x y z\/o.op=.insert t x y z)(hx:bf env x=some (.map id))(hy:bf env y=some (.p key))(hz:bf env z=some l)(hH:br H id=some (.map es))
  (hT:eM P t=some (k,e,n,ag)) (hk:de n ag key=true) (hf:mE key es (some i)) (hH':bK H id (.map (es.set i (key,l)))=some H'):aa P o env H (Is .any H'):=
 aa.unit fun a w μ I hst he=>by
  have m1:x∈o.op.operands:=by rcases hop with h|h <;>simp[h,Op.operands]
  have m2:y∈o.op.operands:=by rcases hop with h|h <;>simp[h,Op.operands]
  have m3:z∈o.op.operands:=by rcases hop with h|h <;>simp[h,Op.operands]
  have hrx:=he.ev m1 hx;have hry:=he.ev m2 hy;have hrz:=he.ev m3 hz;obtain⟨e1,e2⟩:=bH hH';subst e1
  cases hry with
  | p hry=>
   obtain⟨b,ms,clock,hv,hid,hb,hl,hrep,hclock,hborn⟩:=f9 hst hrx hH;have hu:=(eh hT).1;have h1:=dz hT hk hry false w;have h2:=fw hT hk hry hf (ms:=ms.toList) (by simpa using hl) (fun i c m hc hm=>(hrep i c m hc (by simpa using hm)).1) w;have hbl:=(Array.getElem?_eq_some_iff.1 hb).1
   cases hf with
   | @hit _ c hi hke hlt=>
    have hil:=(List.getElem?_eq_some_iff.1 hi).1;have hmi:ms[i]?=some ms[i]:=Array.getElem?_eq_getElem (by omega)
    have h3:(Instr.findKey k (a.eval y) ms.toList).run P w=.ok (some (i,ms[i].val)) w:=by
     rw[h2];simp[hmi]
    obtain⟨hsk,hsb⟩:=(jQ hT hk hke hry (hrep i c ms[i] hi hmi).1 w).2.2 rfl
    have hsame':Instr.sameBits 10000 ms[i].key (a.eval y)=true:=by rw[<-hsk];exact hsb
    have hrun:(Instr.mapUpdate t (.map (some b)) (a.eval y) (a.eval z)).run P w =
      .ok () { w with heap:=w.heap.setIfInBounds b (.map (ms.modify i fun m=>{ m with key:=a.eval y,val:=a.eval z}) clock)}:=by
     unfold Instr.mapUpdate;simp only[Sem.run_bind,run_underlying hu,Result.andThen_ok,en hb,h1,h3,Instr.keyThatStays,hmi,Option.map_some,getD_some,hsame',if_true,Sem.run_pure,jX hb]
    obtain⟨hs',hE⟩:=hst.write (o:=.map (es.set i (key,l))) hid (w':={ w with heap:=w.heap.setIfInBounds b (.map (ms.modify i fun m=>{ m with key:=a.eval y,val:=a.eval z}) clock)})
     (fun c hc=>Array.getElem?_setIfInBounds_ne (fun h=>hc h.symm)) (by simp) rfl rfl rfl (fun c e f h=>by rw[hb]at h;cases h)
     (fun hE=>by
      refine .map (ms:=ms.modify i fun m=>{ m with key:=a.eval y,val:=a.eval z}) (clock:=clock) (by simp[hbl]) (by simp[hl]) (fun j c m hc hm=>?_) (by simp[hclock])<|fun j m hm=>?_
      ·rw[getElem?_set]at hc;rw[Array.getElem?_modify]at hm;split at hc
       ·rename_i e;subst e;rw[i1_ rfl,hmi]at hm;cases hc;cases hm;exact⟨hry.mono hE.imm,hrz.ext hE⟩
       ·rename_i hne;rw[i0_ (fun h=>hne h)]at hm;exact⟨(hrep j c m hc hm).1.mono hE.imm,(hrep j c m hc hm).2.ext hE⟩
      ·rw[Array.getElem?_modify]at hm;split at hm
       ·rename_i e;subst e;rw[hmi]at hm;cases hm;exact hborn i ms[i] hmi
       ·exact hborn j m hm)
    refine⟨_,μ,?_,hs',hE⟩;rcases hop with h|h <;>(simp only[execOp,h,hv];simp[hrun])
end
end
open Go.RowKit (Below)
structure pG (F:List Nat)(H H':List ab):Prop where
 len:H'.length=H.length
 at_:∀i∈F,H'[i]?=H[i]?
theorem pG.get (h:pG F H H'){o:ab}(hi:F.contains i=true)(ho:br H i=some o):br H' i=some o:=by
 rw[bj]at ho⊢;rw[h.at_ i (by simpa using hi)];exact ho
theorem C8 :∀{l:List α} {n:Nat} {x y:α},br l n=some x->bK l n y=some (l.set n y):=by
 intro l
 induction l with
 |nil=>intro n x y h;cases n <;>cases h
 |cons a r ih=>
  intro n x y h
  cases n with
  |zero=>rfl
  |succ n=>simp only[br]at h;simp[bK,ih h]
theorem pG.set {F:List Nat}{H H':List ab}(h:pG F H H'){i:Nat}{o y:ab}(hi:F.contains i=true)(ho:br H i=some o):bK H' i y=some (H'.set i y):=
 C8 (h.get hi ho)
def wset (H:List ab):Option (Nat×ab)->List ab |some (i,o)=>H.set i o |none=>H
structure FP where
 rd:List Nat
 wr:Option Nat
def i9 :Option (Nat×ab)->Option Nat |some (i,_)=>some i |none=>none
def cj (P:Program)(o:Oper)(env:aE)(H:List ab)(F:List Nat)(s:Option (Nat×ab))(x:LV):Prop:=∀H',pG F H H'->aa P o env H' (Is x (wset H' s))
section
variable {P : Program} {n k : Nat} {env : aE} {H : List ab} {Q : Exit -> aE -> List ab -> Prop} {ops : Array Oper}
def EE (z:Nat)(J:ab->Prop)(H:List ab):Prop:=∀o,H[z]?=some o->J o
def JW (z:Nat)(J:ab->Prop):Option (Nat×ab)->Prop |some (i,o)=>i=z->J o |none=>True
theorem EE.wset {z:Nat}{J:ab->Prop}{H:List ab}{s:Option (Nat×ab)}(h:EE z J H)(hw:JW z J s):EE z J (wset H s):=by
 intro o ho;rcases s with _|⟨i,y⟩
 ·exact h o ho
 ·simp only[Go.Mg.wset,getElem?_set]at ho;by_cases e:i=z
  ·rw[i1_ e]at ho;split at ho
   ·cases ho;exact hw e
   ·cases ho
  ·rw[i0_ e]at ho;exact h o ho
def sw (ops:Array Oper):Nat->Nat->Nat->Bool
 |0,_,_=>false
 | f+1,i,j=>match ops[i]? with
  |some o=>match gn o j with
   |true=>true
   |false=>o.after.toList.any fun e=>Region.binds .any e&&sw ops f e.on j
  |none=>false
def oY (ops:Array Oper)(e i:Nat):Bool:=(range ops.size).all fun j=>blt j e||sw ops 3 j i
inductive sC (P:Program)(ops:Array Oper)(n z e:Nat)(J:ab->Prop):List Nat->aE->List ab->List FP->aE->List ab->Prop
 |nil {env:aE} {H:List ab}:sC P ops n z e J [] env H [] env H
 | run {i:Nat} {l:List Nat} {env env':aE} {H H':List ab} {o:Oper} {x:LV} {F:List Nat} {s:Option (Nat×ab)} {fs:List FP} (ho:ops[i]?=some o) (hw:dw ops o env true) (hd:dg n o.dst=true)
   (h:cj P o env H F s x) (hJ:i<e->JW z J s) (r:sC P ops n z e J l (eS env o.dst x) (wset H s) fs env' H'):sC P ops n z e J (i::l) env H (⟨F,i9 s⟩::fs) env' H'
 | skip {i:Nat} {l:List Nat} {env env':aE} {H H':List ab} {o:Oper} {fs:List FP} (ho:ops[i]?=some o) (hw:dw ops o env false) (hd:dg n o.dst=true)
   (r:sC P ops n z e J l (eS env o.dst (.tup [])) H fs env' H'):sC P ops n z e J (i::l) env H (⟨[],none⟩::fs) env' H'
 | look {i:Nat} {l:List Nat} {env env':aE} {H H':List ab} {o:Oper} {x:LV} {fs:List FP} (ho:ops[i]?=some o) (hw:dw ops o env true) (hd:dg n o.dst=true) (hb:oY ops e i=true)
   (h:∀H',H'.length=H.length->EE z J H'->aa P o env H' (Is x H')) (r:sC P ops n z e J l (eS env o.dst x) H fs env' H'):sC P ops n z e J (i::l) env H (⟨[],none⟩::fs) env' H'
def kF (P:Program)(ops:Array Oper)(n z e:Nat)(J:ab->Prop)(l:List Nat)(env:aE)(H:List ab)(Q:List FP->aE->List ab->Prop):Prop:=
 ∃fs env' H',sC P ops n z e J l env H fs env' H'/\Q fs env' H'
def LF (P:Program)(ops:Array Oper)(n:Nat)(l:List Nat)(env:aE)(H:List ab)(Q:List FP->aE->List ab->Prop):Prop:=kF P ops n 0 0 (fun _=>True) l env H Q
theorem kF.nil {z e:Nat}{J:ab->Prop}{Q:List FP->aE->List ab->Prop}(h:Q [] env H):kF P ops n z e J [] env H Q:=⟨[],env,H,.nil,h⟩
theorem kF.is {z e:Nat}{l:List Nat}{Q:List FP->aE->List ab->Prop}(ho:ops[i]?=some o)(hg:o.guard=none)(hd:dg n o.dst=true)
  (h:cj P o env H F s x) (hJ:i<e->JW z J s) (hH:wset H s=H1) (hr:kF P ops n z e J l (eS env o.dst x) H1 fun fs env H=>Q (⟨F,i9 s⟩::fs) env H):kF P ops n z e J (i::l) env H Q:=by
 subst hH;obtain⟨fs,env',H',r,q⟩:=hr;exact⟨_,env',H',.run ho (.inl ⟨hg,rfl⟩) hd h hJ r,q⟩
theorem kF.looks {z e:Nat}{l:List Nat}{Q:List FP->aE->List ab->Prop}(ho:ops[i]?=some o)(hg:o.guard=none)(hd:dg n o.dst=true)(hb:oY ops e i=true)
  (h:∀H',H'.length=H.length->EE z J H'->aa P o env H' (Is x H')) (hr:kF P ops n z e J l (eS env o.dst x) H fun fs env H=>Q (⟨[],none⟩::fs) env H):kF P ops n z e J (i::l) env H Q:=by
 obtain⟨fs,env',H',r,q⟩:=hr;exact⟨_,env',H',.look ho (.inl ⟨hg,rfl⟩) hd hb h r,q⟩
theorem LF.nil {Q:List FP->aE->List ab->Prop}(h:Q [] env H):LF P ops n [] env H Q:=⟨[],env,H,.nil,h⟩
theorem LF.is {l:List Nat}{Q:List FP->aE->List ab->Prop}(ho:ops[i]?=some o)(hg:o.guard=none)(hd:dg n o.dst=true)
  (h:cj P o env H F s x) (hH:wset H s=H1) (hr:LF P ops n l (eS env o.dst x) H1 fun fs env H=>Q (⟨F,i9 s⟩::fs) env H):LF P ops n (i::l) env H Q:=by
 subst hH;obtain⟨fs,env',H',r,q⟩:=hr;exact⟨_,env',H',.run ho (.inl ⟨hg,rfl⟩) hd h (fun h=>absurd h (Nat.not_lt_zero _)) r,q⟩
theorem LF.nop {l:List Nat}{Q:List FP->aE->List ab->Prop}(ho:ops[i]?=some o)(hg:o.guard=none)(hd:dg n o.dst=true)
  (h:∀H,aa P o env H (Is x H)) (hr:LF P ops n l (eS env o.dst x) H fun fs env H=>Q (⟨[],none⟩::fs) env H):LF P ops n (i::l) env H Q:=
 LF.is (F:=[]) (s:=none) ho hg hd (fun H' _=>h H') rfl hr
theorem LF.guarded {l:List Nat}{j t:Nat}{Q:List FP->aE->List ab->Prop}(ho:ops[i]?=some o)(hg:o.guard=some (j,b))
  (ht:(ops[j]?).bind (·.dst)=some t) (hb:env.get t=some (.p (.bool b))) (hd:dg n o.dst=true)
  (h:cj P o env H F s x) (hH:wset H s=H1) (hr:LF P ops n l (eS env o.dst x) H1 fun fs env H=>Q (⟨F,i9 s⟩::fs) env H):LF P ops n (i::l) env H Q:=by
 subst hH;obtain⟨fs,env',H',r,q⟩:=hr;exact⟨_,env',H',.run ho (.inr (.inl ⟨j,t,b,b,hg,ht,hb,by simp⟩)) hd h (fun h=>absurd h (Nat.not_lt_zero _)) r,q⟩
theorem LF.skipped {l:List Nat}{j t:Nat}{Q:List FP->aE->List ab->Prop}(ho:ops[i]?=some o)(hg:o.guard=some (j,b))
  (ht:(ops[j]?).bind (·.dst)=some t) (hb:env.get t=some (.p (.bool c))) (hbc:c= !b) (hd:dg n o.dst=true)
  (hr:LF P ops n l (eS env o.dst (.tup [])) H fun fs env H=>Q (⟨[],none⟩::fs) env H):LF P ops n (i::l) env H Q:=by
 obtain⟨fs,env',H',r,q⟩:=hr;exact⟨_,env',H',.skip ho (.inr (.inl ⟨j,t,c,b,hg,ht,hb,by subst hbc;cases b <;>rfl⟩)) hd r,q⟩
theorem LF.skippedU {l:List Nat}{j t:Nat}{Q:List FP->aE->List ab->Prop}(ho:ops[i]?=some o)(hg:o.guard=some (j,b))
  (ht:(ops[j]?).bind (·.dst)=some t) (hb:env.get t=some (.tup [])) (hd:dg n o.dst=true)
  (hr:LF P ops n l (eS env o.dst (.tup [])) H fun fs env H=>Q (⟨[],none⟩::fs) env H):LF P ops n (i::l) env H Q:=by
 obtain⟨fs,env',H',r,q⟩:=hr;exact⟨_,env',H',.skip ho (.inr (.inr ⟨j,t,b,hg,ht,hb,rfl⟩)) hd r,q⟩
def qd (a b:FP):Bool:=
 (match a.wr with|some i=>b.rd.contains i||b.wr==some i|none=>false)||(match b.wr with|some i=>a.rd.contains i|none=>false)
def vK (ops:Array Oper)(j:Nat)(b:FP):List FP->Nat->Bool
 |[],_=>true
 |a::r,i=>(if blt i j then(if qd a b then sw ops 3 j i else true)else true)&&vK ops j b r (i+1)
def rC (ops:Array Oper)(fs:List FP):List FP->Nat->Bool
 |[],_=>true
 |b::r,j=>(match b.wr with|some i=>b.rd.contains i|none=>true)&&vK ops j b fs 0&&rC ops fs r (j+1)
def DZ (ops:Array Oper)(fs:List FP):Bool:=rC ops fs fs 0
theorem Bj {b:FP}:∀{l:List FP} {s:Nat},vK ops j b l s=true->∀(i:Nat) (a:FP),l[i]?=some a->s+i<j->qd a b=true->sw ops 3 j (s+i)=true:=by
 intro l
 induction l with
 |nil=>intro s _ i a h;simp at h
 | cons c r ih=>
  intro s h i a hi hlt hc;simp only[vK,Bool.and_eq_true]at h
  cases i with
  |zero=>
   simp at hi;subst hi;have h1:=h.1;rw[i1_ (by simpa using hlt),i1_ hc]at h1;simpa using h1
  |succ i=>
   have:=ih h.2 i a (by simpa using hi) (by omega) hc;rw[show s+(i+1)=s+1+i by omega];exact this
theorem yZ {fs:List FP}:∀{l:List FP} {s:Nat},rC ops fs l s=true->∀(j:Nat) (b:FP),l[j]?=some b->
  (∀i,b.wr=some i->i∈b.rd)/\∀(i:Nat) (a:FP),fs[i]?=some a->i<s+j->qd a b=true->sw ops 3 (s+j) i=true:=by
 intro l
 induction l with
 |nil=>intro s _ i a h;simp at h
 | cons c r ih=>
  intro s h j b hj;simp only[rC,Bool.and_eq_true]at h
  cases j with
  |zero=>
   simp at hj;subst hj;refine⟨fun i hi=>by have:=h.1.1;rw[hi]at this;simpa using this,fun i a hi hlt hc=>?_⟩;have:=Bj h.1.2 i a hi (by omega) hc;simpa using this
  |succ j=>
   have:=ih h.2 j b (by simpa using hj);rw[show s+(j+1)=s+1+j by omega];exact this
theorem pw {p:Nat->Prop}(hp:∀(i:Nat) (o:Oper),p i->ops[i]?=some o->∀e∈o.after,Region.binds .any e=true->p e.on) :
  ∀(f i j:Nat),sw ops f i j=true->∀o,ops[i]?=some o->(∀e∈o.after,Region.binds .any e=true->p e.on)->p j:=by
 intro f
 induction f with
 |zero=>intro i j h;cases h
 | succ f ih=>
  intro i j h o ho hpre;simp only[sw,ho]at h;split at h
  ·rename_i hd;obtain⟨e,he,hb,rfl⟩:=fC hd;exact hpre e he hb
  ·simp only[any_eq_true,Bool.and_eq_true]at h;obtain⟨e,he,hb,hr⟩:=h;have hpe:=hpre e (by simpa using he) hb
   cases hoe:ops[e.on]? with
   |none=>cases f <;>simp[sw,hoe]at hr
   |some oe=>exact ih e.on j hr oe hoe fun e' he' hb'=>hp e.on oe hpe hoe e' he' hb'
theorem sC.steps {z e:Nat}{X0:Nat->LV}{G0:Nat->List ab}{env0:aE}:∀{l:List Nat} {s:Nat} {env env':aE} {H H':List ab} {fs:List FP},sC P ops n z e J l env H fs env' H'->l=(range' s l.length)->
  sD P ops n [] env0 X0 s env->G0 s=H->
  ∃ (X:Nat->LV) (G:Nat->List ab) (Wr:Nat->Option (Nat×ab)),(∀j,j<s->X j=X0 j)/\(∀j,j<=s->G j=G0 j)/\fs.length=l.length/\G (s+l.length)=H'/\sD P ops n [] env0 X (s+l.length) env'/\
   ∀ i,s<=i->i<s+l.length->∃o envi F,ops[i]?=some o/\dg n o.dst=true/\sD P ops n [] env0 X i envi/\fs[i-s]?=some ⟨F,i9 (Wr i)⟩/\G (i+1)=wset (G i) (Wr i)/\(i<e->JW z J (Wr i))/\
    ((dw ops o envi true/\cj P o envi (G i) F (Wr i) (X i))\/(dw ops o envi false/\X i=.tup []/\Wr i=none/\F=[])\/
     (dw ops o envi true/\Wr i=none/\oY ops e i=true/\∀H',H'.length=(G i).length->EE z J H'->aa P o envi H' (Is (X i) H'))):=by
 intro l
 induction l generalizing X0 G0 with
 |nil=>
  intro s env env' H H' fs h _ hs hG;cases h;exact⟨X0,G0,fun _=>none,fun _ _=>rfl,fun _ _=>rfl,rfl,by simpa using hG,by simpa using hs,fun i h1 h2=>by simp at h2;omega⟩
 | cons i l ih=>
  intro s env env' H H' fs h hl hs hG;rw[length_cons,List.range'_succ,List.cons.injEq]at hl;obtain⟨rfl,hl⟩:=hl
  have go:∀(o:Oper) (x:LV) (F:List Nat) (w:Option (Nat×ab)) (fs':List FP),ops[i]?=some o->dg n o.dst=true->fs=⟨F,i9 w⟩::fs'->sC P ops n z e J l (eS env o.dst x) (wset H w) fs' env' H'->(i<e->JW z J w)->
    ((dw ops o env true/\cj P o env H F w x)\/(dw ops o env false/\x=.tup []/\w=none/\F=[])\/
     (dw ops o env true/\w=none/\oY ops e i=true/\∀H',H'.length=H.length->EE z J H'->aa P o env H' (Is x H')))->
    ∃ (X:Nat->LV) (G:Nat->List ab) (Wr:Nat->Option (Nat×ab)),(∀j,j<i->X j=X0 j)/\(∀j,j<=i->G j=G0 j)/\fs.length=(i::l).length/\G (i+(i::l).length)=H'/\sD P ops n [] env0 X (i+(i::l).length) env'/\
     ∀ j,i<=j->j<i+(i::l).length->∃o envi F,ops[j]?=some o/\dg n o.dst=true/\sD P ops n [] env0 X j envi/\fs[j-i]?=some ⟨F,i9 (Wr j)⟩/\G (j+1)=wset (G j) (Wr j)/\(j<e->JW z J (Wr j))/\
      ((dw ops o envi true/\cj P o envi (G j) F (Wr j) (X j))\/(dw ops o envi false/\X j=.tup []/\Wr j=none/\F=[])\/
       (dw ops o envi true/\Wr j=none/\oY ops e j=true/\∀H',H'.length=(G j).length->EE z J H'->aa P o envi H' (Is (X j) H'))):=by
   intro o x F w fs' ho hd hfs r hJw hx
   let X1:Nat->LV:=fun j=>if j=i then x else X0 j
   let G1:Nat->List ab:=fun j=>if j=i+1 then wset H w else G0 j
   have h1:∀j,j<i->X1 j=X0 j:=fun j hj=>by simp[X1];omega
   have g1:∀j,j<=i->G1 j=G0 j:=fun j hj=>by simp[G1];omega
   have hs1:sD P ops n [] env0 X1 (i+1) (eS env o.dst x):=⟨fun t y ht=>by
    have old:env.get t=some y->o.dst≠some t->(∃j o,j<i+1/\ops[j]?=some o/\o.dst=some t/\X1 j=y)\/(env0.get t=some y/\∀j o,j<i+1->ops[j]?=some o->o.dst≠some t):=by
     intro ht hne;rcases hs.at_ t y ht with⟨j,o',hj,ho',hd',hX⟩|⟨h0,hno⟩
     ·exact .inl ⟨j,o',by omega,ho',hd',by rw[h1 j hj];exact hX⟩
     ·refine .inr ⟨h0,fun j o' hj ho'=>?_⟩;by_cases e:j=i
      ·subst e;rw[ho]at ho';cases ho';exact hne
      ·exact hno j o' (by omega) ho'
    cases hdst:o.dst with
    |none=>rw[hdst]at ht;exact old ht (by simp[hdst])
    |some d=>
     rw[hdst]at ht;simp only[eS,aE.get_cons]at ht;split at ht
     ·rename_i e;subst e;cases ht;exact .inl ⟨i,o,by omega,ho,hdst,by simp[X1]⟩
     ·rename_i e;exact old ht (by rw[hdst];simpa using e)⟩
   obtain⟨X,G,Wr,hX,hGs,hlen,hfin,hst,hall⟩:=ih (X0:=X1) (G0:=G1) (s:=i+1) r hl hs1 (by simp[G1])
   let Wr1:Nat->Option (Nat×ab):=fun j=>if j=i then w else Wr j
   refine⟨X,G,Wr1,fun j hj=>by rw[hX j (by omega),h1 j hj],fun j hj=>by rw[hGs j (by omega),g1 j hj],by rw[hfs];simp[hlen],?_,?_,fun j hij hj=>?_⟩
   ·rw[length_cons,show i+(l.length+1)=i+1+l.length by omega];exact hfin
   ·rw[length_cons,show i+(l.length+1)=i+1+l.length by omega];exact hst
   by_cases e:j=i
   ·subst e
    have hXi:X j=x:=by rw[hX j (by omega)];simp[X1]
    have hGi:G j=H:=by rw[hGs j (by omega),g1 j (le_refl _),hG]
    have hWi:Wr1 j=w:=by simp[Wr1]
    refine⟨o,env,F,ho,hd,⟨fun t y ht=>?_⟩,by rw[hfs,hWi];simp,by rw[hWi,hGi,hGs (j+1) (le_refl _)];simp[G1],by rw[hWi];exact hJw,by rw[hXi,hWi,hGi];exact hx⟩;rcases hs.at_ t y ht with⟨j',o',hj',ho',hd',hX'⟩|hh
    ·exact .inl ⟨j',o',hj',ho',hd',by rw[hX j' (by omega),h1 j' hj'];exact hX'⟩
    ·exact .inr hh
   ·obtain⟨o',envi,F',a1,a2,a3,a4,a5,a5',a6⟩:=hall j (by omega) (by rw[length_cons]at hj;omega)
    have hWj:Wr1 j=Wr j:=by simp[Wr1,e]
    refine⟨o',envi,F',a1,a2,a3,?_,by rw[hWj];exact a5,by rw[hWj];exact a5',by rw[hWj];exact a6⟩;rw[hfs,hWj,show j-i=(j-(i+1))+1 by omega];simpa using a4
  cases h with
  |run ho hw hd h hJ r=>exact go _ _ _ _ _ ho hd rfl r hJ (.inl ⟨hw,h⟩)
  |skip ho hw hd r=>exact go _ _ [] none _ ho hd rfl r (fun _=>trivial) (.inr (.inl ⟨hw,rfl,rfl,rfl⟩))
  |look ho hw hd hb h r=>exact go _ _ [] none _ ho hd rfl r (fun _=>trivial) (.inr (.inr ⟨hw,rfl,hb,h⟩))
theorem AF (H:List ab)(s:Option (Nat×ab)):(wset H s).length=H.length:=by
 rcases s with _|⟨i,o⟩ <;>simp[wset]
theorem De {H:List ab}(h:i9 s≠some i):(wset H s)[i]?=H[i]?:=by
 rcases s with _|⟨j,o⟩
 ·rfl
 ·simp only[i9,ne_eq,Option.some.injEq]at h;simp[wset,getElem?_set_ne h]
theorem Jy {H H':List ab}(h:i9 s=some i)(hl:H.length=H'.length):(wset H s)[i]?=(wset H' s)[i]?:=by
 rcases s with _|⟨j,o⟩
 ·cases h
 ·simp only[i9,Option.some.injEq]at h;subst h;simp[wset,getElem?_set,hl]
theorem vv.drawWJ {z e:Nat}(hm:P.follows .mixedOrders=true)(hok:qE ops=true)(hJ0:EE z J H)(h:kF P ops n z e J (range ops.size) env H (fun fs env H=>DZ ops fs=true/\Q .normal env H)) :
  vv P n k ops true env H Q:=by
 obtain⟨fs,env',H9,hc,hfp,hq0⟩:=h;intro a w μ I hn hk Q' hq
 have hrange:range ops.size=range' 0 (range ops.size).length:=by rw[List.length_range,List.range_eq_range']
 obtain⟨X,G,Wr,-,hG0,hfl,hG9,hfin,hall⟩:=hc.steps (X0:=fun _=>.any) (G0:=fun _=>H) (env0:=env) hrange ⟨fun t y ht=>.inr ⟨ht,fun j o hj=>absurd hj (by omega)⟩⟩ rfl;simp only[List.length_range,zero_add,Nat.sub_zero]at hfin hall hG9 hfl;have hG0':G 0=H:=hG0 0 (le_refl _);have hfps:=fun j b (hj:fs[j]?=some b)=>yZ (s:=0) hfp j b hj;simp only[zero_add]at hfps
 have hGlen:∀i,i<=ops.size->(G i).length=H.length:=by
  intro i
  induction i with
  |zero=>intro _;rw[hG0']
  |succ i ih=>
   intro hi;obtain⟨_,_,_,_,_,_,_,hg,_,_⟩:=hall i (zero_le _) (by omega);rw[hg,AF];exact ih (by omega)
 -- no writer of a number between two moments: the same content
 have hGsame:∀(id a b:Nat),a<=b->b<=ops.size->(∀j,a<=j->j<b->i9 (Wr j)≠some id)->(G a)[id]?=(G b)[id]?:=by
  intro id a b
  induction b with
  |zero=>intro h _ _;rw[Nat.le_zero.1 h]
  |succ b ih=>
   intro h hb hno;rcases Nat.lt_or_ge a (b+1)with hlt|hge
   ·rw[ih (by omega) (by omega) fun j h1 h2=>hno j h1 (by omega)];obtain⟨_,_,_,_,_,_,_,hg,_,_⟩:=hall b (zero_le _) (by omega);rw[hg,De (hno b (by omega) (by omega))]
   ·rw[show a=b+1 by omega]
 have hGJ:∀i,i<=e->i<=ops.size->EE z J (G i):=by
  intro i
  induction i with
  |zero=>intro _ _;rw[hG0'];exact hJ0
  |succ i ih=>
   intro h1 h2;obtain⟨_,_,_,_,_,_,_,hg,hj,_⟩:=hall i (zero_le _) (by omega);rw[hg];exact(ih (by omega) (by omega)).wset (hj (by omega))
 have hsp:=fun i oi (hi:ops[i]?=some oi)=>nw (s:=0) hok i oi (by simpa using hi);simp only[zero_add]at hsp;refine⟨hm,?_⟩
 have key:∀(f:Nat) (listed:Array Bool) (a':Act) (w':World) (μ':List ci) (I':Nat->Prop) (Hc:List ab),listed.size=ops.size->listed.toList.count false=f->
   a'.tmps.size=n->a'.defers=[]->St μ' I' w' Hc->cI k μ I w μ' I' w'->
   (Hc.length=H.length/\∀id,∃m,m<=ops.size/\Hc[id]?=(G m)[id]?/\∀j,j<ops.size->i9 (Wr j)=some id->(listed[j]?=some true↔j<m))->
   (∀(j:Nat) (o:Oper),ops[j]?=some o->listed[j]?=some true->∀t,o.dst=some t->∃v,a'.tmps[t]?=some v/\aH μ' I' w' (X j) v)->
   (∀t y,env.get t=some y->(∀(j:Nat) (o:Oper),ops[j]?=some o->listed[j]?=some true->o.dst≠some t)->∃v,a'.tmps[t]?=some v/\aH μ' I' w' y v)->
   (∀(j:Nat) (o:Oper),ops[j]?=some o->listed[j]?=some true->∀e∈o.after,Region.binds .any e=true->listed[e.on]?=some true)->
   wpAny P .any ops Q' f listed a' w':=by
  intro f
  induction f with
  | zero=>
   intro listed a' w' μ' I' Hc hsz hcnt hsize hdef hst hE hD hA hB hC
   have hallL:∀j,j<ops.size->listed[j]?=some true:=by
    intro j hj
    have hj':j<listed.size:=by omega
    rw[Array.getElem?_eq_getElem hj']
    cases hb:listed[j]with
    |true=>rfl
    |false=>
     have hmem:false∈listed.toList:=by rw[<-hb];simp
     have:=List.count_pos_iff.2 hmem;omega
   have hready:Region.ready .any ops listed=[]:=by
    cases hr:Region.ready .any ops listed with
    |nil=>rfl
    |cons i r=>
     exfalso
     have hi:i∈Region.ready .any ops listed:=by rw[hr];exact .head _
     obtain⟨h1,o,h2,_⟩:=mem_ready.1 hi;have hlt:=(Array.getElem?_eq_some_iff.1 h2).1;have:=hallL i hlt;rw[Array.getD_eq_getD_getElem?,this]at h1;cases h1
   have hHc:Hc=H9:=by
    apply List.ext_getElem?;intro id;obtain⟨m,hm,h1,h2⟩:=hD.2 id;rw[h1,<-hG9]
    exact hGsame id m ops.size hm (le_refl _) fun j h3 h4 h5=>by
     have:=(h2 j h4 h5).1 (hallL j h4);omega
   subst hHc;refine⟨hready,hq .normal env' Hc a' w' μ' I' hq0 ⟨hsize,hdef,hst,fun t y ht=>?_⟩ hE⟩;rcases hfin.at_ t y ht with⟨j,o,hj,ho,hd,rfl⟩|⟨h0,hno⟩
   ·exact hA j o ho (hallL j hj) t hd
   ·exact hB t y h0 fun j o ho _=>hno j o (Array.getElem?_eq_some_iff.1 ho).1 ho
  | succ f ih=>
   intro listed a' w' μ' I' Hc hsz hcnt hsize hdef hst hE hD hA hB hC;refine⟨fun hnil=>?_,fun i hi=>?_⟩
   ·exfalso;have hmem:false∈listed.toList:=List.count_pos_iff.1 (by omega);obtain⟨j,hj,hjf⟩:=mem_iff_getElem.1 hmem
    obtain⟨m,hm',hmin⟩:=Ab (p:=fun j=>listed[j]?=some false) ⟨j,by
     rw[Array.getElem?_eq_getElem (by simpa using hj)];simpa using hjf⟩
    have hmlt:m<ops.size:=by have:=(Array.getElem?_eq_some_iff.1 hm').1;omega
    have hr:m∈Region.ready .any ops listed:=mem_ready.2 ⟨by rw[Array.getD_eq_getD_getElem?,hm'];rfl,ops[m],Array.getElem?_eq_getElem hmlt,fun e he hb=>by
     have hlt:=(hsp m _ (Array.getElem?_eq_getElem hmlt)).1 e he hb
     have hes:e.on<listed.size:=by omega
     rw[Array.getD_eq_getD_getElem?,Array.getElem?_eq_getElem hes]
     cases hb':listed[e.on]with
     |true=>rfl
     |false=>
      have:=hmin e.on (by rw[Array.getElem?_eq_getElem hes,hb'])
      omega⟩
    rw[hnil]at hr;cases hr
   ·obtain⟨hun,o,ho,hpre⟩:=mem_ready.1 hi;have hilt:i<ops.size:=(Array.getElem?_eq_some_iff.1 ho).1
    have hif:listed[i]?=some false:=by
     have hi':i<listed.size:=by omega
     rw[Array.getElem?_eq_getElem hi'];rw[Array.getD_eq_getD_getElem?,Array.getElem?_eq_getElem hi']at hun;simpa using hun
    obtain⟨o',envi,F,ho',hd,hst',hfi,hGi,-,hcase⟩:=hall i (zero_le _) hilt;rw[ho]at ho';cases ho'
    have hpre':∀j,gn o j=true->listed[j]?=some true:=by
     intro j hj;obtain⟨e,he,hb,rfl⟩:=fC hj;have:=hpre e he hb;rw[Array.getD_eq_getD_getElem?]at this
     cases hx:listed[e.on]? with
     |none=>rw[hx]at this;cases this
     |some b=>rw[hx]at this;simpa using this
    -- what the slots that it looks at hold
    have look:∀t∈o.looksAt ops,∀y,envi.get t=some y->∃v,a'.tmps[t]?=some v/\aH μ' I' w' y v:=by
     intro t ht y hy;rcases hst'.at_ t y hy with⟨j,oj,hj,hoj,hdj,rfl⟩|⟨h0,hno⟩
     ·have hp:=(hsp i o ho).2 j oj hoj (by omega);simp only[mu,hdj,Bool.and_eq_true]at hp;have hp2:=hp.2;rw[i1_ (by simpa using ht),i1_ (by simpa using hj)]at hp2;exact hA j oj hoj (hpre' j hp2) t hdj
     ·refine hB t y h0 fun j oj hoj hl hdj=>?_;by_cases hji:j<i
      ·exact hno j oj hji hoj hdj
      ·have hne:i≠j:=fun e=>by subst e;rw[hif]at hl;cases hl
       have hp:=(hsp i o ho).2 j oj hoj hne;simp only[mu,hdj,Bool.and_eq_true]at hp;have hp2:=hp.2;rw[i1_ (by simpa using ht),i0_ (by simpa using hji)]at hp2;obtain⟨e,he,hb,he'⟩:=fC hp2;have:=hC j oj hoj hl e he hb;rw[he',hif]at this;cases this
    have hwant:∀b,dw ops o envi b->Region.wanted o (yielded ops a'.tmps)=b:=by
     intro b hb;rcases hb with⟨hg,rfl⟩|⟨j,t,c,want,hg,hjt,hc',rfl⟩|⟨j,t,want,hg,hjt,hc',rfl⟩
     ·simp[Region.wanted,hg]
     ·have htl:t∈o.looksAt ops:=by simp[Oper.looksAt,hg,hjt]
      obtain⟨v,hv,hr⟩:=look t htl _ hc'
      cases hr with
      |p hr=>cases hr;simp[Region.wanted,hg,yielded,hjt,hv]
     ·have htl:t∈o.looksAt ops:=by simp[Oper.looksAt,hg,hjt]
      obtain⟨v,hv,hr⟩:=look t htl _ hc'
      cases hr with
      |tup hl hr=>simp[Region.wanted,hg,yielded,hjt,hv]
    have hpre3:∀e∈o.after,Region.binds .any e=true->listed[e.on]?=some true:=fun e he hb=>hpre' e.on (by
     simp only[gn,any_eq_true,Bool.and_eq_true]
     exact⟨e,by simpa using he,hb,by simp⟩)
    have hclosed:∀(i:Nat) (o:Oper),listed[i]?=some true->ops[i]?=some o->∀e∈o.after,Region.binds .any e=true->listed[e.on]?=some true:=fun i o hl ho=>hC i o ho hl
    -- writers of what it looks at: those ahead of it are listed, those oY it are not
    have hwr:∀id∈F,∀j,j<ops.size->i9 (Wr j)=some id->(listed[j]?=some true↔j<i):=by
     intro id hid j hj hw;obtain⟨oj,_,Fj,hoj,_,_,hfj,_,_,_⟩:=hall j (zero_le _) hj
     have hcf:qd ⟨Fj,i9 (Wr j)⟩ ⟨F,i9 (Wr i)⟩=true:=by
      simp only[qd,hw,Bool.or_eq_true];exact .inl<|.inl (by simpa using hid)
     have hcf':qd ⟨F,i9 (Wr i)⟩ ⟨Fj,i9 (Wr j)⟩=true:=by
      simp only[qd,hw,Bool.or_eq_true];exact .inr (by simpa using hid)
     constructor
     ·intro hl;rcases Nat.lt_trichotomy j i with h|h|h
      ·exact h
      ·subst h;rw[hif]at hl;cases hl
      ·exfalso;have hr:=(hfps j _ hfj).2 i _ hfi h hcf';have:=pw (p:=fun j=>listed[j]?=some true) hclosed 3 j i hr oj hoj (hC j oj hoj hl);rw[hif]at this;cases this
     ·intro hlt;have hr:=(hfps i _ hfi).2 j _ hfj hlt hcf;exact pw (p:=fun j=>listed[j]?=some true) hclosed 3 i j hr o ho hpre3
    have hagree:pG F (G i) Hc:=⟨by rw[hD.1,hGlen i (by omega)],fun id hid=>by
     obtain⟨m,hm,h1,h2⟩:=hD.2 id;rw[h1];rcases Nat.le_total m i with hmi|hmi
     ·exact hGsame id m i hmi (by omega) fun j h3 h4 h5=>by
       have h6:=(hwr id hid j (by omega) h5).2 h4;have:=(h2 j (by omega) h5).1 h6;omega
     ·exact(hGsame id i m hmi hm fun j h3 h4 h5=>by
       have h6:=(h2 j (by omega) h5).2 h4;have:=(hwr id hid j (by omega) h5).1 h6
       omega).symm⟩
    -- what follows
    have follow:∀v w'' μ'' I'',St μ'' I'' w'' (wset Hc (Wr i))->aH μ'' I'' w'' (X i) v->cI μ'.length μ' I' w' μ'' I'' w''->
      wpAny P .any ops Q' f (listed.setIfInBounds i true) (a'.put o.dst v) w'':=by
     intro v w'' μ'' I'' hst2 hv hE2;have hkl:k<=μ'.length:=hE.len'
     have hget:∀j,(listed.setIfInBounds i true)[j]?=some true↔j=i\/listed[j]?=some true:=by
      intro j;by_cases e:j=i
      ·subst e;simp[show j<listed.size by omega]
      ·rw[Array.getElem?_setIfInBounds_ne (fun h=>e h.symm)];simp[e]
     have hputs:∀t,o.dst≠some t->(a'.put o.dst v).tmps[t]?=a'.tmps[t]?:=by
      intro t ht
      cases hdst:o.dst with
      |none=>rfl
      |some d=>simp only[Act.put];rw[Array.getElem?_setIfInBounds_ne (by rw[hdst]at ht;simpa using ht)]
     refine ih _ _ _ μ'' I'' _ (by simp[hsz]) (count_set hcnt hif) ?_ ?_ hst2 (hE.trans (hE2.weak hkl)) ⟨by rw[AF,hD.1],fun id=>?_⟩ ?_ ?_ ?_
     ·cases o.dst <;>simp[Act.put,hsize]
     ·cases o.dst <;>simp[Act.put,hdef]
     ·by_cases hw:i9 (Wr i)=some id
      ·have hidF:id∈F:=(hfps i _ hfi).1 id hw;refine⟨i+1,by omega,?_,fun j hj hwj=>?_⟩
       ·rw[hGi];exact Jy hw (by rw[hD.1,hGlen i (by omega)])
       ·rw[hget j,hwr id hidF j hj hwj];omega
      ·obtain⟨m,hm,h1,h2⟩:=hD.2 id;refine⟨m,hm,by rw[De hw,h1],fun j hj hwj=>?_⟩
       have hji:j≠i:=fun e=>by subst e;exact hw hwj
       rw[hget j,<-h2 j hj hwj];simp[hji]
     ·intro j oj hoj hl t hdj;rcases(hget j).1 hl with e|hl
      ·subst e;rw[ho]at hoj;cases hoj;refine⟨v,?_,hv⟩;have:=c9 hd t hdj;simp[hdj,Act.put,hsize,this]
      ·have hne:i≠j:=fun e=>by subst e;rw[hif]at hl;cases hl
       have hp:=(hsp i o ho).2 j oj hoj hne;simp only[mu,hdj,Bool.and_eq_true]at hp;obtain⟨u,hu,hr⟩:=hA j oj hoj hl t hdj;exact⟨u,by rw[hputs t (by simpa using hp.1)];exact hu,hr.ext hE2⟩
     ·intro t y hy hno;have hnd:o.dst≠some t:=hno i o ho ((hget i).2 (.inl rfl));obtain⟨u,hu,hr⟩:=hB t y hy fun j oj hoj hl=>hno j oj hoj ((hget j).2 (.inr hl));exact⟨u,by rw[hputs t hnd];exact hu,hr.ext hE2⟩
     ·intro j oj hoj hl e he hb;rcases(hget j).1 hl with e'|hl
      ·subst e';rw[ho]at hoj;cases hoj
       exact(hget _).2 (.inr (hpre' e.on (by
        simp only[gn,any_eq_true,Bool.and_eq_true]
        exact⟨e,by simpa using he,hb,by simp⟩)))
      ·exact(hget _).2 (.inr (hC j oj hoj hl e he hb))
    unfold wpOp;simp only[ho];rcases hcase with⟨hw',hop⟩|⟨hw',hany,hwn,-⟩|⟨hw',hwn,hbh,hop⟩
    ·rw[hwant true hw'];simp only[if_true];refine .inl<|hop Hc hagree a' w' μ' I' hst (fun t ht y hy=>look t (mem_append_left _ (List.mem_filterMap.2 ⟨.tmp t,by simpa using ht,rfl⟩)) y hy) _ _ ?_;rintro x H' v w'' μ'' I'' ⟨rfl,rfl⟩ hs2 hv2 hE2;exact follow v w'' μ'' I'' hs2 hv2 hE2
    ·rw[hwant false hw'];simp only[Bool.false_eq_true,if_false];exact follow undef w' μ' I' (by rw[hwn];exact hst) (by rw[hany];exact(.tup Z fun i c v hc=>by simp at hc)) (cI.refl _ _ _ _ (le_refl _))
    ·rw [hwant true hw'];simp only[if_true]
     have hjz:EE z J Hc:=by
      obtain⟨m,hm',h1,h2⟩:=hD.2 z;intro y hy;rw[h1]at hy;rcases Nat.le_total m e with hme|hme
      ·exact hGJ m hme hm' y hy
      ·refine hGJ e (le_refl _) (by omega) y ?_;rw[hGsame z e m hme hm' fun j h3 h4 h5=>?_];exact hy;have hl:=(h2 j (by omega) h5).2 h4;obtain⟨oj,_,_,hoj,_⟩:=hall j (zero_le _) (by omega);have hbj:=List.all_eq_true.1 hbh j (List.mem_range.2 (by omega));simp only[Bool.or_eq_true]at hbj;rcases hbj with hbj|hbj
       ·have:j<e:=by simpa using hbj
        omega
       ·have:=pw (p:=fun j=>listed[j]?=some true) hclosed 3 j i hbj oj hoj (hC j oj hoj hl);rw[hif]at this;cases this
     refine .inl (hop Hc (by rw[hD.1,hGlen i (by omega)]) hjz a' w' μ' I' hst (fun t ht y hy=>look t (mem_append_left _ (List.mem_filterMap.2 ⟨.tmp t,by simpa using ht,rfl⟩)) y hy) _ _ ?_);rintro x H' v w'' μ'' I'' ⟨rfl,rfl⟩ hs2 hv2 hE2;exact follow v w'' μ'' I'' (by rw[hwn];exact hs2) hv2 hE2
 have hE0:cI k μ I w μ I { w with drawn:=w.drawn+1}:=
  ⟨fun _ B _ h=>⟨B,h,le_refl _,fun _=>.inl rfl,fun _ _=>rfl⟩,hk,hk,rfl,rfl,rfl,le_refl _,fun _ h=>⟨h,rfl⟩,fun _ c _ _ h=>⟨c,h,rfl⟩,fun _ h=>.inl h,fun _ h=>.inl h,fun _ _ _=>rfl⟩
 have hE1:cI μ.length μ I w μ I { w with drawn:=w.drawn+1}:=
  ⟨fun _ B _ h=>⟨B,h,le_refl _,fun _=>.inl rfl,fun _ _=>rfl⟩,le_refl _,le_refl _,rfl,rfl,rfl,le_refl _,fun _ h=>⟨h,rfl⟩,fun _ c _ _ h=>⟨c,h,rfl⟩,fun _ h=>.inl h,fun _ h=>.inl h,fun _ _ _=>rfl⟩
 have hst0:St μ I { w with drawn:=w.drawn+1} H:=⟨hn.st.len,hn.st.inj,hn.st.lt,hn.st.off,hn.st.ilt,fun i o b ho hb=>(hn.st.objs i o b ho hb).ext hE1 fun _ _=>rfl⟩;refine key ops.size _ a _ μ I H (by simp) (by simp) hn.size hn.defers hst0 hE0 ⟨rfl,fun id=>⟨0,zero_le _,by rw[hG0'],fun j hj _=>by simp[Array.getElem?_replicate]⟩⟩ ?_ ?_ ?_
 ·intro j o ho hl;simp[Array.getElem?_replicate]at hl
 ·intro t y hy _;obtain⟨v,hv,hr⟩:=hn.env t y hy;exact⟨v,hv,hr.ext hE1⟩
 ·intro j o ho hl;simp[Array.getElem?_replicate]at hl
theorem vv.drawW (hm:P.follows .mixedOrders=true)(hok:qE ops=true)(h:LF P ops n (range ops.size) env H (fun fs env H=>DZ ops fs=true/\Q .normal env H)) :
  vv P n k ops true env H Q:=vv.drawWJ hm hok (fun _ _=>trivial) h
end
theorem LW.drawWJ {P:Program}{n k:Nat}{env:aE}{H:List ab}{Q:Exit->aE->List ab->Prop}{ops:Array Oper}{id:Nat}{z e:Nat}{J:ab->Prop}(hm:P.follows .mixedOrders=true)(hok:qE ops=true)(hJ0:EE z J H)
  (h:kF P ops n z e J (range ops.size) env H (fun fs env H=>DZ ops fs=true/\Q .normal env H)):LW P n k (.region id ops true) env H Q:=(vv.drawWJ hm hok hJ0 h).toLW
theorem LW.drawW {P:Program}{n k:Nat}{env:aE}{H:List ab}{Q:Exit->aE->List ab->Prop}{ops:Array Oper}{id:Nat}(hm:P.follows .mixedOrders=true)(hok:qE ops=true)(h:LF P ops n (range ops.size) env H (fun fs env H=>DZ ops fs=true/\Q .normal env H)) :
  LW P n k (.region id ops true) env H Q:=(vv.drawW hm hok h).toLW
section
variable {μ : List ci} {I : Nat -> Prop} {w : World} {H : List ab}
theorem St.slot (hs:St μ I w H):St (μ++[⟨none,0⟩]) I w (H++[.slot])/\cI μ.length μ I w (μ++[⟨none,0⟩]) I w:=by
 obtain⟨h1,h2⟩:=hs.lazy 1;refine⟨{ len:=by simpa using h1.len,inj:=h1.inj,lt:=h1.lt,off:=h1.off,ilt:=h1.ilt,objs:=fun i o B ho hB=>?_},h2⟩;rcases Nat.lt_trichotomy i H.length with h|h|h
 ·rw[getElem?_append_left h]at ho;exact h1.objs i o B (by rw[getElem?_append_left h];exact ho) hB
 ·subst h;rw[getElem?_append_right (le_refl _)]at ho;simp at ho;subst ho;rw[<-hs.len,getElem?_append_right (le_refl _)]at hB;simp at hB;subst hB;exact .slot
 ·rw[List.getElem?_eq_none (by simp;omega)]at ho;cases ho
theorem lO (hs:St μ I w H)(h:br H id=some .slot):μ[id]?=some ⟨none,0⟩:=by
 rw[bj]at h;have hl:=(List.getElem?_eq_some_iff.1 h).1;have hB:μ[id]?=some (μ[id]'(by rw[hs.len];exact hl)):=getElem?_eq_getElem _;have:=hs.objs id _ _ h hB;rw[hB];generalize μ[id]'(by rw[hs.len];exact hl)=B at this;cases this;rfl
theorem St.come (hs:St μ I w H)(h:br H id=some .slot)(b:Obj)(o:ab)(ho:∀μ' w',cI μ.length μ I w μ' I w'->w'.heap[w.heap.size]?=some b->dN μ' I w' o ⟨some w.heap.size,0⟩) :
  St (μ.set id ⟨some w.heap.size,0⟩) I (w.alloc b) (H.set id o)/\cI μ.length μ I w (μ.set id ⟨some w.heap.size,0⟩) I (w.alloc b):=
 hs.growS (lO hs h) (le_refl _) (.inl rfl) (fun _=>rfl) (.inr (le_refl _)) (by simp) (fun c hc _=>heap_alloc_old w b hc) (by simp) rfl rfl rfl
  (fun c e f hc=>by have:=(Array.getElem?_eq_some_iff.1 hc).1;omega)
  fun μ' hE=>ho μ' _ hE (heap_alloc_new w b)
theorem St.slotVec (hs:St μ I w H)(h:br H id=some .slot)(m:Nat):St μ I w (H.set id (.vec m [])) where
 len:=by simp[hs.len]
 inj:=hs.inj
 lt:=hs.lt
 off:=hs.off
 ilt:=hs.ilt
 objs:=fun i o B ho hB=>by
  rw[getElem?_set]at ho;split at ho
  ·rename_i e;subst e;split at ho
   ·cases ho;rw[lO hs h]at hB;cases hB;exact .vecE
   ·cases ho
  ·exact hs.objs i o B ho hB
end
section
variable {P : Program} {o : Oper} {env : aE} {H : List ab} {n k : Nat} {Q : Exit -> aE -> List ab -> Prop}
theorem bY.slot {H':List ab}(hH:jF H .slot=some H'):bY k env H env H':=fun n μ I w a hn hk=>by
 have e:=dC hH;subst e;obtain⟨h1,h2⟩:=hn.st.slot;exact⟨_,_,⟨hn.size,hn.defers,h1,fun t x ht=>let ⟨v,hv,hr⟩:=hn.env t x ht;⟨v,hv,hr.ext h2⟩⟩,h2.weak hk⟩
theorem tS (hs:St μ I w H)(h:br H id=some .slot)(_:Nat)(q:ci):(μ.set id q)[id]?=some q:=by
 rw[getElem?_set_self];rw[bj]at h;rw[hs.len];exact(List.getElem?_eq_some_iff.1 h).1
theorem aa.allocS (ho:o.op=.alloc t)(hz:cL P t=some cs)
  (hid:br H id=some .slot) (hH:bK H id (.box cs)=some H'):aa P o env H (Is (.ptr id 0) H'):=
 aa.step fun a w μ I hs he=>by
  obtain⟨hH',-⟩:=bH hH;subst hH';unfold cL at hz;split at hz
  ·rename_i i hi;split at hz
   ·rename_i z hz0;obtain⟨h1,h2,h3⟩:=ca (μ:=μ) (I:=I) (w:=w) hz;obtain⟨hs',hE⟩:=hs.come hid (.cells z.cells t) (.box cs) fun μ' w' hE hb=>.box hb (by simpa using h1) (fun u hu=>h2 u (by simpa using hu)) fun i c v hc hv=>(h3 i c v hc (by simpa using hv)).ext hE;exact⟨.pointer (some ⟨w.heap.size,0,none⟩),_,_,by simp[execOp,ho,Instr.alloc,zeroValue,typeInfo,hi,hz0,newVar,newRow],hs',.ptr (tS hs hid w.heap.size _),hE⟩
   ·cases hz
  ·cases hz
theorem aa.boxS {x:Operand}(ho:o.op=.box t x)(hx:bf env x=some l)(hc:iX l=some cs)
  (hid:br H id=some .slot) (hH:bK H id (.box cs)=some H'):aa P o env H (Is (.ptr id 0) H'):=
 aa.step fun a w μ I hs he=>by
  have hr:=he.ev (x:=x) (by simp[ho,Op.operands]) hx;obtain⟨h1,h2,h3⟩:=jG hc hr;obtain⟨hH',-⟩:=bH hH;subst hH';obtain⟨hs',hE⟩:=hs.come hid (.cells (a.eval x).cells t) (.box cs) fun μ' w' hE hb=>.box hb h1 h2 fun i c v hc hv=>(h3 i c v hc hv).ext hE;exact⟨.pointer (some ⟨w.heap.size,0,none⟩),_,_,by simp[execOp,ho,Instr.box,newVar,newRow],hs',.ptr (tS hs hid w.heap.size _),hE⟩
theorem aa.makeMapS (ho:o.op=.makeMap t none)(hid:br H id=some .slot)(hH:bK H id (.map [])=some H'):aa P o env H (Is (.map id) H'):=
 aa.step fun a w μ I hs he=>by
  obtain⟨hH',-⟩:=bH hH;subst hH';obtain⟨hs',hE⟩:=hs.come hid (.map #[] 0) (.map []) fun μ' w' hE hb=>.map hb rfl (fun i c e hc=>by simp at hc) rfl (fun i e he=>by simp at he);exact⟨.map (some w.heap.size),_,_,by simp[execOp,ho,Instr.makeMap],hs',.map (tS hs hid w.heap.size _),hE⟩
theorem aa.appendS {x y:Operand}
  (ho:o.op=.call { callee:=.builtin .append,args:=#[x,y],argTypes:=#[t,t]}) (hx:bf env x=some .zs) (hid:br H id=some .slot)
  (hy:bf env y=some l) (hc:iy (H.set id (.vec m [])) l m ys) (hT:dn P t=some (m,bytes)) (hb:ys.length*(bytes+1)<=140737488355328) (hH':bK H id (.vec m ys)=some H') :
  aa P o env H (Is (.vec m id ys.length 0 ys.length) H'):=
 aa.step fun a w μ I hs he=>by
  have hr:=he.ev (x:=x) (by simp[ho,Op.operands,Call.operands]) hx;have hry:=he.ev (x:=y) (by simp[ho,Op.operands,Call.operands]) hy;obtain⟨hH2,hlt⟩:=bH hH';subst hH2;have hs':=hs.slotVec hid m;have hidm:=lO hs hid;generalize hv:a.eval x=vx at hr
  cases hr with
  |@zs ad=>
   have hr':aH μ I w (.vec m id 0 0 0) (.slice ad 0 0):=.vec hidm rfl (le_refl _) fun _=>.inl ⟨rfl,⟨ad,rfl⟩,fun _=>rfl⟩;obtain⟨v',w',μ',h1,h2,h3,h4⟩:=ne (ty:=o.type) (xs:=[]) hs' hr' (by rw[bj,getElem?_set_self hlt]) rfl rfl hry hc hT (by simpa using hb);rw[<-hv]at h1
   have e:(H.set id (ab.vec m [])).set id (.vec m ([]++ys))=H.set id (.vec m ys):=by rw[List.set_set];simp
   rw[e]at h2;simp only[zero_add]at h3;exact⟨v',w',μ',kr ho h1,h2,h3,h4⟩
theorem cj.read (h:∀H',pG F H H'->aa P o env H' (Is x H')):cj P o env H F none x:=h
theorem cj.alloc {t:TypeId}{cs:List LV}{id:Nat}(ho:o.op=.alloc t)(hz:cL P t=some cs)(hid:br H id=some .slot):cj P o env H [id] (some (id,.box cs)) (.ptr id 0):=
 fun H' hA=>aa.allocS ho hz (hA.get (by simp) hid) (hA.set (by simp) hid)
theorem cj.box {t:TypeId}{x:Operand}{l:LV}{cs:List LV}{id:Nat}(ho:o.op=.box t x)(hx:bf env x=some l)(hc:iX l=some cs)(hid:br H id=some .slot) :
  cj P o env H [id] (some (id,.box cs)) (.ptr id 0):=
 fun H' hA=>aa.boxS ho hx hc (hA.get (by simp) hid) (hA.set (by simp) hid)
theorem cj.makeMap {t:TypeId}{id:Nat}(ho:o.op=.makeMap t none)(hid:br H id=some .slot):cj P o env H [id] (some (id,.map [])) (.map id):=
 fun H' hA=>aa.makeMapS ho (hA.get (by simp) hid) (hA.set (by simp) hid)
theorem cj.load {t:TypeId}{x:Operand}{id off n:Nat}{ag:Bool}{cs s:List LV}{l:LV}(ho:o.op=.load t x)(hx:bf env x=some (.ptr id off))(hH:br H id=some (.box cs))
  (hT:bl P t=some (n,ag)) (hs:sM cs off n=some s) (hl:uN ag s=some l):cj P o env H [id] none l:=
 fun H' hA=>aa.load ho hx (hA.get (by simp) hH) hT hs hl
theorem cj.store {t:TypeId}{x y:Operand}{id off n:Nat}{ag:Bool}{cs ys s:List LV}{l:LV}(ho:o.op=.store t x y)(hx:bf env x=some (.ptr id off))(hy:bf env y=some l)
  (hH:br H id=some (.box cs)) (hT:bl P t=some (n,ag)) (hys:iX l=some ys) (hn:dq ys=some n) (hs:uD cs off ys=some s):cj P o env H [id] (some (id,.box s)) .any:=
 fun H' hA=>aa.store ho hx hy (hA.get (by simp) hH) hT hys hn hs (hA.set (by simp) hH)
theorem cj.append {t:TypeId}{x y:Operand}{m bytes id n len:Nat}{xs ys:List PV}
  (ho:o.op=.call { callee:=.builtin .append,args:=#[x,y],argTypes:=#[t,t]}) (hx:bf env x=some (.vec m id n 0 len)) (hH:br H id=some (.vec m xs)) (hn:n=xs.length) (hlen:len=n)
  (hy:bf env y=some (.p (.slice m ys))) (hT:dn P t=some (m,bytes)) (hb:(xs.length+ys.length)*(bytes+1)<=140737488355328) :
  cj P o env H [id] (some (id,.vec m (xs++ys))) (.vec m id (n+ys.length) 0 (n+ys.length)):=
 fun H' hA=>aa.append ho hx (hA.get (by simp) hH) hn hlen hy iy.p hT hb (hA.set (by simp) hH)
theorem cj.appendZ {x y:Operand}
  (ho:o.op=.call { callee:=.builtin .append,args:=#[x,y],argTypes:=#[t,t]}) (hx:bf env x=some .zs) (hid:br H id=some .slot)
  (hy:bf env y=some (.p (.slice m ys))) (hT:dn P t=some (m,bytes)) (hb:ys.length*(bytes+1)<=140737488355328) :
  cj P o env H [id] (some (id,.vec m ys)) (.vec m id ys.length 0 ys.length):=
 fun H' hA=>aa.appendS ho hx (hA.get (by simp) hid) hy iy.p hT hb (hA.set (by simp) hid)
end
section
variable {P : Program} {fn : Func} {env : aE} {H : List ab} {k : Nat}
theorem yT {x:LV}{rs:List PV}(h:ec P env H fn.results x)(hc:xb H x rs):Zz P fn rs .ret env H:=⟨.inr rfl,x,h,hc⟩
theorem aD (h:ec P env H fn.results x)(hR:R x H):IN P fn k R .ret env H:=⟨.inr rfl,.inl ⟨x,h,hR⟩⟩
theorem i7 (h:ec P env H fn.results x)(hR:R x H):IN P fn k R .normal env H:=⟨.inl rfl,.inl ⟨x,h,hR⟩⟩
theorem bT (hw:dW k env' H' env H)(h:ec P env' H' fn.results x)(hR:R x H'):IN P fn k R .ret env H:=⟨.inr rfl,.inr ⟨env',H',x,hw,.inl h,hR⟩⟩
theorem iL (hw:dW k env' H' env H)(h:ec P env' H' fn.results x)(hR:R x H'):IN P fn k R .normal env H:=⟨.inl rfl,.inr ⟨env',H',x,hw,.inl h,hR⟩⟩
theorem lu (hw:dW k env' H' env H)(h:ec P env H fn.results x)(hl:LV.lowB k x=true)(hR:R x H'):IN P fn k R .ret env H:=⟨.inr rfl,.inr ⟨env',H',x,hw,.inr ⟨h,LV.low_of hl⟩,hR⟩⟩
end
theorem LW.cut {n k:Nat}{env E:aE}{x y:Code}
  (h:LW P n k x env H (wZ (fun env' H'=>dW k E O env' H') Q)) (hy:LW P n k y E O Q):LW P n k (.seq x y) env H Q:=
 LW.seq (h.mono fun e env' H' q=>by
  cases e with
  |normal=>exact LW.weak q hy
  |_=>exact q)
section
variable {P : Program} {n k : Nat} {env : aE} {H : List ab} {Q : Exit -> aE -> List ab -> Prop} {ops : Array Oper}
theorem ay.gis {l:List Nat}{j t:Nat}{Q:aE->List ab->Prop}(ho:ops[i]?=some o)(hg:o.guard=some (j,b))
  (ht:(ops[j]?).bind (·.dst)=some t) (hb:env.get t=some (.p (.bool b))) (hd:dg n o.dst=true)
  (h:aa P o env H (Is x H')) (hr:ay P ops n k l (eS env o.dst x) H' Q):ay P ops n k (i::l) env H Q:=
 ay.guarded ho hg ht hb hd h (by rintro y H'' ⟨rfl,rfl⟩;exact hr)
theorem LW.condT {c:Operand}{x y:Code}(hc:bf env c=some (.p (.bool true)))(h:LW P n k x env H Q):LW P n k (.cond c x y) env H Q:=
 LW.cond hc (fun _=>h) (fun e=>nomatch e)
theorem LW.condF {c:Operand}{x y:Code}(hc:bf env c=some (.p (.bool false)))(h:LW P n k y env H Q):LW P n k (.cond c x y) env H Q:=
 LW.cond hc (fun e=>nomatch e) (fun _=>h)
end
section
variable {P : Program} {n k : Nat} {env : aE} {H : List ab} {Q : Exit -> aE -> List ab -> Prop} {ops : Array Oper}
theorem gd {t:Nat}(h:b=c)(hb:env.get t=some (.p (.bool b))):env.get t=some (.p (.bool c)):=h▸hb
theorem aJ {x:Operand}(h:b=c)(hb:bf env x=some (.p (.bool b))):bf env x=some (.p (.bool c)):=h▸hb
theorem ay.cases {l:List Nat}{Q:aE->List ab->Prop}(t:Nat){b:Bool}(_:env.get t=some (.p (.bool b)))
  (ht:b=true->ay P ops n k l env H Q) (hf:b=false->ay P ops n k l env H Q):ay P ops n k l env H Q:=
 match b,ht,hf with
 |true,ht,_=>ht rfl
 |false,_,hf=>hf rfl
theorem LO.cases {l:List Nat}{Q:aE->Prop}(t:Nat){b:Bool}(_:env.get t=some (.p (.bool b)))
  (ht:b=true->LO P ops n l env H Q) (hf:b=false->LO P ops n l env H Q):LO P ops n l env H Q:=
 match b,ht,hf with
 |true,ht,_=>ht rfl
 |false,_,hf=>hf rfl
theorem LF.cases {l:List Nat}{Q:List FP->aE->List ab->Prop}(t:Nat){b:Bool}(_:env.get t=some (.p (.bool b)))
  (ht:b=true->LF P ops n l env H Q) (hf:b=false->LF P ops n l env H Q):LF P ops n l env H Q:=
 match b,ht,hf with
 |true,ht,_=>ht rfl
 |false,_,hf=>hf rfl
end
section
variable {P : Program} {n k : Nat} {env : aE} {H : List ab} {ops : Array Oper}
def gL (n:Nat)(o:Oper)(x:LV)(env:aE):Option aE:=
 match o.dst with
 |none=>some env
 |some d=>match blt d n with
  |true=>some ((d,x)::env)
  |false=>none
theorem cN (h:gL n o x env=some env'):env'=eS env o.dst x/\dg n o.dst=true:=by
 unfold gL at h;unfold eS dg
 cases hd:o.dst with
 |none=>rw[hd]at h;cases h;exact⟨rfl,rfl⟩
 |some d=>
  rw[hd]at h;simp only at h⊢;split at h
  ·rename_i hb;cases h;exact⟨rfl,hb⟩
  ·cases h
theorem cJ (h:br ops.toList i=some o):ops[i]?=some o:=by
 rw[bj]at h;simpa using h
def fM (ops:List Oper)(j:Nat):Option Nat:=match br ops j with|some o=>o.dst|none=>none
theorem dA {j t:Nat}(h:fM ops.toList j=some t):(ops[j]?).bind (·.dst)=some t:=by
 unfold fM at h;rw[bj]at h
 cases hx:ops[j]? with
 |none=>simp[hx]at h
 |some o=>simp[hx]at h⊢;exact h
section
variable {i : Nat} {l : List Nat} {o : Oper} {x : LV} {H' : List ab} {env' : aE} {Q : aE -> List ab -> Prop}
def LN (n:Nat)(os:List Oper)(i:Nat)(env:aE):Option aE:=
 match br os i with
 | some o=>match o.guard with
  | none=>match o.op with
   |.move x=>match bf env x with
    |some v=>gL n o v env
    |none=>none
   |.assign x=>match bf env x with
    |some v=>gL n o v env
    |none=>none
   |_=>none
  |some _=>none
 |none=>none
theorem qC {os:List Oper}(h:LN n os i env=some env'):∃o v,br os i=some o/\o.guard=none/\gL n o v env=some env'/\∀(P:Program) (H:List ab),aa P o env H (Is v H):=by
 unfold LN at h;split at h
 ·rename_i o ho;split at h
  ·rename_i hg;split at h
   ·rename_i x hx;split at h
    ·rename_i v hv;exact⟨o,v,ho,hg,h,fun P H=>aa.move hx hv⟩
    ·cases h
   ·rename_i x hx;split at h
    ·rename_i v hv;exact⟨o,v,ho,hg,h,fun P H=>aa.assign hx hv⟩
    ·cases h
   ·cases h
  ·cases h
 ·cases h
theorem ay.mv (h:LN n ops.toList i env=some env')(hr:ay P ops n k l env' H Q):ay P ops n k (i::l) env H Q:=by
 obtain⟨o,v,h1,h2,h3,h4⟩:=qC h;obtain⟨rfl,h5⟩:=cN h3;exact ay.is (cJ h1) h2 h5 (h4 P H) hr
theorem ay.st (ho:br ops.toList i=some o)(hg:o.guard=none)(hd:gL n o x env=some env')(h:aa P o env H (Is x H'))(hr:ay P ops n k l env' H' Q):ay P ops n k (i::l) env H Q:=by
 obtain⟨rfl,h2⟩:=cN hd;exact ay.is (cJ ho) hg h2 h hr
theorem ay.gd {j t:Nat}(ho:br ops.toList i=some o)(hg:o.guard=some (j,b))(ht:fM ops.toList j=some t)(hb:env.get t=some (.p (.bool b)))
  (hd:gL n o x env=some env') (h:aa P o env H (Is x H')) (hr:ay P ops n k l env' H' Q):ay P ops n k (i::l) env H Q:=by
 obtain⟨rfl,h2⟩:=cN hd;exact ay.gis (cJ ho) hg (dA ht) hb h2 h hr
theorem ay.sku {j t:Nat}{b:Bool}(ho:br ops.toList i=some o)(hg:o.guard=some (j,b))(ht:fM ops.toList j=some t)(hb:env.get t=some (.tup []))
  (hd:gL n o (.tup []) env=some env') (hr:ay P ops n k l env' H Q):ay P ops n k (i::l) env H Q:=by
 obtain⟨rfl,h2⟩:=cN hd;exact ay.skippedU (cJ ho) hg (dA ht) hb h2 hr
theorem ay.sk {j t:Nat}(ho:br ops.toList i=some o)(hg:o.guard=some (j,b))(ht:fM ops.toList j=some t)(hb:env.get t=some (.p (.bool c)))(hbc:c= !b)
  (hd:gL n o (.tup []) env=some env') (hr:ay P ops n k l env' H Q):ay P ops n k (i::l) env H Q:=by
 obtain⟨rfl,h2⟩:=cN hd;exact ay.skipped (cJ ho) hg (dA ht) hb hbc h2 hr
end
section
variable {i : Nat} {l : List Nat} {o : Oper} {x : LV} {env' : aE} {Q : aE -> Prop}
theorem LO.mv (h:LN n ops.toList i env=some env')(hr:LO P ops n l env' H Q):LO P ops n (i::l) env H Q:=by
 obtain⟨o,v,h1,h2,h3,h4⟩:=qC h;obtain⟨rfl,h5⟩:=cN h3;exact LO.is (cJ h1) h2 h5 (h4 P H) hr
theorem LO.st (ho:br ops.toList i=some o)(hg:o.guard=none)(hd:gL n o x env=some env')(h:aa P o env H (Is x H))(hr:LO P ops n l env' H Q):LO P ops n (i::l) env H Q:=by
 obtain⟨rfl,h2⟩:=cN hd;exact LO.is (cJ ho) hg h2 h hr
theorem LO.gd {j t:Nat}(ho:br ops.toList i=some o)(hg:o.guard=some (j,b))(ht:fM ops.toList j=some t)(hb:env.get t=some (.p (.bool b)))
  (hd:gL n o x env=some env') (h:aa P o env H (Is x H)) (hr:LO P ops n l env' H Q):LO P ops n (i::l) env H Q:=by
 obtain⟨rfl,h2⟩:=cN hd;exact LO.guarded (cJ ho) hg (dA ht) hb h2 h hr
theorem LO.sku {j t:Nat}{b:Bool}(ho:br ops.toList i=some o)(hg:o.guard=some (j,b))(ht:fM ops.toList j=some t)(hb:env.get t=some (.tup []))
  (hd:gL n o (.tup []) env=some env') (hr:LO P ops n l env' H Q):LO P ops n (i::l) env H Q:=by
 obtain⟨rfl,h2⟩:=cN hd;exact LO.skippedU (cJ ho) hg (dA ht) hb h2 hr
theorem LO.sk {j t:Nat}(ho:br ops.toList i=some o)(hg:o.guard=some (j,b))(ht:fM ops.toList j=some t)(hb:env.get t=some (.p (.bool c)))(hbc:c= !b)
  (hd:gL n o (.tup []) env=some env') (hr:LO P ops n l env' H Q):LO P ops n (i::l) env H Q:=by
 obtain⟨rfl,h2⟩:=cN hd;exact LO.skipped (cJ ho) hg (dA ht) hb hbc h2 hr
end
def uU (H:List ab):Option (Nat×ab)->Option (List ab) |some (i,o)=>bK H i o |none=>some H
theorem nD (h:uU H s=some H1):wset H s=H1:=by
 rcases s with _|⟨i,o⟩
 ·cases h;rfl
 ·exact(bH h).1.symm
section
variable {i : Nat} {l : List Nat} {o : Oper} {x : LV} {H1 : List ab} {env' : aE} {F : List Nat} {s : Option (Nat × ab)} {Q : List FP -> aE -> List ab -> Prop}
theorem LF.mv (h:LN n ops.toList i env=some env')(hr:LF P ops n l env' H fun fs env H=>Q (⟨[],none⟩::fs) env H):LF P ops n (i::l) env H Q:=by
 obtain⟨o,v,h1,h2,h3,h4⟩:=qC h;obtain⟨rfl,h5⟩:=cN h3;exact LF.nop (cJ h1) h2 h5 (fun H=>h4 P H) hr
theorem LF.st (ho:br ops.toList i=some o)(hg:o.guard=none)(hd:gL n o x env=some env')(h:cj P o env H F s x)(hH:uU H s=some H1)
  (hr:LF P ops n l env' H1 fun fs env H=>Q (⟨F,i9 s⟩::fs) env H):LF P ops n (i::l) env H Q:=by
 obtain⟨rfl,h2⟩:=cN hd;exact LF.is (cJ ho) hg h2 h (nD hH) hr
theorem LF.gd {j t:Nat}(ho:br ops.toList i=some o)(hg:o.guard=some (j,b))(ht:fM ops.toList j=some t)(hb:env.get t=some (.p (.bool b)))
  (hd:gL n o x env=some env') (h:cj P o env H F s x) (hH:uU H s=some H1)
  (hr:LF P ops n l env' H1 fun fs env H=>Q (⟨F,i9 s⟩::fs) env H):LF P ops n (i::l) env H Q:=by
 obtain⟨rfl,h2⟩:=cN hd;exact LF.guarded (cJ ho) hg (dA ht) hb h2 h (nD hH) hr
theorem LF.sku {j t:Nat}{b:Bool}(ho:br ops.toList i=some o)(hg:o.guard=some (j,b))(ht:fM ops.toList j=some t)(hb:env.get t=some (.tup []))
  (hd:gL n o (.tup []) env=some env') (hr:LF P ops n l env' H fun fs env H=>Q (⟨[],none⟩::fs) env H):LF P ops n (i::l) env H Q:=by
 obtain⟨rfl,h2⟩:=cN hd;exact LF.skippedU (cJ ho) hg (dA ht) hb h2 hr
theorem LF.sk {j t:Nat}(ho:br ops.toList i=some o)(hg:o.guard=some (j,b))(ht:fM ops.toList j=some t)(hb:env.get t=some (.p (.bool c)))(hbc:c= !b)
  (hd:gL n o (.tup []) env=some env') (hr:LF P ops n l env' H fun fs env H=>Q (⟨[],none⟩::fs) env H):LF P ops n (i::l) env H Q:=by
 obtain⟨rfl,h2⟩:=cN hd;exact LF.skipped (cJ ho) hg (dA ht) hb hbc h2 hr
end
def qF :Nat->List LV->Option aE
 |_,[]=>some []
 |i,a::r=>match qF (i+1) r with
  |some e=>some ((i,a)::e)
  |none=>none
theorem jU :∀{as:List LV} {i:Nat} {e:aE},qF i as=some e->e=BA i as
 |[],_,_,h=>by cases h;rfl
 |a::r,i,e,h=>by
  simp only[qF]at h;split at h
  ·rename_i e' he;cases h;rw[jU he];rfl
  ·cases h
theorem aq.start {f:FuncId}{fn:Func}{c:Code}{as rs:List PV}{ls:List LV}{e:aE}(hf:P.funcs[f]?=some fn)(hb:fn.body=some c)
  (hn:ble as.length fn.ntmps=true) (hl:ow as=some ls) (he:qF 0 ls=some e) (h:LW P fn.ntmps 0 c e [] (Zz P fn rs)):aq P f as rs:=by
 have e1:=jc hl;have e2:=jU he;subst e1;subst e2;exact aq.of hf hb hn h
theorem LC.start {f:FuncId}{fn:Func}{c:Code}{as:List LV}{R:LV->List ab->Prop}{e:aE}(hf:P.funcs[f]?=some fn)(hb:fn.body=some c)
  (hn:ble as.length fn.ntmps=true) (he:qF 0 as=some e) (h:LW P fn.ntmps H.length c e H (IN P fn H.length R)):LC P f as H R:=by
 have e2:=jU he;subst e2;exact LC.of hf hb hn h
end
def fD (k:Nat):List ab->Bool
 |[]=>true
 |o::r=>match o.lowB k with|true=>fD k r|false=>false
theorem fE {k:Nat}:∀{H:List ab},fD k H=true->∀o∈H,o.Low k
 |[],_,o,ho=>by simp at ho
 | x::r,h,o,ho=>by
  simp only[fD]at h;split at h
  ·rename_i h1
   cases ho with
   |head=>exact ab.low_of h1
   |tail _ ho=>exact fE h o ho
  ·cases h
theorem dW.of {k:Nat}{env' env:aE}{H' H:List ab}(j:Nat)(hs:sE env' env)(hk:ble k j=true)(hH:kC H j=some H')(hl:pp j env'=true)(ho:fD j H'=true):dW k env' H' env H where
 sub:=hs
 objs:=by
  obtain⟨e1,e2⟩:=lQ hH;exact⟨j,Nat.le_of_ble_eq_true hk,e2,e1,nr hl,fE ho⟩
theorem cX {n:Int}(h1: -9223372036854775808<=n:=by omega)(h2:n<=9223372036854775807:=by omega):i64.wrap n=n:=by
 unfold wrap;simp[signed,IntKind.bits];omega
theorem gO {n:Int}(h1:0<=n:=by omega)(h2:n<=18446744073709551615:=by omega):u64.wrap n=n:=by
 unfold wrap;simp[signed,IntKind.bits];omega
theorem wS {l:List α}(h:l[i]?=some a):(l.map f)[(i:Int).toNat]?=some (f a):=by
 simp[h]
theorem qy {l:List α}(h:i<l.length):∃a,l[i]?=some a:=⟨_,getElem?_eq_getElem h⟩
section
variable {R : aE -> List ab -> Prop} {Q : Exit -> aE -> List ab -> Prop} {env : aE} {H : List ab} {i l : Nat}
theorem cx (h:R env H):wZ R Q .normal env H:=h
theorem ai (h:Q (.exit i) env H):wZ R Q (.exit i) env H:=h
theorem ae (h:Q .ret env H):wZ R Q .ret env H:=h
theorem Kk (h:Q (.goto i) env H):wZ R Q (.goto i) env H:=h
theorem af (h:Q .normal env H):ss i Q .normal env H:=h
theorem ak (h:Q .ret env H):ss i Q .ret env H:=h
theorem Hl (h:Q .ret env H):Ou Q .ret env H:=h
theorem z7 (h:Q .ret env H):Kc l R Q .ret env H:=h
theorem G4 (h:R env H):Kc l R Q (.goto l) env H:=⟨rfl,h⟩
end
def am {α β:Type}[DecidableEq α]:List (α×β)->α->Option β |[],_=>none |(a,b)::r,k=>if a=k then some b else am r k
theorem gI [DecidableEq α]{m:List (α×β)}{b:β}{k:α}:am (m++[(a,b)]) k=(am m k).or (if a=k then some b else none):=by
 induction m with
 |nil=>rfl
 |cons e r ih=>
  obtain⟨c,d⟩:=e;simp only[List.cons_append,am,ih];split <;>simp
def Ov :Bool->LV->Bool->Option LV |true,x,b=>some (.tup [x,.p (.bool b)]) |false,x,_=>some x
theorem Bz {ok b:Bool}(h:Ov ok x b=some r):r=if ok then .tup [x,.p (.bool b)]else x:=by
 cases ok <;>cases h <;>rfl
section
variable {α β : Type} [DecidableEq α]
structure gH (f:α->PV)(n:Nat)(ag:Bool):Prop where
 eq:∀a b,jP (f a) (f b)=some (decide (a=b))
 fits:∀a,de n ag (f a)=true
def ar (f:α->PV)(g:β->LV)(m:List (α×β)):List (PV×LV):=m.map fun e=>(f e.1,g e.2)
theorem vH {f:α->PV}{g:β->LV}{n:Nat}{ag:Bool}(hk:gH f n ag):∀{m:List (α×β)} {k:α} {v:β},am m k=some v->∃i,mE (f k) (ar f g m) (some i)/\(ar f g m)[i]?=some (f k,g v)
 |[],k,v,h=>by cases h
 | (a,b)::r,k,v,h=>by
  unfold am at h;split at h
  ·rename_i e;cases h;subst e;exact⟨0,.hit (e:=(f a,g b)) Z (by rw[hk.eq];simp) (fun j e hj=>absurd hj (by omega)),rfl⟩
  ·rename_i hne;obtain⟨i,h1,h2⟩:=vH hk h
   cases h1 with
   | hit hi he hlt=>
    refine⟨i+1,.hit (by simpa [ar]using hi) he fun j e hj hje=>?_,by simpa [ar]using h2⟩
    cases j with
    |zero=>
     simp[ar]at hje;subst hje;rw[hk.eq];simp;exact fun h=>hne (Eq.symm h)
    |succ j=>exact hlt j e (by omega) (by simpa [ar]using hje)
theorem pg {f:α->PV}{g:β->LV}(hk:gH f n ag):∀{m:List (α×β)} {k:α},am m k=none->mE (f k) (ar f g m) none:=by
 intro m
 induction m with
 |nil=>intro k _;exact .miss (by simp[ar])
 | cons e r ih=>
  obtain⟨a,b⟩:=e;intro k h;unfold am at h;split at h
  ·cases h
  ·rename_i hne
   cases ih h with
   |miss hm=>
    refine .miss fun e he=>?_;rcases List.mem_cons.1 he with e1|he
    ·subst e1;rw[hk.eq];simp;exact fun h=>hne (Eq.symm h)
    ·exact hm e he
variable {P : Program} {o : Oper} {env : aE} {H : List ab} {t k e : TypeId} {n id : Nat} {ag : Bool} {x y z : Operand}
theorem aa.getHit {f:α->PV}{g:β->LV}{m:List (α×β)}{a:α}{v:β}{ok:Bool}(hk:gH f n ag)(hf:am m a=some v)(ho:o.op=.lookup t x y ok)(hx:bf env x=some (.map id))(hy:bf env y=some (.p (f a)))
  (hH:br H id=some (.map (ar f g m))) (hT:eM P t=some (k,e,n,ag)) (hr:Ov ok (g v) true=some r):aa P o env H (Is r H):=by
 obtain⟨i,h1,h2⟩:=vH (g:=g) hk hf;exact aa.lookupHit ho hx hy hH hT (hk.fits a) h1 h2<|Bz hr
theorem aa.getMiss {f:α->PV}{g:β->LV}{m:List (α×β)}{a:α}{ok:Bool}{z r:LV}(hk:gH f n ag)(hf:am m a=none)(ho:o.op=.lookup t x y ok)(hx:bf env x=some (.map id))(hy:bf env y=some (.p (f a)))
  (hH:br H id=some (.map (ar f g m))) (hT:eM P t=some (k,e,n,ag)) (hz:mK P e=some z) (hr:Ov ok z false=some r):aa P o env H (Is r H):=
 aa.lookupMiss ho hx hy hH hT (hk.fits a) hz (pg hk hf) (Bz hr)
theorem aa.getNil {f:α->PV}{a:α}{ok:Bool}{z r:LV}(hk:gH f n ag)(ho:o.op=.lookup t x y ok)(hx:bf env x=some .nilmap)(hy:bf env y=some (.p (f a)))
  (hT:eM P t=some (k,e,n,ag)) (hz:mK P e=some z) (hr:Ov ok z false=some r):aa P o env H (Is r H):=
 aa.lookupNil ho hx hy hT (hk.fits a) hz (Bz hr)
theorem aa.setNew {f:α->PV}{g:β->LV}{m:List (α×β)}{a:α}{v:β}(hk:gH f n ag)(hf:am m a=none)(ho:o.op=.mapUpdate t x y z\/o.op=.insert t x y z)(hx:bf env x=some (.map id))(hy:bf env y=some (.p (f a)))
  (hz:bf env z=some l) (hl:l=g v) (hH:br H id=some (.map (ar f g m))) (hT:eM P t=some (k,e,n,ag)) (hH':bK H id (.map (ar f g (m++[(a,v)])))=some H'):aa P o env H (Is .any H'):=by
 subst hl;refine Jt ho hx hy hz hH hT (hk.fits a) (pg hk hf) ?_;simpa [ar]using hH'
end
theorem tT (k k':IntKind)(a b c d:Int):dc [.int k a,.int k' b] [.int k c,.int k' d]=some ((a==c)&&((b==d)&&true)):=by
 simp[dc]
theorem gK {k:Nat}{o:ab}{r:List ab}(h:o.lowB k=true)(h':fD k r=true):fD k (o::r)=true:=by
 simp only[fD,h,h']
theorem aj {k:Nat}(h:∀v,(g v).lowB k=true)(m:List (α×β)):(ab.map (ar f g m)).lowB k=true:=by
 show pq k (ar f g m)=true
 induction m with
 |nil=>rfl
 |cons e r ih=>
  show pq k ((f e.1,g e.2)::ar f g r)=true;simp only[pq,h,ih]
theorem LW.jumpsOf {n k:Nat}{env:aE}{c rest:Code}{l:Nat}(E:α->aE)(O:α->List ab)(G:α->Prop)(meas:α->Nat)
  (hf:findLabel c l=some rest) (first:LW P n k c env H (Kc l (fun env' H'=>∃y,G y/\dW k (E y) (O y) env' H') Q))
  (pass:∀x,G x->LW P n k rest (E x) (O x) (Kc l (fun env' H'=>∃y,meas y<meas x/\G y/\dW k (E y) (O y) env' H') Q)):LW P n k (.scope c) env H Q:=by
 refine LW.jumps (fun m env H=>∃x,m=meas x/\G x/\dW k (E x) (O x) env H) hf (first.mono fun e env' H' q=>?_) ?_
 ·cases e with
  |goto l'=>obtain⟨h1,y,h2,h3⟩:=q;exact⟨h1,_,y,rfl,h2,h3⟩
  |_=>exact q
 ·rintro m env H ⟨x,rfl,hg,hw⟩;refine LW.weak hw<|(pass x hg).mono fun e env' H' q=>?_
  cases e with
  |goto l'=>obtain⟨h1,y,h2,h3,h4⟩:=q;exact⟨h1,_,h2,y,rfl,h3,h4⟩
  |_=>exact q
theorem aa.appendM {env:aE}{xs ys:List α}{x y:Operand}{zs:List PV}
  (ho:o.op=.call { callee:=.builtin .append,args:=#[x,y],argTypes:=#[t,t]}) (hx:bf env x=some (.vec m id (xs.map f).length 0 (xs.map f).length)) (hH:br H id=some (.vec m (xs.map f)))
  (hy:bf env y=some (.p (.slice m zs))) (hz:zs=ys.map f) (hT:dn P t=some (m,bytes)) (hb:(xs.length+ys.length)*(bytes+1)<=140737488355328) (hH':bK H id (.vec m ((xs++ys).map f))=some H') :
  aa P o env H (Is (.vec m id ((xs++ys).map f).length 0 ((xs++ys).map f).length) H'):=by
 subst hz;have h:=aa.append (H':=H') ho hx hH rfl rfl hy iy.p hT (by simpa using hb) (by rw[<-List.map_append];exact hH');simpa [add_comm]using h
theorem Jf (l:List α):dq l=some l.length:=by
 induction l with
 |nil=>rfl
 |cons a r ih=>simp[dq,ih]
open Go.ChangeShapes Go.WideShapes Go.ChangeAt Go.RowKit
inductive TS where
 |int (k:IntKind)
 |bool
 |agg (cs:List TS)
 |slice (m:Nat) (e:TS)
def TS.cells :TS->List TS
 |.agg cs=>cs
 |t=>[t]
def qj (g:TypeId->Option TS)(size:TypeId->Nat):List Field->Nat->Option (List TS)
 |[],_=>some []
 |f::r,off=>match g f.type with
  |none=>none
  |some E=>if f.offset=off/\size f.type=E.cells.length then(match qj g size r (off+size f.type)with|some cs=>some (E.cells++cs)|none=>none)else none
def Jn (n:Nat)(cs:List TS):List TS:=match n with
 |0=>[]
 |n+1=>cs++Jn n cs
def w5 (P:Program):Nat->TypeId->Option TS
 |0,_=>none
 | d+1,t=>match P.underlying t with
  |some (.int k)=>some (.int k)
  |some .bool=>some .bool
  |some (.slice e)=>match w5 P d e with
   |none=>none
   |some E=>if P.cellsOf e=E.cells.length/\0<P.cellsOf e then some (.slice (P.cellsOf e) E)else none
  |some (.struct fs)=>match qj (w5 P d) P.cellsOf fs.toList 0 with
   |none=>none
   |some cs=>if cs.length=P.cellsOf t then some (.agg cs)else none
  |some (.array n e)=>match w5 P d e with
   |none=>none
   |some E=>if P.cellsOf e=E.cells.length/\n*P.cellsOf e=P.cellsOf t then some (.agg (Jn n E.cells))else none
  |_=>none
mutual
inductive sF :TS->PV->Prop
 |int {k:IntKind} {n:Int} (h:aU k n):sF (.int k) (.int k n)
 |bool {b:Bool}:sF .bool (.bool b)
 |agg {cs:List TS} {ps:List PV} (h:TIss cs ps):sF (.agg cs) (.agg ps)
 |slice {m:Nat} {e:TS} {xs:List PV} (h:∀x∈xs,sF e x):sF (.slice m e) (.slice m xs)
inductive TIss :List TS->List PV->Prop
 |nil:TIss [] []
 |cons {t:TS} {p:PV} {ts:List TS} {ps:List PV} (h:sF t p) (hs:TIss ts ps):TIss (t::ts) (p::ps)
end
inductive jD (I:Nat->Prop)(w:World):List TS->List PV->List Value->Prop
 |nil:jD I w [] [] []
 |cons {t:TS} {p:PV} {v:Value} {ts:List TS} {ps:List PV} {vs:List Value} (h:sF t p) (ho:p.one) (hr:fA I w p v) (hs:jD I w ts ps vs):jD I w (t::ts) (p::ps) (v::vs)
theorem jD.append {ts ts':List TS}{ps ps':List PV}{vs vs':List Value}(h:jD I w ts ps vs)(h':jD I w ts' ps' vs'):jD I w (ts++ts') (ps++ps') (vs++vs'):=by
 induction h with
 |nil=>exact h'
 |cons h ho hr hs ih=>exact .cons h ho hr ih
theorem jD.len {ts:List TS}(h:jD I w ts ps vs):ps.length=ts.length/\vs.length=ts.length:=by
 induction h with
 |nil=>exact⟨rfl,rfl⟩
 |cons h ho hr hs ih=>simp[ih]
theorem jD.tiss {ts:List TS}(h:jD I w ts ps vs):TIss ts ps:=by
 induction h with
 |nil=>exact .nil
 |cons h ho hr hs ih=>exact .cons h ih
theorem jD.get {ts:List TS}(h:jD I w ts ps vs):∀(i:Nat) c v,ps[i]?=some c->vs[i]?=some v->c.one/\fA I w c v:=by
 induction h with
 |nil=>intro i c v hc;simp at hc
 |cons h ho hr hs ih=>
  intro i c v hc hv
  cases i with
  |zero=>simp at hc hv;subst hc;subst hv;exact⟨ho,hr⟩
  |succ i=>simp at hc hv;exact ih i c v hc hv
theorem vR {n:Int}(h:(Lit.int k n).wf=true):aU k n:=by
 simp only[Lit.wf,Bool.and_eq_true,decide_eq_true_eq]at h;exact h
section
variable {H : Type} {enc : TypeId × Value -> H} {P : Program} {w : World} {base : Nat} {spare : Nat -> Bool} {held : Bool}
def Qd :TS->List PV->PV
 |.agg _,ps=>.agg ps
 |_,p::_=>p
 |_,[]=>.bool false
theorem LM {T:TS}(h:jD I w T.cells ps vs)(hone:∀cs,T≠.agg cs->True):sF T (Qd T ps)/\(Qd T ps).cells=ps:=by
 cases T with
 |agg cs=>exact⟨.agg h.tiss,rfl⟩
 |int k=>cases h with|cons h ho hr hs=>cases hs;cases h;exact⟨.int (by assumption),rfl⟩
 |bool=>cases h with|cons h ho hr hs=>cases hs;cases h;exact⟨.bool,rfl⟩
 |slice m e=>cases h with|cons h ho hr hs=>cases hs;cases h;exact⟨.slice (by assumption),rfl⟩
theorem GJ {a:Addr}{cs:List Value}(h:w.cells? base a n=some cs):cs.length=n/\∀(i:Nat) v,cs[i]?=some v->w.cell? (a.add i)=some v:=by
 obtain⟨_,h1,h2⟩:=World.cells?_some h;refine⟨h1,fun i v hv=>?_⟩;have hi:=(List.getElem?_eq_some_iff.1 hv).1;have:=h2 i (by omega);rw[this,hv]
theorem DQ {a:Addr}(h:w.cell? a=some v):a=⟨a.block,a.off,none⟩/\a.block<w.heap.size:=by
 obtain⟨b,o,s⟩:=a;unfold World.cell? at h;split at h
 ·rename_i c t f hb;split at h
  ·cases h
  ·rename_i hs;have hlt:=(Array.getElem?_eq_some_iff.1 hb).1
   cases s with
   |none=>exact⟨rfl,hlt⟩
   |some s=>simp at hs
 ·cases h
theorem IS {b o i j:Nat}{s:Option Nat}:((⟨b,o,s⟩:Addr).add i).add j=if i+j=0 then⟨b,o,s⟩else⟨b,o+(i+j),none⟩:=by
 unfold Addr.add;by_cases hi:i=0 <;>by_cases hj:j=0 <;>simp[hi,hj]
 ·omega
theorem so (g:TypeId->Option TS)(hg:∀t T,g t=some T->∀fuel cs x,DataW.trod enc P w base spare held fuel t cs=some x->∃ps,jD (·<w.heap.size) w T.cells ps cs)(fuel:Nat)(vs:List Value) :
  ∀(fs:List Field) (off:Nat) (cs:List TS),qj g P.cellsOf fs off=some cs->(∀f∈fs,∃x,DataW.trod enc P w base spare held fuel f.type ((vs.drop f.offset).take (P.cellsOf f.type))=some x)->
   ∃ps,jD (·<w.heap.size) w cs ps ((vs.drop off).take cs.length)
 |[],off,cs,h,_=>by
  cases h;exact⟨[],by simpa using jD.nil⟩
 | f ::r,off,cs,h,hx=>by
  unfold qj at h;split at h
  ·cases h
  ·rename_i E hE;split at h
   ·rename_i hc;split at h
    ·rename_i cs' hr;cases h;obtain⟨x,hx0⟩:=hx f (.head _);obtain⟨ps,h1⟩:=hg _ _ hE _ _ _ hx0;obtain⟨ps',h2⟩:=so g hg fuel vs r _ cs' hr fun f' hf=>hx f' (.tail _ hf);rw[hc.1]at h1;refine⟨ps++ps',?_⟩;have:=h1.append h2;rw[hc.2]at this
     have e:(vs.drop off).take (E.cells++cs').length=(vs.drop off).take E.cells.length++(vs.drop (off+E.cells.length)).take cs'.length:=by
      rw[length_append,List.take_add,List.drop_drop]
     rw[e];exact this
    ·cases h
   ·cases h
theorem tM {E:TS}{m:Nat}(hm:m=E.cells.length)(vs:List Value):∀(n k:Nat),(∀i,i<n->∃ps,jD (·<w.heap.size) w E.cells ps ((vs.drop ((k+i)*m)).take m))->
  ∃ps,jD (·<w.heap.size) w (Jn n E.cells) ps ((vs.drop (k*m)).take (n*m))
 |0,k,_=>⟨[],by simpa [Jn]using jD.nil⟩
 | n+1,k,h=>by
  obtain⟨ps,h1⟩:=h 0 (by omega)
  obtain⟨ps',h2⟩:=tM hm vs n (k+1) fun i hi=>by
   have:=h (i+1) (by omega)
   rwa [show k+(i+1)=k+1+i by omega]at this
  refine⟨ps++ps',?_⟩;have:=h1.append h2
  have e:(vs.drop (k*m)).take ((n+1)*m)=(vs.drop ((k+0)*m)).take m++(vs.drop ((k+1)*m)).take (n*m):=by
   rw[show(n+1)*m=m+n*m by rw[add_mul];omega,List.take_add,List.drop_drop,add_zero,add_mul,Nat.one_mul]
  rw[e];exact this
theorem Ew :∀(d:Nat) (t:TypeId) (T:TS),w5 P d t=some T->∀fuel cs x,DataW.trod enc P w base spare held fuel t cs=some x->∃ps,jD (·<w.heap.size) w T.cells ps cs:=by
 intro d
 induction d with
 |zero=>intro t T h;cases h
 | succ d ih=>
  intro t T h fuel cs x hx;unfold w5 at h;split at h
  ·rename_i k hu;cases h;obtain⟨n,rfl,-,hwf⟩:=DataW.trod_int hu hx;exact⟨[.int k n],.cons (.int (vR hwf)) trivial (.int (vR hwf)) .nil⟩
  ·rename_i hu;cases h;obtain⟨b,rfl,-⟩:=DataW.trod_bool hu hx;exact⟨[.bool b],.cons .bool trivial .bool .nil⟩
  ·rename_i e hu;split at h
   ·cases h
   ·rename_i E hE;split at h
    ·rename_i hc;cases h;rcases Deep.open_slice hu hx with⟨rfl,-⟩|⟨a,len,cap,m,n,D,Pl,rfl,-,hlc,hmax,hm,-,hel⟩
     ·exact⟨[.slice (P.cellsOf e) []],.cons (.slice (by simp)) trivial (.slice (fun _=>undef) Z (le_refl _) (zero_le _) .nil (fun i c h=>by simp[flat]at h) (fun i c h=>by simp[flat]at h)) .nil⟩
     ·have hlm:len<=m:=by rw[hm];split <;>omega
      -- the elements, one by one
      have hone:∀i,i<len->∃x:PV,sF E x/\x.cells.length=P.cellsOf e/\(∀c∈x.cells,c.one)/\
        ∀(j:Nat) c,x.cells[j]?=some c->∃v,w.cell? ((a.add (i*P.cellsOf e)).add j)=some v/\fA (·<w.heap.size) w c v:=by
       intro i hi;obtain⟨cs',h1,h2⟩:=hel i (by omega);obtain⟨hl,hcell⟩:=GJ h1;obtain⟨ps,hps⟩:=ih e E hE n cs' _ h2;obtain⟨hmk1,hmk2⟩:=LM hps (fun _ _=>trivial);obtain⟨hl1,hl2⟩:=hps.len;refine⟨Qd E ps,hmk1,by rw[hmk2];omega,fun c hcm=>?_,fun j c hj=>?_⟩
       ·rw[hmk2]at hcm;obtain⟨j,hj,rfl⟩:=mem_iff_getElem.1 hcm;exact(hps.get j _ (cs'[j]'(by omega)) (getElem?_eq_getElem hj) (getElem?_eq_getElem (by omega))).1
       ·rw[hmk2]at hj;have hjl:=(List.getElem?_eq_some_iff.1 hj).1;have hv:cs'[j]?=some (cs'[j]'(by omega)):=getElem?_eq_getElem (by omega);exact⟨_,hcell j _ hv,(hps.get j c _ hj hv).2⟩
      obtain⟨X,hX⟩:∃X:Nat->PV,∀i,i<len->sF E (X i)/\(X i).cells.length=P.cellsOf e/\(∀c∈(X i).cells,c.one)/\
        ∀(j:Nat) c,(X i).cells[j]?=some c->∃v,w.cell? ((a.add (i*P.cellsOf e)).add j)=some v/\fA (·<w.heap.size) w c v:=by
       classical
       refine⟨fun i=>if h:i<len then(hone i h).choose else .bool false,fun i hi=>?_⟩;simp only[dif_pos hi];exact(hone i hi).choose_spec
      let xs:=(range len).map X
      have hel':b9 (P.cellsOf e) xs:=fun x hx=>by
       obtain⟨i,hi,rfl⟩:=mem_map.1 hx;have:=hX i (by simpa using hi);exact⟨this.2.1,this.2.2.1⟩
      have hpos:=hc.2
      -- a cell of the whole
      have hcellq:∀(q:Nat) c,(flat xs)[q]?=some c->∃i j,i<len/\q=P.cellsOf e*i+j/\(X i).cells[j]?=some c:=by
       intro q c hq;have hql:=(List.getElem?_eq_some_iff.1 hq).1;rw[cF hel']at hql
       have hxl:xs.length=len:=by simp[xs]
       rw[hxl]at hql;have hi:q / P.cellsOf e<len:=Nat.div_lt_of_lt_mul hql
       have hxi:xs[q / P.cellsOf e]?=some (X (q / P.cellsOf e)):=by simp[xs,hi]
       have hjl:q % P.cellsOf e<(X (q / P.cellsOf e)).cells.length:=by rw[(hX _ hi).2.1];exact Nat.mod_lt _ hpos
       have hj:(X (q / P.cellsOf e)).cells[q % P.cellsOf e]?=some ((X (q / P.cellsOf e)).cells[q % P.cellsOf e]):=getElem?_eq_getElem hjl;have:=lv hel' hxi hj;rw[Nat.div_add_mod]at this;refine⟨_,_,hi,(Nat.div_add_mod q (P.cellsOf e)).symm,?_⟩;rw[hj,<-this,hq]
      have hat:∀(q:Nat) c,(flat xs)[q]?=some c->∃v,a=⟨a.block,a.off,none⟩/\a.block<w.heap.size/\w.cell? ⟨a.block,a.off+q,none⟩=some v/\fA (·<w.heap.size) w c v:=by
       intro q c hq;obtain⟨i,j,hi,rfl,hj⟩:=hcellq q c hq;obtain⟨v,hv,hr⟩:=(hX i hi).2.2.2 j c hj
       -- the slice's own address has no spot: its first cell is there
       have h0:∃u,w.cell? a=some u:=by
        obtain⟨c0,hc0⟩:∃c0,(X 0).cells[0]?=some c0:=⟨_,getElem?_eq_getElem (by rw[(hX 0 (by omega)).2.1];exact hpos)⟩;obtain⟨u,hu,-⟩:=(hX 0 (by omega)).2.2.2 0 c0 hc0;exact⟨u,by simpa [Addr.add]using hu⟩
       obtain⟨u,hu⟩:=h0;obtain⟨ha,hab⟩:=DQ hu;refine⟨v,ha,hab,?_,hr⟩;rw[ha,IS]at hv;split at hv
       ·rename_i he
        have:P.cellsOf e*i+j=0:=by rw[mul_comm];exact he
        rw[this];simpa using hv
       ·rw[mul_comm];exact hv
      refine⟨[.slice (P.cellsOf e) xs],.cons (.slice fun x hx=>?_) trivial ?_ .nil⟩
      ·obtain⟨i,hi,rfl⟩:=mem_map.1 hx;exact(hX i (by simpa using hi)).1
      ·refine .slice (fun q=>(w.cell? ⟨a.block,a.off+q,none⟩).getD undef) (by simp[xs]) hlc hmax hel' (fun q c hq=>?_)<|fun q c hq=>?_
       ·obtain⟨v,h1,h2,h3,h4⟩:=hat q c hq;exact⟨a.block,a.off,congrArg some h1,h2,by rw[h3];rfl⟩
       ·obtain⟨v,h1,h2,h3,h4⟩:=hat q c hq;simp only[h3,getD_some];exact h4
    ·cases h
  ·rename_i fs hu;split at h
   ·cases h
   ·rename_i Cs hCs;split at h
    ·rename_i hc;cases h;obtain⟨xs,n,-,-,hl,hxl,hf⟩:=DataW.trod_struct hu hx
     obtain⟨ps,hps⟩:=so (w5 P d) (fun t T hT fuel cs x hx=>ih t T hT fuel cs x hx) n cs fs.toList 0 Cs hCs (fun f hfm=>by
      obtain⟨i,hi,rfl⟩:=mem_iff_getElem.1 hfm
      have hi':i<fs.size:=by simpa using hi
      have:=hf i fs[i] (Array.getElem?_eq_getElem hi')
      exact⟨xs[i]'(by omega),by simpa [getElem?_eq_getElem (show i<xs.length by omega)]using this⟩)
     refine⟨ps,?_⟩;rw[List.drop_zero,List.take_of_length_le (by omega)]at hps;exact hps
    ·cases h
  ·rename_i n e hu;split at h
   ·cases h
   ·rename_i E hE;split at h
    ·rename_i hc;cases h;obtain⟨xs,m,-,-,hl,hxl,hf⟩:=DataW.trod_array hu hx
     obtain⟨ps,hps⟩:=tM (w:=w) hc.1 cs n 0 (fun i hi=>by
      have:=hf i hi;rw[getElem?_eq_getElem (by omega)]at this;obtain⟨ps,hps⟩:=ih e E hE m _ _ this
      exact⟨ps,by rw[zero_add];exact hps⟩)
     refine⟨ps,?_⟩;rw[Nat.zero_mul,List.drop_zero,List.take_of_length_le (by omega)]at hps;exact hps
    ·cases h
  ·cases h
end
open Go.ChangeShapes Go.WideShapes Go.ChangeAt Go.RowKit
section
variable {H : Type} {enc : TypeId × Value -> H} {P : Program} {w : World} {base : Nat} {spare : Nat -> Bool} {held : Bool}
theorem wW {r:Reach}{b0:Nat}(ht:P.underlying t=some (.array n e))(h:Value.okWide P w r b0 t v):∃cs,v=.agg cs/\cs.size=P.cellsOf t:=by
 simp only[Value.okWide,ht]at h;obtain⟨cs,h1,h2,_⟩:=h;exact⟨cs,h1,h2⟩
theorem qJ {ts:List TS}{cs:Array Value}(h:jD I w ts ps cs.toList):fA I w (.agg ps) (.agg cs):=by
 obtain⟨h1,h2⟩:=h.len
 have hsz:cs.size=ps.length:=by simp at h2;omega
 refine .agg hsz (fun c hc=>?_) fun i c v hc hv=>(h.get i c v hc (by simpa using hv)).2;obtain⟨j,hj,rfl⟩:=mem_iff_getElem.1 hc;exact(h.get j _ (cs.toList[j]'(by simp;omega)) (getElem?_eq_getElem hj) (getElem?_eq_getElem _)).1
theorem ny {T:TS}(h:jD I w [T] ps [v]):∃p,sF T p/\fA I w p v:=by
 cases h with
 |cons h ho hr hs=>exact⟨_,h,hr⟩
theorem Gn {T:TS}{r:Reach}{b0:Nat}{D:DataW H}{ps:List MemPlace}(hT:w5 P d t=some T)(hval:Value.okWide P w r b0 t v)(h:DataW.Trod enc P w base spare held t v D ps) :
  ∃p,sF T p/\fA (·<w.heap.size) w p v:=by
 obtain⟨fuel,hf⟩:=h;obtain⟨qs,hq⟩:=Ew d t T hT fuel _ _ hf
 cases d with
 |zero=>cases hT
 | succ d=>
  unfold w5 at hT;split at hT
  ·rename_i k hu;cases hT;obtain⟨n,rfl⟩:=okWide_int hu hval;exact ny hq
  ·rename_i hu;cases hT;obtain⟨b,rfl⟩:=okWide_bool hu hval;exact ny hq
  ·rename_i e hu;split at hT
   ·cases hT
   ·split at hT
    ·cases hT;obtain⟨a,l,c,rfl⟩:=okWide_slice hu hval;exact ny hq
    ·cases hT
  ·rename_i fs hu;split at hT
   ·cases hT
   ·split at hT
    ·cases hT;obtain⟨cs,rfl,-⟩:=okWide_struct hu hval;exact⟨.agg qs,.agg hq.tiss,qJ hq⟩
    ·cases hT
  ·rename_i n e hu;split at hT
   ·cases hT
   ·split at hT
    ·cases hT;obtain⟨cs,rfl,-⟩:=wW hu hval;exact⟨.agg qs,.agg hq.tiss,qJ hq⟩
    ·cases hT
  ·cases hT
def Db (P:Program)(d:Nat):List TypeId->Option (List TS)
 |[]=>some []
 |t::r=>match w5 P d t,Db P d r with
  |some T,some Ts=>some (T::Ts)
  |_,_=>none
theorem vC {d:Nat}{r:Reach}{b0:Nat}:∀{ts:List TypeId} {Ts:List TS} {vs:List Value} {ds:List (DataW H)} {ps:List MemPlace},Db P d ts=some Ts->DataW.TrodAll enc P w base spare held ts vs ds ps->
  (∀(j:Nat) t v,ts[j]?=some t->vs[j]?=some v->Value.okWide P w r b0 t v)->∃qs,TIss Ts qs/\yw (·<w.heap.size) w qs vs/\ds.length=ts.length
 |[],Ts,vs,ds,ps,hT,h,_=>by
  cases hT;obtain⟨rfl,rfl,rfl⟩:=trodAll_nil h;exact⟨[],.nil,trivial,rfl⟩
 |t::ts,Ts,vs,ds,ps,hT,h,hval=>by
  obtain⟨v,vs',D,ds',p,q,rfl,rfl,rfl,h1,h2⟩:=trodAll_cons h;unfold Db at hT;split at hT
  ·rename_i T Ts' e1 e2;cases hT;obtain⟨x,hx,hr⟩:=Gn e1 (hval 0 t v rfl rfl) h1;obtain⟨qs,hqs,hrs,hl⟩:=vC e2 h2 fun j t v hj hv=>hval (j+1) t v (by simpa using hj) (by simpa using hv);exact⟨x::qs,.cons hx hqs,⟨hr,hrs⟩,by simp[hl]⟩
  ·cases hT
def s5 (P:Program):List TypeId->Bool
 |[]=>true
 |t::r=>P.readableRec t&&blt t P.types.size&&s5 P r
theorem vD {W W':World}{sp:Nat->Bool}(hl:laidOutB P=true)(hb:Below W.heap.size W W'):∀{ts:List TypeId} {vs:List Value} {ds:List (DataW H)} {ps:List MemPlace},s5 P ts=true->
  DataW.TrodAll enc P W 0 (fun _=>true) true ts vs ds ps->(∀p∈ps,p.block<W.heap.size)->(∀p∈ps,sp p.block=true)->DataW.TrodAll enc P W' 0 sp true ts vs ds ps
 |[],vs,ds,ps,_,h,_,_=>by
  obtain⟨rfl,rfl,rfl⟩:=trodAll_nil h;rfl
 | t::ts,vs,ds,ps,hr,h,hlt,hsp=>by
  obtain⟨v,vs',D,ds',p,q,rfl,rfl,rfl,h1,h2⟩:=trodAll_cons h;simp only[s5,Bool.and_eq_true]at hr
  refine⟨p,q,WideElems.Trod_stays hl hr.1.1 (by simpa using hr.1.2) h1 (fun x hx=>hb.same (hlt x (mem_append_left _ hx))) (fun x hx=>hsp x (mem_append_left _ hx)),
   vD hl hb hr.2 h2 (fun x hx=>hlt x (List.mem_append_right _ hx)) (fun x hx=>hsp x (List.mem_append_right _ hx)),rfl⟩
theorem Ej {f:Func}{s:ChangeSpec}{W W':World}{ds gs:List (DataW H)}{before pa pv:List MemPlace}
  (hW:DataW.Whole enc P f.params.toList s.vars apart W args.toList ds gs before)
  (hres:∀(b:Nat) (sp:Nat->Bool) (hd:Bool),DataW.TrodAll enc P W' b sp hd f.resultTypes.toList (v.resultList f.resultTypes.size) (s.fn H (ds++gs)).results [])
  (hargs:∀sp:Nat->Bool,(∀p∈before,sp p.block=true)->DataW.TrodAll enc P W' 0 sp true f.params.toList args.toList (s.fn H (ds++gs)).args pa)
  (hvars:∀sp:Nat->Bool,(∀p∈before,sp p.block=true)->DataW.TrodVars enc P W' sp s.vars (s.fn H (ds++gs)).vars pv)
  (hps:before=pa++pv) (hk:W.keptBut W' (·∈before)) (hfz:∀b off,MemPlace.cell b off∈before->W'.frozen? ⟨b,off,none⟩=W.frozen? ⟨b,off,none⟩)
  (hok:∀(j:Nat) (t:TypeId) (r:Value),f.resultTypes[j]?=some t->(v.resultList f.resultTypes.size)[j]?=some r->Value.okWide P W' .any 0 t r) :
  s.post enc P f apart fresh handsOn again W args v W':=by
 have hold:∀p∈before,(fun b=>decide (b<W.heap.size)) p.block=true:=fun p hp=>by simpa using hW.lt p hp
 refine⟨ds,gs,before,[],pa,pv,hW,hres _ _ _,hargs _ hold,hvars _ hold,World.keptBut_mono (fun p hp=>⟨hp,?_⟩) hk,fun _=>?_⟩
 ·rw[hps,mem_append]at hp;exact Or.inr hp
 ·obtain⟨_,_,_,_,_,hz,hn⟩:=hW;refine⟨hok,_,_,([]++pa)++pv,⟨[]++pa,pv,trodAll_append (hargs _ (fun _ _=>rfl)) (hres _ _ _),hvars _ (fun _ _=>rfl),rfl,?_,?_⟩,?_⟩
  ·intro b off hp
   have hp':MemPlace.cell b off∈before:=by rw[hps];simpa using hp
   rw[hfz b off hp'];exact hz b off hp'
  ·intro ha;have:=hn ha;rw[hps]at this;simpa using this
  ·intro p hp _;rw[hps];simpa using hp
theorem D5 {k:FuncId}{s:ChangeSpec}{ts:List TypeId}{Ts:List TS}{bt:TypeId}(hl:laidOutB P=true)(hp:fn.params.toList=ts)(hrd:s5 P ts=true)(hTs:Db P d ts=some Ts)
  (hvars:s.vars=[]) (hres:fn.resultTypes=#[bt]) (hbt:P.underlying bt=some .bool)
  (hspec:∀(H:Type) (ds:List (DataW H)),ds.length=ts.length->(s.fn H ds).results=[.lit (.bool true)]/\(s.fn H ds).args=ds/\(s.fn H ds).vars=[])
  (law:∀qs,TIss Ts qs->aq P k qs [.bool true]) (W:World) (b0:Nat) (args:Array Value) (ds gs:List (DataW H)) (before:List MemPlace)
  (hval:∀(j:Nat) t v,fn.params[j]?=some t->args[j]?=some v->Value.okWide P W .any b0 t v) (hW:DataW.Whole enc P fn.params.toList s.vars apart W args.toList ds gs before) :
  Calls P k args W fun e W'=>∃v,e=.returned v/\s.post enc P fn apart fresh handsOn again W args v W':=by
 have hW':=hW;obtain⟨p,q,hA,hV,rfl,hfz,hnd⟩:=hW;rw[hvars]at hV;obtain⟨rfl,rfl⟩:=trodVars_none hV;rw[hp]at hA;obtain⟨qs,hqs,hrep,hlen⟩:=vC hTs hA (fun j t v hj hv=>hval j t v (by rw[<-hp]at hj;simpa using hj) (by simpa using hv));refine(law qs hqs args W (·<W.heap.size) (fun _ h=>h) hrep).mono ?_;rintro e W' ⟨v,rfl,hv,hb⟩
 have hv':v=.bool true:=by
  cases hv with
  |p h=>cases h;rfl
 subst hv';obtain⟨s1,s2,s3⟩:=hspec H (ds++[]) (by simpa using hlen);refine⟨_,rfl,Ej (pa:=p) (pv:=[]) hW' ?_ ?_ ?_ (by simp) (hb.frame _) ?_ ?_⟩
 ·intro b sp hd;rw[s1,hres];exact trodAll_mk1<|shut_bool hbt true
 ·intro sp hsp;rw[s2,List.append_nil,hp];exact vD hl hb hrd hA (fun x hx=>hW'.lt x (mem_append_left _ hx))<|fun x hx=>hsp x<|mem_append_left _ hx
 ·intro sp hsp;rw[s3,hvars];rfl
 ·exact fun b off hp=>hb.frozen<|hW'.lt _ hp
 ·exact ok_one hres Z<|okWide_bool_mk hbt true
end
theorem AC {t:TS}{ts:List TS}{qs:List PV}(h:TIss (t::ts) qs):∃p ps,qs=p::ps/\sF t p/\TIss ts ps:=by
 cases h with
 |cons h hs=>exact⟨_,_,rfl,h,hs⟩
theorem Jr {qs:List PV}(h:TIss [] qs):qs=[]:=by cases h;rfl
def iter {α β:Type}(step:α->Option (α⊕β)):Nat->α->Option β
 |0,_=>none
 |n+1,x=>match step x with
  |none=>none
  |some (.inl y)=>iter step n y
  |some (.inr b)=>some b
def aY :Nat:=4611686018427387904
def ix {α:Type}(l:List α)(i:Int):Option α:=if 0<=i then l[i.toNat]? else none
def wP {α:Type}(l:List α)(lo hi:Int):Bool:=decide (0<=lo/\lo<=hi/\hi<=l.length)
def bJ (a b bytes:Nat):Bool:=decide ((a+b)*(bytes+1)<=140737488355328)
def bP {α β:Type}[DecidableEq α]:List (α×β)->α->β->List (α×β)
 |[],k,v=>[(k,v)]
 |(a,b)::r,k,v=>if a=k then(k,v)::r else(a,b)::bP r k v
def bh (x:Int):PV:=.int .i64 x
def Oz {α:Type}(m:Nat)(f:α->PV)(l:List α):PV:=.slice m (l.map f)
theorem Gs {α β:Type}{x:Option α}{f:α->Option β}{r:β}(h:x.bind f=some r):∃v,x=some v/\f v=some r:=Option.bind_eq_some_iff.1 h
theorem CT {β:Type}{b:Bool}{x:Option β}{r:β}(h:(bif b then x else none)=some r):b=true/\x=some r:=by
 cases b
 ·cases h
 ·exact⟨rfl,h⟩
theorem Ol {β:Type}{b:Bool}{x y:Option β}{r:β}(g:b=true)(h:(bif b then x else y)=some r):x=some r:=by subst g;exact h
theorem Ok {β:Type}{b:Bool}{x y:Option β}{r:β}(g:b=false)(h:(bif b then x else y)=some r):y=some r:=by subst g;exact h
theorem cR {α β γ:Type}{f:α->Option γ}{g:β->Option γ}{v:α}{r:γ}(h:Sum.elim f g (.inl v)=some r):f v=some r:=h
theorem bO {α β γ:Type}{f:α->Option γ}{g:β->Option γ}{v:β}{r:γ}(h:Sum.elim f g (.inr v)=some r):g v=some r:=h
theorem jN {l:List α}{i:Int}{y:α}(h:ix l i=some y):0<=i/\l[i.toNat]?=some y:=by
 unfold ix at h;split at h
 ·exact⟨by assumption,h⟩
 ·cases h
section
variable {P : Program} {n k : Nat} {env : aE} {H : List ab} {Q : Exit -> aE -> List ab -> Prop}
theorem LW.cutB {b:α⊕β}{E:α->aE}{O:α->List ab}{x y:Code}(h:LW P n k x env H (wZ (fun env' H'=>∃v,b=.inl v/\dW k (E v) (O v) env' H') Q))
  (hy:∀v,b=.inl v->LW P n k y (E v) (O v) Q):LW P n k (.seq x y) env H Q:=
 LW.seq (h.mono fun e env' H' q=>by
  cases e with
  |normal=>
   obtain⟨v,e,hw⟩:=q;exact LW.weak hw<|hy v e
  |_=>exact q)
theorem sE.trans :∀{a b c:aE},sE a b->sE b c->sE a c
 |[],_,_,_,_=>trivial
 |(_,_)::_,_,_,h,h'=>⟨h'.get _ _ h.1,sE.trans h.2 h'⟩
theorem dW.trans {e1 e2 e3:aE}{H1 H2 H3:List ab}(h:dW k e1 H1 e2 H2)(h':dW k e2 H2 e3 H3):dW k e1 H1 e3 H3:=by
 obtain⟨h1,j,h2,h3,rfl,h5,h6⟩:=h;obtain⟨g1,i,g2,g3,rfl,g5,g6⟩:=h';refine⟨h1.trans g1,j,h2,?_,?_,h5,h6⟩
 ·simp at h3;omega
 ·simp at h3;rw[List.take_take,Nat.min_eq_left (by omega)]
theorem LW.tailB {b:α⊕β}{E:α->aE}{O:α->List ab}{x:Code}(h:LW P n k x env H (wZ (fun env' H'=>∃v,b=.inl v/\dW k (E v) (O v) env' H') Q))
  (hy:∀v,b=.inl v->∀env' H',dW k (E v) (O v) env' H'->Q .normal env' H'):LW P n k x env H Q:=
 h.mono fun e env' H' q=>by
  cases e with
  |normal=>
   obtain⟨v,e,hw⟩:=q;exact hy v e _ _ hw
  |_=>exact q
theorem LW.tail {E:aE}{x:Code}(h:LW P n k x env H (wZ (fun env' H'=>dW k E O env' H') Q))
  (hy:∀env' H',dW k E O env' H'->Q .normal env' H'):LW P n k x env H Q:=
 h.mono fun e env' H' q=>by
  cases e with
  |normal=>exact hy _ _ q
  |_=>exact q
theorem LW.iterB {c:Code}{step:α->Option (α⊕β)}{N:Nat}{x0:α}{b:β}(E:α->aE)(O:α->List ab)(hb:iter step N x0=some b)(hw:dW k (E x0) (O x0) env H)
  (round:∀x z,step x=some z->(∀b',z=.inr b'->b'=b)->LW P n k c (E x) (O x) (wZ (fun env' H'=>∃y,z=.inl y/\dW k (E y) (O y) env' H') Q)):LW P n k (.loop c) env H Q:=by
 refine LW.loop (fun m env H=>∃x,iter step m x=some b/\dW k (E x) (O x) env H) N ⟨x0,hb,hw⟩ ?_;rintro m env H ⟨x,hx,hw⟩
 cases m with
 |zero=>cases hx
 | succ m=>
  refine LW.weak hw ?_
  have hz:∃z,step x=some z/\(∀y,z=.inl y->iter step m y=some b)/\∀b',z=.inr b'->b'=b:=by
   unfold iter at hx;split at hx
   ·cases hx
   ·rename_i y e;refine⟨_,e,?_,?_⟩
    ·intro y' h;cases h;exact hx
    ·intro b' h;cases h
   ·rename_i y e;refine⟨_,e,?_,?_⟩
    ·intro y' h;cases h
    ·intro b' h;cases h;cases hx;rfl
  obtain⟨z,h1,h2,h3⟩:=hz;refine(round x z h1 h3).mono fun e env' H' q=>?_
  cases e with
  |normal=>
   obtain⟨y,rfl,hw'⟩:=q;exact⟨m,Nat.lt_succ_self m,y,h2 y rfl,hw'⟩
  |_=>exact q
theorem bY.zsP {t m:Nat}(ht:env.get t=some .zs):bY k env H ((t,.p (.slice m []))::env) H:=by
 intro n μ I w a hn hk;refine⟨μ,I,⟨hn.size,hn.defers,hn.st,fun u x hu=>?_⟩,cI.refl _ _ _ _ hk⟩;rw[aE.get_cons]at hu;split at hu
 ·rename_i e;subst e;cases hu;obtain⟨v,hv,hr⟩:=hn.env t _ ht
  cases hr with
  |@zs ad=>exact⟨_,hv,.p (.slice (fun _=>undef) rfl (le_refl _) (zero_le _) .nil (fun i c h=>by simp[flat]at h) (fun i c h=>by simp[flat]at h))⟩
 ·exact hn.env u x hu
theorem bY.zsCell (hi:br H i=some (.box cs))(hj:br cs j=some .zs)(hcs:bK cs j (.p (.slice m []))=some cs')
  (hH:bK H i (.box cs')=some H'):bY k env H env H':=by
 intro n μ I w a hn hk;obtain⟨e1,e2⟩:=bH hcs;obtain⟨e3,e4⟩:=bH hH;subst e3;subst e1;rw[bj]at hi hj;refine⟨μ,I,⟨hn.size,hn.defers,{ hn.st with len:=by simp[hn.st.len],objs:=?_},hn.env⟩,cI.refl _ _ _ _ hk⟩;intro q ob B hob hB;rw[getElem?_set]at hob;by_cases hqi:i=q
 ·subst hqi;simp[e4]at hob;subst hob;have hold:=hn.st.objs i (.box cs) B hi hB
  cases hold with
  | @box _ b vs e hb hl ho hr=>
   refine .box hb (by simpa using hl) ho fun p c v hc hv=>?_;rw[getElem?_set]at hc;split at hc
   ·rename_i e;subst e;cases hc;have:=hr j _ v hj hv
    cases this with
    |@zs ad=>exact .p (.slice (fun _=>undef) rfl (le_refl _) (zero_le _) .nil (fun i c h=>by simp[flat]at h) (fun i c h=>by simp[flat]at h))
   ·exact hr p c v hc hv
 ·rw[i0_ hqi]at hob;exact hn.st.objs q ob B hob hB
end
section
variable {P : Program} {o : Oper} {env : aE} {H : List ab} {α : Type} {f : α -> PV}
theorem aa.indexAddrX {t:TypeId}{x y:Operand}{m bytes:Nat}{l:List α}{k:IntKind}{j:Int}{z:α}{ps:List PV}(ho:o.op=.indexAddr t x y)(hx:bf env x=some (.p (.slice m (l.map f))))
  (hy:bf env y=some (.p (.int k j))) (hT:dn P t=some (m,bytes)) (h:ix l j=some z) (hp:eR (f z)=some ps):aa P o env H (Is (.cptr ps) H):=
 aa.indexAddr ho hx hy hT (jN h).1 (by rw[getElem?_map,(jN h).2];rfl) hp
theorem aa.indexAddrVX {x y:Operand}{l:List α}{j:Int}{z:α}(ho:o.op=.indexAddr t x y)(hx:bf env x=some (.vec m id (l.map f).length 0 (l.map f).length))
  (hy:bf env y=some (.p (.int k j))) (hH:br H id=some (.vec m (l.map f))) (hT:dn P t=some (m,bytes)) (h:ix l j=some z) :
  aa P o env H (Is (.vptr m id (l.map f).length (0+j.toNat) 0) H):=
 aa.indexAddrV ho hx hy hH rfl hT (jN h).1 (by
  have h1:=(List.getElem?_eq_some_iff.1 (jN h).2).1;have h2:=(jN h).1
  simp;omega)
theorem aa.loadVX {x:Operand}{m id fo n:Nat}{j:Int}{l:List α}{z:α}{cs q:List LV}(ho:o.op=.load t x)
  (hx:bf env x=some (.vptr m id (l.map f).length (0+j.toNat) fo)) (hH:br H id=some (.vec m (l.map f))) (hT:bl P t=some (n,ag)) (h:ix l j=some z) (hp:eR (f z)=some ps) (hcs:ow ps=some cs)
  (hq:sM cs fo n=some q) (hl:uN ag q=some r):aa P o env H (Is r H):=
 aa.loadV ho hx hH rfl hT (by rw[zero_add,getElem?_map,(jN h).2];rfl) hp hcs hq hl
theorem aa.lenM {t:TypeId}{x:Operand}{m:Nat}{l:List α}(ho:o.op=.call { callee:=.builtin .len,args:=#[x],argTypes:=#[t]})(hx:bf env x=some (.p (.slice m (l.map f))))
  (hT:wR P t=true):aa P o env H (Is (.p (.int .i64 (l.length:Int))) H):=by
 have h:=aa.len (H:=H) ho hx hT
 rwa [List.length_map]at h
theorem aa.lenVM {x:Operand}{l:List α}(ho:o.op=.call { callee:=.builtin .len,args:=#[x],argTypes:=#[t]})(hx:bf env x=some (.vec m id (l.map f).length 0 (l.map f).length))
  (hH:br H id=some (.vec m (l.map f))) (hT:wR P t=true):aa P o env H (Is (.p (.int .i64 (l.length:Int))) H):=by
 have h:=aa.lenV (H:=H) ho hx hH rfl hT
 rwa [List.length_map]at h
theorem aa.sliceHi {x hi:Operand}{l:List α}{h:Int}(ho:o.op=.slice t x none (some hi) none)(hx:bf env x=some (.p (.slice m (l.map f))))
  (hhi:bf env hi=some (.p (.int k h))) (hT:dn P t=some (m,bytes)) (hb:wP l 0 h=true):aa P o env H (Is (.p (.slice m ((l.take h.toNat).map f))) H):=by
 have hb:=of_decide_eq_true hb;have:=aa.slice (H:=H) (l:=none) (h:=some h) ho hx rfl (by simp[jT,hhi]) hT (by simp) (by simp;omega) (by simp;omega);simpa using this
theorem aa.sliceLo {x lo:Operand}{l:List α}{h:Int}(ho:o.op=.slice t x (some lo) none none)(hx:bf env x=some (.p (.slice m (l.map f))))
  (hlo:bf env lo=some (.p (.int k h))) (hT:dn P t=some (m,bytes)) (hb:wP l h l.length=true):aa P o env H (Is (.p (.slice m ((l.drop h.toNat).map f))) H):=by
 have hb:=of_decide_eq_true hb;have:=aa.slice (H:=H) (l:=some h) (h:=none) ho hx (by simp[jT,hlo]) rfl hT (by simp;omega) (by simp;omega) (by simp);simp only[getD_some,Option.getD_none,Int.toNat_natCast]at this;rw[List.take_of_length_le (by simp)]at this
 rwa [List.map_drop]
theorem aa.appendZX {x y:Operand}{zs:List PV}(f:α->PV)(ys:List α)
  (ho:o.op=.call { callee:=.builtin .append,args:=#[x,y],argTypes:=#[t,t]}) (hx:bf env x=some .zs) (hid:dq H=some id)
  (hy:bf env y=some l) (hc:iy (H++[.vec m []]) l m zs) (hz:zs=ys.map f) (hT:dn P t=some (m,bytes)) (hb:bJ 0 ys.length bytes=true) (hH':jF H (.vec m (ys.map f))=some H') :
  aa P o env H (Is (.vec m id (ys.map f).length 0 (ys.map f).length) H'):=by
 subst hz;exact aa.appendZ ho hx hid hy hc hT (by have:=of_decide_eq_true hb;simpa using this) hH'
theorem aa.appendX {x y:Operand}{zs:List PV}(f:α->PV)(xs ys:List α)
  (ho:o.op=.call { callee:=.builtin .append,args:=#[x,y],argTypes:=#[t,t]}) (hx:bf env x=some (.vec m id (xs.map f).length 0 (xs.map f).length)) (hH:br H id=some (.vec m (xs.map f)))
  (hy:bf env y=some l) (hc:iy H l m zs) (hz:zs=ys.map f) (hT:dn P t=some (m,bytes)) (hb:bJ xs.length ys.length bytes=true) (hH':bK H id (.vec m ((xs++ys).map f))=some H') :
  aa P o env H (Is (.vec m id ((xs++ys).map f).length 0 ((xs++ys).map f).length) H'):=by
 subst hz;have h:=aa.append (H':=H') ho hx hH rfl rfl hy hc hT (by have:=of_decide_eq_true hb;simpa using this) (by rw[<-List.map_append];exact hH');simpa [add_comm]using h
theorem cj.appendZX {x y:Operand}{zs:List PV}(f:α->PV)(ys:List α)
  (ho:o.op=.call { callee:=.builtin .append,args:=#[x,y],argTypes:=#[t,t]}) (hx:bf env x=some .zs) (hid:br H id=some .slot)
  (hy:bf env y=some (.p (.slice m zs))) (hz:zs=ys.map f) (hT:dn P t=some (m,bytes)) (hb:bJ 0 ys.length bytes=true) :
  cj P o env H [id] (some (id,.vec m (ys.map f))) (.vec m id (ys.map f).length 0 (ys.map f).length):=by
 subst hz;exact cj.appendZ ho hx hid hy hT (by have:=of_decide_eq_true hb;simpa using this)
theorem cj.appendX {x y:Operand}{zs:List PV}(f:α->PV)(xs ys:List α)
  (ho:o.op=.call { callee:=.builtin .append,args:=#[x,y],argTypes:=#[t,t]}) (hx:bf env x=some (.vec m id (xs.map f).length 0 (xs.map f).length)) (hH:br H id=some (.vec m (xs.map f)))
  (hy:bf env y=some (.p (.slice m zs))) (hz:zs=ys.map f) (hT:dn P t=some (m,bytes)) (hb:bJ xs.length ys.length bytes=true) :
  cj P o env H [id] (some (id,.vec m ((xs++ys).map f))) (.vec m id ((xs++ys).map f).length 0 ((xs++ys).map f).length):=by
 subst hz;have h:=cj.append (P:=P) (o:=o) (env:=env) (H:=H) (m:=m) (id:=id) (xs:=xs.map f) (ys:=ys.map f) ho hx hH rfl rfl hy hT (by have:=of_decide_eq_true hb;simpa using this);simpa [add_comm]using h
theorem aa.buildSliceV {len m bytes id:Nat}{parts:Array (Nat×Operand)}{ls:List (Nat×LV)}{zs:List PV}(f:α->PV)(ys:List α)(ho:o.op=.buildSlice t len parts)(hT:dn P t=some (m,bytes))
  (hl:jR env parts.toList=some ls) (hy:nq 0 ls=some zs) (hlen:dq zs=some len) (he:kJ m zs=true) (hsm:ble (len*m) 16777216=true) (h0:blt 0 len=true) (hz:zs=ys.map f)
  (hid:dq H=some id) (hH':jF H (.vec m (ys.map f))=some H') :
  aa P o env H (Is (.vec m id (ys.map f).length 0 (ys.map f).length) H'):=by
 subst hz;intro a w μ I hs hE K Q hK
 obtain⟨l1,l2⟩:=jb hE (ps:=parts.toList) (fun p hp=>by
  rw[ho];simp[Op.operands]
  exact⟨p.1,by simpa using hp⟩) hl
 have e:(parts.map fun(i,x)=>(i,a.eval x)).toList=parts.toList.map fun p=>(p.1,a.eval p.2):=by simp
 obtain⟨p1,p2⟩:=rL hy;have hlen':=cd hlen;obtain⟨el,i,z,hu,hi,hz,hzs,rfl,rfl,hpos⟩:=cA hT;have hel:=fk he
 have hcz:((Array.range (len*i.size)).map (z.cells[· % z.cells.size]!)).size=len*i.size:=by simp
 obtain⟨out,o1,o2,-,o4⟩:=tX (I:=I) (w:=w) hpos (vs:=parts.toList.map fun p=>(p.1,a.eval p.2)) (i:=0) (ys:=ys.map f) (cells:=(Array.range (len*i.size)).map (z.cells[· % z.cells.size]!))
  (by omega) hel (fun q y v hy hv=>by
   have hq:=(List.getElem?_eq_some_iff.1 hy).1;have hx:ls[q]?=some (ls[q]'(by omega)):=getElem?_eq_getElem (by omega);obtain⟨y',hy',e'⟩:=p2 q _ hx;obtain⟨h5,h6⟩:=l2 q _ v hx hv;rw[hy]at hy';cases hy';rw[e']at h5 h6;refine⟨h5.symm,?_⟩
   cases h6;assumption) (by rw[hcz,<-hlen',zero_add,mul_comm])
 have hrun:(execOp a.eval o).run P w=.ok (.value (.slice (some ⟨w.heap.size,0,none⟩) len len)) (w.alloc (.cells out el)):=by
  simp only[execOp,ho,Instr.buildSlice]
  have h1:¬(len*i.size>16777216):=by have:=Nat.le_of_ble_eq_true hsm;omega
  simp only[Sem.run_bind,run_underlying hu,Result.andThen_ok,Sem.run_pure]
  have hso:(sizeOf el).run P w=.ok i.size w:=by simp[sizeOf,typeInfo,hi]
  simp only[hso,Result.andThen_ok];rw[i0_ (by simpa using h1)];by_cases h0:len*i.size=0
  ·have hl0:len=0:=by
    rcases Nat.mul_eq_zero.1 h0 with h|h
    ·exact h
    ·omega
   subst hl0;rw[i1_ h0]
   have hp0:parts.toList.map (fun p=>(p.1,a.eval p.2))=[]:=by
    apply eq_nil_of_length_eq_zero;omega
   rw[hp0]at o1;simp[Instr.fill]at o1;have hr0:Array.range 0=#[]:=rfl
   have ho1:out=#[]:=by rw[<-o1,hr0];simp
   simp[hp0,Instr.fill,newRow,ho1,hr0]
  ·rw[i0_ h0]
   have hzv:(zeroValue el).run P w=.ok z w:=by simp[zeroValue,typeInfo,hi,hz]
   simp only[Sem.run_bind,hzv,Result.andThen_ok,Sem.run_pure,e,o1];simp[newRow]
 unfold Oper.wp;rw[hrun];have hlen2:(ys.map f).length=len:=hlen'.symm
 have hpush:=hs.push (.cells out el) (.vec i.size (ys.map f)) (ys.map f).length fun μ' w' hE' hb=>by
  refine .vec (b:=w.heap.size) (vs:=out) (e:=el) hb ?_ ?_ hel fun q c v hc hv=>?_
  ·rw[o2,hcz,hlen2,mul_comm];exact le_refl _
  ·intro e0;rw[e0]at hlen2;simp at h0 hlen2;omega
  ·have hg:out[0+q]?=some v:=by rw[zero_add];exact hv
   have:=o4 q c v hc (by rw[mul_zero];exact hg);exact this.mono hE'.imm
 obtain⟨hs',hE'⟩:=hpush;have e1:=dC hH';subst e1;refine hK _ _ _ _ _ _ ⟨rfl,rfl⟩ hs' ?_ hE';have hid':=cd hid;refine .vec (B:=⟨some w.heap.size,(ys.map f).length⟩) (by rw[hid',<-hs.len];simp) Z (le_refl _) fun _=>.inr ⟨w.heap.size,len,rfl,by rw[hlen2];rfl,by omega,?_,out,el,?_,by omega,Nat.le_of_eq ?_⟩
 ·have:=Nat.le_of_ble_eq_true hsm;have h2:len<=len*i.size:=Nat.le_mul_of_pos_right _ hpos;unfold maxLen;omega
 ·show(w.heap.push _)[w.heap.size]?=_;simp
 ·rw[o2,hcz,zero_add,mul_comm]
variable {β : Type} [DecidableEq α]
theorem aa.getX {x y:Operand}{ag ok:Bool}{g:β->LV}{m:List (α×β)}(a:α)(z0:β)(hk:gH f n ag)(ho:o.op=.lookup t x y ok)(hx:bf env x=some (.map id))(hy:bf env y=some (.p (f a)))
  (hH:br H id=some (.map (ar f g m))) (hT:eM P t=some (ek,ev,n,ag)) (hz:mK P ev=some z) (hz':z=g z0) (hr:Ov ok (g ((am m a).getD z0)) (am m a).isSome=some r):aa P o env H (Is r H):=by
 subst hz'
 cases hf:am m a with
 |none=>rw[hf]at hr;exact aa.getMiss hk hf ho hx hy hH hT hz hr
 |some v=>rw[hf]at hr;exact aa.getHit hk hf ho hx hy hH hT hr
theorem Aw {m:List (α×β)}{a:α}{v:β}(h:am m a=none):bP m a v=m++[(a,v)]:=by
 induction m with
 |nil=>rfl
 |cons p r ih=>
  obtain⟨b,u⟩:=p;unfold am at h;unfold bP;split at h
  ·cases h
  ·rename_i hne;rw[i0_ hne,ih h];rfl
theorem tZ {f:α->PV}{g:β->LV}{n:Nat}{ag:Bool}(hk:gH f n ag):∀{m:List (α×β)} {k:α} {v:β} (u:β),am m k=some v->∃i,mE (f k) (ar f g m) (some i)/\ar f g (bP m k u)=(ar f g m).set i (f k,g u)
 |[],k,v,u,h=>by cases h
 | (b,c)::r,k,v,u,h=>by
  unfold am at h;split at h
  ·rename_i e;subst e;cases h;exact⟨0,.hit Z (by rw[hk.eq];simp) (fun j _ hj=>by omega),by simp[bP,ar]⟩
  ·rename_i hne;obtain⟨i,h1,h2⟩:=tZ hk u h;refine⟨i+1,?_,by simp only[bP,i0_ hne,ar,map_cons,List.set_cons_succ]at h2⊢;rw[h2]⟩
   cases h1 with
   |hit hi he hlt=>
    refine .hit (e:=_) (by simpa [ar]using hi) he fun j e hj hje=>?_
    cases j with
    |zero=>simp[ar]at hje;subst hje;rw[hk.eq];simp[Ne.symm hne]
    |succ j=>exact hlt j e (by omega) (by simpa [ar]using hje)
theorem aa.setX {x y z:Operand}{g:β->LV}{m:List (α×β)}(a:α)(v:β)(hk:gH f n ag)(ho:o.op=.mapUpdate t x y z\/o.op=.insert t x y z)(hx:bf env x=some (.map id))(hy:bf env y=some (.p (f a)))
  (hz:bf env z=some l) (hl:l=g v) (hH:br H id=some (.map (ar f g m))) (hT:eM P t=some (ek,ev,n,ag)) (hH':bK H id (.map (ar f g (bP m a v)))=some H'):aa P o env H (Is .any H'):=by
 cases hf:am m a with
 |none=>rw[Aw hf]at hH';exact aa.setNew hk hf ho hx hy hz hl hH hT hH'
 |some u=>
  subst hl;obtain⟨i,h1,h2⟩:=tZ (g:=g) hk v hf;rw[h2]at hH';exact Ju ho hx hy hz hH hT (hk.fits a) h1 hH'
end
section
variable {P : Program} {μ : List ci} {I : Nat -> Prop} {w : World} {H : List ab}
theorem ru (hs:St μ I w H){id b:Nat}(hid:μ[id]?=some ⟨some b,0⟩)(hH:H[id]?=some (.box cs)) :
  ∃vs e,w.heap[b]?=some (.cells vs e (0,0))/\vs.size=cs.length/\(∀v∈vs,eT v=true)/\∀(i:Nat) c v,cs[i]?=some c->vs[i]?=some v->aH μ I w c v:=by
 have hob:=hs.objs id _ _ hH hid
 cases hob with
 |box hb hlen hone hrep=>exact⟨_,_,hb,hlen,hone,hrep⟩
theorem kP {m:Mode}{b off:Nat}{vs:Array Value}(hb:w.heap[b]?=some (.cells vs e (0,0)))(hv:vs[off]?=some v):(load ⟨b,off,none⟩ m).run P w=.ok v w:=by
 simp[load,Sem.run,World.cell?,hb,hv]
theorem jY {m:Mode}{b off:Nat}{vs:Array Value}(hb:w.heap[b]?=some (.cells vs e (0,0)))(ho:off<vs.size)(h1:eT v=true) :
  (store ⟨b,off,none⟩ v m).run P w=.ok () (w.setCell ⟨b,off,none⟩ v):=by
 have hc:w.cell? ⟨b,off,none⟩=some vs[off]:=by simp[World.cell?,hb,ho]
 have hf:w.frozen? ⟨b,off,none⟩=false:=by simp[World.frozen?,hb]
 unfold store;cases v <;>simp[eT]at h1 <;>simp[Sem.run,hc,hf]
theorem St.cell (hs:St μ I w H){id b off:Nat}(hid:μ[id]?=some ⟨some b,0⟩)(hH:H[id]?=some (.box cs))(hoff:off<cs.length)(h1:eT v=true)(hv:aH μ I w x v) :
  St μ I (w.setCell ⟨b,off,none⟩ v) (H.set id (.box (cs.set off x)))/\cI μ.length μ I w μ I (w.setCell ⟨b,off,none⟩ v):=by
 obtain⟨vs,e,hb,hlen,hone,hrep⟩:=ru hs hid hH
 have hw:(w.setCell ⟨b,off,none⟩ v).heap[b]?=some (.cells (vs.setIfInBounds off v) e (0,0)):=by
  simp[World.setCell,Array.getElem?_modify,hb]
 refine hs.write (o:=.box (cs.set off x)) hid (w':=w.setCell ⟨b,off,none⟩ v) (fun c hc=>?_) (by simp[World.setCell]) Z Z Z (fun c e' f hc=>?_)<|fun hE=>?_
 ·simp[World.setCell,Array.getElem?_modify,Ne.symm hc]
 ·rw[hb]at hc;cases hc;exact⟨_,hw,by simp⟩
 ·refine .box hw (by simp[hlen]) (fun u hu=>?_)<|fun i c u hc hu=>?_
  ·have hu':u∈vs.toList.set off v:=by rw[<-Array.toList_setIfInBounds];exact Array.mem_toList_iff.2 hu
   rcases List.mem_or_eq_of_mem_set hu' with h|h
   ·exact hone u (by simpa using h)
   ·subst h;exact h1
  ·rw[getElem?_set]at hc;by_cases e':off=i
   ·subst e';rw[i1_ rfl,i1_ hoff]at hc;cases hc;rw[Array.getElem?_setIfInBounds_self_of_lt (by omega)]at hu;cases hu;exact hv.ext hE
   ·rw[i0_ e']at hc;rw[Array.getElem?_setIfInBounds_ne e']at hu;exact(hrep i c u hc hu).ext hE
end
section
variable {P : Program} {o : Oper} {env : aE} {H : List ab}
theorem aa.ext {f:FuncId}{e:Array Value->Sem Value}{fo:Operand}{args:Array Operand}{ats:Array TypeId}
  (ho:o.op=.call { callee:=.value fo,args:=args,argTypes:=ats}) (hf:bf env fo=some (.fn f [] [])) (hl:lE env args.toList=some ls)
  (hfn : P.funcs[f]? = some fn) (hb : fn.body.isNone = true) (hn : (fn.name == "runtime.NumGoroutine") = false) (hx : Extern.findNext fn = none) (he : Extern.find fn = some e)
  (h:∀μ I w vs,St μ I w H->cC μ I w ls vs->∃v w',(e vs.toArray).run P w=.ok v w'/\St μ I w' H'/\aH μ I w' x v/\cI μ.length μ I w μ I w'):aa P o env H (Is x H'):=by
 intro a w μ I hs hE K Q hK;have hfo:aH μ I w (.fn f [] []) (a.eval fo):=hE.ev (by rw[ho];simp[Op.operands,Call.operands]) hf;have hargs:=lF hE (xs:=args.toList) (by intro x hx;rw[ho];simp[Op.operands,Call.operands];exact .inr (by simpa using hx)) hl;obtain⟨v,w',h1,h2,h3,h4⟩:=h μ I w _ hs hargs;generalize hv:a.eval fo=u at hfo
 cases hfo with
 | @fn _ _ _ fs cs g1 g2 g3 g4=>
  have e1:fs=#[]:=Array.eq_empty_of_size_eq_zero g1;have e2:cs=#[]:=Array.eq_empty_of_size_eq_zero g2;subst e1;subst e2
  have ha:(args.toList.map a.eval).toArray=args.map a.eval:=by rw[<-Array.toList_map,Array.toArray_toList]
  rw[ha]at h1;have hb':fn.body=none:=Option.isNone_iff_eq_none.1 hb
  have hrun:(execOp a.eval o).run P w=.ok (.value v) w':=by
   have hn' : ¬ fn.name = "runtime.NumGoroutine" := by simpa using hn
   simp[execOp,ho,resolve,Deferred.ofValue,hv,invoke,callFunc,hfn,hn',hb',mark,Sem.run,hx,he,h1]
  unfold Oper.wp;rw[hrun];exact hK x H' v w' μ I ⟨rfl,rfl⟩ h2 h3 h4
theorem Kd (h:cC μ I w [x] vs):∃v,vs=[v]/\aH μ I w x v:=by
 match vs,h with
 |[v],h=>exact⟨v,rfl,h.1⟩
theorem Ke {x y:LV}(h:cC μ I w [x,y] vs):∃v u,vs=[v,u]/\aH μ I w x v/\aH μ I w y u:=by
 match vs,h with
 |[v,u],h=>exact⟨v,u,rfl,h.1,h.2.1⟩
theorem On {x y z:LV}(h:cC μ I w [x,y,z] vs):∃v u t,vs=[v,u,t]/\aH μ I w x v/\aH μ I w y u/\aH μ I w z t:=by
 match vs,h with
 |[v,u,t],h=>exact⟨v,u,t,rfl,h.1,h.2.1,h.2.2.1⟩
section
variable {fo : Operand} {args : Array Operand} {ats : Array TypeId} {f : FuncId} {fn : Func}
theorem aa.atomLoad {n:Int}(ho:o.op=.call { callee:=.value fo,args:=args,argTypes:=ats})(hf:bf env fo=some (.fn f [] []))
    (hl : lE env args.toList = some [.ptr id off]) (hfn : P.funcs[f]? = some fn) (hb : fn.body.isNone = true) (hn : (fn.name == "runtime.NumGoroutine") = false) (hx : Extern.findNext fn = none)
    (he:Extern.find fn=some (Extern.Atomic.loadT (.int k))) (hH:br H id=some (.box cs)) (hc:br cs off=some (.p (.int k n))):aa P o env H (Is (.p (.int k n)) H):=
  aa.ext ho hf hl hfn hb hn hx he fun μ I w vs hs hr=>by
    obtain⟨v,rfl,hv⟩:=Kd hr;rw[bj]at hH hc
    cases hv with
    | @ptr _ _ b hid=>
      obtain⟨ws,e,h1,h2,h3,h4⟩:=ru hs hid hH;have hi:=(List.getElem?_eq_some_iff.1 hc).1;have hw:ws[off]?=some ws[off]:=Array.getElem?_eq_getElem (by omega);have hr:=h4 off _ _ hc hw;obtain⟨hu,hk⟩:=bE hr;refine⟨ws[off],w,?_,hs,hr,cI.refl _ _ _ _ (le_refl _)⟩;have:=kP (P:=P) (m:=.atomic) h1 hw;rw[hu]at this⊢;have e0:∀u,Extern.Atomic.loadT (.int k) [u].toArray=(do Extern.Atomic.read (.int k) (<-asAddr u)):=fun u=>rfl;rw[e0];simp[Extern.Atomic.read,asAddr,this]
theorem aa.atomStore {x:PV}(ho:o.op=.call { callee:=.value fo,args:=args,argTypes:=ats})(hf:bf env fo=some (.fn f [] []))
    (hl : lE env args.toList = some [.ptr id off, .p x]) (hfn : P.funcs[f]? = some fn) (hb : fn.body.isNone = true) (hn : (fn.name == "runtime.NumGoroutine") = false) (hx : Extern.findNext fn = none)
    (he:Extern.find fn=some Extern.Atomic.storeT) (hx1:PV.oneB x=true) (hH:br H id=some (.box cs)) (hc:bK cs off (.p x)=some cs') (hH':bK H id (.box cs')=some H'):aa P o env H (Is (.tup []) H'):=
  aa.ext ho hf hl hfn hb hn hx he fun μ I w vs hs hr=>by
    obtain⟨v,u,rfl,hv,hu⟩:=Ke hr;rw[bj]at hH;obtain⟨e1,e2⟩:=bH hc;obtain⟨e3,e4⟩:=bH hH';subst e3;subst e1
    have h1:eT u=true:=by
      cases hu with
      |p hu=>cases x <;>simp[PV.oneB]at hx1 <;>exact hu.one (by trivial)
    cases hv with
    | @ptr _ _ b hid=>
      obtain⟨ws,e,g1,g2,g3,g4⟩:=ru hs hid hH;obtain⟨h5,h6⟩:=hs.cell hid hH e2 h1 hu;refine⟨.tuple #[],_,?_,h5,.tup Z (fun i c v hc=>by simp at hc),h6⟩;have:=jY (P:=P) (m:=.atomic) g1 (off:=off) (by omega) h1;have e0:∀u v,Extern.Atomic.storeT [u,v].toArray=(do _root_.Go.store (<-asAddr u) v .atomic;pure Extern.Atomic.none_):=fun u v=>rfl;rw[e0];simp[asAddr,this,Extern.Atomic.none_]
theorem cj.atomStore {id off:Nat}{x:PV}{cs cs':List LV}(ho:o.op=.call { callee:=.value fo,args:=args,argTypes:=ats})(hf:bf env fo=some (.fn f [] []))
  (hl : lE env args.toList = some [.ptr id off, .p x]) (hfn : P.funcs[f]? = some fn) (hb : fn.body.isNone = true) (hn : (fn.name == "runtime.NumGoroutine") = false) (hx : Extern.findNext fn = none)
  (he:Extern.find fn=some Extern.Atomic.storeT) (hx1:PV.oneB x=true) (hH:br H id=some (.box cs)) (hc:bK cs off (.p x)=some cs'):cj P o env H [id] (some (id,.box cs')) (.tup []):=
 fun _ hA=>aa.atomStore ho hf hl hfn hb hn hx he hx1 (hA.get (by simp) hH) hc (hA.set (by simp) hH)
theorem aa.atomCas {n m:Int}(ho:o.op=.call { callee:=.value fo,args:=args,argTypes:=ats})(hf:bf env fo=some (.fn f [] []))
    (hl : lE env args.toList = some [.ptr id off, .p (.int k n), .p (.int k m)]) (hfn : P.funcs[f]? = some fn) (hb : fn.body.isNone = true) (hn : (fn.name == "runtime.NumGoroutine") = false) (hx : Extern.findNext fn = none)
    (he:Extern.find fn=some (Extern.Atomic.casT (.int k))) (hH:br H id=some (.box cs)) (hold:br cs off=some (.p (.int k n))) (hc:bK cs off (.p (.int k m))=some cs') (hH':bK H id (.box cs')=some H') :
    aa P o env H (Is (.p (.bool true)) H'):=
  aa.ext ho hf hl hfn hb hn hx he fun μ I w vs hs hr=>by
    obtain⟨v,u,t,rfl,hv,hu,ht⟩:=On hr;rw[bj]at hH hold;obtain⟨e1,e2⟩:=bH hc;obtain⟨e3,e4⟩:=bH hH';subst e3;subst e1;obtain⟨rfl,-⟩:=bE hu;obtain⟨rfl,-⟩:=bE ht
    cases hv with
    | @ptr _ _ b hid=>
      obtain⟨ws,e,g1,g2,g3,g4⟩:=ru hs hid hH;have hw:ws[off]?=some ws[off]:=Array.getElem?_eq_getElem (by omega);obtain⟨hu',-⟩:=bE (g4 off _ _ hold hw);obtain⟨h5,h6⟩:=hs.cell hid hH e2 rfl ht;refine⟨.bool true,_,?_,h5,.p .bool,h6⟩;have hload:=kP (P:=P) (m:=.atomic) g1 hw;rw[hu']at hload;have hstore:=jY (P:=P) (m:=.atomic) g1 (off:=off) (v:=.int k m) (by omega) rfl
      obtain⟨s,hsh⟩:∃s,w.shape? b=some s:=by simp[World.shape?,g1]
      have hfr:w.frozen? ⟨b,off,none⟩=false:=by simp[World.frozen?,g1]
      have e0:∀u v z,Extern.Atomic.casT (.int k) [u,v,z].toArray=(do
          let a <-asAddr u
          if <- Extern.Atomic.touchesFrozen a then unsupported (.unsafePointer "a write to bytes that a string shares")
          let eq <-match Extern.Atomic.T.int k,<-Extern.Atomic.read (.int k) a,v with
            |_,.int _ x,.int _ y=>pure (x==y)
            |.ptr,.pointer x,.pointer y=>samePointer x y
            |.int _,.pointer (some _),.int _ 0|.int _,.int _ 0,.pointer (some _)=>pure false
            |.int _,.pointer (some _),_|.int _,_,.pointer (some _)=>unsupported .addressObserved
            | _, _, _ => stuck "atomic.CompareAndSwap: old is no T"
          if eq then _root_.Go.store a z .atomic
          pure (.bool eq)):=fun u v z=>rfl
      rw[e0]
      have r2:(Extern.Atomic.touchesFrozen ⟨b,off,none⟩).run P w=.ok false w:=by simp[Extern.Atomic.touchesFrozen,viewAt,shape,frozen,Sem.run,hsh,hfr]
      have r3:(Extern.Atomic.read (.int k) ⟨b,off,none⟩).run P w=.ok (.int k n) w:=by simp[Extern.Atomic.read,hload]
      simp only[asAddr,Sem.run_bind,Sem.run_pure,Result.andThen_ok,r2,Bool.false_eq_true,if_false,r3];simp[hstore]
theorem aa.atomAdd {n m:Int}(ho:o.op=.call { callee:=.value fo,args:=args,argTypes:=ats})(hf:bf env fo=some (.fn f [] []))
    (hl : lE env args.toList = some [.ptr id off, .p (.int k m)]) (hfn : P.funcs[f]? = some fn) (hb : fn.body.isNone = true) (hn : (fn.name == "runtime.NumGoroutine") = false) (hx : Extern.findNext fn = none)
    (he:Extern.find fn=some (Extern.Atomic.update (Op.intArith .add) k true)) (hH:br H id=some (.box cs)) (hold:br cs off=some (.p (.int k n))) (hc:bK cs off (.p (.int k (k.wrap (n+m))))=some cs') (hH':bK H id (.box cs')=some H') :
    aa P o env H (Is (.p (.int k (k.wrap (n+m)))) H'):=
  aa.ext ho hf hl hfn hb hn hx he fun μ I w vs hs hr=>by
    obtain⟨v,u,rfl,hv,hu⟩:=Ke hr;rw[bj]at hH hold;obtain⟨e1,e2⟩:=bH hc;obtain⟨e3,e4⟩:=bH hH';subst e3;subst e1;obtain⟨rfl,-⟩:=bE hu
    cases hv with
    | @ptr _ _ b hid=>
      obtain⟨ws,e,g1,g2,g3,g4⟩:=ru hs hid hH;have hw:ws[off]?=some ws[off]:=Array.getElem?_eq_getElem (by omega);obtain⟨hu',-⟩:=bE (g4 off _ _ hold hw);have hnew:aH μ I w (.p (.int k (k.wrap (n+m)))) (.int k (k.wrap (n+m))):=.p (.int (cS k _));obtain⟨h5,h6⟩:=hs.cell hid hH e2 rfl hnew;refine⟨.int k (k.wrap (n+m)),_,?_,h5,hnew.ext h6,h6⟩;have hload:=kP (P:=P) (m:=.atomic) g1 hw;rw[hu']at hload;have hstore:=jY (P:=P) (m:=.atomic) g1 (off:=off) (v:=.int k (k.wrap (n+m))) (by omega) rfl
      have e0:∀u v,Extern.Atomic.update (Op.intArith .add) k true [u,v].toArray=(do
          let a <-asAddr u
          let old <-Extern.Atomic.read (.int k) a
          let new <-Op.intArith .add k (<-asInt old) (<-asInt v)
          _root_.Go.store a new .atomic
          pure (if true then new else old)):=fun u v=>rfl
      rw[e0];simp[asAddr,asInt,asIntOf,Extern.Atomic.read,hload,Op.intArith,hstore]
theorem aa.markP {m:Addr->Mark}(ho:o.op=.call { callee:=.value fo,args:=args,argTypes:=ats})(hf:bf env fo=some (.fn f [] []))
  (hl : lE env args.toList = some [.ptr id off]) (hfn : P.funcs[f]? = some fn) (hb : fn.body.isNone = true) (hn : (fn.name == "runtime.NumGoroutine") = false) (hx : Extern.findNext fn = none)
  (he:Extern.find fn=some (Extern.Race.marked m)):aa P o env H (Is (.tup []) H):=
 aa.ext ho hf hl hfn hb hn hx he fun μ I w vs hs hr=>by
  obtain⟨v,rfl,hv⟩:=Kd hr
  cases hv with
  |@ptr _ _ b hid=>
   refine⟨.tuple #[],w,?_,hs,.tup Z (fun i c v hc=>by simp at hc),cI.refl _ _ _ _ (le_refl _)⟩;simp[Extern.Race.marked,Extern.Race.at_,mark,Extern.Race.none_,Sem.run,Result.andThen]
theorem aa.mark0 {m:Mark}(ho:o.op=.call { callee:=.value fo,args:=args,argTypes:=ats})(hf:bf env fo=some (.fn f [] []))
    (hl : lE env args.toList = some []) (hfn : P.funcs[f]? = some fn) (hb : fn.body.isNone = true) (hn : (fn.name == "runtime.NumGoroutine") = false) (hx : Extern.findNext fn = none)
    (he:Extern.find fn=some (fun _=>do mark m;pure Extern.Race.none_)):aa P o env H (Is (.tup []) H):=
  aa.ext ho hf hl hfn hb hn hx he fun μ I w vs hs hr=>by
    refine⟨.tuple #[],w,?_,hs,.tup Z (fun i c v hc=>by simp at hc),cI.refl _ _ _ _ (le_refl _)⟩;simp[mark,Extern.Race.none_,Sem.run,Result.andThen]
end
end
def wk (μ:List ci)(I:Nat->Prop)(w:World):List (FuncId×List LV)->List Deferred->Prop
 |[],[]=>True
 |(f,ls)::r,d::ds=>(d.target=.fn (.func f) #[]/\cC μ I w ls d.args.toList)/\wk μ I w r ds
 |_,_=>False
theorem cC.ext {μ μ':List ci}{I I':Nat->Prop}{w w':World}(hE:cI μ.length μ I w μ' I' w'):∀{ls:List LV} {vs:List Value},cC μ I w ls vs->cC μ' I' w' ls vs
 |[],[],_=>trivial
 |_::_,_::_,h=>⟨h.1.ext hE,cC.ext hE h.2⟩
 |[],_::_,h=>h.elim
 |_::_,[],h=>h.elim
theorem wk.ext {μ μ':List ci}{I I':Nat->Prop}{w w':World}(hE:cI μ.length μ I w μ' I' w'):∀{dl:List (FuncId×List LV)} {ds:List Deferred},wk μ I w dl ds->wk μ' I' w' dl ds
 |[],[],_=>trivial
 |_::_,_::_,h=>⟨⟨h.1.1,h.1.2.ext hE⟩,wk.ext hE h.2⟩
 |[],_::_,h=>h.elim
 |_::_,[],h=>h.elim
structure A1 (dl:List (FuncId×List LV))(n:Nat)(μ:List ci)(I:Nat->Prop)(w:World)(H:List ab)(env:aE)(a:Act):Prop where
 size:a.tmps.size=n
 defers:wk μ I w dl a.defers
 st:St μ I w H
 env:oH μ I w env a.tmps
def da (P:Program)(ops:Array Oper)(n:Nat)(l:List Nat)(dl:List (FuncId×List LV))(env:aE)(H:List ab)(Q:List (FuncId×List LV)->aE->List ab->Prop):Prop:=
 ∀a w μ I,A1 dl n μ I w H env a->∀Q':Exit->Act->World->Prop,
  (∀dl' env' H' a' w' μ' I',Q dl' env' H'->A1 dl' n μ' I' w' H' env' a'->cI μ.length μ I w μ' I' w'->Q' .normal a' w')->wpOps P ops Q' l a w
def uY (P:Program)(n:Nat)(c:Code)(dl:List (FuncId×List LV))(env:aE)(H:List ab)(Q:Exit->List (FuncId×List LV)->aE->List ab->Prop):Prop:=
 ∀a w μ I,A1 dl n μ I w H env a->∀Q':Exit->Act->World->Prop,
  (∀e dl' env' H' a' w' μ' I',Q e dl' env' H'->A1 dl' n μ' I' w' H' env' a'->cI μ.length μ I w μ' I' w'->Q' e a' w')->c.wp P Q' a w
theorem cI.app {μ μ' μ'':List ci}{I I' I'':Nat->Prop}{w w' w'':World}(h:cI μ.length μ I w μ' I' w')(h':cI μ'.length μ' I' w' μ'' I'' w''):cI μ.length μ I w μ'' I'' w'':=
 h.trans (h'.weak h.len')
section
variable {P : Program} {n : Nat} {dl : List (FuncId × List LV)} {env : aE} {H : List ab} {ops : Array Oper}
theorem da.nil {Q:List (FuncId×List LV)->aE->List ab->Prop}(h:Q dl env H):da P ops n [] dl env H Q:=
 fun a w μ I hn _ hq=>hq dl env H a w μ I h hn (cI.refl _ _ _ _ (le_refl _))
theorem A1.put {μ:List ci}{I:Nat->Prop}{w:World}{a:Act}{μ':List ci}{I':Nat->Prop}{w':World}{H':List ab}{x:LV}{v:Value}{dst:Option Tmp}
  (h:A1 dl n μ I w H env a) (hd:∀d,dst=some d->d<n) (hs:St μ' I' w' H') (hv:aH μ' I' w' x v) (hE:cI μ.length μ I w μ' I' w') :
  A1 dl n μ' I' w' H' (eS env dst x) (a.put dst v) where
 size:=by cases dst <;>simp[Act.put,h.size]
 defers:=by cases dst <;>exact h.defers.ext hE
 st:=hs
 env:=(h.env.ext hE).put (fun d hd'=>by rw[h.size];exact hd d hd') hv
theorem da.st {i:Nat}{l:List Nat}{o:Oper}{x:LV}{H':List ab}{env':aE}{Q:List (FuncId×List LV)->aE->List ab->Prop}(ho:br ops.toList i=some o)(hg:o.guard=none)(hd:gL n o x env=some env')
  (h:aa P o env H (Is x H')) (hr:da P ops n l dl env' H' Q):da P ops n (i::l) dl env H Q:=by
 obtain⟨e1,e2⟩:=cN hd;subst e1;intro a w μ I hn Q' hq;simp only[wpOps,cJ ho,Region.wanted,hg,if_true];refine .inl<|h a w μ I hn.st (hn.env.on o) _ _ ?_;rintro y H'' v w' μ' I' ⟨rfl,rfl⟩ hs hv hE;exact hr (a.put o.dst v) w' μ' I' (hn.put (c9 e2) hs hv hE) Q'<|fun dl' env' H'' a' w'' μ'' I'' q hn' hE'=>hq dl' env' H'' a' w'' μ'' I'' q hn'<|hE.app hE'
theorem da.defer {i:Nat}{l:List Nat}{o:Oper}{f:FuncId}{args:Array Operand}{ats:Array TypeId}{ls:List LV}{Q:List (FuncId×List LV)->aE->List ab->Prop}(ho:br ops.toList i=some o)(hg:o.guard=none)(hd:o.dst=none)
  (hop:o.op=.defer { callee:=.value (.func f),args:=args,argTypes:=ats}) (hl:lE env args.toList=some ls) (hr:da P ops n l ((f,ls)::dl) env H Q):da P ops n (i::l) dl env H Q:=by
 intro a w μ I hn Q' hq;simp only[wpOps,cJ ho,Region.wanted,hg,if_true];have hrep:=lF (hn.env.on o) (xs:=args.toList) (by intro x hx;rw[hop];simp[Op.operands,Call.operands];exact .inr (by simpa using hx)) hl
 have hrun:(execOp a.eval o).run P w=.ok (.defer { target:=.fn (.func f) #[],args:=args.map a.eval}) w:=by
  simp[execOp,hop,resolve,Act.eval,Deferred.ofValue]
 refine .inl ?_;unfold Oper.wp;rw[hrun];show wpOps P ops Q' l (Act.put { a with defers:=_::a.defers} o.dst undef) w;rw[hd]
 have hd2:wk μ I w ((f,ls)::dl) ({ target:=.fn (.func f) #[],args:=args.map a.eval}::a.defers):=by
  unfold wk;exact⟨⟨rfl,by rw[Array.toList_map];exact hrep⟩,hn.defers⟩
 exact hr { a with defers:={ target:=.fn (.func f) #[],args:=args.map a.eval}::a.defers} w μ I ⟨hn.size,hd2,hn.st,hn.env⟩ Q' hq
theorem uY.region {id:Nat}{Q:Exit->List (FuncId×List LV)->aE->List ab->Prop}(h:da P ops n (range ops.size) dl env H (fun dl env H=>Q .normal dl env H)):uY P n (.region id ops false) dl env H Q:=
 fun a w μ I hn Q' hq=>wp_region (h a w μ I hn Q' fun dl' env' H' a' w' μ' I' q=>hq .normal dl' env' H' a' w' μ' I' q)
def Qg (R:List (FuncId×List LV)->aE->List ab->Prop)(Q:Exit->List (FuncId×List LV)->aE->List ab->Prop):Exit->List (FuncId×List LV)->aE->List ab->Prop
 |.normal,dl,env,H=>R dl env H
 |e,dl,env,H=>Q e dl env H
theorem uY.seq {x y:Code}{Q:Exit->List (FuncId×List LV)->aE->List ab->Prop}(h:uY P n x dl env H (Qg (fun dl env H=>uY P n y dl env H Q) Q)):uY P n (.seq x y) dl env H Q:=by
 intro a w μ I hn Q' hq;refine wp_seq<|h a w μ I hn _ fun e dl' env' H' a' w' μ' I' q hn' hE=>?_
 cases e with
 |normal=>exact q a' w' μ' I' hn' Q' fun e dl'' env'' H'' a'' w'' μ'' I'' q' hn'' hE'=>hq e dl'' env'' H'' a'' w'' μ'' I'' q' hn'' (hE.app hE')
 |_=>exact hq _ _ _ _ _ _ _ _ q hn' hE
theorem uY.skip {Q:Exit->List (FuncId×List LV)->aE->List ab->Prop}(h:Q .normal dl env H):uY P n .skip dl env H Q:=
 fun _ _ _ _ hn _ hq=>wp_skip (hq _ _ _ _ _ _ _ _ h hn (cI.refl _ _ _ _ (le_refl _)))
theorem uY.condT {c:Operand}{x y:Code}{Q:Exit->List (FuncId×List LV)->aE->List ab->Prop}(hc:bf env c=some (.p (.bool true)))(h:uY P n x dl env H Q):uY P n (.cond c x y) dl env H Q:=
 fun a w μ I hn Q' hq=>wp_cond (vG hn.env hc) (h a w μ I hn Q' hq)
def KT (P:Program)(f:FuncId)(ls:List LV)(H H':List ab):Prop:=
 eI P f=true/\∀(args:Array Value) (w:World) (μ:List ci) (I:Nat->Prop),St μ I w H->cC μ I w ls args.toList->∀u,
  CallsD P f args u w fun e u' w'=>u'=u/\∃v μ' I',e=.returned v/\St μ' I' w' H'/\cI μ.length μ I w μ' I' w'
theorem KT.start {f:FuncId}{fn:Func}{c:Code}{als:List LV}{e:aE}{R:LV->List ab->Prop}{H':List ab}(hcall:eI P f=true)(hf:P.funcs[f]?=some fn)(hb:fn.body=some c)
  (hn:ble als.length fn.ntmps=true) (he:qF 0 als=some e) (hR:∀x H2,R x H2->H2=H') (h:LW P fn.ntmps H.length c e H (IN P fn H.length R)):KT P f als H H':=by
 refine⟨hcall,fun args w μ I hs ha u=>?_⟩;have e1:=jU he;subst e1;have hnow:=jn (fn:=fn) hs ha (by simpa using hn);refine callsD_of_wp (u:=u) hf hb (R:=fun e w'=>∃v μ' I',e=.returned v/\St μ' I' w' H'/\cI μ.length μ I w μ' I' w')<|h _ w μ I hnow (by rw[hs.len];exact le_refl _) _ ?_;rintro e env' H2 a' w' μ' I' ⟨he,⟨x,hres,hR'⟩|⟨env'',H'',x,hw,hres,hR'⟩⟩ hn' hE
 ·obtain⟨v,hrun,hv⟩:=hres.run hn';have:=hR _ _ hR';subst this;have hE2:=hE;rw[<-hs.len]at hE2;rcases he with rfl|rfl <;>exact⟨hn'.defers,v,hrun,v,μ',I',rfl,hn'.st,hE2⟩
 obtain⟨μ'',hn'',hE'⟩:=hn'.weak hw hE.len';obtain⟨v,hrun,hv⟩:=DK.run hn' hn'' hE' hres;have:=hR _ _ hR';subst this;have hE2:=hE.trans hE';rw[<-hs.len]at hE2;rcases he with rfl|rfl <;>exact⟨hn'.defers,v,hrun,v,μ'',I',rfl,hn''.st,hE2⟩
inductive AL (P:Program):List (FuncId×List LV)->List ab->List ab->Prop
 |nil {H:List ab}:AL P [] H H
 |cons {f:FuncId} {ls:List LV} {r:List (FuncId×List LV)} {H H1 H2:List ab} (h:KT P f ls H H1) (hr:AL P r H1 H2):AL P ((f,ls)::r) H H2
theorem Bs {f:FuncId}(hc:eI P f=true):(invoke (.fn (.func f) #[]) args).run P w=.ok (.enter f args) w:=by
 unfold eI at hc
 cases hfn:P.funcs[f]? with
 |none=>rw[hfn]at hc;simp at hc
 |some fn=>
  rw[hfn]at hc;simp only[Option.any_some,Bool.and_eq_true,bne_iff_ne,ne_eq]at hc
  have hn:¬fn.body=none:=by intro hb;rw[hb]at hc;simp at hc
  simp[invoke,callFunc,hfn];rw[i0_ hc.1,i0_ hn]
theorem AL.leaves {fn:Func}{tmps:Array Value}{R:Ending->World->Prop}{H2:List ab}(hres:fn.results=#[]):∀{dl:List (FuncId×List LV)} {ds:List Deferred} {H:List ab},AL P dl H H2->
  ∀{μ:List ci} {I:Nat->Prop} {w:World},wk μ I w dl ds->St μ I w H->(∀μ' I' w',St μ' I' w' H2->cI μ.length μ I w μ' I' w'->R (.returned (.tuple #[])) w')->Leaves P fn tmps R ds .returning w
 |[],[],H,h,μ,I,w,hd,hs,hR=>by
  cases h;exact⟨.tuple #[],qK hres,hR μ I w hs (cI.refl _ _ _ _ (le_refl _))⟩
 | (f,ls)::r,d::ds,H,h,μ,I,w,hd,hs,hR=>by
  cases h with
  |cons h hr=>
   obtain⟨⟨h1,h2⟩,h3⟩:=hd;obtain⟨t,args⟩:=d;simp only at h1 h2;subst h1;refine leaves_cons (by simp) (Bs h.1)<|(h.2 args w μ I hs h2 .returning).mono ?_;rintro e u' w' ⟨rfl,v,μ',I',rfl,hs',hE⟩;exact AL.leaves hres hr (h3.ext hE) hs' fun μ'' I'' w'' hs'' hE'=>hR μ'' I'' w'' hs''<|hE.app hE'
 |[],_::_,_,_,_,_,_,hd,_,_=>hd.elim
 |_::_,[],_,_,_,_,_,hd,_,_=>hd.elim
theorem LC.ofD {f:FuncId}{c:Code}{e:aE}{H2:List ab}(hf:P.funcs[f]?=some fn)(hb:fn.body=some c)(hres:fn.results=#[])
  (hn:ble als.length fn.ntmps=true) (he:qF 0 als=some e) (h:uY P fn.ntmps c [] e H (fun x dl _ H'=>(x=.normal\/x=.ret)/\AL P dl H' H2)):LC P f als H (Is (.tup []) H2):=by
 intro args w μ I hs ha;have e1:=jU he;subst e1;have hnow:=jn (fn:=fn) hs ha (by simpa using hn);refine calls_of_wp_defers hf hb<|h _ w μ I ⟨hnow.size,by rw[hnow.defers];trivial,hnow.st,hnow.env⟩ _ ?_;rintro x dl' env' H' a' w' μ' I' ⟨hx,hends⟩ hn' hE
 have key:Leaves P fn a'.tmps (fun e w'=>∃x v H' μ' I',e=.returned v/\Is (.tup []) H2 x H'/\St μ' I' w' H'/\aH μ' I' w' x v/\cI μ.length μ I w μ' I' w') a'.defers .returning w':=
  hends.leaves hres hn'.defers hn'.st fun μ'' I'' w'' hs'' hE'=>⟨_,_,_,μ'',I'',rfl,⟨rfl,rfl⟩,hs'',.tup rfl (fun i c v hc=>by simp at hc),hE.app hE'⟩
 rcases hx with rfl|rfl <;>exact key
end
def wY (P:Program)(s d:TypeId):Bool:=match P.underlying s,P.underlying d with
 |some (.pointer t),some .unsafePointer=>(P.info? t).any fun i=>i.size != 0
 |_,_=>false
theorem aa.convPtr {env:aE}{s d:TypeId}{x:Operand}(ho:o.op=.convert s d x)(hx:bf env x=some (.ptr id off))(hH:br H id=some (.box cs))(hoff:blt off cs.length=true)(hT:wY P s d=true) :
  aa P o env H (Is (.ptr id off) H):=
 aa.val fun a w μ I hst he=>by
  have hr:=he.ev (x:=x) (by simp[ho,Op.operands]) hx;rw[bj]at hH;unfold wY at hT;split at hT
  ·rename_i t h1 h2;generalize hv:a.eval x=v at hr
   cases hr with
   | @ptr _ _ b hid=>
    obtain⟨vs,e,hb,hlen,hone,hrep⟩:=ru hst hid hH;refine⟨.pointer (some ⟨b,off,none⟩),?_,.ptr hid⟩
    have hsh:w.shape? b=some (e,vs.size):=by simp[World.shape?,hb]
    have h3:off<vs.size:=by rw[hlen];simpa using hoff
    have hs1:(Conv.seenAt ⟨b,off,none⟩).run P w=.ok ⟨b,off,none⟩ w:=by simp[Conv.seenAt,viewAt,shape,Sem.run,hsh]
    have hs2:(cellsIn b).run P w=.ok (some vs.size) w:=by simp[cellsIn,shape,Sem.run,hsh]
    have hs3:∃n,n≠0/\(sizeOf t).run P w=.ok n w:=by
     cases hi:P.info? t with
     |none=>rw[hi]at hT;cases hT
     |some i=>rw[hi]at hT;exact⟨i.size,by simpa using hT,by simp[sizeOf,typeInfo,hi]⟩
    obtain⟨n,hn0,hs3⟩:=hs3
    have hu:(Conv.unsafePointer s d (.pointer (some ⟨b,off,none⟩))).run P w=.ok (.pointer (some ⟨b,off,none⟩)) w:=by
     unfold Conv.unsafePointer;simp only[Sem.run_bind,run_underlying h1,run_underlying h2,Result.andThen_ok,hs1,hs2,hs3];simp[hn0,show¬vs.size<=off by omega]
    simp only[execOp,ho,hv,Go.convert,Sem.run_bind,run_underlying h1,run_underlying h2,Result.andThen_ok,hu];simp
  ·cases hT
theorem AA {α:Type}:∀{l:List α} {o:Nat} {x:α},br l o=some x->sM l o 1=some [x]
 |x::r,0,_,h=>by cases h;cases r <;>rfl
 |_::r,o+1,y,h=>by
  have:=AA (l:=r) (o:=o) (x:=y) h;exact this
 |[],0,_,h=>by cases h
 |[],_+1,_,h=>by cases h
theorem Ay {α:Type}:∀{l:List α} {o:Nat} {y:α} {s:List α},bK l o y=some s->uD l o [y]=some s
 |x::r,0,y,s,h=>by
  cases h;cases r <;>rfl
 |x::r,o+1,y,s,h=>by
  simp only[bK]at h;split at h
  ·rename_i q hq;cases h;simp only[uD,Ay hq]
  ·cases h
 |[],0,y,s,h=>by cases h
 |[],_+1,y,s,h=>by cases h
section
variable {P : Program} {o : Oper} {env : aE} {H : List ab}
theorem aa.load1 {x:Operand}(ho:o.op=.load t x)(hx:bf env x=some (.ptr id off))(hH:br H id=some (.box cs))
  (hT:bl P t=some (1,false)) (hc:br cs off=some l):aa P o env H (Is l H):=
 aa.load ho hx hH hT (AA hc) rfl
theorem aa.store1 {x y:Operand}{cs s:List LV}(ho:o.op=.store t x y)(hx:bf env x=some (.ptr id off))(hy:bf env y=some l)
  (hH:br H id=some (.box cs)) (hT:bl P t=some (1,false)) (hys:iX l=some [l]) (hc:bK cs off l=some s) (hH':bK H id (.box s)=some H') :
  aa P o env H (Is .any H'):=
 aa.store ho hx hy hH hT hys rfl (Ay hc) hH'
theorem cj.load1 {t:TypeId}{x:Operand}{id off:Nat}{cs:List LV}{l:LV}(ho:o.op=.load t x)(hx:bf env x=some (.ptr id off))(hH:br H id=some (.box cs))
  (hT:bl P t=some (1,false)) (hc:br cs off=some l):cj P o env H [id] none l:=
 cj.read fun _ hA=>aa.load1 ho hx (hA.get (by simp) hH) hT hc
theorem cj.store1 {t:TypeId}{x y:Operand}{id off:Nat}{cs s:List LV}{l:LV}(ho:o.op=.store t x y)(hx:bf env x=some (.ptr id off))(hy:bf env y=some l)
  (hH:br H id=some (.box cs)) (hT:bl P t=some (1,false)) (hys:iX l=some [l]) (hc:bK cs off l=some s):cj P o env H [id] (some (id,.box s)) .any:=
 fun _ hA=>aa.store1 ho hx hy (hA.get (by simp) hH) hT hys hc (hA.set (by simp) hH)
end
theorem mm (h:∀x∈xs,PV.oneB x=true):flat xs=xs/\b9 1 xs:=by
 have one:∀x:PV,PV.oneB x=true->x.cells=[x]/\x.one:=by
  intro x hx;cases x <;>first|exact⟨rfl,trivial⟩|cases hx
 refine⟨?_,fun x hx=>?_⟩
 ·induction xs with
  |nil=>rfl
  |cons x r ih=>rw[dm,(one x (h x (.head _))).1,ih fun y hy=>h y (.tail _ hy)];rfl
 ·have:=one x (h x hx);rw[this.1];exact⟨rfl,fun c hc=>by simp at hc;subst hc;exact this.2⟩
def Ks (P:Program)(t:TypeId):Option PV:=match P.underlying t with
 | some (.slice e)=>match P.info? e with
  | some i=>match i.zero with
   |some z=>match cy z.cells.toList with
    |some [.p x]=>match PV.oneB x with|true=>some x|false=>none
    |_=>none
   |none=>none
  |none=>none
 |_=>none
def Ea (n:Int)(bytes:Nat):Bool:=decide (0<n/\n<=1000000/\bytes<=1000)
section
variable {P : Program} {o : Oper} {env : aE} {H : List ab} {α : Type} {f : α -> PV}
theorem aa.makeSliceX {x y:Operand}{n:Int}{z:PV}(f:α->PV)(z0:α)(ho:o.op=.makeSlice t x y)(hx:bf env x=some (.p (.int .i64 n)))(hy:bf env y=some (.p (.int .i64 n)))
  (hT:dn P t=some (1,bytes)) (hz:Ks P t=some z) (hf:z=f z0) (hk:Ea n bytes=true) (hid:dq H=some id) (hH':jF H (.vec 1 ((replicate n.toNat z0).map f))=some H') :
  aa P o env H (Is (.vec 1 id ((replicate n.toNat z0).map f).length 0 ((replicate n.toNat z0).map f).length) H'):=by
 have hk:=of_decide_eq_true hk;subst hf;rw[List.map_replicate]at hH'⊢;intro a w μ I hs hE K Q hK;obtain⟨hxv,hxk⟩:=bE (hE.ev (x:=x) (by simp[ho,Op.operands]) hx);obtain⟨hyv,-⟩:=bE (hE.ev (x:=y) (by simp[ho,Op.operands]) hy);obtain⟨el,i,zv,hu,hi,hzv,hzs,hsz,hby,hpos⟩:=cA hT;have e1:=dC hH';subst e1;have hid':=cd hid
 -- the zero's cell
 have hz1:∃u,zv.cells=#[u]/\eT u=true/\PV.oneB (f z0)=true/\∀I w,fA I w (f z0) u:=by
  unfold Ks at hz;rw[hu]at hz;simp only[hi,hzv]at hz;split at hz
  ·rename_i x hx;split at hz
   ·rename_i hone;cases hz;have h3:∀I w,zv.cells.toList.length=1/\(∀v∈zv.cells.toList,eT v=true)/\∀(j:Nat) (c:LV) (v:Value),[LV.p (f z0)][j]?=some c->zv.cells.toList[j]?=some v->aH [] I w c v:=fun I w=>ca (μ:=[]) (I:=I) (w:=w) hx;have hl:=(h3 (fun _=>False) w).1;obtain⟨u,hu2⟩:∃u,zv.cells.toList=[u]:=List.length_eq_one_iff.1 hl;refine⟨u,by rw[<-Array.toArray_toList (xs:=zv.cells),hu2],(h3 (fun _=>False) w).2.1 u (by rw[hu2];exact .head _),hone,fun I w=>?_⟩;have:=(h3 I w).2.2 0 _ u rfl (by rw[hu2];rfl)
    cases this with|p h=>exact h
   ·cases hz
  ·cases hz
 obtain⟨u,hzc,hu1,hone,hrep⟩:=hz1
 have hrowsz:∀k:Nat,(Array.range k).map (fun j=>zv.cells[j % zv.cells.size]!)=Array.replicate k u:=by
  intro k;apply Array.ext
  ·simp
  ·intro j h1 h2;simp[hzc,Nat.mod_one]
 have hw:i64.wrap n=n:=cX
 have hrun:(execOp a.eval o).run P w=.ok (.value (.slice (some ⟨w.heap.size,0,none⟩) n.toNat n.toNat)) (w.alloc (.cells (Array.replicate n.toNat u) el)):=by
  have hts:(sizeOf el).run P w=.ok 1 w:=by simp[sizeOf,typeInfo,hi,hsz]
  have hti:(typeInfo el).run P w=.ok i w:=by simp[typeInfo,hi]
  have hzv':(zeroValue el).run P w=.ok zv w:=by simp[zeroValue,typeInfo,hi,hzv]
  have hbig:¬((i.bytes:Int)*n>2 ^ 48):=by
   have h1:(i.bytes:Int)*n<=1000*1000000:=by
    have:(i.bytes:Int)<=1000:=by rw[hby];omega
    exact Int.mul_le_mul this hk.2.1 (by omega) (by omega)
   omega
  have hroom:(askRoom (n.toNat*i.bytes)).run P w=.ok () w:=by
   unfold askRoom;split <;>simp[mark,Sem.run]
  simp only[execOp,ho,Instr.makeSlice,hxv,hyv];simp only[Sem.run_bind,run_underlying hu,Result.andThen_ok,Sem.run_pure,asInt,asIntOf,hti,hw];rw[i0_ (by simp only[Bool.or_eq_true,decide_eq_true_eq];omega)];simp only[Sem.run_bind,hroom,Result.andThen_ok,hts,Nat.mul_one];rw[i0_ (by omega)];simp only[Sem.run_bind,hzv',Result.andThen_ok,Sem.run_pure,hrowsz];simp[newRow]
 unfold Oper.wp;rw[hrun]
 have hall:∀x∈replicate n.toNat (f z0),PV.oneB x=true:=fun x hx=>by rw[List.eq_of_mem_replicate hx];exact hone
 obtain⟨hfl,hel⟩:=mm hall
 obtain⟨hs',hE'⟩:=hs.push (.cells (Array.replicate n.toNat u) el) (.vec 1 (replicate n.toNat (f z0))) n.toNat fun μ' w' hE' hb=>by
  have:=dN.vec (μ:=μ') (I:=I) (w:=w') (m:=1) (xs:=replicate n.toNat (f z0)) hb (by simp) (fun e=>by
   have:=congrArg length e;simp at this;omega) hel (fun j c v hc hv=>by
   rw[hfl]at hc;have h1:=List.eq_of_mem_replicate (List.mem_of_getElem? hc)
   have h2:v=u:=by
    rw[Array.getElem?_replicate]at hv;split at hv
    ·cases hv;rfl
    ·cases hv
   rw[h1,h2];exact hrep I w')
  simpa using this
 refine hK _ _ _ _ _ _ ⟨rfl,rfl⟩ hs' ?_ hE';simp only[List.length_replicate];refine .vec (B:=⟨some w.heap.size,n.toNat⟩) (by rw[hid',<-hs.len];simp) Z (le_refl _) fun _=>.inr ⟨w.heap.size,n.toNat,rfl,rfl,le_refl _,by unfold maxLen;omega,Array.replicate n.toNat u,el,?_,by omega,by simp⟩;show(w.heap.push _)[w.heap.size]?=_;simp
theorem w6 (h:dN μ I w (.vec m xs) B):B.n=xs.length:=by
 cases h <;>rfl
theorem qZ {m b n:Nat}(h:dN μ I w (.vec m xs) ⟨some b,n⟩) :
  ∃vs e,w.heap[b]?=some (.cells vs e (0,0))/\m*xs.length<=vs.size/\xs≠[]/\∀(i:Nat) (c:PV) (v:Value),(flat xs)[i]?=some c->vs[i]?=some v->fA I w c v:=by
 cases h with
 |vec hb hl hne hm h=>exact⟨_,_,hb,hl,hne,h⟩
theorem aa.storeVX {x y:Operand}{j:Int}{l:List α}{z:α}(v:α)(ho:o.op=.store t x y)(hx:bf env x=some (.vptr 1 id (l.map f).length (0+j.toNat) 0))(hy:bf env y=some (.p (f v)))
  (hH:br H id=some (.vec 1 (l.map f))) (hT:bl P t=some (1,false)) (h1:∀a,PV.oneB (f a)=true) (hz:ix l j=some z) (hH':bK H id (.vec 1 ((l.set j.toNat v).map f))=some H'):aa P o env H (Is .any H'):=
 aa.unit fun a w μ I hst he=>by
  have hr:=he.ev (x:=x) (by simp[ho,Op.operands]) hx;have hry:=he.ev (x:=y) (by simp[ho,Op.operands]) hy;rw[bj]at hH;obtain⟨e3,e4⟩:=bH hH';subst e3;have hj:=(List.getElem?_eq_some_iff.1 (jN hz).2).1
  have hu1:eT (a.eval y)=true:=by
   cases hry with
   |p hry=>exact hry.one (by have:=h1 v;cases hv:f v <;>rw[hv]at this <;>first|trivial|cases this)
  generalize hv:a.eval x=vx at hr
  cases hr with
  | @vptr _ _ _ _ _ B _ hid g1 hnB hf=>
   have hob:=hst.objs id _ _ hH hid;have hBn:(l.map f).length=B.n:=(w6 hob).symm;obtain⟨b,hB,rfl⟩:=hf hBn;obtain⟨Bb,Bn⟩:=B;simp only at hB hBn;subst hB;subst hBn;obtain⟨vs,e,hb,hlen,hne,hrep⟩:=qZ hob
   ·have hsz:j.toNat<vs.size:=by simp at hlen;omega
    have hcell:1*(0+j.toNat)+0=j.toNat:=by omega
    have hall:∀x∈l.map f,PV.oneB x=true:=fun x hx=>by obtain⟨q,-,rfl⟩:=mem_map.1 hx;exact h1 q
    have hall':∀x∈(l.set j.toNat v).map f,PV.oneB x=true:=fun x hx=>by obtain⟨q,-,rfl⟩:=mem_map.1 hx;exact h1 q
    have hcs:(a.eval y).cells=#[a.eval y]:=by
     cases hq:a.eval y <;>rw[hq]at hu1 <;>first|rfl|cases hu1
    have hst':=my (P:=P) hT (off:=j.toNat) hb (a.eval y) (by rw[hcs];rfl) (by rw[hcs];intro u hu;simp at hu;subst hu;exact hu1);rw[hcs]at hst';obtain⟨nv,hnv⟩:∃nv,nv=(vs.toList.take j.toNat++#[a.eval y].toList++vs.toList.drop (j.toNat+1)).toArray:=⟨_,rfl⟩;rw[<-hnv]at hst'
    have hnv2:nv=vs.setIfInBounds j.toNat (a.eval y):=by
     rw[hnv];apply Array.toList_inj.1;rw[Array.toList_setIfInBounds,List.set_eq_take_append_cons_drop];rw[i1_ (by simpa using hsz)];simp
    obtain⟨hs',hE⟩:=hst.write (o:=.vec 1 ((l.set j.toNat v).map f)) hid (w':=w.setRow b nv) (fun c hc=>setRow_other w b c _ hc) (by simp[World.setRow]) rfl rfl rfl
     (fun c e' f' hc=>by
      rw[hb]at hc;cases hc
      exact⟨_,setRow_heap w b vs nv e (0,0) hb,by rw[hnv2];simp⟩)
     (fun hE=>by
      have hlen2:(l.map f).length=((l.set j.toNat v).map f).length:=by simp
      rw[hlen2]
      refine .vec (setRow_heap w b vs nv e (0,0) hb) (by rw[hnv2];simpa using hlen) (fun e0=>hne (by
       have:=congrArg length e0;simp at this
       simp[this])) (mm hall').2 (fun i c u hc hu=>?_)
      rw[(mm hall').1,List.map_set,getElem?_set]at hc;rw[hnv2]at hu;by_cases e':j.toNat=i
      ·subst e';rw[i1_ rfl]at hc;rw[Array.getElem?_setIfInBounds_self_of_lt hsz]at hu;cases hu;split at hc
       ·cases hc
        cases hry with|p hry=>exact hry.mono hE.imm
       ·cases hc
      ·rw[i0_ e']at hc;rw[Array.getElem?_setIfInBounds_ne e']at hu
       exact(hrep i c u (by rw[(mm hall).1];exact hc) hu).mono hE.imm)
    refine⟨_,μ,?_,hs',hE⟩;simp only[execOp,ho,Instr.storeAt,hv,Instr.sureAddr,hcell];simp[hst']
end
theorem Qh {env:aE}{t m id i:Nat}{l:List α}{v:α}(h:env.get t=some (.vec m id (l.map f).length 0 (l.map f).length)) :
  env.get t=some (.vec m id ((l.set i v).map f).length 0 ((l.set i v).map f).length):=by simpa using h
theorem cC.cut {μ:List ci}{I:Nat->Prop}{w:World}{j:Nat}(hj:j<=μ.length):∀{ls:List LV} {vs:List Value},cC μ I w ls vs->(∀x∈ls,LV.Low j x)->cC (μ.take j) I w ls vs
 |[],[],_,_=>trivial
 |x::_,_::_,h,hl=>⟨h.1.cut hj (hl x (.head _)),cC.cut hj h.2 fun y hy=>hl y (.tail _ hy)⟩
 |[],_::_,h,_=>h.elim
 |_::_,[],h,_=>h.elim
theorem aH.more {μ ν:List ci}(h:aH μ I w x v):aH (μ++ν) I w x v:=by
 have hg:∀{i:Nat} {B:ci},μ[i]?=some B->(μ++ν)[i]?=some B:=fun h=>by rw[getElem?_append_left (List.getElem?_eq_some_iff.1 h).1];exact h
 induction h with
 |p h=>exact .p h
 |agg hl ho h ih=>exact .agg hl ho fun i c v hc hv=>ih i c v hc hv
 |tup hl h ih=>exact .tup hl fun i c v hc hv=>ih i c v hc hv
 |ptr h=>exact .ptr (hg h)
 |cptr f h1 h2=>exact .cptr f h1 h2
 |vec h h1 hn hf=>exact .vec (hg h) h1 hn hf
 |vptr h h1 hn hf=>exact .vptr (hg h) h1 hn hf
 |zs=>exact .zs
 |map h=>exact .map (hg h)
 |nilmap=>exact .nilmap
 |fn h1 h2 h3 h4 ih1 ih2=>exact .fn h1 h2 (fun i c v hc hv=>ih1 i c v hc hv) (fun i c v hc hv=>ih2 i c v hc hv)
 |any=>exact .any
 |yld h=>exact .yld (hg h)
 |fptr hI hc ho h ih=>exact .fptr hI hc ho ih
theorem dN.more {μ ν:List ci}{I:Nat->Prop}{w:World}{o:ab}{B:ci}(h:dN μ I w o B):dN (μ++ν) I w o B:=by
 cases h with
 |box h1 h2 h3 h4=>exact .box h1 h2 h3 fun i c v hc hv=>(h4 i c v hc hv).more
 |vecE=>exact .vecE
 |vec h1 h2 h3 h4 h5=>exact .vec h1 h2 h3 h4 h5
 |map h1 h2 h3 h4 h5=>exact .map h1 h2 (fun i c e hc he=>⟨(h3 i c e hc he).1,(h3 i c e hc he).2.more⟩) h4 h5
 |dead=>exact .dead
 |slot=>exact .slot
 |loop h1 hs hp hps hA hB hn he=>exact .loop h1 hs hp hps hA hB hn fun t x ht=>let ⟨v,h2,h3⟩:=he t x ht;⟨v,h2,h3.more⟩
 |defd h1=>exact .defd h1
 |iter h1 hx=>exact .iter h1 hx.more
theorem LC.pre {f:FuncId}{H H' Hr:List ab}(h:LC P f als H (Is x H'))(hl:H'.length=H.length)(hlow:fD H.length H=true)(hal:LV.lowsB H.length als=true) :
    LC P f als (H++Hr) (Is x (H'++Hr)):=by
  intro args w μ I hs ha;have hlen:=hs.len;rw[length_append]at hlen
  have hj:H.length<=μ.length:=by omega
  have hcut:=hs.cut (j:=H.length) (by simp) (by rw[List.take_left'];exact fE hlow;rfl);rw[List.take_left' rfl]at hcut;refine(h args w (μ.take H.length) I hcut (ha.cut hj (LV.lows_of hal))).mono ?_;rintro e w' ⟨_,v,_,μ',I',rfl,⟨e1,e2⟩,hs',hv,hE⟩;rw[e2]at hs';rw[e1]at hv
  have hml:μ'.length=H.length:=by rw[hs'.len,hl]
  have htl:(μ.take H.length).length=H.length:=by rw[List.length_take];omega
  have hdrop:∀i,H.length<=i->(μ'++μ.drop H.length)[i]?=μ[i]?:=by
    intro i hi;rw[getElem?_append_right (by omega),List.getElem?_drop,hml];congr 1;omega
  have hfirst:∀i,i<H.length->(μ'++μ.drop H.length)[i]?=μ'[i]?:=fun i hi=>getElem?_append_left (by omega)
  -- who is not of the first ones
  have hnot:∀(i:Nat) (b n:Nat),H.length<=i->μ[i]?=some ⟨some b,n⟩->¬gC (μ.take H.length) b:=by
    rintro i b n hi hb ⟨n',hm⟩;obtain⟨q,hq⟩:=mq hm;have hql:=(List.getElem?_eq_some_iff.1 hq).1;rw[htl]at hql;rw[List.getElem?_take_of_lt hql]at hq;have:=hs.inj i q b n n' hb hq;omega
  have hsub:∀b,gC (μ.take H.length) b->gC μ b:=fun b ⟨n,hb⟩=>⟨n,List.mem_of_mem_take hb⟩
  have hEx:cI μ.length μ I w (μ'++μ.drop H.length) I' w':=
    { get:=fun i B hi hb=>by
        by_cases h1:i<H.length
        · have:=hE.get i B (by omega) (by rw[List.getElem?_take_of_lt h1];exact hb);rw[hfirst i h1];exact this
        · exact⟨B,by rw[hdrop i (by omega)];exact hb,le_refl _,fun _=>.inl rfl,fun _ _=>rfl⟩
      len:=le_refl _
      len':=by rw[length_append,List.length_drop];omega
      os:=hE.os
      tape:=hE.tape
      output:=hE.output
      size:=hE.size
      imm:=hE.imm
      shape:=hE.shape
      inew:=fun b hb=>(hE.inew b hb).imp id (Or.imp (hsub b) id)
      mnew:=fun b ⟨n,hb⟩=>by
        rcases mem_append.1 hb with hb|hb
        · exact(hE.mnew b ⟨n,hb⟩).imp (hsub b) id
        · exact .inl ⟨n,List.mem_of_mem_drop hb⟩
      keep:=fun b hb hn=>hE.keep b hb fun hm=>hn (hsub b hm)}
  have hblk:∀(i b n:Nat),H.length<=i->μ[i]?=some ⟨some b,n⟩->w'.heap[b]?=w.heap[b]?:=fun i b n hi hb=>hE.keep b (hs.lt b (gC.mk hb)) (hnot i b n hi hb)
  have hst:St (μ'++μ.drop H.length) I' w' (H'++Hr):=
    { len :=by rw[length_append,length_append,List.length_drop];omega
      inj :=fun i j b n n' hi hj'=>by
        by_cases h1:i<H.length
        · rw[hfirst i h1]at hi;by_cases h2:j<H.length
          · rw[hfirst j h2]at hj';exact hs'.inj i j b n n' hi hj'
          · rw[hdrop j (by omega)]at hj';rcases hE.mnew b (gC.mk hi)with h3|h3
            · exact absurd h3<|hnot j b n' (by omega) hj'
            · have:=hs.lt b (gC.mk hj');omega
        · rw[hdrop i (by omega)]at hi;by_cases h2:j<H.length
          · rw[hfirst j h2]at hj';rcases hE.mnew b (gC.mk hj')with h3|h3
            · exact absurd h3<|hnot i b n (by omega) hi
            · have:=hs.lt b (gC.mk hi);omega
          · rw[hdrop j (by omega)]at hj';exact hs.inj i j b n n' hi hj'
      lt:=fun b ⟨n,hb⟩=>by
        rcases mem_append.1 hb with hb|hb
        · exact hs'.lt b ⟨n,hb⟩
        · exact Nat.lt_of_lt_of_le (hs.lt b ⟨n,List.mem_of_mem_drop hb⟩) hE.size
      off :=fun b ⟨n,hb⟩ hI=>by
        rcases mem_append.1 hb with hb|hb
        · exact hs'.off b ⟨n,hb⟩ hI
        · have hown:gC μ b:=⟨n,List.mem_of_mem_drop hb⟩;rcases hE.inew b hI with h3|h3|h3
          · exact hs.off b hown h3
          · obtain⟨q,hq⟩:=mq hb;rw[List.getElem?_drop]at hq;exact hnot _ b n (by omega) hq h3
          · have:=hs.lt b hown;omega
      ilt:=hs'.ilt
      objs:=fun i o B ho hB=>by
        by_cases h1:i<H.length
        · rw[getElem?_append_left (by omega)]at ho;rw[hfirst i h1]at hB;have hob:=hs'.objs i o B ho hB;exact hob.more
        · rw[getElem?_append_right (by omega),hl]at ho;rw[hdrop i (by omega)]at hB;have hob:=hs.objs i o B (by rw[getElem?_append_right (by omega)];exact ho) hB
          exact hob.ext hEx fun c hc=>by
            obtain⟨Bb,Bn⟩:=B;simp only at hc;subst hc
            exact hblk i c Bn (by omega) hB}
  refine⟨x,v,H'++Hr,_,I',rfl,⟨rfl,rfl⟩,hst,hv.more,hEx⟩
end Go.Mg
