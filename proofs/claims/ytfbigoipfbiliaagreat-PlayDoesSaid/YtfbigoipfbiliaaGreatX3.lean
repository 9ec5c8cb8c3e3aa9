/- Ranges over functions: the records of such loops, calls of yield, rounds, the statement. Conditions: none. -/
import Derived.Test.YtfbigoipfbiliaaGreatX2
import Derived.RangeFuncLeaves
import Derived.RangeFuncRecord
import Derived.OrdersIn
import Derived.Maps.RangeRun
import Derived.Lib.AppendZeros
namespace Go.Mg
open IntKind (i64)
open List (append_assoc ext_getElem? getElem?_append getElem?_append_left getElem?_append_right getElem?_drop getElem?_eq_getElem getElem?_eq_none getElem?_map getElem?_of_mem getElem?_set getElem?_take_of_lt length_append length_cons length_map length_set length_singleton length_take map_append map_cons map_nil map_toArray mem_iff_getElem mem_of_getElem? mem_range mem_singleton nodup_range range replicate take_left')
open Nat (ble le_refl le_trans mul_add mul_comm mul_le_mul_left mul_zero zero_add zero_le)
open Option (getD_none getD_some map_none map_some)
variable {α β : Type} {F s seen : List Nat} {H H' H0 : List ab} {I I' : Nat -> Prop} {K K' : Act -> World -> Prop} {P : Program} {Q : Exit -> aE -> List ab -> Prop} {R : LV -> List ab -> Prop} {a : PV} {ag b c : Bool} {als ps xs ys : List PV} {args : Array Operand} {ats : Array TypeId} {bytes d i id j k len m n off : Nat} {caps cs first ls qs : List LV} {env' : aE} {f : FuncId} {fo hi x y : Operand} {g : β -> LV} {l : List α} {ms : Array MapEntry} {o : Oper} {ops : Array Oper} {ro : Option Nat} {t : TypeId} {v : Value} {w w' : World} {z : α} {μ μ' : List ci}
def WF (ro:Option Nat):Fence:={ fn:=fun _=>True,depth:=none,alive:=false,round:=ro}
theorem A8 {args:Array Value}{R:Ending->World->Prop}(h:Calls P f args w R):CallsIn (WF ro) n P f args w R:=
 (callsIn_wide (n:=n)).2 h
theorem Em {row:String}{args:Array Value}{R:Value->World->Prop}(h:Rows P row args w R):RowsIn (WF ro) n P row args w R:=
 fun c cs _=>let ⟨v,w',r,s⟩:=h c cs;⟨v,w',r,stepsIn_wide.2 s⟩
theorem Ey {a:Act}{Q:Exit->Act->World->Prop}{r:Result Next}(h:o.upon P a K Q r)(hk:∀a w,K a w->K' a w) :
  o.uponIn (WF ro) m P a K' Q r:=by
 cases r with
 | ok x w=>
  cases x with
  |value v=>exact hk _ _ h
  |skip=>exact hk _ _ h
  |defer d=>exact hk _ _ h
  |enter f args=>
   refine⟨(fun e=>nomatch (show false=true from e)),(A8 h).mono ?_⟩;intro e w' he
   cases e with
   |returned v=>exact hk _ _ he
   |panicked c=>exact he
   |outgrown=>exact he
  |row row args=>exact⟨(fun e=>nomatch (show false=true from e)),(Em h).mono fun _ _=>hk _ _⟩
  |_=>exact h.elim
 |halt s w=>
  cases s with
  |panic v=>exact h
  |_=>exact h.elim
def iA (o:Oper):Bool:=match o.op with|.defer _=>false|_=>true
theorem w8 {a:Act}{Q:Exit->Act->World->Prop}(hd:iA o=true)(h:o.wp P a w K Q)(hk:∀a w,K a w->K' a w) :
  o.wpIn (WF ro) m P a w K' Q:=by
 refine⟨fun _ _=>trivial,?_⟩
 have e:o.semAt (WF ro).round a.eval=execOp a.eval o:=Oper.semAt_eq _ _ _ fun c hc=>by rw[iA,hc]at hd;cases hd
 rw[e];exact Ey h hk
theorem mB {ro:Option Nat}{m:Nat}{P:Program}{ops:Array Oper}{Q:Exit->Act->World->Prop}(hd:ops.toList.all iA=true)(hQ:¬LetsOut Q) :
  ∀(l:List Nat) (a:Act) (w:World),wpOps P ops Q l a w->wpOpsIn (WF ro) m P ops Q l a w
 |[],_,_,h=>h
 | i::l,a,w,h=>by
  simp only[wpOps]at h;simp only[wpOpsIn]
  cases ho:ops[i]? with
  |none=>rw[ho]at h;exact mB hd hQ l a w h
  | some o=>
   rw[ho]at h;simp only at h⊢;have hdo:iA o=true:=List.all_eq_true.1 hd o (Array.mem_toList_iff.2 (Array.mem_of_getElem? ho));split at h
   ·next hw=>
    rw[i1_ hw];rcases h with h|⟨_,h⟩
    ·exact w8 hdo h fun a w=>mB hd hQ l a w
    ·exact absurd h hQ
   ·next hw=>
    rw[i0_ hw];exact⟨fun _ _=>trivial,mB hd hQ l _ w h⟩
theorem mA {ro:Option Nat}{m:Nat}{P:Program}{md:Region.Mode}{ops:Array Oper}{Q:Exit->Act->World->Prop}(hd:ops.toList.all iA=true)(hQ:¬LetsOut Q) :
  ∀(f:Nat) (l:Array Bool) (a:Act) (w:World),wpAny P md ops Q f l a w->wpAnyIn (WF ro) m P md ops Q f l a w
 |0,_,_,_,h=>h
 | f+1,l,a,w,h=>by
  refine⟨h.1,fun i hi=>?_⟩;have h:=h.2 i hi;unfold wpOp at h;unfold wpOpIn
  cases ho:ops[i]? with
  |none=>rw[ho]at h;exact mA hd hQ f _ a w h
  | some o=>
   rw[ho]at h;simp only at h⊢;have hdo:iA o=true:=List.all_eq_true.1 hd o (Array.mem_toList_iff.2 (Array.mem_of_getElem? ho));split at h
   ·next hw=>
    rw[i1_ hw];rcases h with h|⟨_,h⟩
    ·exact w8 hdo h fun a w=>mA hd hQ f _ a w
    ·exact absurd h hQ
   ·next hw=>
    rw[i0_ hw];exact⟨fun _ _=>trivial,mA hd hQ f _ _ w h⟩
theorem A2.wpIn {P:Program}{ro:Option Nat}{m id:Nat}{ops:Array Oper}{draws:Bool}{Q:Exit->Act->World->Prop}{a:Act}{w:World}(hd:ops.toList.all iA=true)(hQ:¬LetsOut Q)(h:A2 P ops draws Q a w) :
  (Code.region id ops draws).wpIn (WF ro) m P Q a w:=by
 cases draws with
 |true=>exact wpIn_region_any h.1 (mA hd hQ _ _ _ _ h.2)
 |false=>exact wpIn_region (mB hd hQ _ _ _ h)
theorem vv.plain {env:aE}(h:ay P ops n k (range ops.size) env H (fun env H=>Q .normal env H)):vv P n k ops false env H Q:=
 fun a w μ I hn hk Q' hq=>h a w μ I hn hk Q' fun env' H' a' w' μ' I' q=>hq .normal env' H' a' w' μ' I' q
theorem cI.same {id b:Nat}(hE:cI k μ I w μ' I' w')(hk:id<k)(h:μ[id]?=some ⟨some b,0⟩):μ'[id]?=some ⟨some b,0⟩:=by
 obtain⟨B',h1,-,-,h4⟩:=hE.get _ _ hk h;have e:=h4 rfl (by simp);rw[h1,e]
def gT (P:Program)(o:Oper)(env:aE)(H:List ab)(R:LV->List ab->Prop):Prop:=
 ∀(a:Act) (w:World) (μ:List ci) (I:Nat->Prop),St μ I w H->EI μ I w o env a->∀(K:Act->World->Prop) (Q:Exit->Act->World->Prop),
  (∀x H' v w' μ' I',R x H'->St μ' I' w' H'->aH μ' I' w' x v->cI μ.length μ I w μ' I' w'->K (a.put o.dst v) w')->o.wpIn (WF none) 0 P a w K Q
theorem gT.of {P:Program}{o:Oper}{env:aE}{H:List ab}{R:LV->List ab->Prop}(h:aa P o env H R)(hd:iA o=true):gT P o env H R:=
 fun a w μ I hs he K Q hK=>w8 hd (h a w μ I hs he K Q hK) fun _ _ h=>h
def bS (P:Program)(ops:Array Oper)(n k:Nat)(l:List Nat)(env:aE)(H:List ab)(Q:aE->List ab->Prop):Prop:=
 ∀a w μ I,re n μ I w H env a->k<=μ.length->∀Q':Exit->Act->World->Prop,
  (∀env' H' a' w' μ' I',Q env' H'->re n μ' I' w' H' env' a'->cI k μ I w μ' I' w'->Q' .normal a' w')->wpOpsIn (WF none) 0 P ops Q' l a w
section
variable {P : Program} {n k : Nat} {env : aE} {H : List ab} {ops : Array Oper} {i : Nat} {l : List Nat} {o : Oper} {x : LV} {H' : List ab} {env' : aE} {Q : aE -> List ab -> Prop}
theorem LW.regionI {Q:Exit->aE->List ab->Prop}(h:bS P ops n k (range ops.size) env H (fun env H=>Q .normal env H)):LW P n k (.region id ops false) env H Q:=
 fun a w μ I hn hk Q' hq=>(wpIn_wide (n:=0)).1 (wpIn_region (h a w μ I hn hk Q' fun env' H' a' w' μ' I' q=>hq .normal env' H' a' w' μ' I' q))
theorem bS.nil (h:Q env H):bS P ops n k [] env H Q:=fun a w μ I hn hk _ hq=>hq env H a w μ I h hn (cI.refl _ _ _ _ hk)
theorem bS.st (ho:br ops.toList i=some o)(hg:o.guard=none)(hd:gL n o x env=some env')(h:gT P o env H (Is x H'))(hr:bS P ops n k l env' H' Q):bS P ops n k (i::l) env H Q:=by
 obtain⟨rfl,h2⟩:=cN hd;intro a w μ I hn hk Q' hq;simp only[wpOpsIn,cJ ho,Region.wanted,hg,if_true];refine h a w μ I hn.st (hn.env.on o) _ _ fun y H2 v w' μ' I' hR hs hv hE=>?_;obtain⟨rfl,rfl⟩:=hR;exact hr (a.put o.dst v) w' μ' I' (hn.put (c9 h2) hs hv hE) (le_trans hk hE.len') Q'<|fun env' H'' a' w'' μ'' I'' q hn' hE'=>hq env' H'' a' w'' μ'' I'' q hn'<|(hE.weak hk).trans hE'
theorem bS.gd {j t:Nat}(ho:br ops.toList i=some o)(hg:o.guard=some (j,b))(ht:fM ops.toList j=some t)(hb:env.get t=some (.p (.bool b)))
  (hd:gL n o x env=some env') (h:gT P o env H (Is x H')) (hr:bS P ops n k l env' H' Q):bS P ops n k (i::l) env H Q:=by
 obtain⟨rfl,h2⟩:=cN hd;intro a w μ I hn hk Q' hq;simp only[wpOpsIn,cJ ho,Region.wanted,hg,mC hn.env (dA ht) hb,beq_self_eq_true,if_true];refine h a w μ I hn.st (hn.env.on o) _ _ fun y H2 v w' μ' I' hR hs hv hE=>?_;obtain⟨rfl,rfl⟩:=hR;exact hr (a.put o.dst v) w' μ' I' (hn.put (c9 h2) hs hv hE) (le_trans hk hE.len') Q'<|fun env' H'' a' w'' μ'' I'' q hn' hE'=>hq env' H'' a' w'' μ'' I'' q hn'<|(hE.weak hk).trans hE'
theorem bS.sk {j t:Nat}(ho:br ops.toList i=some o)(hg:o.guard=some (j,b))(ht:fM ops.toList j=some t)(hb:env.get t=some (.p (.bool c)))(hbc:c= !b)
  (hd:gL n o (.tup []) env=some env') (hr:bS P ops n k l env' H Q):bS P ops n k (i::l) env H Q:=by
 obtain⟨rfl,h2⟩:=cN hd;intro a w μ I hn hk Q' hq
 have hne:(some c==some b)=false:=by subst hbc;cases b <;>rfl
 simp only[wpOpsIn,cJ ho,Region.wanted,hg,mC hn.env (dA ht) hb,hne,Bool.false_eq_true,if_false];exact⟨fun _ _=>trivial,hr (a.put o.dst undef) w μ I (hn.put (c9 h2) hn.st (.tup Z fun i c v hc=>by simp at hc) (cI.refl _ _ _ _ (le_refl _))) hk Q' hq⟩
theorem bS.sku {j t:Nat}{b:Bool}(ho:br ops.toList i=some o)(hg:o.guard=some (j,b))(ht:fM ops.toList j=some t)(hb:env.get t=some (.tup []))
  (hd:gL n o (.tup []) env=some env') (hr:bS P ops n k l env' H Q):bS P ops n k (i::l) env H Q:=by
 obtain⟨rfl,h2⟩:=cN hd;intro a w μ I hn hk Q' hq;have hne:((none:Option Bool)==some b)=false:=rfl;simp only[wpOpsIn,cJ ho,Region.wanted,hg,oF hn.env (dA ht) hb,hne,Bool.false_eq_true,if_false];exact⟨fun _ _=>trivial,hr (a.put o.dst undef) w μ I (hn.put (c9 h2) hn.st (.tup Z fun i c v hc=>by simp at hc) (cI.refl _ _ _ _ (le_refl _))) hk Q' hq⟩
theorem bS.cases (t:Nat){b:Bool}(_:env.get t=some (.p (.bool b)))(ht:b=true->bS P ops n k l env H Q)(hf:b=false->bS P ops n k l env H Q):bS P ops n k l env H Q:=
 match b,ht,hf with
 |true,ht,_=>ht rfl
 |false,_,hf=>hf rfl
theorem St.loopTo {id b n:Nat}{b0:Bool}{env1:aE}{ps:Array Tmp}{A B:Code}{r:Loop}(b1:Bool)(st:LoopState)(hst:st=cond b1 .busy .ready)
  (hs:St μ I w H) (hH:H[id]?=some (.loop b0 n env1 ps A B)) (hid:μ[id]?=some ⟨some b,0⟩) (hb:w.heap[b]?=some (.loop r)) :
  St μ I (w.putObj b (.loop { r with state:=st,pending:=none})) (H.set id (.loop b1 n env1 ps A B))/\cI μ.length μ I w μ I (w.putObj b (.loop { r with state:=st,pending:=none})):=by
 have hlt:b<w.heap.size:=(Array.getElem?_eq_some_iff.1 hb).1;have hob:=hs.objs id _ _ hH hid;refine hs.write (o:=.loop b1 n env1 ps A B) hid (fun c hc=>World.putObj_heap_other hc) (by simp[World.putObj]) Z Z Z (fun c e f h=>by rw[hb]at h;cases h)<|fun hE=>?_
 cases hob with
 |loop hb1 h1 h2 h3 h4 h5 h6 h7=>
  rw[hb]at hb1;cases hb1;exact .loop (World.putObj_heap_same hlt) hst Z h3 h4 h5 h6 fun t x ht=>let ⟨v,hv,hr⟩:=h7 t x ht;⟨v,hv,hr.ext hE⟩
theorem gT.yield {fo xo:Operand}{id p ra rb bid:Nat}{draws:Bool}{lx:LV}{env1 env2:aE}{opsA opsB:Array Oper}{Hb H2 H3:List ab}
  (ho:o.op=.call { callee:=.value fo,args:=#[xo],argTypes:=ats}) (hf:bf env fo=some (.yld id)) (hx:bf env xo=some lx)
  (hH:br H id=some (.loop false n env1 #[p] (.region ra opsA false) (.block bid (.region rb opsB draws)))) (hp:Nat.blt p n=true)
  (hdA:opsA.toList.all iA=true) (hdB:opsB.toList.all iA=true) (hHb:bK H id (.loop true n env1 #[p] (.region ra opsA false) (.block bid (.region rb opsB draws)))=some Hb)
  (hA:vv P n H.length opsA false (eS env1 (some p) lx) H (fun e e2 H2=>e=.normal/\e2=env2/\H2=H)) (hB:vv P n H.length opsB draws env2 Hb (fun e _ H3=>e=.normal/\H3=H2))
  (h2:br H2 id=some (.loop true n env1 #[p] (.region ra opsA false) (.block bid (.region rb opsB draws))))
  (hH3:bK H2 id (.loop false n env1 #[p] (.region ra opsA false) (.block bid (.region rb opsB draws)))=some H3):gT P o env H (Is (.p (.bool true)) H3):=by
 intro a w μ I hs he K Q hK;rw[bj]at hH h2;have hfo:aH μ I w (.yld id) (a.eval fo):=he.ev (by rw[ho];simp[Op.operands,Call.operands]) hf;have hxo:aH μ I w lx (a.eval xo):=he.ev (by rw[ho];simp[Op.operands,Call.operands]) hx;generalize hv:a.eval fo=v at hfo
 cases hfo with
 | @yld _ b hid=>
  have hlen:=hs.len;have hidl:id<H.length:=(List.getElem?_eq_some_iff.1 hH).1;have hob:=hs.objs id _ _ hH hid
  cases hob with
  | @loop _ _ _ _ _ _ _ r hb hst hpe hps hAs hBs hn hen=>
   have hrun:(execOp a.eval o).run P w=.ok (.round b r.fn (r.tmps.setIfInBounds p (a.eval xo)) (.region ra opsA false) (.block bid (.region rb opsB draws))) w:=by
    have:=run_yield (P:=P) (args:=#[a.eval xo]) hb (by rw[hps];rfl);rw[hps,hAs,hBs]at this;simp[execOp,ho,resolve,Deferred.ofValue,hv,invoke]at this⊢;rw[this]
   refine⟨fun _ _=>trivial,?_⟩;show o.uponIn (WF none) 0 P a K Q ((execOp a.eval o).run P w);rw[hrun];refine⟨(fun e=>nomatch (show false=true from e)),roundIn_of_wpIn trivial ?_⟩
   have hnow:re n μ I w H (eS env1 (some p) lx) { tmps:=r.tmps.setIfInBounds p (a.eval xo),defers:=[]}:=by
    have hp':p<n:=by simpa using hp
    have:=oH.put (a:={ tmps:=r.tmps,defers:=[]}) (dst:=some p) (env:=env1) hen (fun d hd=>by cases hd;show p<r.tmps.size;omega) hxo;exact⟨by simp[hn],rfl,hs,this⟩
   refine A2.wpIn (ro:=some b) hdA (fun⟨_,_,h⟩=>h)<|hA _ w μ I hnow (by omega) _ ?_;rintro e e2 H2x a1 w1 μ1 I1 ⟨rfl,rfl,rfl⟩ hn1 hE1;have hid1:=hE1.same hidl hid;have hlen1:=hn1.st.len;have hob1:=hn1.st.objs id _ _ hH hid1
   cases hob1 with
   | @loop _ _ _ _ _ _ _ r1 hb1 hst1 hpe1 hps1 hAs1 hBs1 hnn1 hen1=>
    refine⟨_,run_beginRound hb1 hst1,?_⟩
    have e1:({ r1 with state:=.busy}:Loop)={ r1 with state:=.busy,pending:=none}:=by rw[<-hpe1]
    rw[e1];obtain⟨hs2,hE2⟩:=hn1.st.loopTo true .busy rfl hH hid1 hb1;have e2:=(bH hHb).1;subst e2;refine wpIn_block<|A2.wpIn (ro:=some b) hdB (fun⟨_,_,h⟩=>h)<|hB a1 _ μ1 I1 ⟨hn1.size,hn1.defers,hs2,hn1.env.ext hE2⟩ (by omega) _ ?_;rintro e e3 H3x a3 w3 μ3 I3 ⟨rfl,rfl⟩ hn3 hE3;have hid3:=hE3.same hidl hid1;have hob3:=hn3.st.objs id _ _ h2 hid3
    cases hob3 with
    |@loop _ _ _ _ _ _ _ r3 hb3 hst3 hpe3 hps3 hAs3 hBs3 hnn3 hen3=>
     refine⟨_,_,run_endRound none hb3,?_⟩;obtain⟨hs4,hE4⟩:=hn3.st.loopTo false .ready rfl h2 hid3 hb3;have e4:=(bH hH3).1;subst e4;refine hK (.p (.bool true)) _ _ _ μ3 I3 ⟨rfl,rfl⟩ hs4 (.p .bool) ?_;rw[hlen];exact(hE1.trans (hE2.weak (by omega))).trans (hE3.trans (hE4.weak hE3.len'))
end
structure Gl (m:Option Nat)(n:Nat)(μ:List ci)(I:Nat->Prop)(w:World)(H:List ab)(env:aE)(a:Act):Prop where
 size:a.tmps.size=n
 defers:match m with
  |none=>a.defers=[]
  |some d=>∃D,μ[d]?=some ⟨some D,0⟩/\H[d]?=some .defd/\a.defers=[{ target:=.collected D,args:=#[]}]
 st:St μ I w H
 env:oH μ I w env a.tmps
def kc (P:Program)(n k:Nat)(m:Option Nat)(c:Code)(env:aE)(H:List ab)(Q:Option Nat->Exit->aE->List ab->Prop):Prop:=∀a w μ I,Gl m n μ I w H env a->k<=μ.length->∀Q':Exit->Act->World->Prop,(∀m' e env' H' a' w' μ' I',Q m' e env' H'->Gl m' n μ' I' w' H' env' a'->cI k μ I w μ' I' w'->Q' e a' w')->c.wp P Q' a w
section
variable {P : Program} {n k : Nat} {env : aE} {H : List ab} {Q : Option Nat -> Exit -> aE -> List ab -> Prop} {m : Option Nat}
theorem kc.of {c:Code}(h:LW P n k c env H (Q none)):kc P n k none c env H Q:=
 fun a w μ I hn hk Q' hq=>h a w μ I ⟨hn.size,hn.defers,hn.st,hn.env⟩ hk Q' fun e env' H' a' w' μ' I' q hn'=>hq none e env' H' a' w' μ' I' q ⟨hn'.size,hn'.defers,hn'.st,hn'.env⟩
theorem kc.seqW {x y:Code}(h:LW P n k x env H (wZ (fun env H=>kc P n k none y env H Q) (Q none))):kc P n k none (.seq x y) env H Q:=by
 intro a w μ I hn hk Q' hq;refine wp_seq<|h a w μ I ⟨hn.size,hn.defers,hn.st,hn.env⟩ hk _ fun e env' H' a' w' μ' I' q hn' hE=>?_
 cases e with
 |normal=>exact q a' w' μ' I' ⟨hn'.size,hn'.defers,hn'.st,hn'.env⟩ hE.len' Q' fun m' e env'' H'' a'' w'' μ'' I'' q' hn'' hE'=>hq m' e env'' H'' a'' w'' μ'' I'' q' hn'' (hE.trans hE')
 |_=>exact hq none _ _ _ _ _ _ _ q ⟨hn'.size,hn'.defers,hn'.st,hn'.env⟩ hE
def OB (R:Option Nat->aE->List ab->Prop)(Q:Option Nat->Exit->aE->List ab->Prop):Option Nat->Exit->aE->List ab->Prop |m,.normal,env,H=>R m env H |m,e,env,H=>Q m e env H
theorem kc.seq {x y:Code}(h:kc P n k m x env H (OB (fun m env H=>kc P n k m y env H Q) Q)):kc P n k m (.seq x y) env H Q:=by
 intro a w μ I hn hk Q' hq;refine wp_seq<|h a w μ I hn hk _ fun m' e env' H' a' w' μ' I' q hn' hE=>?_
 cases e with
 |normal=>exact q a' w' μ' I' hn' hE.len' Q' fun m' e env'' H'' a'' w'' μ'' I'' q' hn'' hE'=>hq m' e env'' H'' a'' w'' μ'' I'' q' hn'' (hE.trans hE')
 |_=>exact hq m' _ _ _ _ _ _ _ q hn' hE
theorem kc.block {id:Nat}{c:Code}(h:kc P n k m c env H (fun m e env H=>e=.normal/\Q m .normal env H)):kc P n k m (.block id c) env H Q:=by
 intro a w μ I hn hk Q' hq;refine wp_block<|h a w μ I hn hk _ ?_;rintro m' e env' H' a' w' μ' I' ⟨rfl,q⟩ hn' hE;exact hq m' .normal env' H' a' w' μ' I' q hn' hE
def mD (P:Program)(ops:Array Oper)(n k d:Nat)(l:List Nat)(env:aE)(H:List ab)(Q:aE->List ab->Prop):Prop:=
 ∀a w μ I,Gl (some d) n μ I w H env a->k<=μ.length->∀Q':Exit->Act->World->Prop,
  (∀env' H' a' w' μ' I',Q env' H'->Gl (some d) n μ' I' w' H' env' a'->cI k μ I w μ' I' w'->Q' .normal a' w')->wpOps P ops Q' l a w
theorem kc.region {id d:Nat}{ops:Array Oper}(h:mD P ops n k d (range ops.size) env H (fun env H=>Q (some d) .normal env H)):kc P n k (some d) (.region id ops false) env H Q:=
 fun a w μ I hn hk Q' hq=>wp_region (h a w μ I hn hk Q' fun env' H' a' w' μ' I' q=>hq (some d) .normal env' H' a' w' μ' I' q)
theorem mD.nil {d:Nat}{ops:Array Oper}{Q:aE->List ab->Prop}(h:Q env H):mD P ops n k d [] env H Q:=fun a w μ I hn hk _ hq=>hq env H a w μ I h hn (cI.refl _ _ _ _ hk)
theorem mD.st {d i:Nat}{l:List Nat}{o:Oper}{x:LV}{H':List ab}{env':aE}{ops:Array Oper}{Q:aE->List ab->Prop}(ho:br ops.toList i=some o)(hg:o.guard=none)(hd:gL n o x env=some env')(h:aa P o env H (Is x H'))(hD:br H' d=some .defd)
  (hr:mD P ops n k d l env' H' Q):mD P ops n k d (i::l) env H Q:=by
 obtain⟨rfl,h2⟩:=cN hd;intro a w μ I hn hk Q' hq;simp only[wpOps,cJ ho,Region.wanted,hg,if_true];refine .inl<|h a w μ I hn.st (hn.env.on o) _ _ fun y H2 v w' μ' I' hR hs hv hE=>?_;obtain⟨rfl,rfl⟩:=hR
 have hnow:Gl (some d) n μ' I' w' H2 (eS env o.dst y) (a.put o.dst v):=by
  obtain⟨D,hm,hH,hdf⟩:=hn.defers;have hml:=(List.getElem?_eq_some_iff.1 hm).1;have e:=(hn.env.ext hE).put (a:=a) (dst:=o.dst) (fun d hd=>by rw[hn.size];exact c9 h2 d hd) hv;refine⟨?_,⟨D,hE.same hml hm,by rw[<-bj];exact hD,?_⟩,hs,e⟩
  ·have:=hn.size;cases o.dst <;>simp[Act.put,this]
  ·cases o.dst <;>simp[Act.put,hdf]
 exact hr (a.put o.dst v) w' μ' I' hnow (le_trans hk hE.len') Q'<|fun env' H'' a' w'' μ'' I'' q hn' hE'=>hq env' H'' a' w'' μ'' I'' q hn'<|(hE.weak hk).trans hE'
theorem kc.rangeFunc {t gf d:Nat}{ps:Array Tmp}{A B:Code}{caps:List LV}{xr:LV}{H2 H3:List ab}(hg:env.get t=some (.fn gf [] caps))(hcall:eI P gf=true)(hd:dq H=some d)
  (hc:LC P gf (.yld (d+1)::caps) (H++[.defd,.loop false n env ps A B]) (Is xr H2)) (hL:br H2 (d+1)=some (.loop false n env ps A B)) (hD:br H2 d=some .defd)
  (hH3:bK H2 (d+1) .dead=some H3) (hq:Q (some d) .normal env H3):kc P n k none (.rangeFunc (.tmp t) ps A B) env H Q:=by
 intro a w μ I hn hk Q' hQ;have hd:=cd hd;have hdef:a.defers=[]:=hn.defers;have hlen:=hn.st.len;rw[bj]at hL hD;obtain⟨v,hv,hr⟩:=hn.env t _ hg
 have hev:a.eval (.tmp t)=v:=by simp[Act.eval,hv]
 cases hr with
 | @fn _ _ _ fs cs h1 h2 h3 h4=>
  have hfs:fs=#[]:=by
   apply Array.eq_empty_of_size_eq_zero;simpa using h1
  subst hfs;refine(wpIn_wide (n:=0)).1 (wpIn_rangeFunc fun fn hfn=>?_);obtain⟨hs1,hE1⟩:=hn.st.push (.deferred (some [])) .defd 0 fun μ' w' hE hb=>.defd hb;obtain⟨rec,hrec⟩:∃rec:Loop,rec={ state:=.ready,pending:=none,fn,tmps:=a.tmps,params:=ps,assign:=A,body:=B,defers:=w.heap.size}:=⟨_,rfl⟩
  obtain⟨hs2,hE2⟩:=hs1.push (.loop rec) (.loop false n env ps A B) 0 fun μ' w' hE hb=>by
   refine .loop hb (by rw[hrec];rfl) (by rw[hrec]) (by rw[hrec]) (by rw[hrec]) (by rw[hrec]) (by rw[hrec];exact hn.size) fun t x ht=>?_;obtain⟨v,hv,hr⟩:=hn.env t x ht;exact⟨v,by rw[hrec];exact hv,(hr.ext hE1).ext hE⟩
  have hsz:(w.alloc (.deferred (some []))).heap.size=w.heap.size+1:=by simp
  have hmid:((μ++[⟨some w.heap.size,0⟩])++[⟨some (w.alloc (.deferred (some []))).heap.size,0⟩])[d+1]?=some ⟨some (w.heap.size+1),0⟩:=by
   rw[getElem?_append_right (by simp;omega),hsz];simp[hlen,hd]
  have hmid0:((μ++[⟨some w.heap.size,0⟩])++[⟨some (w.alloc (.deferred (some []))).heap.size,0⟩])[d]?=some ⟨some w.heap.size,0⟩:=by
   rw[append_assoc,getElem?_append_right (by omega)];simp[hlen,hd]
  have eH:(H++[ab.defd])++[ab.loop false n env ps A B]=H++[.defd,.loop false n env ps A B]:=by simp
  rw[eH]at hs2;have hE12:cI μ.length μ I w _ I _:=hE1.trans (hE2.weak (by simp))
  refine⟨w.heap.size+1,[{ target:=.collected w.heap.size,args:=#[]}],(w.alloc (.deferred (some []))).alloc (.loop rec),{ target:=.fn (.func gf) cs,args:=#[.func (.yield (w.heap.size+1)) #[] #[]]},
   (w.alloc (.deferred (some []))).alloc (.loop rec),gf,#[.func (.yield (w.heap.size+1)) #[] #[]]++cs,(w.alloc (.deferred (some []))).alloc (.loop rec),?_,?_,fun _ _=>trivial,?_,(fun e=>nomatch (show false=true from e)),?_⟩
  ·rw[hrec];exact run_enterLoop_outer _ _ _ _ _
  ·simp only[resolve,hev];simp[go_sem]
  ·unfold eI at hcall
   cases hfn:P.funcs[gf]? with
   |none=>rw[hfn]at hcall;simp at hcall
   |some fn'=>
    rw[hfn]at hcall;simp only[Option.any_some,Bool.and_eq_true,bne_iff_ne,ne_eq]at hcall
    have hnb:¬fn'.body=none:=by intro hb;rw[hb]at hcall;simp at hcall
    simp[invoke,callFunc,hfn];rw[i0_ hcall.1,i0_ hnb]
  ·refine(callsIn_wide (n:=0-1)).2 ((hc _ _ _ I hs2 ?_).mono ?_)
   ·have e:(#[Value.func (.yield (w.heap.size+1)) #[] #[]]++cs).toList=.func (.yield (w.heap.size+1)) #[] #[]::cs.toList:=by simp
    rw[e];refine⟨.yld hmid,cC.mk (by simpa using h2) fun i x v hx hv=>?_⟩;exact(h4 i x v hx (by simpa using hv)).ext hE12
   ·rintro e w3 ⟨x,v3,H2',μ3,I3,rfl,⟨e1,e2⟩,hs3,-,hE3⟩;rw[e2]at hs3;have hm3:=hE3.same (by simp;omega) hmid;have hm30:=hE3.same (by simp;omega) hmid0;have hob:=hs3.objs _ _ _ hL hm3
    cases hob with
    | @loop _ _ _ _ _ _ _ r3 hb3 hst3 hpe3 hps3 hAs3 hBs3 hnn3 hen3=>
     have hlt3:=(Array.getElem?_eq_some_iff.1 hb3).1;have hend:=run_endLoop (P:=P) hb3 (by rw[hst3];simp);rw[hpe3]at hend;refine⟨none,_,hend,?_⟩;obtain⟨hs4,hE4⟩:=hs3.write (o:=.dead) hm3 (w':=w3.putObj (w.heap.size+1) (.loop { r3 with state:=.exhausted,pending:=none})) (fun c hc=>World.putObj_heap_other hc) (by simp[World.putObj]) rfl rfl rfl (fun c e f h=>by rw[hb3]at h;cases h) (fun _=>.dead);have e3:=(bH hH3).1;subst e3
     have hEall:cI μ.length μ I w μ3 I3 (w3.putObj (w.heap.size+1) (.loop { r3 with state:=.exhausted,pending:=none})):=
      hE12.trans ((hE3.weak (by simp)).trans (hE4.weak (by have:=hE3.len';simp at this;omega)))
     refine hQ (some d) .normal env _ _ _ μ3 I3 hq ⟨hn.size,⟨w.heap.size,hm30,?_,?_⟩,hs4,fun t x ht=>?_⟩<|hEall.weak hk
     ·rw[List.getElem?_set_ne (by omega)];exact hD
     ·show[_]++a.defers=_;rw[hdef];rfl
     ·obtain⟨v,hv,hr⟩:=hn.env t x ht;exact⟨v,hv,hr.ext hEall⟩
def Pj (P:Program)(fn:Func)(k:Nat)(R:LV->List ab->Prop):Option Nat->Exit->aE->List ab->Prop |none,e,env,H=>IN P fn k R e env H |some d,e,env,H=>(e=.normal\/e=.ret)/\∃H0 env' H' x,bK H d .dead=some H0/\dW k env' H' env H0/\ec P env' H' fn.results x/\R x H'
theorem LC.ofM {fn:Func}{c:Code}{als:List LV}{e:aE}(hf:P.funcs[f]?=some fn)(hb:fn.body=some c)
  (hn:ble als.length fn.ntmps=true) (he:qF 0 als=some e) (h:kc P fn.ntmps H.length none c e H (Pj P fn H.length R)):LC P f als H R:=by
 have e1:=jU he;subst e1;intro args w μ I hs ha;have hnow:=jn (fn:=fn) hs ha (by simpa using hn);refine(callsIn_wide (n:=0)).1 (callsIn_of_wp_marks (F:=Fence.wide) (n:=0) hf hb trivial ((wpIn_wide (n:=0)).2 (h _ w μ I ⟨hnow.size,hnow.defers,hnow.st,hnow.env⟩ (by rw[hs.len];exact le_refl _) _ ?_)));rintro m e env' H' a' w' μ' I' hfin hn' hE
 cases m with
 |none=>
  have hdef:a'.defers=[]:=hn'.defers;have hn2:re fn.ntmps μ' I' w' H' env' a':=⟨hn'.size,hdef,hn'.st,hn'.env⟩;obtain⟨hee,⟨x,hres,hR⟩|⟨env'',H'',x,hw,hres,hR⟩⟩:=hfin
  ·obtain⟨v,hrun,hv⟩:=hres.run hn2;have hE2:=hE;rw[<-hs.len]at hE2;rcases hee with rfl|rfl <;>(show LeavesInM _ _ _ _ _ _ a'.defers _ _;rw[hdef];exact⟨v,hrun,x,v,H',μ',I',rfl,hR,hn'.st,hv,hE2⟩)
  ·obtain⟨μ'',hn'',hE'⟩:=hn2.weak hw hE.len';obtain⟨v,hrun,hv⟩:=DK.run hn2 hn'' hE' hres;have hE2:=hE.trans hE';rw[<-hs.len]at hE2;rcases hee with rfl|rfl <;>(show LeavesInM _ _ _ _ _ _ a'.defers _ _;rw[hdef];exact⟨v,hrun,x,v,H'',μ'',I',rfl,hR,hn''.st,hv,hE2⟩)
 | some d=>
  obtain⟨hee,H0,env'',H'',x,hH0,hw,hres,hR⟩:=hfin;obtain⟨D,hm,hHd,hdf⟩:=hn'.defers;have e0:=(bH hH0).1;subst e0;have hob:=hn'.st.objs _ _ _ hHd hm
  cases hob with
  | defd hbD=>
   have hlt:=(Array.getElem?_eq_some_iff.1 hbD).1;obtain⟨hs4,hE4⟩:=hn'.st.write (o:=.dead) hm (w':=w'.putObj D (.deferred none)) (fun c hc=>World.putObj_heap_other hc) (by simp[World.putObj]) rfl rfl rfl (fun c e f h=>by rw[hbD]at h;cases h) (fun _=>.dead);have hn2:re fn.ntmps μ' I' (w'.putObj D (.deferred none)) (H'.set d .dead) env' { a' with defers:=[]}:=⟨hn'.size,rfl,hs4,fun t x ht=>let ⟨v,hv,hr⟩:=hn'.env t x ht;⟨v,hv,hr.ext hE4⟩⟩;have hEw:=hE.trans (hE4.weak hE.len');obtain⟨μ'',hn'',hE'⟩:=hn2.weak hw hE.len';obtain⟨v,hrun,hv⟩:=hres.run hn'';have hE2:=hEw.trans hE';rw[<-hs.len]at hE2
   have fin:LeavesInM Fence.wide 0 P fn a'.tmps (fun e w''=>∃x v H' μ' I',e=.returned v/\R x H'/\St μ' I' w'' H'/\aH μ' I' w'' x v/\cI μ.length μ I w μ' I' w'') a'.defers .returning w':=by
    rw[hdf];exact⟨by simp,.inl ⟨D,_,rfl,run_takeDeferred hbD,v,hrun,x,v,H'',μ'',I',rfl,hR,hn''.st,hv,hE2⟩⟩
   rcases hee with rfl|rfl <;>exact fin
end
def qM :Code->Option (Code×Code)
 |.seq a b=>match qM a with|some x=>some x|none=>qM b
 |.block _ c=>qM c
 |.rangeFunc _ _ a c=>some (a,c)
 |_=>none
def Qy (c:Option Code):Code:=match c with|some c=>(match qM c with|some x=>x.1|none=>.skip)|none=>.skip
def Qz (c:Option Code):Code:=match c with|some c=>(match qM c with|some x=>x.2|none=>.skip)|none=>.skip
theorem aH.imono {x:LV}(h:aH μ I w x v)(hI:∀b,I b->I' b):aH μ I' w x v:=by
 have hi:∀b,I b->I' b/\w.heap[b]?=w.heap[b]?:=fun b h=>⟨hI b h,rfl⟩
 induction h with
 |p h=>exact .p (h.mono hi)
 |agg hl ho h ih=>exact .agg hl ho fun i c v hc hv=>ih i c v hc hv
 |tup hl h ih=>exact .tup hl fun i c v hc hv=>ih i c v hc hv
 |ptr h=>exact .ptr h
 |cptr f h1 h2=>exact .cptr f (hI _ h1) fun i c hc=>⟨(h2 i c hc).1,(h2 i c hc).2.1,(h2 i c hc).2.2.mono hi⟩
 |vec h h1 hn hf=>exact .vec h h1 hn hf
 |vptr h h1 hn hf=>exact .vptr h h1 hn hf
 |zs=>exact .zs
 |map h=>exact .map h
 |nilmap=>exact .nilmap
 |fn h1 h2 h3 h4 ih1 ih2=>exact .fn h1 h2 (fun i c v hc hv=>ih1 i c v hc hv) (fun i c v hc hv=>ih2 i c v hc hv)
 |any=>exact .any
 |yld h=>exact .yld h
 |fptr h1 hc ho h ih=>exact .fptr (hI _ h1) hc ho ih
theorem dN.imono {μ:List ci}{I I':Nat->Prop}{w:World}{o:ab}{B:ci}(h:dN μ I w o B)(hI:∀b,I b->I' b):dN μ I' w o B:=by
 have hi:∀b,I b->I' b/\w.heap[b]?=w.heap[b]?:=fun b h=>⟨hI b h,rfl⟩
 cases h with
 |box h1 h2 h3 h4=>exact .box h1 h2 h3 fun i c v hc hv=>(h4 i c v hc hv).imono hI
 |vecE=>exact .vecE
 |vec h1 h2 h3 h4 h5=>exact .vec h1 h2 h3 h4 fun i c v hc hv=>(h5 i c v hc hv).mono hi
 |map h1 h2 h3 h4 h5=>exact .map h1 h2 (fun i c e hc he=>⟨(h3 i c e hc he).1.mono hi,(h3 i c e hc he).2.imono hI⟩) h4 h5
 |dead=>exact .dead
 |slot=>exact .slot
 |loop h1 hs hp hps hA hB hn he=>exact .loop h1 hs hp hps hA hB hn fun t x ht=>let ⟨v,h2,h3⟩:=he t x ht;⟨v,h2,h3.imono hI⟩
 |defd h1=>exact .defd h1
 |iter h1 hx=>exact .iter h1 (hx.imono hI)
theorem dN.lows {μ:List ci}{I:Nat->Prop}{w:World}{o:ab}{B:ci}(h:dN μ I w o B):o.Low μ.length:=by
 cases h with
 |box h1 h2 h3 h4=>
  intro c hc;obtain⟨i,hi,rfl⟩:=mem_iff_getElem.1 hc;exact(h4 i _ _ (getElem?_eq_getElem hi) (Array.getElem?_eq_getElem (by omega))).lows
 |vecE=>trivial
 |vec=>trivial
 |map h1 h2 h3 h4 h5=>
  intro e he;obtain⟨i,hi,rfl⟩:=mem_iff_getElem.1 he;exact(h3 i _ _ (getElem?_eq_getElem hi) (Array.getElem?_eq_getElem (by omega))).2.lows
 |dead=>trivial
 |slot=>trivial
 |loop h1 hs hp hps hA hB hn he=>exact fun t x ht=>let ⟨_,_,h3⟩:=he t x ht;h3.lows
 |defd=>trivial
 |iter h1 hx=>exact hx.lows
theorem St.low (h:St μ I w H):∀o∈H,o.Low H.length:=by
 intro o ho;obtain⟨i,hi,rfl⟩:=mem_iff_getElem.1 ho;rw[<-h.len];exact(h.objs i _ _ (getElem?_eq_getElem hi) (getElem?_eq_getElem (by rw[h.len];exact hi))).lows
section
variable {P : Program} {n k : Nat} {env : aE} {H : List ab}
theorem kc.weak {Q:Option Nat->Exit->aE->List ab->Prop}{c:Code}{env':aE}{H':List ab}(hw:dW k env' H' env H)(h:kc P n k none c env' H' Q):kc P n k none c env H Q:=by
 intro a w μ I hn hk Q' hq;obtain⟨μ',hn',hE⟩:=re.weak (n:=n) ⟨hn.size,hn.defers,hn.st,hn.env⟩ hw hk;exact h a w μ' I ⟨hn'.size,hn'.defers,hn'.st,hn'.env⟩ hE.len' Q' fun m' e env'' H'' a' w' μ'' I'' q hn'' hE'=>hq m' e env'' H'' a' w' μ'' I'' q hn''<|hE.trans hE'
theorem w2 {R:Option Nat->aE->List ab->Prop}{Q:Option Nat->Exit->aE->List ab->Prop}{m:Option Nat}(h:R m env H):OB R Q m .normal env H:=h
theorem kc.ent {Q:Option Nat->Exit->aE->List ab->Prop}{c:Code}(h:bY k env H env' H')(hw:kc P n k none c env' H' Q):kc P n k none c env H Q:=by
 intro a w μ I hn hk Q' hq;obtain⟨μ',I',hn',hE⟩:=h n μ I w a ⟨hn.size,hn.defers,hn.st,hn.env⟩ hk;exact hw a w μ' I' ⟨hn'.size,hn'.defers,hn'.st,hn'.env⟩ hE.len' Q' fun m' e env'' H'' a' w' μ'' I'' q hn'' hE'=>hq m' e env'' H'' a' w' μ'' I'' q hn''<|hE.trans hE'
theorem kc.ret {Q:Option Nat->Exit->aE->List ab->Prop}{m:Option Nat}(h:Q m .ret env H):kc P n k m .ret env H Q:=
 fun a w μ I hn hk _ hq=>wp_ret (hq m .ret env H a w μ I h hn (cI.refl _ _ _ _ hk))
theorem aa.loadF {p:Operand}{x:LV}(ho:o.op=.load t p)(hp:bf env p=some (.fptr x))(hT:bl P t=some (1,false)):aa P o env H (Is x H):=
 aa.val fun a w μ I hst he=>by
  have hr:=he.ev (x:=p) (by simp[ho,Op.operands]) hp;generalize hv:a.eval p=v at hr
  cases hr with
  | @fptr _ b off u hI hc h1 h=>
   have hload:=kz (P:=P) (w:=w) hT b off (fun _=>u) (fun i hi=>by
    obtain rfl:i=0:=by omega
    exact hc)
   refine⟨_,by simp only[execOp,ho,Instr.loadAt,hv,Instr.sureAddr];simp[hload];rfl,?_⟩;simpa using h
theorem LC.those {f g:FuncId}{fn:Func}{c:Code}{cs:List PV}{x z:LV}{e:aE}(hf:P.funcs[f]?=some fn)(hb:fn.body=some c)(hn:ble 2 fn.ntmps=true)(he:qF 0 [z,x]=some e)
    (h:LW P fn.ntmps H.length c e H (fun ex env' H'=>(ex=.normal\/ex=.ret)/\H'=H++[.box (cs.map .p),.box [x]]/\ec P env' H' fn.results (.fn g [] [.ptr H.length 0,.ptr (H.length+1) 0]))) :
    LC P f [z,x] H (Is (.fn g [] [.cptr cs,.fptr x]) H):=by
  have e1:=jU he;subst e1;intro args w μ I hs ha;have hnow:=jn (fn:=fn) hs ha (by simpa using hn);refine calls_of_wp hf hb<|h _ w μ I hnow (by rw[hs.len];exact le_refl _) _ ?_;rintro ex env' H' a' w' μ' I' ⟨hee,rfl,hres⟩ hn' hE;obtain⟨v,hrun,hv⟩:=hres.run hn';rw[<-hs.len]at hE hv;have hlen':=hn'.st.len;have hlen:=hs.len;simp only[length_append,length_cons,List.length_nil]at hlen'
  have hxlow:LV.Low μ.length x:=by
    match args.toList,ha with
    |[_,_],ha=>exact ha.2.1.lows
  -- the two blocks
  have key:∀(i:Nat) (o:ab),[ab.box (cs.map .p),.box [x]][i]?=some o->∃B,μ'[μ.length+i]?=some B/\dN μ' I' w' o B:=by
    intro i o ho;have hi:=(List.getElem?_eq_some_iff.1 ho).1;simp at hi;have hB:μ'[μ.length+i]?=some μ'[μ.length+i]:=getElem?_eq_getElem (by omega);exact⟨_,hB,hn'.st.objs _ _ _ (by rw[getElem?_append_right (by omega)];rw[show μ.length+i-H.length=i by omega];exact ho) hB⟩
  obtain⟨B1,hm1,ho1⟩:=key 0 _ rfl;obtain⟨B2,hm2,ho2⟩:=key 1 _ rfl;rw[Nat.add_zero]at hm1
  cases ho1 with
  | @box _ b1 vs1 t1 hb1 hl1 hq1 hr1=>
    cases ho2 with
    | @box _ b2 vs2 t2 hb2 hl2 hq2 hr2=>
      have hmlen:μ.length+2=μ'.length:=by omega
      have hown1:gC μ' b1:=.mk hm1;have hown2:gC μ' b2:=.mk hm2;obtain⟨I2,hI2⟩:∃I2:Nat->Prop,I2=fun b=>I' b\/b=b1\/b=b2:=⟨_,rfl⟩
      have hsub:∀b,I' b->I2 b:=fun b h=>by rw[hI2];exact .inl h
      have hcut:=hn'.st.cut (j:=μ.length) (by simp;omega) (by
        rw[take_left' hlen.symm,hlen];exact hs.low)
      rw[take_left' hlen.symm]at hcut
      have hnot:∀(b:ci) (i:Nat),(μ'.take μ.length)[i]?=some b->b.b≠some b1/\b.b≠some b2:=by
        rintro⟨b,q⟩ i hi;have hil:=(List.getElem?_eq_some_iff.1 hi).1;rw[length_take]at hil;rw[getElem?_take_of_lt (by omega)]at hi;refine⟨?_,?_⟩
        · rintro rfl;have:=hn'.st.inj _ _ _ _ _ hi hm1;omega
        · rintro rfl;have:=hn'.st.inj _ _ _ _ _ hi hm2;omega
      have hst:St (μ'.take μ.length) I2 w' H:=
        { len:=hcut.len
          inj:=hcut.inj
          lt:=hcut.lt
          off:=fun b hb hi=>by
            rw[hI2]at hi;rcases hi with hi|rfl|rfl
            · exact hcut.off b hb hi
            · obtain⟨q,hq⟩:=hb;obtain⟨i,hi⟩:=mq hq;exact(hnot _ i hi).1 Z
            · obtain⟨q,hq⟩:=hb;obtain⟨i,hi⟩:=mq hq;exact(hnot _ i hi).2 Z
          ilt:=fun b hi=>by
            rw[hI2]at hi;rcases hi with hi|rfl|rfl
            · exact hcut.ilt b hi
            · exact hn'.st.lt _ hown1
            · exact hn'.st.lt _ hown2
          objs:=fun i o B ho hB=>(hcut.objs i o B ho hB).imono hsub}
      have hExt:cI μ.length μ I w (μ'.take μ.length) I2 w':=
        { get:=fun i B hi hb=>by
            obtain⟨B',h1,h2⟩:=hE.get i B hi hb;exact⟨B',by rw[getElem?_take_of_lt hi];exact h1,h2⟩
          len:=le_refl _
          len':=by rw[length_take];omega
          os:=hE.os
          tape:=hE.tape
          output:=hE.output
          size:=hE.size
          imm:=fun b hb=>⟨hsub b (hE.imm b hb).1,(hE.imm b hb).2⟩
          shape:=hE.shape
          inew:=fun b hi=>by
            rw[hI2]at hi;rcases hi with hi|rfl|rfl
            · exact hE.inew b hi
            · exact .inr<|hE.mnew _ hown1
            · exact .inr<|hE.mnew _ hown2
          mnew:=fun b ⟨q,hq⟩=>hE.mnew b ⟨q,List.mem_of_mem_take hq⟩
          keep:=hE.keep}
      have hcell:∀{b:Nat} {vs:Array Value} {t:TypeId},w'.heap[b]?=some (.cells vs t (0,0))->∀i u,vs[i]?=some u->w'.cell? ⟨b,0+i,none⟩=some u:=fun hb i u hu=>by
        simp[World.cell?,hb,hu]
      have hv2:aH (μ'.take μ.length) I2 w' (.fn g [] [.cptr cs,.fptr x]) v:=by
        cases hv with
        | @fn _ _ _ fs ws h1 h2 h3 h4=>
          refine .fn h1 (by simpa using h2) (fun i c v hc=>by simp at hc) fun i c v hc hw=>?_
          match i,hc with
          | 0,hc=>
            cases hc;have:=h4 0 _ v rfl hw
            cases this with
            | ptr hp=>
              rw[hm1]at hp;cases hp;refine .cptr (fun i=>(vs1[i]?).getD undef) (by rw[hI2];exact .inr (.inl Z)) fun i c hc=>?_;have hi:=(List.getElem?_eq_some_iff.1 hc).1;obtain⟨u,hu⟩:∃u,vs1[i]?=some u:=⟨_,Array.getElem?_eq_getElem (by simp at hl1;omega)⟩;have hrr:=hr1 i (.p c) _ (by rw[getElem?_map,hc];rfl) hu;have hone:=hq1 _ (Array.mem_of_getElem? hu);rw[hu];refine⟨?_,hcell hb1 i _ hu,?_⟩
              · cases hrr with|p hr=>cases hr <;>first|trivial|cases hone
              · cases hrr with|p hr=>exact hr.mono fun b h=>⟨hsub b h,rfl⟩
          | 1,hc=>
            cases hc;have:=h4 1 _ v rfl hw
            cases this with
            | ptr hp=>
              rw[hm2]at hp;cases hp;obtain⟨u,hu⟩:∃u,vs2[0]?=some u:=⟨_,Array.getElem?_eq_getElem (by simp at hl2;omega)⟩;exact .fptr (by rw[hI2];exact .inr (.inr Z)) (hcell hb2 0 _ hu) (hq2 _ (Array.mem_of_getElem? hu)) (((hr2 0 x _ Z hu).cut (j:=μ.length) (by omega) hxlow).imono hsub)
          |i+2,hc=>simp at hc
      rcases hee with rfl|rfl <;>exact⟨hn'.defers,v,hrun,_,v,H,_,I2,rfl,⟨rfl,rfl⟩,hst,hv2,hExt⟩
end
section
variable {P : Program} {o : Oper} {env : aE} {H : List ab}
theorem aa.sliceBox (ho:o.op=.slice t x none none none)(hx:bf env x=some (.ptr id 0))(hT:p9 P t=some (n,1,ag))
  (hH:br H id=some (.box cs)) (hl:dq cs=some n) (hn:ble n 1000=true):aa P o env H (Is (.vec 1 id 0 0 n) H):=
 aa.val fun a w μ I hst he=>by
  have hr:=he.ev (x:=x) (by simp[ho,Op.operands]) hx;generalize hv:a.eval x=v at hr;obtain⟨e,hu,hvar⟩:=tL hT;have hsz:=(dk (P:=P) (w:=w) hvar).2.1;have hn':=Nat.le_of_ble_eq_true hn;have hlen:=cd hl
  cases hr with
  | @ptr _ _ b hid=>
   rw[bj]at hH;have hb:=hst.objs id _ _ hH hid
   cases hb with
   |@box _ _ vs e' hb hvl ho1 hcs=>
    refine⟨.slice (some ⟨b,0,none⟩) n n,?_,?_⟩
    ·simp only[execOp,ho,hv,map_none,Instr.sliceAt];simp[run_underlying hu,Instr.sureAddr,Instr.sliceBounds,hsz,Addr.add]
    ·refine .vec hid Z (zero_le _) fun _=>.inr ⟨b,n,rfl,rfl,le_refl _,by unfold maxLen;omega,vs,e',hb,zero_le _,by rw[hvl,hlen];omega⟩
theorem Conv.boxSlice (hH:br H id=some (.box cs))(hx:ow xs=some cs)(hn:n=xs.length)(he:sv xs=true):Conv true H (.vec 1 id 0 0 n) (.slice 1 xs):=by
 intro μ I w v hs h;obtain rfl:=jc hx;have h1s:=mr he
 have hc1:∀x∈xs,x.cells=[x]:=fun x hx=>by
  have:=h1s x hx
  cases x with
  |agg cs=>exact this.elim
  |int k n=>rfl
  |bool b=>rfl
  |slice m zs=>rfl
 have hm:b9 1 xs:=fun x hx=>by
  rw[hc1 x hx];exact⟨rfl,fun c hc=>by rw[mem_singleton]at hc;subst hc;exact h1s _ hx⟩
 cases h with
 | @vec _ _ _ _ _ B _ hid h1 hnB hf=>
  rw[bj]at hH;have hb:=hs.objs id _ _ hH hid
  cases hb with
  | @box _ b vs e' hb hvl ho1 hcs=>
   rcases hf rfl with⟨rfl,⟨a,rfl⟩,-⟩|⟨b',cap,hB,rfl,hlc,hmax,c',e'',hb',hsz⟩
   ·have:xs=[]:=List.length_eq_zero_iff.1 hn.symm;subst this;exact .slice (fun _=>undef) Z (le_refl _) (zero_le _) .nil (fun i c h=>by simp[flat]at h) (fun i c h=>by simp[flat]at h)
   ·cases hB;subst hn
    have hfl:∀(i:Nat) c,(flat xs)[i]?=some c->xs[i]?=some c:=by
     intro i c hi
     have hone:∀(l:List PV),(∀x∈l,x.cells=[x])->flat l=l:=by
      intro l
      induction l with
      |nil=>intro _;rfl
      |cons y r ih=>
       intro hl;rw[dm,ih fun x hx=>hl x (.tail _ hx),hl y (.head _)];rfl
     rw[hone xs hc1]at hi;exact hi
    have hcell:∀(i:Nat) c,xs[i]?=some c->∃u,vs[i]?=some u:=by
     intro i c hi;have h1:=(List.getElem?_eq_some_iff.1 hi).1;rw[length_map]at hvl;exact⟨_,Array.getElem?_eq_getElem (by omega)⟩
    refine .slice (fun i=>vs.getD i undef) Z hlc hmax hm (fun i c hi=>?_)<|fun i c hi=>?_
    ·obtain⟨u,hu⟩:=hcell _ c (hfl i c hi);refine⟨b,1*0,rfl,.inr ⟨rfl,⟨_,mem_of_getElem? hid⟩⟩,?_⟩;simp[World.cell?,hb,hu]
    ·obtain⟨u,hu⟩:=hcell _ c (hfl i c hi);have:=hcs i (.p c) u (by simp[hfl i c hi]) hu;simp only[Array.getD_eq_getD_getElem?,hu,getD_some]
     cases this with
     |p h=>exact h.mono fun c hc=>⟨.inl hc,rfl⟩
end
theorem dN.cut {μ:List ci}{I:Nat->Prop}{w:World}{j:Nat}{o:ab}{B:ci}(h:dN μ I w o B)(hj:j<=μ.length)(hlo:o.Low j):dN (μ.take j) I w o B:=by
 cases h with
 |box h1 h2 h3 h4=>exact .box h1 h2 h3 fun i c v hc hv=>(h4 i c v hc hv).cut hj (hlo c (mem_of_getElem? hc))
 |vecE=>exact .vecE
 |vec h1 h2 h3 h4 h5=>exact .vec h1 h2 h3 h4 h5
 |map h1 h2 h3 h4 h5=>exact .map h1 h2 (fun i c e hc he=>⟨(h3 i c e hc he).1,(h3 i c e hc he).2.cut hj (hlo c (mem_of_getElem? hc))⟩) h4 h5
 |dead=>exact .dead
 |slot=>exact .slot
 |loop h1 hs hp hps hA hB hn he=>exact .loop h1 hs hp hps hA hB hn fun t x ht=>let ⟨v,h2,h3⟩:=he t x ht;⟨v,h2,h3.cut hj (hlo t x ht)⟩
 |defd h1=>exact .defd h1
 |iter h1 hx=>exact .iter h1 (hx.cut hj hlo)
theorem Jv (hs:St μ I w H)(hH:H[id]?=some (.vec m xs))(hn:n=xs.length)(h:aH μ I w (.vec m id n 0 n) v) :
  fA (fun c=>I c\/∃q,μ[id]?=some ⟨some c,q⟩) w (.slice m xs) v:=by
 cases h with
 | @vec _ _ _ _ _ B _ hid h1 hnB hf=>
  have ho:=hs.objs id _ _ hH hid
  have hBn:n=B.n:=by cases ho <;>simp_all
  rcases hf hBn with⟨h0,⟨a,rfl⟩,-⟩|⟨b,cap,hB,rfl,hlc,hmax,c',e',hsz⟩
  ·obtain rfl:xs=[]:=List.length_eq_zero_iff.1 (by omega);subst h0;exact .slice (fun _=>undef) Z (le_refl _) (zero_le _) .nil (fun i c h=>by simp[flat]at h) (fun i c h=>by simp[flat]at h)
  ·cases ho with
   |vecE=>cases hB
   | @vec _ _ b' vs e hb hl' hne hm hr=>
    cases hB
    have hcell:∀(i:Nat) c,(flat xs)[i]?=some c->∃u,vs[i]?=some u:=by
     intro i c hi;have h1:=(List.getElem?_eq_some_iff.1 hi).1;rw[cF hm]at h1;exact⟨_,Array.getElem?_eq_getElem (by omega)⟩
    refine .slice (fun i=>vs.getD i undef) hn hlc hmax hm (fun i c hi=>?_)<|fun i c hi=>?_
    ·obtain⟨u,hu⟩:=hcell _ c hi;refine⟨b,m*0,rfl,.inr ⟨_,hid⟩,?_⟩;simp[World.cell?,hb,hu]
    ·obtain⟨u,hu⟩:=hcell _ c hi;have:=hr _ c u hi hu;simp only[Array.getD_eq_getD_getElem?,hu,getD_some];exact this.mono fun c hc=>⟨.inl hc,rfl⟩
theorem bY.frz {env:aE}{t m id n:Nat}(ht:env.get t=some (.vec m id n 0 n))(hid:dq H0=some id)(hH:jF H0 (.vec m xs)=some H)(hn:n=xs.length)(hk:ble k id=true)
    (hs:sE env' env) (hl:pp id env'=true) (ho:fD id H0=true):bY k env H ((t,.p (.slice m xs))::env') H0:=by
  intro n' μ I w a h hkm;obtain rfl:=cd hid;obtain rfl:=dC hH;have hlen:=h.st.len;rw[length_append,length_singleton]at hlen;have hkid:=Nat.le_of_ble_eq_true hk
  have hj:H0.length<=μ.length:=by omega
  have hlast:(H0++[ab.vec m xs])[H0.length]?=some (.vec m xs):=by simp
  let I':Nat->Prop:=fun c=>I c\/∃q,μ[H0.length]?=some ⟨some c,q⟩
  have hE:cI μ.length μ I w μ I' w:=
    ⟨fun i B _ hb=>⟨B,hb,le_refl _,fun _=>.inl rfl,fun _ _=>rfl⟩,le_refl _,le_refl _,rfl,rfl,rfl,le_refl _,fun _ h=>⟨.inl h,rfl⟩,fun _ c _ _ h=>⟨c,h,rfl⟩,
      fun b hb=>hb.imp id fun⟨q,hq⟩=>.inl (gC.mk hq),fun _ h=>.inl h,fun _ _ _=>rfl⟩
  have hlow:=fE ho;have htk:(H0++[ab.vec m xs]).take H0.length=H0:=take_left' rfl;have hst0:=h.st.cut (j:=H0.length) (by simp) (by rw[htk];exact hlow);rw[htk]at hst0
  have hst:St (μ.take H0.length) I' w H0:=
    { len:=hst0.len
      inj:=hst0.inj
      lt:=hst0.lt
      off:=fun b hb hc=>by
        rcases hc with hc|⟨q,hq⟩
        · exact hst0.off b hb hc
        · obtain⟨i,q',hi⟩:=gC.get hb;have hil:=(List.getElem?_eq_some_iff.1 hi).1;rw[length_take]at hil;rw[getElem?_take_of_lt (by omega)]at hi;have:=h.st.inj i _ b q' q hi hq;omega
      ilt:=fun b hc=>by
        rcases hc with hc|⟨q,hq⟩
        · exact hst0.ilt b hc
        · exact h.st.lt b<|gC.mk hq
      objs:=fun i o B hio hiB=>by
        have hi:=(List.getElem?_eq_some_iff.1 hio).1;rw[getElem?_take_of_lt hi]at hiB;have:=h.st.objs i o B (by rw[getElem?_append_left hi];exact hio) hiB
        exact(this.ext hE fun _ _=>rfl).cut hj (hlow o (mem_of_getElem? hio))}
  refine⟨μ.take H0.length,I',⟨h.size,h.defers,hst,fun t' x hx=>?_⟩,?_⟩
  · rw[aE.get_cons]at hx;split at hx
    · cases hx;rename_i e;subst e;obtain⟨v,hv,hr⟩:=h.env t _ ht;exact⟨v,hv,.p (Jv h.st hlast hn hr)⟩
    · obtain⟨v,hv,hr⟩:=h.env t' x (hs.get t' x hx);exact⟨v,hv,(hr.ext hE).cut hj (nr hl t' x hx)⟩
  · refine⟨fun i B hi hb=>⟨B,by rw[getElem?_take_of_lt (by omega)];exact hb,le_refl _,fun _=>.inl rfl,fun _ _=>rfl⟩,hkm,by rw[length_take];omega,rfl,rfl,rfl,le_refl _,hE.imm,hE.shape,hE.inew,fun _ ⟨n,h⟩=>.inl ⟨n,List.mem_of_mem_take h⟩,fun _ _ _=>rfl⟩
section
variable {P : Program} {o : Oper} {env : aE} {H : List ab}
theorem pG.all {H H':List ab}(h:pG F H H')(hF:∀i,i<H.length->i∈F):H'=H:=by
 apply ext_getElem?;intro i;by_cases hi:i<H.length
 ·exact h.at_ i<|hF i hi
 ·rw[getElem?_eq_none (by rw[h.len];omega),getElem?_eq_none (by omega)]
def HD :Nat->List Nat
 |0=>[]
 |n+1=>n::HD n
theorem uM {i:Nat}:∀{n:Nat},i<n->i∈HD n
 |n+1,h=>by
  unfold HD;by_cases e:i=n
  ·subst e;exact .head _
  ·exact .tail _<|uM (by omega)
theorem cj.all {s:Option (Nat×ab)}{x:LV}{H1:List ab}{m:Nat}{F:List Nat}(h:aa P o env H (Is x H1))(hm:dq H=some m)(hF:F=HD m)(hH:uU H s=some H1):cj P o env H F s x:=by
 intro H' ha;obtain rfl:=cd hm;obtain rfl:=ha.all (by subst hF;exact fun i hi=>uM hi);rw[nD hH];exact h
end
section
variable {α β : Type} [DecidableEq α]
def vT :List (α×β)->α->Nat
 |[],_=>0
 |(a,_)::r,k=>if a=k then 0 else vT r k+1
def wH (m:List (α×β)):Bool:=decide (m.length<=1000000)
theorem t7 {f:α->PV}{g:β->LV}{n:Nat}{ag:Bool}(hk:gH f n ag):∀{m:List (α×β)} {k:α} {v:β} (u:β),am m k=some v->
  mE (f k) (ar f g m) (some (vT m k))/\(ar f g m)[vT m k]?=some (f k,g v)/\ar f g (bP m k u)=(ar f g m).set (vT m k) (f k,g u)
 |[],k,v,u,h=>by cases h
 | (b,c)::r,k,v,u,h=>by
  unfold am at h;split at h
  ·rename_i e;subst e;cases h;unfold vT;rw[i1_ rfl];exact⟨.hit Z (by rw[hk.eq];simp) (fun j _ hj=>by omega),by simp[ar],by simp[bP,ar]⟩
  ·rename_i hne;obtain⟨h1,h3,h2⟩:=t7 (g:=g) hk u h;unfold vT;rw[i0_ hne];refine⟨?_,by simpa [ar]using h3,by simp only[bP,i0_ hne,ar,map_cons,List.set_cons_succ]at h2⊢;rw[h2]⟩
   cases h1 with
   |hit hi he hlt=>
    refine .hit (e:=_) (by simpa [ar]using hi) he fun j e hj hje=>?_
    cases j with
    |zero=>simp[ar]at hje;subst hje;rw[hk.eq];simp[Ne.symm hne]
    |succ j=>exact hlt j e (by omega) (by simpa [ar]using hje)
theorem Bg {m:List (α×β)}{k:α}{v:β}:am (bP m k v) k=some v:=by
 induction m with
 |nil=>simp[bP,am]
 |cons p r ih=>
  obtain⟨a,b⟩:=p;unfold bP;by_cases h:a=k
  ·rw[i1_ h];simp[am]
  ·rw[i0_ h];simp only[am,i0_ h];exact ih
theorem BH {m:List (α×β)}{k:α}{u v:β}:bP (bP m k u) k v=bP m k v:=by
 induction m with
 |nil=>simp[bP]
 |cons p r ih=>
  obtain⟨a,b⟩:=p;by_cases h:a=k
  ·simp[bP,h]
  ·simp[bP,h,ih]
theorem C1 {m:List (α×β)}{k:α}(h:am m k=none):vT m k=m.length:=by
 induction m with
 |nil=>rfl
 |cons p r ih=>
  obtain⟨b,u⟩:=p;unfold am at h;unfold vT;split at h
  ·cases h
  ·rename_i hne;rw[i0_ hne,ih h];rfl
theorem Je {m:List (α×β)}{k:α}{v:β}:vT (bP m k v) k=vT m k:=by
 induction m with
 |nil=>simp[bP,vT]
 |cons p r ih=>
  obtain⟨a,b⟩:=p;by_cases h:a=k
  ·simp[bP,vT,h]
  ·simp[bP,vT,h,ih]
variable {P : Program} {o : Oper} {env : aE} {H : List ab}
variable {t ek ev : TypeId} {x y : Operand} {id n : Nat} {ag : Bool} {f : α -> PV} {g : β -> LV} {m : List (α × β)}
theorem aa.mapEntryX {z r:LV}(a:α)(z0:β)(hk:gH f n ag)(ho:o.op=.mapEntry t x y)(hx:bf env x=some (.map id))(hy:bf env y=some (.p (f a)))
  (hH:br H id=some (.map (ar f g m))) (hT:eM P t=some (ek,ev,n,ag)) (hz:mK P ev=some z) (hz':z=g z0) (hf:wH m=true) (hr:r=.tup [g ((am m a).getD z0),.p (.int .i64 (vT m a:Int))])
  (hH':bK H id (.map (ar f g (bP m a ((am m a).getD z0))))=some H'):aa P o env H (Is r H'):=
 aa.step fun A w μ I hst he=>by
  have hrx:=he.ev (x:=x) (by simp[ho,Op.operands]) hx;have hry:=he.ev (x:=y) (by simp[ho,Op.operands]) hy;obtain⟨e1,e2⟩:=bH hH';subst e1 hr hz';have hfew:=of_decide_eq_true hf
  cases hry with
  | p hry=>
   obtain⟨b,ms,clock,hv,hid,hb,hl,hrep,hclock,hborn⟩:=f9 hst hrx hH;have hu:=(eh hT).1;have hfits:=hk.fits a;have h1:=dz hT hfits hry false w;have hbl:=(Array.getElem?_eq_some_iff.1 hb).1
   have hlm:ms.size=m.length:=by rw[hl];simp[ar]
   cases hfe:am m a with
   | none=>
    have h2:=fw hT hfits hry (pg (g:=g) hk hfe) (ms:=ms.toList) (by simpa using hl) (fun i c q hc hm=>(hrep i c q hc (by simpa using hm)).1) w;obtain⟨zv,hzr,hzl⟩:=rX hz w
    have hrun:(Instr.mapEntry t (.map (some b)) (A.eval y)).run P w =
      .ok (.tuple #[zv,goInt clock]) { w with heap:=w.heap.setIfInBounds b (.map (ms.push { key:=A.eval y,val:=zv,born:=clock}) (clock+1))}:=by
     unfold Instr.mapEntry;simp only[Sem.run_bind,run_underlying hu,Result.andThen_ok,en hb,h1,h2,Option.bind_none,hzr,jX hb,Sem.run_pure]
    rw[Aw hfe,getD_none]
    have eL:ar f g (m++[(a,z0)])=ar f g m++[(f a,g z0)]:=by simp[ar]
    rw[eL]
    obtain⟨hs',hE⟩:=hst.write (o:=.map (ar f g m++[(f a,g z0)])) hid (w':={ w with heap:=w.heap.setIfInBounds b (.map (ms.push { key:=A.eval y,val:=zv,born:=clock}) (clock+1))})
     (fun c hc=>Array.getElem?_setIfInBounds_ne (fun h=>hc h.symm)) (by simp) rfl rfl rfl (fun c e f h=>by rw[hb]at h;cases h)
     (fun hE=>by
      refine .map (ms:=ms.push { key:=A.eval y,val:=zv,born:=clock}) (clock:=clock+1) (by simp[hbl]) (by simp[hl]) (fun i c q hc hm=>?_) (by simp[hclock])<|fun i q hm=>?_
      ·rw[getElem?_append]at hc;rw[Array.getElem?_push]at hm;split at hc
       ·rename_i hi;rw[i0_ (by omega)]at hm;exact⟨(hrep i c q hc hm).1.mono hE.imm,(hrep i c q hc hm).2.ext hE⟩
       ·rename_i hi;have h5:=(List.getElem?_eq_some_iff.1 hc).1;simp at h5;rw[i1_ (by omega)]at hm;cases hm;rw[show i-(ar f g m).length=0 by omega]at hc;simp at hc;subst hc;exact⟨hry.mono hE.imm,hzl _ _ _⟩
      ·rw[Array.getElem?_push]at hm;split at hm
       ·rename_i hi;cases hm;subst hi;exact hclock
       ·exact hborn i q hm)
    refine⟨.tuple #[zv,goInt clock],_,μ,by simp only[execOp,ho,hv];simp[hrun],hs',qz (hzl _ _ _) ?_,hE⟩
    have hce:clock=vT m a:=by rw[C1 hfe,hclock,hlm]
    rw[hce];refine .p<|.int ?_;rw[C1 hfe];constructor
    ·show(-9223372036854775808:Int)<=_;omega
    ·show(_:Int)<=9223372036854775807;omega
   | some v=>
    obtain⟨g1,g2,g3⟩:=t7 (g:=g) hk v hfe;have h2:=fw hT hfits hry g1 (ms:=ms.toList) (by simpa using hl) (fun i c q hc hm=>(hrep i c q hc (by simpa using hm)).1) w;generalize hi:vT m a=i at *
    have hil:i<ms.size:=by
     have:=(List.getElem?_eq_some_iff.1 g2).1;omega
    have hmi:ms[i]?=some ms[i]:=Array.getElem?_eq_getElem hil
    have h3:(Instr.findKey ek (A.eval y) ms.toList).run P w=.ok (some (i,ms[i].val)) w:=by
     rw[h2];simp[hmi]
    have hke:jP (f a) (f a)=some true:=by rw[hk.eq];simp
    obtain⟨hsk,hsb⟩:=(jQ hT hfits hke hry (hrep i _ ms[i] g2 hmi).1 w).2.2 rfl
    have hsame':Instr.sameBits 10000 ms[i].key (A.eval y)=true:=by rw[<-hsk];exact hsb
    have hbi:ms[i].born=i:=hborn i _ hmi
    have hrun:(Instr.mapEntry t (.map (some b)) (A.eval y)).run P w =
      .ok (.tuple #[ms[i].val,goInt i]) { w with heap:=w.heap.setIfInBounds b (.map (ms.modify i fun q=>{ q with key:=A.eval y}) clock)}:=by
     unfold Instr.mapEntry;simp only[Sem.run_bind,run_underlying hu,Result.andThen_ok,en hb,h1,h3,Instr.keyThatStays,hmi,map_some,getD_some,hsame',if_true,Sem.run_pure,jX hb,hbi]
    rw[getD_some,g3]
    obtain⟨hs',hE⟩:=hst.write (o:=.map ((ar f g m).set i (f a,g v))) hid (w':={ w with heap:=w.heap.setIfInBounds b (.map (ms.modify i fun q=>{ q with key:=A.eval y}) clock)})
     (fun c hc=>Array.getElem?_setIfInBounds_ne (fun h=>hc h.symm)) (by simp) rfl rfl rfl (fun c e f h=>by rw[hb]at h;cases h)
     (fun hE=>by
      refine .map (ms:=ms.modify i fun q=>{ q with key:=A.eval y}) (clock:=clock) (by simp[hbl]) (by simp[hl]) (fun j c q hc hm=>?_) (by simp[hclock])<|fun j q hm=>?_
      ·rw[getElem?_set]at hc;rw[Array.getElem?_modify]at hm;split at hc
       ·rename_i e;subst e;rw[i1_ rfl,hmi]at hm;rw[i1_ (by omega)]at hc;cases hc;cases hm;exact⟨hry.mono hE.imm,(hrep _ _ _ g2 hmi).2.ext hE⟩
       ·rename_i hne;rw[i0_ (fun h=>hne h)]at hm;exact⟨(hrep j c q hc hm).1.mono hE.imm,(hrep j c q hc hm).2.ext hE⟩
      ·rw[Array.getElem?_modify]at hm;split at hm
       ·rename_i e;subst e;rw[hmi]at hm;cases hm;exact hborn i ms[i] hmi
       ·exact hborn j q hm)
    refine⟨.tuple #[ms[i].val,goInt i],_,μ,by simp only[execOp,ho,hv];simp[hrun],hs',qz ((hrep _ _ _ g2 hmi).2.ext hE) ?_,hE⟩;refine .p<|.int ?_;constructor
    ·show(-9223372036854775808:Int)<=_;omega
    ·show(_:Int)<=9223372036854775807;omega
theorem aa.entryStoreX {s q:Operand}{l:LV}(a:α)(u v:β)(hk:gH f n ag)(ho:o.op=.entryStore t x s q)(hx:bf env x=some (.map id))(hs:bf env s=some (.p (.int .i64 (vT m a:Int))))(hq:bf env q=some l)(hl:l=g v)
  (hH:br H id=some (.map (ar f g (bP m a u)))) (hH':bK H id (.map (ar f g (bP m a v)))=some H'):aa P o env H (Is .any H'):=
 aa.unit fun A w μ I hst he=>by
  have hrx:=he.ev (x:=x) (by simp[ho,Op.operands]) hx;have hrs:=(bE (he.ev (x:=s) (by simp[ho,Op.operands]) hs)).1;have hrq:=he.ev (x:=q) (by simp[ho,Op.operands]) hq;obtain⟨e1,e2⟩:=bH hH';subst e1 hl;obtain⟨b,ms,clock,hv,hid,hb,hl,hrep,hclock,hborn⟩:=f9 hst hrx hH;have hbl:=(Array.getElem?_eq_some_iff.1 hb).1;obtain⟨g1,g2,g3⟩:=t7 (g:=g) hk v (Bg (m:=m) (k:=a) (v:=u));rw[BH]at g3;rw[Je]at g1 g2 g3;generalize hi:vT m a=i at *
  have hil:i<ms.size:=by
   have:=(List.getElem?_eq_some_iff.1 g2).1;omega
  have hmi:ms[i]?=some ms[i]:=Array.getElem?_eq_getElem hil
  have hfi:ms.findIdx? (fun e=>(e.born:Int)==(i:Int))=some i:=by
   rw[Array.findIdx?_eq_some_iff_getElem];refine⟨hil,by simp[hborn i _ hmi],fun j hj=>?_⟩;have:=hborn j _ (Array.getElem?_eq_getElem (show j<ms.size by omega));simp[this];omega
  have hrun:(Instr.entryStore t (.map (some b)) (A.eval s) (A.eval q)).run P w=.ok () { w with heap:=w.heap.setIfInBounds b (.map (ms.modify i fun e=>{ e with val:=A.eval q}) clock)}:=by
   unfold Instr.entryStore;simp only[hrs,Sem.run_bind,en hb,Result.andThen_ok,asInt,asIntOf,Sem.run_pure,hfi,jX hb]
  rw[g3]
  obtain⟨hs',hE⟩:=hst.write (o:=.map ((ar f g (bP m a u)).set i (f a,g v))) hid (w':={ w with heap:=w.heap.setIfInBounds b (.map (ms.modify i fun e=>{ e with val:=A.eval q}) clock)})
   (fun c hc=>Array.getElem?_setIfInBounds_ne (fun h=>hc h.symm)) (by simp) rfl rfl rfl (fun c e f h=>by rw[hb]at h;cases h)
   (fun hE=>by
    refine .map (ms:=ms.modify i fun e=>{ e with val:=A.eval q}) (clock:=clock) (by simp[hbl]) (by simp[hl]) (fun j c q' hc hm=>?_) (by simp[hclock])<|fun j q' hm=>?_
    ·rw[getElem?_set]at hc;rw[Array.getElem?_modify]at hm;split at hc
     ·rename_i e;subst e;rw[i1_ rfl,hmi]at hm;rw[i1_ (by omega)]at hc;cases hc;cases hm;exact⟨(hrep _ _ _ g2 hmi).1.mono hE.imm,hrq.ext hE⟩
     ·rename_i hne;rw[i0_ (fun h=>hne h)]at hm;exact⟨(hrep j c q' hc hm).1.mono hE.imm,(hrep j c q' hc hm).2.ext hE⟩
    ·rw[Array.getElem?_modify]at hm;split at hm
     ·rename_i e;subst e;rw[hmi]at hm;cases hm;exact hborn i ms[i] hmi
     ·exact hborn j q' hm)
  exact⟨_,μ,by simp only[execOp,ho,hv];simp[hrun],hs',hE⟩
theorem cj.setX {z:Operand}{l:LV}(a:α)(v:β)(hk:gH f n ag)(ho:o.op=.mapUpdate t x y z\/o.op=.insert t x y z)(hx:bf env x=some (.map id))(hy:bf env y=some (.p (f a)))
  (hz:bf env z=some l) (hl:l=g v) (hH:br H id=some (.map (ar f g m))) (hT:eM P t=some (ek,ev,n,ag)):cj P o env H [id] (some (id,.map (ar f g (bP m a v)))) .any:=
 fun _ hA=>aa.setX a v hk ho hx hy hz hl (hA.get (by simp) hH) hT (hA.set (by simp) hH)
theorem cj.mapEntryX {z:LV}(a:α)(z0:β)(hk:gH f n ag)(ho:o.op=.mapEntry t x y)(hx:bf env x=some (.map id))(hy:bf env y=some (.p (f a)))
  (hH:br H id=some (.map (ar f g m))) (hT:eM P t=some (ek,ev,n,ag)) (hz:mK P ev=some z) (hz':z=g z0) (hf:wH m=true) :
  cj P o env H [id] (some (id,.map (ar f g (bP m a ((am m a).getD z0))))) (.tup [g ((am m a).getD z0),.p (.int .i64 (vT m a:Int))]):=
 fun _ hA=>aa.mapEntryX a z0 hk ho hx hy (hA.get (by simp) hH) hT hz hz' hf rfl (hA.set (by simp) hH)
theorem cj.entryStoreX {s q:Operand}{l:LV}(a:α)(u v:β)(hk:gH f n ag)(ho:o.op=.entryStore t x s q)(hx:bf env x=some (.map id))(hs:bf env s=some (.p (.int .i64 (vT m a:Int))))(hq:bf env q=some l)(hl:l=g v)
  (hH:br H id=some (.map (ar f g (bP m a u)))):cj P o env H [id] (some (id,.map (ar f g (bP m a v)))) .any:=
 fun _ hA=>aa.entryStoreX a u v hk ho hx hs hq hl (hA.get (by simp) hH) (hA.set (by simp) hH)
end
def CZ (P:Program)(t:TypeId):Bool:=match P.underlying t with|some (.map _ _)=>true|_=>false
section
variable {α β : Type}
variable {P : Program} {o : Oper} {env : aE} {H : List ab}
variable {id : Nat} {f : α -> PV} {g : β -> LV} {m : List (α × β)}
theorem aa.lenMapX (ho:o.op=.call { callee:=.builtin .len,args:=#[x],argTypes:=#[t]})(hx:bf env x=some (.map id))(hH:br H id=some (.map (ar f g m)))(hT:CZ P t=true)(hf:wH m=true) :
  aa P o env H (Is (.p (.int .i64 (m.length:Int))) H):=
 aa.val fun A w μ I hst he=>by
  have hrx:=he.ev (x:=x) (by simp[ho,Op.operands,Call.operands]) hx;obtain⟨b,ms,clock,hv,hid,hb,hl,hrep,hclock,hborn⟩:=f9 hst hrx hH;have hfew:=of_decide_eq_true hf
  have hlm:ms.size=m.length:=by rw[hl];simp[ar]
  refine⟨.int .i64 (m.length:Int),?_,.p (.int ?_)⟩
  ·unfold CZ at hT;split at hT
   ·rename_i k e hu
    have hrun:(Builtin.len_ #[t] o.type #[.map (some b)]).run P w=.ok (goInt ms.size) w:=by simp[Builtin.len_,run_underlying hu,en hb]
    rw[hlm]at hrun;simp only[execOp,ho,resolve,invoke,builtin,Sem.run_bind,Sem.run_pure,Result.andThen_ok,map_toArray,map_cons,map_nil,hv,hrun];rfl
   ·cases hT
  ·constructor
   ·show(-9223372036854775808:Int)<=_;omega
   ·show(_:Int)<=9223372036854775807;omega
end
theorem r7 (hs:St μ I w H){m id b n off:Nat}{xs xs':List PV}{vs:Array Value}{e:TypeId}{news:List Value}(hid:μ[id]?=some ⟨some b,n⟩)(hH:H[id]?=some (.vec m xs))
  (hb:w.heap[b]?=some (.cells vs e (0,0))) (hlen:m*xs.length<=vs.size) (hne:xs≠[]) (hl:xs'.length=xs.length) (hm:b9 m xs')
  (hrep:∀(i:Nat) (c:PV) (v:Value),(flat xs)[i]?=some c->vs[i]?=some v->fA I w c v) (hfit:off+news.length<=vs.size)
  (hold:∀(i:Nat) c,(flat xs')[i]?=some c->(i<off\/off+news.length<=i)->(flat xs)[i]?=some c) (hnew:∀(i:Nat) c u,(flat xs')[off+i]?=some c->news[i]?=some u->fA I w c u) :
  St μ I (w.setRow b (vs.toList.take off++news++vs.toList.drop (off+news.length)).toArray) (H.set id (.vec m xs'))/\cI μ.length μ I w μ I (w.setRow b (vs.toList.take off++news++vs.toList.drop (off+news.length)).toArray):=by
 obtain⟨nv,hnv⟩:∃nv,nv=(vs.toList.take off++news++vs.toList.drop (off+news.length)).toArray:=⟨_,rfl⟩;rw[<-hnv]
 have hsz:nv.size=vs.size:=by rw[hnv];simp;omega
 have hBn:n=xs.length:=by have:=hs.objs id _ _ hH hid;exact w6 this
 refine hs.write (o:=.vec m xs') hid (w':=w.setRow b nv) (fun c hc=>setRow_other w b c _ hc) (by simp[World.setRow]) Z Z Z
  (fun c e' f' hc=>by
   rw[hb]at hc;cases hc
   exact⟨_,setRow_heap w b vs nv e (0,0) hb,hsz⟩)
  (fun hE=>by
   rw[hBn,<-hl];refine .vec (setRow_heap w b vs nv e (0,0) hb) (by rw[hsz,hl];exact hlen) (fun e0=>hne (by rw[e0]at hl;exact List.length_eq_zero_iff.1 hl.symm)) hm<|fun i c u hc hu=>?_
   have hu':(vs.toList.take off++news++vs.toList.drop (off+news.length))[i]?=some u:=by
    rw[hnv]at hu;simpa using hu
   by_cases h1:i<off
   ·rw[append_assoc,getElem?_append_left (by simp;omega),getElem?_take_of_lt h1]at hu';exact(hrep i c u (hold i c hc (.inl h1)) (by simpa using hu')).mono hE.imm
   ·by_cases h2:i<off+news.length
    ·rw[append_assoc,getElem?_append_right (by simp;omega),getElem?_append_left (by simp;omega)]at hu'
     have hto:(List.take off vs.toList).length=off:=by simp;omega
     rw[hto]at hu';exact(hnew (i-off) c u (by rw[show off+(i-off)=i by omega];exact hc) hu').mono hE.imm
    ·rw[getElem?_append_right (by simp;omega)]at hu'
     have hto:(List.take off vs.toList++news).length=off+news.length:=by simp;omega
     rw[hto,getElem?_drop,show off+news.length+(i-(off+news.length))=i by omega]at hu'
     exact(hrep i c u (hold i c hc (.inr (by omega))) (by simpa using hu')).mono hE.imm)
theorem yY {m:Nat}:∀{xs:List PV} {j:Nat} {y:PV},b9 m xs->y.cells.length=m->∀i,(flat (xs.set j y))[i]?=if m*j<=i/\i<m*j+m/\j<xs.length then y.cells[i-m*j]? else(flat xs)[i]?
 |[],j,y,_,_,i=>by simp[flat]
 |x::r,0,y,hx,hy,i=>by
  have h0:=(hx x (.head _)).1;simp only[List.set_cons_zero,dm,mul_zero,zero_add,Nat.sub_zero];rw[getElem?_append,getElem?_append,hy,h0];by_cases h:i<m
  ·rw[i1_ h,i1_ ⟨zero_le _,h,by simp⟩]
  ·rw[i0_ h,i0_ (fun q=>h q.2.1),i0_ h]
 | x::r,j+1,y,hx,hy,i=>by
  have h0:=(hx x (.head _)).1;have ih:=yY (xs:=r) (j:=j) hx.tail hy (i-m);simp only[List.set_cons_succ,dm];rw[getElem?_append,getElem?_append,h0,ih,Nat.mul_succ];by_cases h:i<m
  ·rw[i1_ h,i0_ (by omega),i1_ h]
  ·rw[i0_ h,i0_ h];by_cases h2:m*j<=i-m/\i-m<m*j+m/\j<r.length
   ·rw[i1_ h2,i1_ (by simp only[length_cons];omega),show i-m-m*j=i-(m*j+m) by omega]
   ·rw[i0_ h2,i0_ (by simp only[length_cons];omega)]
section
variable {P : Program} {o : Oper} {env : aE} {H : List ab} {α : Type} {f : α -> PV}
theorem iz {l:List α}{j:Int}{z:α}(h:ix (l.take k) j=some z):ix l j=some z/\j<k:=by
 obtain⟨h0,h1⟩:=jN h;have hlt:=(List.getElem?_eq_some_iff.1 h1).1;rw[length_take]at hlt;refine⟨?_,by omega⟩;unfold ix;rw[i1_ h0]
 rwa [getElem?_take_of_lt (by omega)]at h1
theorem aa.lenVP {l:List α}(ho:o.op=.call { callee:=.builtin .len,args:=#[x],argTypes:=#[t]})(hx:bf env x=some (.vec m id (l.map f).length off k))
  (hH:br H id=some (.vec m (l.map f))) (hT:wR P t=true):aa P o env H (Is (.p (.int .i64 (k:Int))) H):=aa.lenV (H:=H) ho hx hH rfl hT
theorem aa.indexAddrVP {m bytes id k':Nat}{l:List α}{k:IntKind}{j:Int}{z:α}(ho:o.op=.indexAddr t x y)(hx:bf env x=some (.vec m id (l.map f).length 0 k'))
  (hy:bf env y=some (.p (.int k j))) (hH:br H id=some (.vec m (l.map f))) (hT:dn P t=some (m,bytes)) (h:ix (l.take k') j=some z) :
  aa P o env H (Is (.vptr m id (l.map f).length (0+j.toNat) 0) H):=
 aa.indexAddrV ho hx hy hH rfl hT (jN h).1 (iz h).2
theorem aa.storeVP {m id fo n:Nat}{j:Int}{l:List α}{z:α}{p:PV}{ps qs ys:List PV}(v':α)(ho:o.op=.store t x y)(hx:bf env x=some (.vptr m id (l.map f).length (0+j.toNat) fo))(hy:bf env y=some (.p p))
  (hH:br H id=some (.vec m (l.map f))) (hT:bl P t=some (n,ag)) (hE:∀a,kJ m [f a]=true) (hz:ix l j=some z) (hys:eR p=some ys) (h1:sv ys=true) (hn:dq ys=some n) (hps:eR (f z)=some ps) (hsp:uD ps fo ys=some qs)
  (hv':eR (f v')=some qs) (hH':bK H id (.vec m ((l.set j.toNat v').map f))=some H'):aa P o env H (Is .any H'):=
 aa.unit fun a w μ I hst he=>by
  have hr:=he.ev (x:=x) (by simp[ho,Op.operands]) hx;have hry:=he.ev (x:=y) (by simp[ho,Op.operands]) hy;rw[bj]at hH;obtain⟨e3,e4⟩:=bH hH';subst e3;obtain⟨hj0,hjl⟩:=jN hz;have hj:=(List.getElem?_eq_some_iff.1 hjl).1;have hE':∀a,(f a).cells.length=m/\∀c∈(f a).cells,c.one:=fun a=>fk (hE a) _ (.head _);have hEl:∀l':List α,b9 m (l'.map f):=fun l'=>b9.map hE' l';have hps':=gx hps;have hqs':=gx hv';have hys':=gx hys;obtain⟨hq1,hq2⟩:=s6 hsp;have hn':=cd hn;have hzl:=(hE' z).1;rw[<-hps']at hzl
  have hcy:(a.eval y).cells.toList.length=n/\(∀u∈(a.eval y).cells,eT u=true)/\∀(i:Nat) c u,ys[i]?=some c->(a.eval y).cells[i]?=some u->fA I w c u:=by
   cases hry with
   | p hry=>
    have hc1:iX (.p p)=ow ys:=by
     unfold iX
     cases p with
     |agg cs=>simp only[eR]at hys;cases hys;rfl
     |int k q=>simp only[eR]at hys;cases hys;rfl
     |bool q=>simp only[eR]at hys;cases hys;rfl
     |slice k q=>simp only[eR]at hys;cases hys;rfl
    obtain⟨s,hs⟩:∃s,ow ys=some s:=⟨ys.map .p,by
     clear hq1 hq2 hn hn' hys hys' hsp h1 hc1
     induction ys with
     |nil=>rfl
     |cons y r ih=>simp[ow,ih]⟩
    have hse:=jc hs;rw[hs]at hc1;obtain⟨k1,k2,k3⟩:=jG hc1 (aH.p (μ:=μ) hry);refine⟨by rw[Array.length_toList,k1,hse,length_map,hn'],k2,fun i c u hc hu=>?_⟩;have:=k3 i (.p c) u (by rw[hse];simp[hc]) hu
    cases this with|p h=>exact h
  obtain⟨hcl,hco,hcr⟩:=hcy;generalize hv:a.eval x=vx at hr
  cases hr with
  | @vptr _ _ _ _ _ B _ hid g1 hnB hf=>
   have hob:=hst.objs id _ _ hH hid;have hBn:(l.map f).length=B.n:=(w6 hob).symm;obtain⟨b,hB,rfl⟩:=hf hBn;obtain⟨Bb,Bn⟩:=B;simp only at hB hBn;subst hB;subst hBn;obtain⟨vs,e,hb,hlen,hne,hrep⟩:=qZ hob;rw[length_map]at hlen;have hm1:m*(j.toNat+1)<=m*l.length:=mul_le_mul_left _ hj;rw[Nat.mul_succ]at hm1
   have hfit:m*j.toNat+fo+n<=vs.size:=by omega
   have hoff:m*(0+j.toNat)+fo=m*j.toNat+fo:=by rw[zero_add]
   have hst':=my (P:=P) hT (off:=m*j.toNat+fo) hb (a.eval y) (by rw[<-Array.length_toList];exact hcl) hco hfit;have hfl:=fun i=>yY (xs:=l.map f) (j:=j.toNat) (y:=f v') (hEl l) (hE' v').1 i;rw[<-List.map_set]at hfl
   have hzg:(l.map f)[j.toNat]?=some (f z):=by rw[getElem?_map,hjl];rfl
   obtain⟨hs',hEx⟩:=r7 hst (off:=m*j.toNat+fo) (news:=(a.eval y).cells.toList) (xs':=(l.set j.toNat v').map f) hid hH hb (by rw[length_map];exact hlen) hne (by simp) (hEl _) hrep (by rw[hcl];exact hfit)
    (fun i c hc hi=>by
     rw[hfl i]at hc;split at hc
     ·rename_i hin;rw[<-hqs',hq1,append_assoc]at hc;rw[hcl]at hi;rw[length_map]at hin;by_cases h2:i<m*j.toNat+fo
      ·rw[getElem?_append_left (by rw[length_take];omega),getElem?_take_of_lt (by omega),hps']at hc;have:=lv (hEl l) hzg hc
       rwa [show m*j.toNat+(i-m*j.toNat)=i by omega]at this
      ·have h3:m*j.toNat+fo+n<=i:=by omega
       rw[getElem?_append_right (by rw[length_take];omega),getElem?_append_right (by rw[length_take];omega),length_take,getElem?_drop,show fo+ys.length+(i-m*j.toNat-Min.min fo ps.length-ys.length)=i-m*j.toNat by omega,hps']at hc;have:=lv (hEl l) hzg hc
       rwa [show m*j.toNat+(i-m*j.toNat)=i by omega]at this
     ·exact hc)
    (fun i c u hc hu=>by
     have hin:i<n:=by
      have:=(List.getElem?_eq_some_iff.1 hu).1;omega
     rw[hfl,i1_ (by rw[length_map];omega),<-hqs',hq1,append_assoc,getElem?_append_right (by rw[length_take];omega),getElem?_append_left (by rw[length_take];omega),length_take,
      show m*j.toNat+fo+i-m*j.toNat-Min.min fo ps.length=i by omega]at hc
     exact hcr i c u hc (by simpa using hu))
   rw[hcl]at hs' hEx;refine⟨_,μ,?_,hs',hEx⟩;simp only[execOp,ho,Instr.storeAt,hv,Instr.sureAddr,hoff];simp[hst']
theorem aa.sliceVG {olo ohi:Option Operand}{lo hi:Option Int}(ho:o.op=.slice t x olo ohi none)(hx:bf env x=some (.vec m id n off len))
  (hlo:jT env olo=some lo) (hhi:jT env ohi=some hi) (hH:br H id=some (.vec m xs)) (hn:n=xs.length) (hT:dn P t=some (m,bytes)) (h0:0<=lo.getD 0) (h1:lo.getD 0<=hi.getD len) (h2:hi.getD len<=len) :
  aa P o env H (Is (.vec m id n (off+(lo.getD 0).toNat) ((hi.getD len).toNat-(lo.getD 0).toNat)) H):=
 aa.val fun a w μ I hst he=>by
  have hr:=he.ev (x:=x) (by simp[ho,Op.operands]) hx;generalize hv:a.eval x=v at hr;obtain⟨kl,hkl,hl1,hl2⟩:=mt he (fun y hy=>by subst hy;simp[ho,Op.operands]) hlo;obtain⟨kh,hkh,hh1,hh2⟩:=mt he (fun y hy=>by subst hy;simp[ho,Op.operands]) hhi;obtain⟨e,i,zz,hu,hi',hz0,hzs,rfl,rfl,hpos⟩:=cA hT;obtain⟨B,hid,hBn,hob,hf⟩:=kD hst hH hn hr
  have hb:∀cap:Nat,len<=cap->(Instr.sliceBounds true len cap kl kh none).run P w=.ok ((lo.getD 0).toNat,(hi.getD len).toNat,cap) w:=by
   intro cap hcap
   cases lo with
   | none=>
    rw[hl1 rfl]
    cases hi with
    |none=>rw[hh1 rfl];simp[Instr.sliceBounds]
    |some n=>
     obtain⟨k,hk⟩:=hh2 n rfl;simp only[getD_some,getD_none]at h0 h1 h2;rw[hk];simp[Instr.sliceBounds,Instr.sliceBound,asIntOf,h1,show n<=(cap:Int) by omega]
   | some q=>
    obtain⟨k,hk⟩:=hl2 q rfl;rw[hk]
    cases hi with
    |none=>
     simp only[getD_some,getD_none]at h0 h1 h2;rw[hh1 rfl];simp[Instr.sliceBounds,Instr.sliceBound,asIntOf,h0,h1]
    |some n=>
     obtain⟨k',hk'⟩:=hh2 n rfl;simp only[getD_some]at h0 h1 h2;rw[hk'];simp[Instr.sliceBounds,Instr.sliceBound,asIntOf,h0,show n<=(cap:Int) by omega,show 0<=n by omega]
     try (intro hh;exfalso;omega)
  rcases hf with⟨rfl,⟨ad,rfl⟩,hz0⟩|⟨b,cap,hB,rfl,hlc,hmax,hs⟩
  ·have e1:(lo.getD 0).toNat=0:=by omega
   have e2:(hi.getD ((0:Nat):Int)).toNat=0:=by omega
   refine⟨.slice ad 0 0,?_,.vec hid Z (by omega) fun _=>.inl ⟨by omega,⟨ad,rfl⟩,fun h=>hz0 (by omega)⟩⟩;have hb':=hb 0 (le_refl _);rw[e1,e2]at hb';simp only[execOp,ho,hv,hkl,hkh,map_none,Instr.sliceAt];simp[run_underlying hu,Instr.slice,hb',sizeOf,typeInfo,hi']
  ·refine⟨.slice (if cap=(lo.getD 0).toNat then some ⟨b,i.size*off,none⟩else(some (⟨b,i.size*off,none⟩:Addr)).map (·.add ((lo.getD 0).toNat*i.size))) ((hi.getD len).toNat-(lo.getD 0).toNat) (cap-(lo.getD 0).toNat),?_,.vec hid Z (by omega) fun _=>?_⟩
   ·simp only[execOp,ho,hv,hkl,hkh,map_none,Instr.sliceAt];simp[run_underlying hu,Instr.slice,hb cap hlc,sizeOf,typeInfo,hi']
   ·by_cases hc:cap=(lo.getD 0).toNat
    ·rw[i1_ hc];refine .inl ⟨by omega,⟨_,by rw[show(hi.getD len).toNat-(lo.getD 0).toNat=0 by omega,show cap-(lo.getD 0).toNat=0 by omega]⟩,fun h0'=>?_⟩;obtain⟨c,e',h3,h4⟩:=hs;have:=h4.1;omega
    ·rw[i0_ hc];refine .inr ⟨b,cap-(lo.getD 0).toNat,hB,?_,by omega,by omega,?_⟩
     ·rw[map_some,dX,mul_add,mul_comm (lo.getD 0).toNat]
     ·obtain⟨c,e',h3,h4⟩:=hs;exact⟨c,e',h3,by have:=h4.1;omega,by rw[show off+(lo.getD 0).toNat+(cap-(lo.getD 0).toNat)=off+cap by omega];exact h4.2⟩
theorem aa.sliceVLo {x lo:Operand}{l:List α}{k:IntKind}{h:Int}(ho:o.op=.slice t x (some lo) none none)(hx:bf env x=some (.vec m id (l.map f).length 0 len))
  (hlo:bf env lo=some (.p (.int k h))) (hH:br H id=some (.vec m (l.map f))) (hT:dn P t=some (m,bytes)) (hb:decide (0<=h/\h<=len)=true):aa P o env H (Is (.vec m id (l.map f).length h.toNat (len-h.toNat)) H):=by
 have hb:=of_decide_eq_true hb;have:=aa.sliceVG (H:=H) (lo:=some h) (hi:=none) ho hx (by simp[jT,hlo]) rfl hH rfl hT hb.1 (by simpa using hb.2) (by simp);simpa using this
theorem aa.sliceVHi {l:List α}{k:IntKind}{h:Int}(ho:o.op=.slice t x none (some hi) none)(hx:bf env x=some (.vec m id (l.map f).length 0 len))
  (hhi:bf env hi=some (.p (.int k h))) (hH:br H id=some (.vec m (l.map f))) (hT:dn P t=some (m,bytes)) (hb:decide (0<=h/\h<=len)=true):aa P o env H (Is (.vec m id (l.map f).length 0 h.toNat) H):=by
 have hb:=of_decide_eq_true hb;have:=aa.sliceVG (H:=H) (lo:=none) (hi:=some h) ho hx rfl (by simp[jT,hhi]) hH rfl hT (by simp) (by simp;omega) (by simpa using hb.2);simpa using this
def HS (P:Program)(t:TypeId):Option (List PV):=
 match P.underlying t with
 | some (.slice e)=>match P.info? e with
  | some i=>match i.zero with
   |some z=>match cy z.cells.toList with
    |some cs=>jE cs
    |none=>none
   |none=>none
  |none=>none
 |_=>none
theorem rB {m:Nat}(hm:0<m){x:PV}(hx:x.cells.length=m):∀(k i:Nat),i<k*m->(flat (replicate k x))[i]?=x.cells[i % m]?
 |0,i,h=>by omega
 |k+1,i,h=>by
  rw[List.replicate_succ,dm,getElem?_append,hx];by_cases h1:i<m
  ·rw[i1_ h1,Nat.mod_eq_of_lt h1]
  ·rw[i0_ h1,rB hm hx k (i-m) (by rw[Nat.succ_mul]at h;omega),<-Nat.mod_eq_sub_mod (by omega)]
def kH (l:List α)(off k:Nat)(z:α):List α:=l.take off++replicate k z++l.drop (off+k)
theorem tR {l:List α}{z:α}(h:off+k<=l.length):(kH l off k z).length=l.length:=by
 unfold kH;simp;omega
theorem aa.clearVP {l:List α}{zs:List PV}(z0:α)(ho:o.op=.call { callee:=.builtin .clear,args:=#[x],argTypes:=#[t]})(hx:bf env x=some (.vec m id (l.map f).length off k))
  (hH:br H id=some (.vec m (l.map f))) (hT:dn P t=some (m,bytes)) (hE:∀a,kJ m [f a]=true) (hz:HS P t=some zs) (hz0:eR (f z0)=some zs) (hk:decide (off+k<=l.length)=true)
  (hH':bK H id (.vec m ((kH l off k z0).map f))=some H'):aa P o env H (Is (.tup []) H'):=
 aa.step fun a w μ I hst he=>by
  have hk:=of_decide_eq_true hk;have hr:=he.ev (x:=x) (by simp[ho,Op.operands,Call.operands]) hx;generalize hv:a.eval x=v at hr;obtain⟨e3,e4⟩:=bH hH';subst e3;have hE':∀a,(f a).cells.length=m/\∀c∈(f a).cells,c.one:=fun a=>fk (hE a) _ (.head _);have hEl:∀l':List α,b9 m (l'.map f):=fun l'=>b9.map hE' l';obtain⟨e,i,zz,hu,hi',hzz,hzs,rfl,rfl,hpos⟩:=cA hT
  have hzc:cy zz.cells.toList=some (zs.map .p):=by
   unfold HS at hz;rw[hu]at hz;simp only[hi',hzz]at hz;split at hz
   ·rename_i cs hcs;rw[hcs,ox hz]
   ·cases hz
  have hzv:(zeroValue e).run P w=.ok zz w:=by simp[zeroValue,typeInfo,hi',hzz]
  obtain⟨B,hid,hBn,hob,hf⟩:=kD hst hH rfl hr
  have hnone:k=0->kH l off k z0=l:=fun h=>by subst h;simp[kH]
  have hHid:H.set id (.vec i.size ((kH l off k z0).map f))=H->True:=fun _=>trivial
  have hsame:k=0->H.set id (.vec i.size ((kH l off k z0).map f))=H:=fun h=>by
   rw[hnone h];rw[bj]at hH;apply ext_getElem?;intro q;rw[getElem?_set];split
   ·rename_i e;subst e;rw[hH];try rfl
   ·rfl
  have hdone:∀r:Value->Prop,True:=fun _=>trivial;rcases Nat.eq_zero_or_pos k with hk0|hk0
  ·rw[hsame hk0];subst hk0
   have:∃ad c,v=.slice ad 0 c:=by
    rcases hf with⟨-,⟨ad,rfl⟩,-⟩|⟨b,cap,hB,rfl,-⟩
    ·exact⟨_,_,rfl⟩
    ·exact⟨_,_,rfl⟩
   obtain⟨ad,c,rfl⟩:=this
   have hrun:(Builtin.clear_ #[t] o.type #[.slice ad 0 c]).run P w=.ok (.tuple #[]) w:=by
    cases ad <;>simp[Builtin.clear_,run_underlying hu]
   refine⟨.tuple #[],w,μ,?_,hst,.tup Z (fun i c v hc=>by simp at hc),cI.refl _ _ _ _ (le_refl _)⟩;simp only[execOp,ho,resolve,invoke,builtin,Sem.run_bind,Sem.run_pure,Result.andThen_ok,map_toArray,map_cons,map_nil,hv,hrun]
  ·rcases hf with⟨h0,-⟩|⟨b,cap,hB,rfl,hlc,hmax,c',e',hb',hsz⟩
   ·omega
   ·obtain⟨Bb,Bn⟩:=B;simp only at hB hBn;subst hB;subst hBn;obtain⟨vs,e2,hb,hlen,hne,hrep⟩:=qZ hob
    have hvs:vs=c':=by rw[hb]at hb';cases hb';rfl
    rw[<-hvs]at hsz;rw[length_map]at hlen;have hm1:i.size*(off+k)<=i.size*l.length:=mul_le_mul_left _ hk;rw[mul_add]at hm1;obtain⟨news,hnews⟩:∃news,news=(Builtin.zeroCells zz.cells k).toList:=⟨_,rfl⟩
    have hnl:news.length=i.size*k:=by rw[hnews];simp[Builtin.zeroCells,hzs,mul_comm]
    have hzl:zs.length=i.size:=by
     have:=(ca (μ:=μ) (I:=I) (w:=w) hzc).1;simpa [hzs]using this.symm
    have hng:∀q u,news[q]?=some u->∃c,zs[q % i.size]?=some c/\fA I w c u/\eT u=true:=by
     intro q u hq;have hql:=(List.getElem?_eq_some_iff.1 hq).1;rw[hnl]at hql;have hmod:=Nat.mod_lt q hpos;obtain⟨h1,h2,h3⟩:=ca (μ:=μ) (I:=I) (w:=w) hzc
     have hu1:zz.cells.toList[q % i.size]?=some u:=by
      rw[hnews]at hq;simp[Builtin.zeroCells,hzs]at hq;obtain⟨q',hq1,hq2⟩:=hq;rw[List.getElem?_range (by rw[mul_comm];exact hql)]at hq1;cases hq1;rw[<-hq2];simp[show q % i.size<zz.cells.size by omega]
     have hc:zs[q % i.size]?=some zs[q % i.size]:=getElem?_eq_getElem (by omega);refine⟨_,hc,?_,h2 u (mem_of_getElem? hu1)⟩;have:=h3 (q % i.size) (.p _) u (by rw[getElem?_map,hc];rfl) hu1
     cases this with|p h=>exact h
    have h4:=run_storeCells_at P b (i.size*off) e2 news 0 vs w hb (by rw[hnl];omega) (fun u hu=>by
     obtain⟨q,hq⟩:=getElem?_of_mem hu;obtain⟨c,-,-,ho1⟩:=hng q u hq
     cases u <;>simp_all [eT,Value.oneCell'])
    have hps:=gx hz0
    have hrun:(Builtin.clear_ #[t] o.type #[.slice (some ⟨b,i.size*off,none⟩) k cap]).run P w=.ok (.tuple #[]) (w.setRow b (vs.toList.take (i.size*off)++news++vs.toList.drop (i.size*off+news.length)).toArray):=by
     unfold Builtin.clear_;obtain⟨k,rfl⟩:∃q,k=q+1:=⟨k-1,by omega⟩;simp only[List.getElem?_toArray,List.getElem?_cons_zero,Sem.run_bind,run_underlying hu,Result.andThen_ok,hzv,<-hnews];simp at h4;simp[h4]
    have hcl:=tR (z:=z0) hk
    have hflat:∀q,(flat ((kH l off k z0).map f))[q]?=if q<i.size*off then(flat (l.map f))[q]? else if q<i.size*off+i.size*k then zs[(q-i.size*off) % i.size]? else(flat (l.map f))[q]?:=by
     intro q;unfold kH;rw[map_append,map_append,List.map_take,List.map_drop,List.map_replicate,iM,iM,lw _ (hEl l),jj _ (hEl l)];have hfl:=cF (hEl l);rw[length_map]at hfl
     have hrl:(flat (replicate k (f z0))).length=i.size*k:=by
      have:b9 i.size (replicate k (f z0)):=by have:=hEl (replicate k z0);rwa [List.map_replicate]at this
      rw[cF this,List.length_replicate]
     by_cases h1:q<i.size*off
     ·rw[i1_ h1,append_assoc,getElem?_append_left (by rw[length_take];omega),getElem?_take_of_lt h1]
     ·rw[i0_ h1];by_cases h2:q<i.size*off+i.size*k
      ·rw[i1_ h2,append_assoc,getElem?_append_right (by rw[length_take];omega),getElem?_append_left (by rw[length_take,hrl];omega),length_take,show Min.min (i.size*off) (flat (l.map f)).length=i.size*off by omega,
        rB hpos (hE' z0).1 k _ (by rw[mul_comm k];omega),hps]
      ·rw[i0_ h2,getElem?_append_right (by rw[length_append,length_take,hrl];omega),length_append,length_take,hrl,getElem?_drop,mul_add,
        show i.size*off+i.size*k+(q-(Min.min (i.size*off) (flat (l.map f)).length+i.size*k))=q by omega]
    rw[bj]at hH
    obtain⟨hs',hEx⟩:=r7 hst (off:=i.size*off) (news:=news) (xs':=(kH l off k z0).map f) hid hH hb (by rw[length_map];exact hlen) hne (by rw[length_map,length_map,hcl]) (hEl _) hrep (by rw[hnl];omega)
     (fun q c hc hq=>by
      rw[hflat q]at hc;rw[hnl]at hq;split at hc
      ·exact hc
      ·split at hc
       ·omega
       ·exact hc)
     (fun q c u hc hu=>by
      have hql:=(List.getElem?_eq_some_iff.1 hu).1;rw[hnl]at hql;rw[hflat,i0_ (by omega),i1_ (by omega),show i.size*off+q-i.size*off=q by omega]at hc;obtain⟨c',h1,h2,-⟩:=hng q u hu;rw[hc]at h1;cases h1
      exact h2)
    refine⟨.tuple #[],_,μ,?_,hs',.tup Z (fun i c v hc=>by simp at hc),hEx⟩;simp only[execOp,ho,resolve,invoke,builtin,Sem.run_bind,Sem.run_pure,Result.andThen_ok,map_toArray,map_cons,map_nil,hv,hrun]
theorem Conv.vecTake {l:List α}(hH:br H id=some (.vec m (l.map f)))(hk:ble k l.length=true):Conv true H (.vec m id (l.map f).length 0 k) (.slice m ((l.take k).map f)):=by
 rw[bj]at hH;have:=Conv.vec (off:=0) (len:=k) hH rfl (by have:=Nat.le_of_ble_eq_true hk;rw[length_map];omega);simpa using this
end
section
variable {P : Program} {o : Oper} {env : aE} {H : List ab}
theorem aa.eqNil {t t':TypeId}(ho:o.op=.binOp .eql t x y t')(hx:bf env x=some (.p (.slice m xs)))(hy:y=.const (.slice none 0 0))(hT:dn P t=some (m,bytes)) :
  aa P o env H (fun r H'=>H'=H/\∃b,r=.p (.bool b)/\(b=true->xs=[])):=by
 intro a w μ I hs he K Q hK;obtain⟨ad,cap,f,hv,hcap,hmax,hm,hc,hr⟩:=fF (jS (he.ev (x:=x) (by simp[ho,Op.operands]) hx));obtain⟨e,i,zz,hu,hi',hzz,hzs,rfl,rfl,hpos⟩:=cA hT
 have hyv:a.eval y=.slice none 0 0:=by subst hy;rfl
 have heq:(Op.equal t (.slice ad xs.length cap) (.slice none 0 0)).run P w=.ok ad.isNone w:=by
  unfold Op.equal;obtain⟨d,hd⟩:∃d,Op.maxDepth=d+1:=⟨_,rfl⟩;rw[hd];cases ad <;>simp[Op.equalIn,run_underlying hu]
 have hg:(eqGuard .eql t x y (.slice ad xs.length cap) (.slice none 0 0)).run P w=.ok () w:=by simp[eqGuard]
 have hrun:(execOp a.eval o).run P w=.ok (.value (.bool ad.isNone)) w:=by
  simp only[execOp,ho,hv,hyv,binOp];simp[hg,heq]
 unfold Oper.wp;rw[hrun];refine hK (.p (.bool ad.isNone)) H _ w μ I ⟨rfl,_,rfl,fun h=>?_⟩ hs (.p .bool)<|cI.refl _ _ _ _<|le_refl _
 cases ad with
 |some b=>cases h
 | none=>
  cases xs with
  |nil=>rfl
  | cons x r=>
   exfalso;have h1:=(hm x (.head _)).1
   obtain⟨c,hcc⟩:∃c,(flat (x::r))[0]?=some c:=by
    rw[dm,getElem?_append_left (by omega)];exact⟨_,getElem?_eq_getElem (by omega)⟩
   obtain⟨b,o',hb,-⟩:=hc 0 c hcc;cases hb
theorem aa.buildSlice0 (ho:o.op=.buildSlice t 0 #[])(hT:dn P t=some (m,bytes)):aa P o env H (Is .zs H):=by
 intro a w μ I hs hE K Q hK;obtain⟨el,i,z,hu,hi,hz,hzs,rfl,rfl,hpos⟩:=cA hT;have hr0:Array.range 0=#[]:=rfl
 have hso:(sizeOf el).run P w=.ok i.size w:=by simp[sizeOf,typeInfo,hi]
 have hrun:(execOp a.eval o).run P w=.ok (.value (.slice (some ⟨w.heap.size,0,none⟩) 0 0)) (w.alloc (.cells #[] el)):=by
  simp only[execOp,ho,Instr.buildSlice];simp[run_underlying hu,hso,Instr.fill,newRow,hr0]
 unfold Oper.wp;rw[hrun];obtain⟨hs',hE'⟩:=hs.fresh (.cells #[] el);exact hK .zs H _ _ μ _ ⟨rfl,rfl⟩ hs' .zs hE'
end
theorem dN.monoK {o:ab}{B:ci}(h:dN μ I w o B)(hE:cI k μ I w μ' I' w)(hlo:o.Low k):dN μ' I' w o B:=by
 cases h with
 |box h1 h2 h3 h4=>exact .box h1 h2 h3 fun i c v hc hv=>(h4 i c v hc hv).mono hE (hlo c (mem_of_getElem? hc))
 |vecE=>exact .vecE
 |vec h1 h2 h3 h4 h5=>exact .vec h1 h2 h3 h4 fun i c v hc hv=>(h5 i c v hc hv).mono hE.imm
 |map h1 h2 h3 h4 h5=>exact .map h1 h2 (fun i c e hc he=>⟨(h3 i c e hc he).1.mono hE.imm,(h3 i c e hc he).2.mono hE (hlo c (mem_of_getElem? hc))⟩) h4 h5
 |dead=>exact .dead
 |slot=>exact .slot
 |loop h1 hs hp hps hA hB hn he=>exact .loop h1 hs hp hps hA hB hn fun t x ht=>let ⟨v,h2,h3⟩:=he t x ht;⟨v,h2,h3.mono hE (hlo t x ht)⟩
 |defd h1=>exact .defd h1
 |iter h1 hx=>exact .iter h1 (hx.mono hE hlo)
theorem St.lowAll (hs:St μ I w H){o:ab}(ho:o∈H):o.Low H.length:=by
 obtain⟨i,hi⟩:=getElem?_of_mem ho;have hil:=(List.getElem?_eq_some_iff.1 hi).1;have hlen:=hs.len;obtain⟨B,hB⟩:∃B,μ[i]?=some B:=⟨_,getElem?_eq_getElem (by omega)⟩;have hob:=hs.objs i o B hi hB;have hlow:∀{x:LV} {v:Value},aH μ I w x v->LV.Low H.length x:=fun h=>hlen▸h.lows
 cases hob with
 |box h1 h2 h3 h4=>
  intro c hc;obtain⟨j,hj⟩:=getElem?_of_mem hc;have hjl:=(List.getElem?_eq_some_iff.1 hj).1;exact hlow<|h4 j c _ hj<|Array.getElem?_eq_getElem (by omega)
 |vecE=>trivial
 |vec h1 h2 h3 h4 h5=>trivial
 |map h1 h2 h3 h4 h5=>
  intro e he;obtain⟨j,hj⟩:=getElem?_of_mem he;have hjl:=(List.getElem?_eq_some_iff.1 hj).1;exact hlow (h3 j e _ hj (Array.getElem?_eq_getElem (by omega))).2
 |dead=>trivial
 |slot=>trivial
 |loop h1 hs hp hps hA hB hn he=>exact fun t x ht=>let ⟨v,_,h3⟩:=he t x ht;hlow h3
 |defd h1=>trivial
 |iter h1 hx=>exact hlow hx
theorem LC.toSlot (h:LC P f ls H (Is (.vec m d n 0 n) (H++[.vec m xs])))(hd:d=H.length)(hid:br H id=some .slot) :
    LC P f ls H (Is (.vec m id n 0 n) (H.set id (.vec m xs))):=by
  subst hd;intro args w μ I hs ha;have hl:∀o∈H,o.Low H.length:=fun o ho=>hs.lowAll ho;refine(h args w μ I hs ha).mono ?_;rintro e w' ⟨_,v,_,μ',I',rfl,⟨e1,e2⟩,hs',hv,hE⟩;rw[e2]at hs';rw[e1]at hv;rw[bj]at hid;have hidl:=(List.getElem?_eq_some_iff.1 hid).1;have hlen:=hs.len;have hlen':=hs'.len;rw[length_append,length_singleton]at hlen';have hB0:μ[id]?=some ⟨none,0⟩:=lO hs (by rw[bj];exact hid);have hB0':μ'[id]?=some ⟨none,0⟩:=lO hs' (by rw[bj,getElem?_append_left hidl];exact hid);obtain⟨B,hB⟩:∃B,μ'[H.length]?=some B:=⟨_,getElem?_eq_getElem (by omega)⟩;have hob:=hs'.objs H.length (.vec m xs) B (by simp) hB
  -- the last number goes to the place that was kept
  have hget:∀i,i<H.length->((μ'.take H.length).set id B)[i]?=if i=id then some B else μ'[i]?:=fun i hi=>by
    rw[getElem?_set];by_cases e:id=i
    · subst e;rw[i1_ rfl,i1_ rfl,i1_ (by rw[length_take];omega)]
    · rw[i0_ e,i0_ (Ne.symm e),getElem?_take_of_lt hi]
  have hlen2:((μ'.take H.length).set id B).length=H.length:=by rw[length_set,length_take];omega
  have hownS:∀b,gC ((μ'.take H.length).set id B) b->gC μ' b:=fun b hb=>by
    obtain⟨i,n',hi⟩:=gC.get hb;have hil:=(List.getElem?_eq_some_iff.1 hi).1;rw[hlen2]at hil;rw[hget i hil]at hi;split at hi
    · cases hi;exact gC.mk hB
    · exact gC.mk hi
  have hEx:cI μ.length μ I w ((μ'.take H.length).set id B) I' w':=
    { get:=fun i C hi hC=>by
        rw[hget i (by omega)];split
        · rename_i e;subst e;rw[hB0]at hC;cases hC;exact⟨B,rfl,zero_le _,fun _=>.inr rfl,fun _ h=>absurd Z h⟩
        · exact hE.get i C (by omega) hC
      len:=le_refl _
      len':=by omega
      os:=hE.os
      tape:=hE.tape
      output:=hE.output
      size:=hE.size
      imm:=hE.imm
      shape:=hE.shape
      inew:=hE.inew
      mnew:=fun b hb=>hE.mnew b (hownS b hb)
      keep:=hE.keep}
  -- what does not speak of that place stays
  have hE2:cI H.length μ' I' w' ((μ'.take H.length).set id B) I' w':=
    { get:=fun i C hi hC=>by
        rw[hget i hi];split
        · rename_i e;subst e;rw[hB0']at hC;cases hC;exact⟨B,rfl,zero_le _,fun _=>.inr rfl,fun _ h=>absurd Z h⟩
        · exact⟨C,hC,le_refl _,fun _=>.inl rfl,fun _ _=>rfl⟩
      len:=by omega
      len':=by omega
      os:=rfl
      tape:=rfl
      output:=rfl
      size:=le_refl _
      imm:=fun _ h=>⟨h,rfl⟩
      shape:=fun _ c _ _ h=>⟨c,h,rfl⟩
      inew:=fun _ h=>.inl h
      mnew:=fun b hb=>.inl (hownS b hb)
      keep:=fun _ _ _=>rfl}
  refine⟨_,v,_,(μ'.take H.length).set id B,I',rfl,⟨rfl,rfl⟩,?_,?_,hEx⟩
  · exact
      { len :=by rw[hlen2,length_set]
        inj:=fun i j b n1 n2 hi hj=>by
          have hil:=(List.getElem?_eq_some_iff.1 hi).1;have hjl:=(List.getElem?_eq_some_iff.1 hj).1;rw[hlen2]at hil hjl;rw[hget i hil]at hi;rw[hget j hjl]at hj;split at hi <;>split at hj
          · omega
          · cases hi;have:=hs'.inj _ _ b _ _ hB hj;omega
          · cases hj;have:=hs'.inj _ _ b _ _ hi hB;omega
          · exact hs'.inj i j b n1 n2 hi hj
        lt:=fun b hb=>hs'.lt b (hownS b hb)
        off:=fun b hb=>hs'.off b (hownS b hb)
        ilt:=hs'.ilt
        objs:=fun i o C ho hC=>by
          have hil:=(List.getElem?_eq_some_iff.1 hC).1;rw[hlen2]at hil;rw[hget i hil]at hC;rw[getElem?_set]at ho;by_cases e:id=i
          · subst e;rw[i1_ rfl]at hC;rw[i1_ rfl,i1_ hidl]at ho;cases hC;cases ho;exact hob.monoK hE2 trivial
          · rw[i0_ (Ne.symm e)]at hC;rw[i0_ e]at ho
            exact(hs'.objs i o C (by rw[getElem?_append_left hil];exact ho) hC).monoK hE2 (hl o (mem_of_getElem? ho))}
  · cases hv with
    | @vec _ _ _ _ _ C _ h1 h2 h3 h4=>
      rw[hB]at h1;cases h1;exact .vec (by rw[hget id hidl,i1_ rfl]) h2 h3 h4
section
variable {P : Program} {o : Oper} {env : aE} {H : List ab}
theorem LC.frameV (h:LC P f qs [] (Is (.vec m 0 n 0 n) [.vec m xs]))(hc:fI H ls qs)(hd:dq H=some d) :
  LC P f ls H (Is (.vec m d n 0 n) (H++[.vec m xs])):=LC.frameG h hc hd
theorem aa.callV (ho:o.op=.call { callee:=.value fo,args:=args,argTypes:=ats})
  (hf:bf env fo=some (.fn f [] [])) (hl:lE env args.toList=some ls) (hc:eI P f=true) (h:LC P f qs [] (Is (.vec m 0 n 0 n) [.vec m xs])) (hcv:fI H ls qs) (hd:dq H=some d) (hH:jF H (.vec m xs)=some H') :
  aa P o env H (Is (.vec m d n 0 n) H'):=by
 have e:=dC hH;subst e;exact aa.call ho hf hl hc (by simpa using LC.frameV h hcv hd)
theorem cj.callV (ho:o.op=.call { callee:=.value fo,args:=args,argTypes:=ats})
  (hf:bf env fo=some (.fn f [] [])) (hl:lE env args.toList=some ls) (hc:eI P f=true) (h:LC P f qs [] (Is (.vec m 0 n 0 n) [.vec m xs])) (hcv:∀H,fI H ls qs) (hid:br H id=some .slot) :
  cj P o env H [id] (some (id,.vec m xs)) (.vec m id n 0 n):=by
 intro H' hA;have hid':=hA.get (by simp) hid
 obtain⟨d,hd⟩:∃d,dq H'=some d:=by
  clear hid' hA
  induction H' with
  |nil=>exact⟨0,rfl⟩
  |cons x r ih=>obtain⟨d,hd⟩:=ih;exact⟨d+1,by simp[dq,hd]⟩
 have:=LC.toSlot (LC.frameV h (hcv H') hd) (cd hd) hid';exact aa.call ho hf hl hc (by simpa [wset]using this)
end
section
variable {k : Nat} {env : aE} {H : List ab}
theorem bY.kill (h:bK H i .dead=some H'):bY k env H env H':=by
  intro n μ I w a hn hk;obtain⟨e1,e2⟩:=bH h;subst e1;refine⟨μ,I,⟨hn.size,hn.defers,?_,hn.env⟩,⟨fun i B _ hb=>⟨B,hb,le_refl _,fun _=>.inl rfl,fun _ _=>rfl⟩,hk,hk,rfl,rfl,rfl,le_refl _,fun _ h=>⟨h,rfl⟩,fun _ c _ _ h=>⟨c,h,rfl⟩,fun _ h=>.inl h,fun _ h=>.inl h,fun _ _ _=>rfl⟩⟩
  exact
    { len:=by rw[length_set];exact hn.st.len
      inj:=hn.st.inj
      lt:=hn.st.lt
      off:=hn.st.off
      ilt:=hn.st.ilt
      objs:=fun j o B ho hB=>by
        rw[getElem?_set]at ho;split at ho
        · first
            | (split at ho
               · cases ho;exact .dead
               · cases ho)
            |(cases ho;exact .dead)
        · exact hn.st.objs j o B ho hB}
theorem bY.vlen {t m id n n' off len:Nat}(ht:env.get t=some (.vec m id n off len))(e:n=n'):bY k env H ((t,.vec m id n' off len)::env) H:=by
 subst e;intro n' μ I w a hn hk;refine⟨μ,I,⟨hn.size,hn.defers,hn.st,fun t' x hx=>?_⟩,⟨fun i B _ hb=>⟨B,hb,le_refl _,fun _=>.inl rfl,fun _ _=>rfl⟩,hk,hk,rfl,rfl,rfl,le_refl _,fun _ h=>⟨h,rfl⟩,fun _ c _ _ h=>⟨c,h,rfl⟩,fun _ h=>.inl h,fun _ h=>.inl h,fun _ _ _=>rfl⟩⟩;rw[aE.get_cons]at hx;split at hx
 ·rename_i e;subst e;cases hx;exact hn.env _ _ ht
 ·exact hn.env _ _ hx
theorem bY.last {t m id n j:Nat}{Hj H':List ab}(ht:env.get t=some (.vec m id n 0 n))(hid:br H id=some (.vec m xs))(hH:kC H j=some Hj)(hH':jF Hj (.vec m xs)=some H')(hj:ble j id=true)(hk:ble k j=true)(ho:fD j Hj=true) :
    bY k env H [(t,.vec m j n 0 n)] H':=by
  intro n' μ I w a hn hkm;obtain⟨e1,e2⟩:=lQ hH;have e3:=dC hH';subst e1 e3;have hjid:=Nat.le_of_ble_eq_true hj;have hkj:=Nat.le_of_ble_eq_true hk;rw[bj]at hid;have hidl:=(List.getElem?_eq_some_iff.1 hid).1;have hlen:=hn.st.len;obtain⟨B,hB⟩:∃B,μ[id]?=some B:=⟨_,getElem?_eq_getElem (by omega)⟩;have hob:=hn.st.objs id _ B hid hB;have hst0:=hn.st.cut (j:=j) (by omega) (fE ho)
  have hl0:(μ.take j).length=j:=by rw[length_take];omega
  have hHl:(H.take j).length=j:=by rw[length_take];omega
  have hget:∀i,i<j->(μ.take j++[B])[i]?=μ[i]?:=fun i hi=>by
    rw[getElem?_append_left (by omega),getElem?_take_of_lt hi]
  have hgetj:(μ.take j++[B])[j]?=some B:=by
    rw[getElem?_append_right (by omega),hl0];simp
  have hown:∀b,gC (μ.take j++[B]) b->gC μ b:=fun b ⟨q,hq⟩=>by
    rcases List.mem_append.1 hq with hq|hq
    · exact⟨q,List.mem_of_mem_take hq⟩
    · rw[mem_singleton]at hq;subst hq;exact gC.mk hB
  have hE:cI j μ I w (μ.take j++[B]) I w:=
    ⟨fun i C hi hC=>⟨C,by rw[hget i hi];exact hC,le_refl _,fun _=>.inl rfl,fun _ _=>rfl⟩,by omega,by rw[length_append,hl0];omega,rfl,rfl,rfl,le_refl _,fun _ h=>⟨h,rfl⟩,
      fun _ c _ _ h=>⟨c,h,rfl⟩,fun _ h=>.inl h,fun b h=>.inl (hown b h),fun _ _ _=>rfl⟩
  refine⟨μ.take j++[B],I,⟨hn.size,hn.defers,?_,fun t' x hx=>?_⟩,hE.weak hkj⟩
  · exact
      { len :=by rw[length_append,length_append,hl0,hHl];rfl
        inj :=fun i i' b q q' hi hi'=>by
          have h1:=(List.getElem?_eq_some_iff.1 hi).1;have h2:=(List.getElem?_eq_some_iff.1 hi').1;rw[length_append,hl0,length_singleton]at h1 h2;by_cases c1:i<j
          · rw[hget i c1]at hi;by_cases c2:i'<j
            · rw[hget i' c2]at hi';exact hn.st.inj i i' b q q' hi hi'
            · obtain rfl:i'=j:=by omega
              rw[hgetj]at hi';cases hi';have:=hn.st.inj i id b q q' hi hB;omega
          · obtain rfl:i=j:=by omega
            rw[hgetj]at hi;cases hi;by_cases c2:i'<i
            · rw[hget i' c2]at hi';have:=hn.st.inj i' id b q' q hi' hB;omega
            · omega
        lt:=fun b hb=>hn.st.lt b (hown b hb)
        off:=fun b hb=>hn.st.off b (hown b hb)
        ilt:=hn.st.ilt
        objs:=fun i o C hio hC=>by
          have h1:=(List.getElem?_eq_some_iff.1 hC).1;rw[length_append,hl0,length_singleton]at h1;by_cases c1:i<j
          · rw[hget i c1]at hC;rw[getElem?_append_left (by omega)]at hio;have hlo:=fE ho o (mem_of_getElem? hio);rw[getElem?_take_of_lt c1]at hio;exact(hn.st.objs i o C hio hC).monoK hE hlo
          · obtain rfl:i=j:=by omega
            rw[hgetj]at hC;rw[getElem?_append_right (by omega),hHl,Nat.sub_self]at hio;simp at hio;cases hC;subst hio
            exact hob.monoK hE trivial}
  · rw [aE.get_cons]at hx;split at hx
    · rename_i e;subst e;cases hx;obtain⟨v,hv,hr⟩:=hn.env _ _ ht;refine⟨v,hv,?_⟩
      cases hr with
      | @vec _ _ _ _ _ C _ h1 h2 h3 h4=>
        rw[hB]at h1;cases h1;exact .vec hgetj h2 h3 h4
    · cases hx
end
theorem LR {env:aE}{t m id i k:Nat}{f:α->PV}{v:α}(h:env.get t=some (.vec m id (l.map f).length 0 k)):env.get t=some (.vec m id ((l.set i v).map f).length 0 k):=by simpa using h
theorem wD {f:α->PV}(h:decide (off+k<=l.length)=true):(l.map f).length=((kH l off k z).map f).length:=by
 rw[length_map,length_map,tR (of_decide_eq_true h)]
theorem GN {f:α->PV}(hg:∀v,(g v).shift d=g v)(m:List (α×β)):((ar f g m).map fun e=>(e.1,LV.shift d e.2))=ar f g m:=by
 unfold ar;rw[List.map_map]
 exact List.map_congr_left fun e _=>by simp[hg]
theorem LC.frameX {x x':LV}(h:LC P f qs [] (Is x H0))(hc:fI H ls qs)(hd:dq H=some d)(hx:LV.shift d x=x')(hH:H++H0.map (ab.shift d)=H') :
  LC P f ls H (Is x' H'):=by
 subst hx hH;exact LC.frameG h hc hd
def Ob :LV->Bool
 |.zs=>true
 |.p _=>true
 |_=>false
theorem aH.flat {μ ν:List ci}{c:LV}(h:aH μ I w c v)(hf:Ob c=true):aH ν I w c v:=by
 cases h with
 |zs=>exact .zs
 |p h=>exact .p h
 |_=>cases hf
theorem fI.consZ (hr:fI H ls qs):fI H (.zs::ls) (.zs::qs):=fun μ I w vs hs hv=>by
 cases vs with
 |nil=>exact hv.elim
 |cons v r=>exact⟨hv.1.flat rfl,hr μ I w r hs hv.2⟩
open Go.ChangeMaps (setBlock)
theorem En (hborn:∀(i:Nat) (e:MapEntry),ms[i]?=some e->e.born=i){e:MapEntry}(he:e∈(leftOf ms seen.toArray).toList):∃j,ms[j]?=some e/\e.born=j/\j∉seen:=by
 unfold leftOf at he;rw[Array.toList_filter,List.mem_filter]at he;obtain⟨h1,h2⟩:=he;obtain⟨j,hj,rfl⟩:=mem_iff_getElem.1 h1
 have hj2:ms[j]?=some (ms.toList[j]):=by rw[<-Array.getElem?_toList];exact getElem?_eq_getElem hj
 have hb:=hborn j _ hj2;refine⟨j,hj2,hb,?_⟩;rw[hb]at h2;simpa using h2
theorem D6 (hborn:∀(i:Nat) (e:MapEntry),ms[i]?=some e->e.born=i)(h:(leftOf ms seen.toArray).size=0):∀j,j<ms.size->j∈seen:=by
 intro j hj;have h1:leftOf ms seen.toArray=#[]:=Array.eq_empty_of_size_eq_zero h;unfold leftOf at h1;rw[Array.filter_eq_empty_iff]at h1;have hj2:ms[j]?=some ms[j]:=Array.getElem?_eq_getElem hj;have h2:=h1 ms[j] (Array.getElem_mem hj);rw[hborn j _ hj2]at h2;simpa using h2
section
variable {P : Program} {o : Oper} {env : aE} {H H' : List ab} {t : TypeId} {x : Operand} {id k d n : Nat} {es : List (PV × LV)}
theorem aa.rangeMap (ho:o.op=.range t x)(hx:bf env x=some (.map id))(hH:br H id=some (.map es))(hn:dq es=some n)(hT:CZ P t=true)(hd:dq H=some d)(hH':jF H (.iter (.map id) n [])=some H'):aa P o env H (Is (.ptr d 0) H'):=
 aa.step fun a w μ I hs he=>by
  have hd':=cd hd;have hn':=cd hn;have hH2:=dC hH';subst hH2;have hr:=he.ev (x:=x) (by simp[ho,Op.operands]) hx;obtain⟨b,ms,clock,hv,hid,hb,hl,hrep,hclock,hborn⟩:=f9 hs hr hH
  obtain⟨hs',hE⟩:=hs.push (.mapIter (some b) n #[] n) (.iter (.map id) n []) 0 fun μ' w' hE hb'=>.iter hb' (.map (by
   obtain⟨B',h1,-,-,h4⟩:=hE.get id _ (List.getElem?_eq_some_iff.1 hid).1 hid;have e:=h4 rfl (by simp);subst e
   exact h1))
  refine⟨.pointer (some ⟨w.heap.size,0,none⟩),_,_,?_,hs',.ptr ?_,hE⟩
  ·unfold CZ at hT;split at hT
   ·rename_i k e hu;have hg:=en (P:=P) hb
    have hc:clock=n:=by omega
    subst hc;simp only[execOp,ho,hv,Instr.range,Sem.run_bind,run_underlying hu,hg,Result.andThen_ok,Sem.run_pure];simp[newObj,Sem.run]
   ·cases hT
  ·rw[getElem?_append_right (by rw[hs.len];omega),hd',hs.len];simp
def IR (k id n:Nat)(seen:List Nat)(H:List ab)(x:LV)(H':List ab):Prop:=
 ((∀j,j<n->j∈seen)/\x=.tup [.p (.bool false)]/\H'=H)\/∃j,j<n/\j∉seen/\x=.tup [.p (.bool true),.any,.any]/\H'=H.set k (.iter (.map id) n (seen++[j]))
theorem aa.nextMap (ho:o.op=.next x false)(hx:bf env x=some (.ptr k 0))(hk:br H k=some (.iter (.map id) n seen))(hH:br H id=some (.map es))(hn:dq es=some n):aa P o env H (IR k id n seen H):=by
 intro a w μ I hs he K Q hK;have hn':=cd hn;have hr:=he.ev (x:=x) (by simp[ho,Op.operands]) hx;rw[bj]at hk;generalize hv:a.eval x=v at hr
 cases hr with
 |@ptr _ _ r hid=>
 have hob:=hs.objs k _ _ hk hid
 cases hob with
 |@iter _ _ _ _ bm hb hxm=>
 obtain⟨b,ms,clock,hvm,hidm,hbm,hl,hrep,hclock,hborn⟩:=f9 hs hxm hH;cases hvm
 have hold:∀y∈ms.toList,y.born<n:=fun y hy=>by
  obtain⟨j,hj,rfl⟩:=mem_iff_getElem.1 hy
  have hj2:ms[j]?=some (ms.toList[j]):=by rw[<-Array.getElem?_toList];exact getElem?_eq_getElem hj
  rw[hborn j _ hj2]
  have:j<ms.size:=by simpa using hj
  omega
 have hrun:=run_next_at (P:=P) w o.type r b n n seen.toArray ms clock hb hbm hold (le_refl _);rcases hrun with⟨h0,hrun⟩|⟨e,he2,w1,hw1,hrun⟩
 ·unfold Oper.wp
  have hx:(execOp a.eval o).run P w=.ok (.value (.tuple #[.bool false])) w:=by
   simp only[execOp,ho,hv,Sem.run_bind,hrun,Result.andThen_ok,Sem.run_pure]
  rw[hx];refine hK _ H _ w μ I (.inl ⟨fun j hj=>D6 hborn h0 j (by omega),rfl,rfl⟩) hs (.tup Z fun i c v hc hv=>?_)<|.refl _ _ _ _<|le_refl _
  match i with
  |0=>cases hc;cases hv;exact .p .bool
  |i+1=>simp at hc
 ·obtain⟨j,hj1,hj2,hj3⟩:=En hborn he2;have hjl:j<ms.size:=(Array.getElem?_eq_some_iff.1 hj1).1
  have hheap:w1.heap=w.heap:=by rcases hw1 with rfl|rfl <;>rfl
  have hrl:r<w.heap.size:=(Array.getElem?_eq_some_iff.1 hb).1
  have hset:∀c,c≠r->(setBlock w1 r (.mapIter (some b) n (seen.toArray.push e.born) clock)).heap[c]?=w.heap[c]?:=fun c hc=>by
   unfold setBlock;simp only;rw[Array.getElem?_setIfInBounds_ne (fun e=>hc e.symm),hheap]
  have hself:(setBlock w1 r (.mapIter (some b) n (seen.toArray.push e.born) clock)).heap[r]?=some (.mapIter (some b) n (seen.toArray.push e.born) clock):=by
   unfold setBlock;simp only;rw[Array.getElem?_setIfInBounds_self_of_lt (by rw[hheap];exact hrl)]
  obtain⟨hs',hE⟩:=hs.write (w':=setBlock w1 r (.mapIter (some b) n (seen.toArray.push e.born) clock)) (o:=.iter (.map id) n (seen++[j])) hid hset (by unfold setBlock;simp[hheap])
   (by rcases hw1 with rfl|rfl <;>rfl) (by rcases hw1 with rfl|rfl <;>rfl) (by rcases hw1 with rfl|rfl <;>rfl) (fun c e f hc=>by rw[hb]at hc;cases hc) (fun hE=>by
    have hc:clock=n:=by omega
    have e1:(seen.toArray.push e.born)=(seen++[j]).toArray:=by rw[hj2];simp
    have e2:(Obj.mapIter (some b) n (seen.toArray.push e.born) clock)=Obj.mapIter (some b) n (seen++[j]).toArray n:=by rw[hc,e1]
    exact .iter (hself.trans (congrArg some e2)) (.map hidm))
  unfold Oper.wp
  have hx:(execOp a.eval o).run P w=.ok (.value (.tuple #[.bool true,e.key,e.val])) (setBlock w1 r (.mapIter (some b) n (seen.toArray.push e.born) clock)):=by
   simp only[execOp,ho,hv,Sem.run_bind,hrun,Result.andThen_ok,Sem.run_pure]
  rw[hx];refine hK _ _ _ _ μ I (.inr ⟨j,by omega,hj3,rfl,rfl⟩) hs' (.tup Z fun i c v hc hv=>?_) hE
  match i with
  |0=>cases hc;cases hv;exact .p .bool
  |1=>cases hc;exact .any
  |2=>cases hc;exact .any
  |i+3=>simp at hc
theorem aa.entryMap {c:PV×LV}(ho:o.op=.entry x)(hx:bf env x=some (.ptr k 0))(hk:br H k=some (.iter (.map id) n (seen++[j])))(hH:br H id=some (.map es))(hn:dq es=some n)(hj:es[j]?=some c) :
  aa P o env H (Is (.tup [.p c.1,c.2]) H):=
 aa.val fun a w μ I hs he=>by
  have hn':=cd hn;have hr:=he.ev (x:=x) (by simp[ho,Op.operands]) hx;rw[bj]at hk;generalize hv:a.eval x=v at hr
  cases hr with
  |@ptr _ _ r hid=>
  have hob:=hs.objs k _ _ hk hid
  cases hob with
  |@iter _ _ _ _ bm hb hxm=>
  obtain⟨b,ms,clock,hvm,hidm,hbm,hl,hrep,hclock,hborn⟩:=f9 hs hxm hH;cases hvm;have hjl:=(List.getElem?_eq_some_iff.1 hj).1;have hjm:ms[j]?=some ms[j]:=Array.getElem?_eq_getElem (by omega);have hbj:=hborn j _ hjm
  have e1:(seen++[j]).toArray=seen.toArray.push ms[j].born:=by rw[hbj];simp
  have hc:n=clock:=by omega
  have hb':=hb;rw[e1]at hb'
  have hnd:(ms.toList.map (·.born)).Nodup:=by
   have:ms.toList.map (·.born)=range ms.size:=by
    apply ext_getElem?;intro i;rw[getElem?_map,Array.getElem?_toList];by_cases hi:i<ms.size
    ·rw[Array.getElem?_eq_getElem hi,List.getElem?_range hi];simp[hborn i _ (Array.getElem?_eq_getElem hi)]
    ·rw[Array.getElem?_eq_none (by omega),getElem?_eq_none (by simpa using hi)];rfl
   rw[this];exact nodup_range
  have hrun:=run_entry_at (P:=P) w r b n seen.toArray ms clock ms[j] (hb'.trans (congrArg (fun z=>some (Obj.mapIter (some b) n (seen.toArray.push ms[j].born) z)) hc)) hbm (by simp) hnd;refine⟨.tuple #[ms[j].key,ms[j].val],?_,.tup Z fun i q v hq hv=>?_⟩
  ·simp only[execOp,ho,hv,Sem.run_bind,hrun,Result.andThen_ok,Sem.run_pure]
  ·have hrp:=hrep j c _ hj hjm
   match i with
   |0=>cases hq;cases hv;exact .p hrp.1
   |1=>cases hq;cases hv;exact hrp.2
   |i+2=>simp at hq
end
def iN {D:Type}(step:Nat->D->Option D):List Nat->D->Option D
 |[],d=>some d
 |j::r,d=>match step j d with
  |some d'=>iN step r d'
  |none=>none
theorem i8 {D:Type}(step:Nat->D->Option D):∀(s t:List Nat) (d:D),iN step (s++t) d=match iN step s d with|some d'=>iN step t d'|none=>none
 |[],_,_=>rfl
 |j::r,t,d=>by
  show(match step j d with|some d'=>iN step (r++t) d'|none=>none)=match (match step j d with|some d'=>iN step r d'|none=>none)with|some d'=>iN step t d'|none=>none
  cases step j d with
  |none=>rfl
  |some d'=>exact i8 step r t d'
theorem vI {D:Type}{step:Nat->D->Option D}{d:D}:iN step [j] d=step j d:=by
 show(match step j d with|some d'=>iN step [] d'|none=>none)=_;cases step j d <;>rfl
def Ki (n:Nat)(s:List Nat):List Nat:=(range n).filter fun j=> !s.contains j
theorem ux (hn:s.Nodup)(hl:∀j∈s,j<n):(s++Ki n s).Perm (range n):=by
 unfold Ki
 have h1:(((range n).filter fun j=>s.contains j)++(range n).filter fun j=> !s.contains j).Perm (range n):=by
  exact List.filter_append_perm _ _
 refine(List.Perm.append_right _ ?_).trans h1;refine(List.perm_ext_iff_of_nodup hn (nodup_range.filter _)).2 fun j=>?_;rw[List.mem_filter,mem_range];simp only[List.contains_iff_mem];exact⟨fun h=>⟨hl j h,h⟩,fun h=>h.2⟩
theorem Ek (hn:s.Nodup)(hl:∀j∈s,j<n)(h:∀j,j<n->j∈s):s.Perm (range n):=
 (List.perm_ext_iff_of_nodup hn nodup_range).2 fun j=>⟨fun h2=>mem_range.2 (hl j h2),fun h2=>h j (mem_range.1 h2)⟩
theorem rK {f:α->PV}(m:List (α×β)):dq (ar f g m)=some m.length:=by
 have:∀l:List (PV×LV),dq l=some l.length:=by
  intro l
  induction l with
  |nil=>rfl
  |cons x r ih=>simp[dq,ih]
 rw[this];simp[ar]
theorem GO {f:α->PV}{m:List (α×β)}{y:α×β}(h:m[j]?=some y):(ar f g m)[j]?=some (f y.1,g y.2):=by
 unfold ar;rw[getElem?_map,h];rfl
theorem MC {A R:Type}{X:Option A}{f:A->Option R}{a:A}{r:R}(h:X.bind f=some r)(hX:X=some a):f a=some r:=by
 subst hX;exact h
section
variable {P : Program} {nn k : Nat} {env : aE} {H : List ab} {Q : Exit -> aE -> List ab -> Prop} {D : Type}
structure ww (step:Nat->D->Option D)(n:Nat)(d0:D)(s:List Nat)(d:D):Prop where
 nodup:s.Nodup
 lt:∀j∈s,j<n
 came:iN step s d0=some d
theorem ww.next {step:Nat->D->Option D}{d0 d:D}(h:ww step n d0 s d)(hall:∀ord:List Nat,ord.Perm (range n)->∃z,iN step ord d0=some z)(hj:j<n)(hs:j∉s) :
  ∃d',step j d=some d'/\ww step n d0 (s++[j]) d':=by
 have hn:(s++[j]).Nodup:=List.nodup_append.2 ⟨h.nodup,by simp,fun a ha b hb=>by rw[mem_singleton]at hb;subst hb;exact fun e=>hs (e▸ha)⟩
 have hl:∀i∈s++[j],i<n:=fun i hi=>(List.mem_append.1 hi).elim (h.lt i) fun hi=>by rw[mem_singleton]at hi;omega
 obtain⟨z,hz⟩:=hall _ (ux hn hl);rw[i8,i8,h.came]at hz;simp only[vI]at hz
 cases hd:step j d with
 |none=>rw[hd]at hz;cases hz
 |some d'=>
  refine⟨d',rfl,hn,hl,?_⟩;rw[i8,h.came];simp only[vI];exact hd
theorem LW.mapLoop {c:Code}{step:Nat->D->Option D}{d0:D}(E:D->List Nat->aE)(O:D->List Nat->List ab)(hall:∀ord:List Nat,ord.Perm (range n)->∃z,iN step ord d0=some z)(hw:dW k (E d0 []) (O d0 []) env H)
  (round:∀d s,ww step n d0 s d->LW P nn k c (E d s) (O d s) (wZ (fun env' H'=>∃j d',j<n/\j∉s/\step j d=some d'/\dW k (E d' (s++[j])) (O d' (s++[j])) env' H') Q)):LW P nn k (.loop c) env H Q:=by
 refine LW.loopOf (α:=D×List Nat) (fun x=>E x.1 x.2) (fun x=>O x.1 x.2) (fun x=>ww step n d0 x.2 x.1) (fun x=>n-x.2.length) (d0,[]) hw ⟨by simp,by simp,rfl⟩ ?_;rintro⟨d,s⟩ hS;refine(round d s hS).mono fun e env' H' q=>?_
 cases e with
 | normal=>
  obtain⟨j,d',hj,hs,hd,hw'⟩:=q;obtain⟨d2,h2,hS2⟩:=hS.next hall hj hs;rw[hd]at h2;cases h2;refine⟨(d',s++[j]),?_,hS2,hw'⟩
  have hlen:(s++[j]).length<=n:=by
   have h3:=(ux hS2.nodup hS2.lt).length_eq;rw[length_append,List.length_range]at h3;simp only at h3;omega
  simp only[length_append,length_singleton]at hlen⊢;omega
 |_=>exact q
theorem LW.mapTail {x:Code}{G:D->List Nat->Prop}(E:D->List Nat->aE)(O:D->List Nat->List ab)(h:LW P nn k x env H (wZ (fun env' H'=>∃d s,G d s/\dW k (E d s) (O d s) env' H') Q))(hy:∀d s,G d s->∀env' H',dW k (E d s) (O d s) env' H'->Q .normal env' H'):LW P nn k x env H Q:=
 h.mono fun e env' H' q=>by
  cases e with
  |normal=>
   obtain⟨d,s,hg,hw⟩:=q;exact hy d s hg _ _ hw
  |_=>exact q
theorem ww.all {step:Nat->D->Option D}{d0 d:D}(h:ww step n d0 s d)(ha:∀j,j<n->j∈s):ww step n d0 s d/\s.Perm (range n):=⟨h,Ek h.nodup h.lt ha⟩
end
section
variable {μ : List ci} {I : Nat -> Prop} {w : World} {H : List ab}
theorem St.writeG (hs:St μ I w H){id b n:Nat}{o:ab}(hid:μ[id]?=some ⟨some b,n⟩)(hk:∀c,c<w.heap.size->c≠b->w'.heap[c]?=w.heap[c]?)(hsz:w.heap.size<=w'.heap.size)
    (hos:w'.os=w.os) (htp:w'.tape=w.tape) (hout:w'.output=w.output)
    (hsh:∀c e f,w.heap[b]?=some (.cells c e f)->∃c',w'.heap[b]?=some (.cells c' e f)/\c'.size=c.size)
    (ho:cI μ.length μ I w μ I w'->dN μ I w' o ⟨some b,n⟩):St μ I w' (H.set id o)/\cI μ.length μ I w μ I w':=by
  have hbm:gC μ b:=.mk hid
  have hE:cI μ.length μ I w μ I w':=
    { get:=fun _ B _ h=>⟨B,h,le_refl _,fun _=>.inl rfl,fun _ _=>rfl⟩
      len:=le_refl _
      len':=le_refl _
      os:=hos
      tape:=htp
      output:=hout
      size:=hsz
      imm:=fun c hc=>⟨hc,hk c (hs.ilt c hc) fun e=>hs.off b hbm (e▸hc)⟩
      shape:=fun c cs e f hc=>by
        by_cases hcb:c=b
        · subst hcb;exact hsh cs e f hc
        · exact⟨cs,by rw[hk c (Array.getElem?_eq_some_iff.1 hc).1 hcb];exact hc,rfl⟩
      inew:=fun _ h=>.inl h
      mnew:=fun _ h=>.inl h
      keep:=fun c hl hc=>hk c hl fun e=>hc (e▸hbm)}
  refine⟨{ len:=by simp[hs.len],inj:=hs.inj,lt:=fun c hc=>by have:=hs.lt c hc;omega,off:=hs.off,ilt:=fun c hc=>by have:=hs.ilt c hc;omega,objs:=?_},hE⟩;intro i ob c hob hc;rw[getElem?_set]at hob;split at hob
  · rename_i e;subst e;split at hob
    · cases hob;rw[hid]at hc;cases hc;exact ho hE
    · cases hob
  · rename_i hne;refine(hs.objs i ob c hob hc).ext hE fun d hd=>?_;obtain⟨cb,cn⟩:=c;simp only at hd;subst hd
    exact hk d (hs.lt d (.mk hc)) fun e=>by subst e;exact hne<|hs.inj id i _ _ _ hid hc
end
def gU {α:Type}(l:List α)(k:Nat)(ys:List α):List α:=l.take k++ys++l.drop (k+ys.length)
theorem Aq {l ys:List α}(h:k+ys.length<=l.length):(gU l k ys).length=l.length:=by
 unfold gU;simp;omega
theorem Ar (l:List α)(k:Nat):gU l k []=l:=by unfold gU;simp
section
variable {P : Program} {o : Oper} {env : aE} {H : List ab} {α : Type} {f : α -> PV}
theorem aa.appendP {xs ys:List α}{l:LV}{zs:List PV}(ho:o.op=.call { callee:=.builtin .append,args:=#[x,y],argTypes:=#[t,t]})(hx:bf env x=some (.vec m id (xs.map f).length 0 k))
  (hH:br H id=some (.vec m (xs.map f))) (hE:∀a,kJ m [f a]=true) (hy:bf env y=some l) (hc:iy H l m zs) (hz:zs=ys.map f) (hT:dn P t=some (m,bytes)) (hk:decide (k+ys.length<=xs.length)=true)
  (hH':bK H id (.vec m ((gU xs k ys).map f))=some H'):aa P o env H (Is (.vec m id ((gU xs k ys).map f).length 0 (k+ys.length)) H'):=
 aa.step fun a w μ I hst he=>by
  subst hz;have hk:=of_decide_eq_true hk;have hr:=he.ev (x:=x) (by simp[ho,Op.operands,Call.operands]) hx;have hry:=he.ev (x:=y) (by simp[ho,Op.operands,Call.operands]) hy;generalize hv:a.eval x=v at hr;generalize hvy:a.eval y=vy at hry;obtain⟨e3,e4⟩:=bH hH';subst e3;have hE':∀a,(f a).cells.length=m/\∀c∈(f a).cells,c.one:=fun a=>fk (hE a) _ (.head _);have hEl:∀l':List α,b9 m (l'.map f):=fun l'=>b9.map hE' l';obtain⟨hyel,a2,cap2,rfl,hnews⟩:=hc μ I w _ hst hry;rw[length_map]at hvy;have hlen:=Aq (l:=xs) (ys:=ys) (k:=k) hk;obtain⟨B,hid,hBn,hob,hf⟩:=kD hst hH (by rw[length_map]) hr
  have hex:∀{v' w'},(Builtin.append_ #[t,t] o.type #[v,.slice a2 ys.length cap2]).run P w=.ok v' w'->(execOp a.eval o).run P w=.ok (.value v') w':=fun h=>by
   refine kr ho ?_;rw[hv,hvy];exact h
  rcases Nat.eq_zero_or_pos ys.length with h0|h0
  ·have hy0:ys=[]:=List.eq_nil_of_length_eq_zero h0;subst hy0
   have hset:H.set id (.vec m ((gU xs k ([]:List α)).map f))=H:=by
    rw[Ar];rw[bj]at hH;have e2:=(List.getElem?_eq_some_iff.1 hH).1;apply ext_getElem?;intro j;rw[getElem?_set];split
    ·rename_i e;subst e;first|exact hH.symm|(rw[i1_ e2];exact hH.symm)
    ·rfl
   have hbase:∃base cap,v=.slice base k cap/\k<=cap:=by
    rcases hf with⟨h0,⟨b,hv⟩,-⟩|⟨b,cap,hB,hv,hlc,hmax,-⟩
    ·exact⟨b,0,by rw[hv,h0],by omega⟩
    ·exact⟨_,cap,hv,by omega⟩
   obtain⟨base,cap,rfl,hnc⟩:=hbase;have hrun:=mH (P:=P) (w:=w) (ty:=o.type) hT base a2 k cap cap2 hnc;refine⟨_,w,μ,hex hrun,by rw[hset];exact hst,?_,cI.refl _ _ _ _ (le_refl _)⟩;rw[Ar];simpa using hr
  ·obtain⟨e,i,zz,hu,hi',hzz,hzs,hm1,hby,hpos⟩:=cA hT;obtain⟨b2,off2,news,rfl,hnl,hnc2,hn1,hnr⟩:=hnews hpos (by intro h;rw[List.map_eq_nil_iff]at h;subst h;simp at h0);rw[length_map]at hnl;obtain⟨Bb,Bn⟩:=B;simp only at hBn;subst hBn;rcases hf with⟨h1,-,h2⟩|⟨b,cap,hB,hvv,hlc,hmax,c',e',hb',hsz⟩
   ·have:=h2 rfl;rw[length_map]at this;omega
   simp only at hB;subst hB;subst hvv;obtain⟨vs,e2,hb,hvl,hne,hrep⟩:=qZ hob
   have hvs:vs=c':=by rw[hb]at hb';cases hb';rfl
   rw[<-hvs]at hsz;rw[length_map]at hvl hsz
   have hcx:xs.length<=cap:=by omega
   have hmul:m*(k+ys.length)<=m*xs.length:=mul_le_mul_left _ hk;rw[mul_add]at hmul
   have hnl':news.length=m*ys.length:=by rw[hnl,mul_comm]
   have hrun:=lN (P:=P) (w:=w) (ty:=o.type) hT b k cap vs hb ⟨b2,off2,none⟩ ys.length cap2 news hnl hnc2 hn1 (by omega) (by rw[hnl',mul_comm k];omega);rw[mul_comm k]at hrun;rw[bj]at hH;have hfl:=cF (hEl xs);rw[length_map]at hfl;have hfy:=cF (hEl ys);rw[length_map]at hfy
   have hflat:∀q,(flat ((gU xs k ys).map f))[q]?=if q<m*k then(flat (xs.map f))[q]? else if q<m*k+m*ys.length then(flat (ys.map f))[q-m*k]? else(flat (xs.map f))[q]?:=by
    intro q;unfold gU;rw[map_append,map_append,List.map_take,List.map_drop,iM,iM,lw _ (hEl xs),jj _ (hEl xs)];by_cases h1:q<m*k
    ·rw[i1_ h1,append_assoc,getElem?_append_left (by rw[length_take];omega),getElem?_take_of_lt h1]
    ·rw[i0_ h1];by_cases h2:q<m*k+m*ys.length
     ·rw[i1_ h2,append_assoc,getElem?_append_right (by rw[length_take];omega),getElem?_append_left (by rw[length_take,hfy];omega),length_take,show Min.min (m*k) (flat (xs.map f)).length=m*k by omega]
     ·rw[i0_ h2,getElem?_append_right (by rw[length_append,length_take,hfy];omega),length_append,length_take,hfy,getElem?_drop,mul_add,
       show m*k+m*ys.length+(q-(Min.min (m*k) (flat (xs.map f)).length+m*ys.length))=q by omega]
   obtain⟨hs',hEx⟩:=r7 hst (off:=m*k) (news:=news) (xs':=(gU xs k ys).map f) hid hH hb (by rw[length_map];exact hvl) hne (by rw[length_map,length_map,hlen]) (hEl _) hrep (by rw[hnl'];omega)
    (fun q c hc hq=>by
     rw[hflat q]at hc;rw[hnl']at hq;split at hc
     ·exact hc
     ·split at hc
      ·omega
      ·exact hc)
    (fun q c u hc hu=>by
     have hql:=(List.getElem?_eq_some_iff.1 hu).1;rw[hnl']at hql;rw[hflat,i0_ (by omega),i1_ (by omega),show m*k+q-m*k=q by omega]at hc
     exact hnr q c u hc hu)
   rw[mul_zero]at hv;refine⟨_,_,μ,hex (by rw[mul_zero];exact hrun),hs',?_,hEx⟩;have hself:=setRow_heap w b vs (vs.toList.take (m*k)++news++vs.toList.drop (m*k+news.length)).toArray _ (0,0) hb;refine .vec hid Z (by rw[length_map,hlen,length_map];exact le_refl _) fun _=>.inr ⟨b,cap,rfl,by rw[mul_zero],by omega,hmax,_,_,hself,by rw[length_map];omega,?_⟩
   have h9:m*k+news.length<=vs.size:=by rw[hnl'];omega
   have h8:(vs.toList.take (m*k)++news++vs.toList.drop (m*k+news.length)).toArray.size=vs.size:=by simp;omega
   rw[h8];exact hsz.2
theorem aa.sliceV3 {x hi mx:Operand}{l:List α}{k k':IntKind}(ho:o.op=.slice t x none (some hi) (some mx))(hx:bf env x=some (.vec m id (l.map f).length 0 (l.map f).length))
  (hhi:bf env hi=some (.p (.int k (l.length:Int)))) (hmx:bf env mx=some (.p (.int k' (l.length:Int)))) (hH:br H id=some (.vec m (l.map f))) (hT:dn P t=some (m,bytes)):aa P o env H (Is (.vec m id (l.map f).length 0 (l.map f).length) H):=
 aa.val fun a w μ I hst he=>by
  have hr:=he.ev (x:=x) (by simp[ho,Op.operands]) hx;have hrh:=he.ev (x:=hi) (by simp[ho,Op.operands]) hhi;have hrm:=he.ev (x:=mx) (by simp[ho,Op.operands]) hmx;generalize hv:a.eval x=v at hr;generalize hvh:a.eval hi=vh at hrh;generalize hvm:a.eval mx=vm at hrm
  cases hrh with
  | p h1=>cases h1 with
   | int h1=>cases hrm with
    |p h2=>cases h2 with
     |int h2=>
  obtain⟨e,i,zz,hu,hi',hz0,hzs,rfl,rfl,hpos⟩:=cA hT;obtain⟨B,hid,hBn,hob,hf⟩:=kD hst hH rfl hr;generalize hn:(l.map f).length=n at hf hBn⊢;rw[length_map]at hn;subst hn
  have hb:∀cap:Nat,l.length<=cap->(Instr.sliceBounds true l.length cap none (some (.int k l.length)) (some (.int k' l.length))).run P w=.ok (0,l.length,l.length) w:=by
   intro cap hcap;simp[Instr.sliceBounds,Instr.sliceBound,asIntOf,show(l.length:Int)<=(cap:Int) by omega]
  rcases hf with⟨h0,⟨ad,rfl⟩,hz0⟩|⟨b,cap,hB,rfl,hlc,hmax,c,e',h3,h4,h5⟩
  ·have hb':=hb 0 (by omega);rw[h0]at hb';refine⟨.slice ad 0 0,?_,.vec hid Z (by omega) fun _=>.inl ⟨h0,⟨ad,rfl⟩,hz0⟩⟩;simp only[execOp,ho,hv,hvh,hvm,map_none,map_some,Instr.sliceAt];rw[h0];simp at hb';simp[run_underlying hu,Instr.slice,hb',sizeOf,typeInfo,hi']
  ·refine⟨.slice (some ⟨b,i.size*0,none⟩) l.length l.length,?_,.vec hid Z (by omega) fun _=>.inr ⟨b,l.length,hB,rfl,le_refl _,by omega,c,e',h3,by omega,le_trans (mul_le_mul_left _ (by omega)) h5⟩⟩;simp only[execOp,ho,hv,hvh,hvm,map_none,map_some,Instr.sliceAt];simp[run_underlying hu,Instr.slice,hb cap hlc,sizeOf,typeInfo,hi',Addr.add]
end
section
variable {P : Program} {o : Oper} {env : aE} {H : List ab} {α : Type} {f : α -> PV}
theorem aa.capZ (ho:o.op=.call { callee:=.builtin .cap,args:=#[x],argTypes:=#[t]})(hx:bf env x=some .zs)(hT:dn P t=some (m,bytes)):aa P o env H (Is (.p (.int .i64 0)) H):=
 aa.val fun a w μ I hst he=>by
  have hr:=he.ev (x:=x) (by simp[ho,Op.operands,Call.operands]) hx;generalize hv:a.eval x=v at hr;obtain⟨e,i,zz,hu,hi',hzz,hzs,rfl,rfl,hpos⟩:=cA hT;cases hr;refine⟨goInt (0:Nat),?_,.p (.int (by unfold aU;decide))⟩;simp only[execOp,ho,resolve,invoke,builtin,Sem.run_bind,Sem.run_pure,Result.andThen_ok,map_toArray,map_cons,map_nil,hv];simp[Builtin.cap_,run_underlying hu]
theorem aa.sliceZ0 {k:IntKind}(ho:o.op=.slice t x none (some hi) none)(hx:bf env x=some .zs)(hhi:bf env hi=some (.p (.int k 0)))(hT:dn P t=some (m,bytes)):aa P o env H (Is .zs H):=
 aa.val fun a w μ I hst he=>by
  have hr:=he.ev (x:=x) (by simp[ho,Op.operands]) hx;have hrh:=he.ev (x:=hi) (by simp[ho,Op.operands]) hhi;generalize hv:a.eval x=v at hr;generalize hvh:a.eval hi=vh at hrh;obtain⟨e,i,zz,hu,hi',hzz,hzs,rfl,rfl,hpos⟩:=cA hT
  cases hr with
  |@zs ad=>
  cases hrh with
  |p h1=>cases h1 with
   |int h1=>
  refine⟨.slice ad 0 0,?_,.zs⟩
  have hb:(Instr.sliceBounds true 0 0 none (some (.int k 0)) none).run P w=.ok (0,0,0) w:=by simp[Instr.sliceBounds,Instr.sliceBound,asIntOf]
  simp only[execOp,ho,hv,hvh,map_none,map_some,Instr.sliceAt];simp[run_underlying hu,Instr.slice,hb,sizeOf,typeInfo,hi']
theorem rT (w:World)(t tn ty e:TypeId)(i:TypeInfo)(z:Value)(k kn:IntKind)(ad:Option Addr)(ht:P.underlying t=some (.slice e))(htn:P.underlying tn=some (.int kn))(hi:P.info? e=some i)(hz:i.zero=some z)
  (n:Nat) (h0:0<n) (hs:0<i.size) (h63:(n:Int)<=9223372036854775807) (h48:n*i.bytes<=281474976710656) :
  (Builtin.append_ #[t,tn] ty #[.slice ad 0 0,.int k n]).run P w =
   .ok (.slice (some ⟨w.heap.size,0,none⟩) n (grownCap w n 0 e)) (w.drew.alloc (.cells (Builtin.zeroCells z.cells n++Builtin.zeroCells z.cells (grownCap w n 0 e-n)) e)):=by
 cases ad with
 |none=>exact Go.Lib.run_append_nil_zeros w t tn ty e i z k kn ht htn hi hz n h0 hs h63 h48
 | some b=>
  have hn:n≠0:=by omega
  have hw:i64.wrap (n:Int)=n:=by rw[IntKind.wrap_i64];omega
  have h63':¬(9223372036854775807<(n:Int)):=by omega
  have h48':¬(281474976710656<Builtin.nextslicecap n 0*i.bytes):=by rw[nextslicecap_zero h0];omega
  have h48i:¬(281474976710656<(n:Int)*(i.bytes:Int)):=by
   rw[<-Int.natCast_mul];omega
  have hneg:¬((n:Int)<0):=by omega
  have hns:¬(n*i.size=0):=Nat.mul_ne_zero hn (by omega);have hf:=run_firstCells_some (P:=P) w.drew i.size 0 b 0 0 [] (by simp) (by simp);simp[Builtin.append_,run_underlying ht,run_underlying htn,sizeOf,typeInfo,zeroValue,hi,hz,asInt,asIntOf,hw,hn,hneg,hns,h63',h48',h48i,Question.forced,hf,newRow,grownCap]
def HR (P:Program)(t:TypeId):Option (List LV):=
 match P.underlying t with
 | some (.slice e)=>match P.info? e with
  |some i=>match i.zero with
   |some z=>cy z.cells.toList
   |none=>none
  |none=>none
 |_=>none
def u6 :List LV->List PV->Prop
 |[],[]=>True
 |.p x::r,y::s=>x=y/\u6 r s
 |.zs::r,y::s=>(∃m,y=.slice m [])/\u6 r s
 |_,_=>False
theorem u6.get :∀{cs:List LV} {zs:List PV} {j:Nat} {p:PV},u6 cs zs->zs[j]?=some p->cs[j]?=some (.p p)\/cs[j]?=some .zs/\∃m,p=.slice m []
 |[],[],j,p,_,h=>by simp at h
 |c::r,y::s,0,p,h,hp=>by
  simp at hp;subst hp;cases c <;>simp_all [u6]
 |c::r,y::s,j+1,p,h,hp=>by
  have h2:u6 r s:=by cases c <;>simp_all [u6]
  simpa using u6.get h2 (by simpa using hp)
 |[],y::s,_,_,h,_=>by simp[u6]at h
 |c::r,[],_,_,h,hp=>by simp at hp
theorem aa.appendMake {t tn:TypeId}{n:Int}{kn:IntKind}{zs:List PV}(f:α->PV)(z0:α)(ho:o.op=.call { callee:=.builtin .append,args:=#[x,y],argTypes:=#[t,tn]})(hx:bf env x=some .zs)
  (hy:bf env y=some (.p (.int .i64 n))) (hT:dn P t=some (m,bytes)) (hTn:P.underlying tn=some (.int kn)) (hE:∀a,kJ m [f a]=true) (hz:HR P t=some cs) (hz0:eR (f z0)=some zs) (hfit:u6 cs zs) (hn:Ea n bytes=true) (hid:dq H=some id)
  (hH':jF H (.vec m ((replicate n.toNat z0).map f))=some H'):aa P o env H (Is (.vec m id ((replicate n.toNat z0).map f).length 0 ((replicate n.toNat z0).map f).length) H'):=
 aa.step fun a w μ I hs he=>by
  have hk:=of_decide_eq_true hn;have hr:=he.ev (x:=x) (by simp[ho,Op.operands,Call.operands]) hx;obtain⟨hyv,-⟩:=bE (he.ev (x:=y) (by simp[ho,Op.operands,Call.operands]) hy);generalize hv:a.eval x=vx at hr;obtain⟨e,i,zz,hu,hi',hzz,hzs,rfl,rfl,hpos⟩:=cA hT;have hE':∀a,(f a).cells.length=i.size/\∀c∈(f a).cells,c.one:=fun a=>fk (hE a) _ (.head _)
  have hzc:cy zz.cells.toList=some cs:=by
   unfold HR at hz;rw[hu]at hz;simp only[hi',hzz]at hz;exact hz
  obtain⟨N,rfl⟩:∃N:Nat,n=N:=⟨n.toNat,by omega⟩;rw[Int.toNat_natCast]at hH'⊢
  cases hr with
  |@zs ad=>
  have hH2:=dC hH';subst hH2;have hid':=cd hid;obtain⟨hs',hE1⟩:=hs.lazy i.size
  have hidm:(μ++[(⟨none,0⟩:ci)])[id]?=some ⟨none,0⟩:=by rw[hid',<-hs.len];simp
  have h48:N*i.bytes<=281474976710656:=le_trans (Nat.mul_le_mul (show N<=1000000 by omega) hk.2.2) (by decide);have hrun:=rT (P:=P) w t tn o.type e i zz .i64 kn ad hu hTn hi' hzz N (by omega) hpos (by omega) h48;obtain⟨cap,hcap⟩:∃cap,cap=grownCap w N 0 e:=⟨_,rfl⟩
  have hc1:N<=cap:=by have:=grownCap_ge w N 0 e;omega
  have hc2:cap<=maxLen:=by rw[hcap];exact grownCap_le_maxLen w N 0 e (by unfold maxLen;omega)
  obtain⟨blk,hblk⟩:∃blk,blk=Builtin.zeroCells zz.cells N++Builtin.zeroCells zz.cells (cap-N):=⟨_,rfl⟩;rw[<-hcap,<-hblk]at hrun
  have hbsz:blk.size=i.size*(0+cap):=by
   rw[hblk];simp[size_zeroCells,hzs];rw[<-Nat.add_mul,mul_comm];congr 1;omega
  have hnew:(w.drew.alloc (.cells blk e)).heap[w.heap.size]?=some (.cells blk e):=heap_alloc_new w.drew _;have hold:∀c,c<w.heap.size->(w.drew.alloc (.cells blk e)).heap[c]?=w.heap[c]?:=fun c hc=>heap_alloc_old w.drew _ hc;have hel:b9 i.size ((replicate N z0).map f):=b9.map hE' _
  have hll:((replicate N z0).map f).length=N:=by simp
  have hne:(replicate N z0).map f≠[]:=fun h=>by
   have:=congrArg List.length h;rw[hll]at this;simp at this;omega
  have hps:=gx hz0
  obtain⟨hs2,hE2⟩:=hs'.grow (w':=w.drew.alloc (.cells blk e)) (id:=id) (b:=w.heap.size) (n:=N) (o:=.vec i.size ((replicate N z0).map f)) hidm (by show 0<N;omega) (fun _=>rfl) (.inr (le_refl _)) (by show w.heap.size<(w.heap.push _).size;simp)
   (fun c hc _=>hold c hc) (by show w.heap.size<=(w.heap.push _).size;simp) rfl rfl rfl (fun c e f h=>by have:=(Array.getElem?_eq_some_iff.1 h).1;omega)
   (fun μ' hE=>by
    have:dN μ' I (w.drew.alloc (.cells blk e)) (.vec i.size ((replicate N z0).map f)) ⟨some w.heap.size,((replicate N z0).map f).length⟩:=by
     refine .vec hnew (by rw[hbsz,hll,zero_add];exact mul_le_mul_left _ hc1) hne hel fun j c u hcj hu=>?_;have hj:=(List.getElem?_eq_some_iff.1 hcj).1;rw[cF hel,hll]at hj;rw[List.map_replicate,rB hpos (hE' z0).1 N j (by rw[mul_comm];exact hj),<-hps]at hcj;have hmod:=Nat.mod_lt j hpos;obtain⟨h1,h2,h3⟩:=ca (μ:=μ') (I:=I) (w:=w.drew.alloc (.cells blk e)) hzc
     have hu1:zz.cells.toList[j % i.size]?=some u:=by
      rw[hblk,Array.getElem?_append_left (by rw[size_zeroCells,hzs,mul_comm];exact hj)]at hu;simp[Builtin.zeroCells,hzs]at hu;obtain⟨q',hq1,hq2⟩:=hu;rw[Array.getElem?_range]at hq1;split at hq1
      ·cases hq1;rw[<-hq2];simp[show j % i.size<zz.cells.size by omega]
      ·cases hq1
     rcases hfit.get hcj with h4|⟨h4,m,rfl⟩
     ·have:=h3 (j % i.size) (.p c) u h4 hu1
      cases this with|p h=>exact h
     ·have:=h3 (j % i.size) .zs u h4 hu1;cases this;exact .slice (fun _=>undef) Z (le_refl _) (zero_le _) .nil (fun i c h=>by simp[flat]at h) (fun i c h=>by simp[flat]at h)
    rwa [hll]at this)
  have e1:(H++[ab.vec i.size []]).set id (.vec i.size ((replicate N z0).map f))=H++[.vec i.size ((replicate N z0).map f)]:=by rw[hid',List.set_append_right _ _ (le_refl _)];simp
  rw[e1]at hs2;have hidl:=(List.getElem?_eq_some_iff.1 hidm).1;refine⟨.slice (some ⟨w.heap.size,0,none⟩) N cap,_,_,?_,hs2,?_,hE1.trans (hE2.weak (by simp))⟩
  ·simp only[execOp,ho,resolve,invoke,builtin,Sem.run_bind,Sem.run_pure,Result.andThen_ok,map_toArray,map_cons,map_nil,hv,hyv,hrun]
  ·rw[hll];exact .vec (List.getElem?_set_self hidl) Z (le_refl _) fun _=>.inr ⟨w.heap.size,cap,rfl,by rw[mul_zero],hc1,hc2,blk,e,hnew,by omega,Nat.le_of_eq hbsz.symm⟩
end
theorem LW.iterG {env:aE}{A rest:Code}{l:Nat}{step:α->Option (α⊕β)}{N:Nat}{b:β}(E:α->aE)(O:α->List ab)
  (hf:findLabel (.seq A (.seq (.label l) rest)) l=some (.seq .skip rest))
  (first:LW P n k A env H (wZ (fun env' H'=>∃x0,iter step N x0=some b/\dW k (E x0) (O x0) env' H') (fun _ _ _=>False)))
  (round:∀x z,step x=some z->(∀b',z=.inr b'->b'=b)->LW P n k rest (E x) (O x) (Kc l (fun env' H'=>∃y,z=.inl y/\dW k (E y) (O y) env' H') Q)):LW P n k (.scope (.seq A (.seq (.label l) rest))) env H Q:=by
 have one:∀m x,iter step m x=some b->LW P n k rest (E x) (O x) (Kc l (fun env' H'=>∃m',m'<m/\∃y,iter step m' y=some b/\dW k (E y) (O y) env' H') Q):=by
  intro m x hx
  cases m with
  |zero=>cases hx
  | succ m=>
   have hz:∃z,step x=some z/\(∀y,z=.inl y->iter step m y=some b)/\∀b',z=.inr b'->b'=b:=by
    unfold iter at hx;split at hx
    ·cases hx
    ·rename_i y e;refine⟨_,e,?_,?_⟩
     ·intro y' h;cases h;exact hx
     ·intro b' h;cases h
    ·rename_i y e;refine⟨_,e,?_,?_⟩
     ·intro y' h;cases h
     ·intro b' h;cases h;cases hx;rfl
   obtain⟨z,h1,h2,h3⟩:=hz;refine(round x z h1 h3).mono fun e env' H' q=>?_
   cases e with
   |goto l'=>obtain⟨e1,y,rfl,hw⟩:=q;exact⟨e1,m,Nat.lt_succ_self m,y,h2 y rfl,hw⟩
   |_=>exact q
 refine LW.jumps (fun m env H=>∃x,iter step m x=some b/\dW k (E x) (O x) env H) hf ?_ ?_
 ·refine LW.seq<|first.mono fun e env' H' q=>?_
  cases e with
  |normal=>
   obtain⟨x0,hx,hw⟩:=q;refine LW.seq<|LW.label ?_;refine LW.weak hw<|(one N x0 hx).mono fun e env' H' q=>?_
   cases e with
   |goto l'=>obtain⟨e1,m',-,hq⟩:=q;exact⟨e1,m',hq⟩
   |_=>exact q
  |_=>exact q.elim
 ·rintro m env H ⟨x,hx,hw⟩;refine LW.weak hw ?_;refine LW.seq<|LW.skip ?_;exact one m x hx
open Go.RowKit (Below)
def yv (P:Program)(f:FuncId)(als:List PV)(x:LV):Prop:=
 ∀(args:Array Value) (w:World) (I:Nat->Prop),(∀b,I b->b<w.heap.size)->yw I w als args.toList->
  Calls P f args w fun e w'=>∃v,e=.returned v/\aH [] (fun b=>I b\/(w.heap.size<=b/\b<w'.heap.size)) w' x v/\Below w.heap.size w w'
theorem aH.lift {x:LV}(h:aH [] I w x v)(hI:∀b,I b->I' b):aH μ I' w x v:=by
 induction h with
 |p h=>exact .p (h.mono fun b hb=>⟨hI b hb,rfl⟩)
 |agg hl ho h ih=>exact .agg hl ho ih
 |tup hl h ih=>exact .tup hl ih
 |ptr h=>simp at h
 |cptr f h hc=>exact .cptr f (hI _ h) fun i c hi=>⟨(hc i c hi).1,(hc i c hi).2.1,(hc i c hi).2.2.mono fun b hb=>⟨hI b hb,rfl⟩⟩
 |vec h=>simp at h
 |vptr h=>simp at h
 |zs=>exact .zs
 |map h=>simp at h
 |nilmap=>exact .nilmap
 |fn hl hl' h h' ih ih'=>exact .fn hl hl' ih ih'
 |any=>exact .any
 |yld h=>simp at h
 |fptr h hc ho hx ih=>exact .fptr (hI _ h) hc ho ih
theorem LC.free {x:LV}{xs:List LV}(h:yv P f als x)(hc:eX false H xs als):LC P f xs H (Is x H):=by
 intro args w μ I hs ha
 have ha':yw I w als args.toList:=by
  have:=jH hs hc ha
  have e:(fun c=>I c\/(false=true/\gC μ c))=I:=by funext c;simp
  rwa [e]at this
 refine(h args w I hs.ilt ha').mono ?_;rintro e w' ⟨v,rfl,hv,hb⟩;exact⟨_,v,H,μ,_,rfl,⟨rfl,rfl⟩,hs.of_below hb,hv.lift fun _ h=>h,cI.of_below hs hb⟩
def eb (H:List ab)(y x:LV):Prop:=∀μ I w v,St μ I w H->aH μ I w y v->aH [] (fun c=>I c\/gC μ c) w x v
theorem eb.p {H:List ab}{x:PV}:eb H (.p x) (.p x):=fun μ I w v _ h=>by
 cases h with
 |p h=>exact .p (h.mono fun b hb=>⟨.inl hb,rfl⟩)
theorem eb.ptr {H:List ab}{id:Nat}{ps:List PV}{cs:List LV}(hH:br H id=some (.box cs))(hx:ow ps=some cs)(ho:sv ps=true):eb H (.ptr id 0) (.cptr ps):=fun μ I w v hs h=>by
 have hx:=jc hx;subst hx;rw[bj]at hH
 cases h with
 | ptr hid=>
  have hob:=hs.objs id _ _ hH hid
  cases hob with
  | @box _ b vs e hb hl ho1 hc=>
   rw[length_map]at hl;refine .cptr (fun i=>vs.getD i undef) (.inr (gC.mk hid)) fun i c hi=>?_;have hil:=(List.getElem?_eq_some_iff.1 hi).1;have hv:vs[i]?=some (vs[i]'(by omega)):=Array.getElem?_eq_getElem (by omega);have hr:=hc i (.p c) _ (by rw[getElem?_map,hi];rfl) hv;refine⟨mr ho c (mem_of_getElem? hi),?_,?_⟩
   ·rw[zero_add];simp[World.cell?,hb,hv]
   ·simp only[Array.getD_eq_getD_getElem?,hv,getD_some]
    cases hr with
    |p h=>exact h.mono fun b hb=>⟨.inl hb,rfl⟩
def mb (H:List ab):List LV->List LV->Prop
 |[],[]=>True
 |y::r,x::s=>eb H y x/\mb H r s
 |_,_=>False
theorem mb.get {H:List ab}:∀{ys xs:List LV},mb H ys xs->ys.length=xs.length/\∀(i:Nat) x,xs[i]?=some x->∃y,ys[i]?=some y/\eb H y x
 |[],[],_=>⟨rfl,fun i x h=>by simp at h⟩
 |y::r,x::s,h=>by
  obtain⟨h1,h2⟩:=mb.get h.2;refine⟨by simp[h1],fun i z hz=>?_⟩
  cases i with
  |zero=>simp at hz;subst hz;exact⟨y,rfl,h.1⟩
  |succ i=>simpa using h2 i z (by simpa using hz)
 |[],_::_,h=>h.elim
 |_::_,[],h=>h.elim
theorem eb.agg {H:List ab}{ys xs:List LV}(h:mb H ys xs):eb H (.agg ys) (.agg xs):=fun μ I w v hs hr=>by
 obtain⟨h1,h2⟩:=h.get
 cases hr with
 |agg hl ho hc=>
  refine .agg (by omega) ho fun i c v hi hv=>?_;obtain⟨y,hy,hf⟩:=h2 i c hi;exact hf μ I w v hs<|hc i y v hy hv
theorem eb.fn {H:List ab}{f:FuncId}{ys xs zs us:List LV}(h:mb H ys xs)(h':mb H zs us):eb H (.fn f ys zs) (.fn f xs us):=fun μ I w v hs hr=>by
 obtain⟨h1,h2⟩:=h.get;obtain⟨h3,h4⟩:=h'.get
 cases hr with
 |fn hl hl' hc hc'=>
  refine .fn (by omega) (by omega) (fun i c v hi hv=>?_) fun i c v hi hv=>?_
  ·obtain⟨y,hy,hf⟩:=h2 i c hi;exact hf μ I w v hs<|hc i y v hy hv
  ·obtain⟨y,hy,hf⟩:=h4 i c hi;exact hf μ I w v hs<|hc' i y v hy hv
theorem yv.ofLC {y x:LV}(hl:ow als=some ls)(h:LC P f ls [] (Is y H'))(hc:eb H' y x):yv P f als x:=by
 have hl:=jc hl;subst hl;intro args w I hI ha
 have hnil:∀b,¬gC [] b:=fun b ⟨n,h⟩=>by cases h
 have hs:St [] I w []:=⟨rfl,by simp,fun b h=>absurd h (hnil b),fun b h=>absurd h (hnil b),hI,by simp⟩;refine(h args w [] I hs (cC.of_repL ha)).mono ?_;rintro e w' ⟨x',v,H'',μ',I',rfl,⟨rfl,rfl⟩,st,rep,hE⟩;refine⟨v,rfl,(hc μ' I' w' v st rep).lift fun c hc=>?_,⟨hE.os,hE.tape,hE.output,hE.size,fun b hb=>hE.keep b hb (hnil b)⟩⟩;rcases hc with hc|hc
 ·rcases hE.inew c hc with h|h|h
  ·exact .inl h
  ·exact absurd h<|hnil c
  ·exact .inr ⟨h,st.ilt c hc⟩
 ·rcases hE.mnew c hc with h|h
  ·exact absurd h<|hnil c
  ·exact .inr ⟨h,st.lt c hc⟩
theorem cj.preH {env:aE}{H Hp Hp':List ab}{s:Option (Nat×ab)}{x:LV}(h:∀Hr,aa P o env (Hp++Hr) (Is x (Hp'++Hr)))(hm:kC H m=some Hp)(hl:dq Hp=some m)(hF:F=HD m)
    (hs:uU Hp s=some Hp'):cj P o env H F s x:=by
  intro H' ha;subst hF;obtain⟨e1,e2⟩:=lQ hm;have e3:=cd hl
  have e4:H'.take m=Hp:=by
    rw[e1];apply ext_getElem?;intro i;by_cases hi:i<m
    · rw[getElem?_take_of_lt hi,getElem?_take_of_lt hi];exact ha.at_ i (uM hi)
    · rw[getElem?_eq_none (by rw[length_take];omega),getElem?_eq_none (by rw[length_take];omega)]
  have e5:H'=Hp++H'.drop m:=by rw[<-e4,List.take_append_drop]
  have h2:=h (H'.drop m);rw[<-e5]at h2
  have e6:Hp'++H'.drop m=wset H' s:=by
    rw[<-nD hs];rcases s with _|⟨i,y⟩
    · exact e5.symm
    · have hi:i<Hp.length:=(bH hs).2;show Hp.set i y++H'.drop m=H'.set i y
      conv=>rhs;rw[e5]
      rw[List.set_append_left _ _ hi]
  rw[<-e6];exact h2
section
variable {P : Program} {ops : Array Oper} {n z e i : Nat} {J : ab -> Prop} {l : List Nat} {o : Oper} {x : LV} {H H1 : List ab} {env env' : aE} {F : List Nat} {s : Option (Nat × ab)} {Q : List FP -> aE -> List ab -> Prop}
theorem kF.mv (h:LN n ops.toList i env=some env')(hr:kF P ops n z e J l env' H fun fs env H=>Q (⟨[],none⟩::fs) env H):kF P ops n z e J (i::l) env H Q:=by
 obtain⟨o,v,h1,h2,h3,h4⟩:=qC h;obtain⟨rfl,h5⟩:=cN h3;exact kF.is (F:=[]) (s:=none) (cJ h1) h2 h5 (fun H' _=>h4 P H') (fun _=>trivial) Z hr
theorem kF.st (ho:br ops.toList i=some o)(hg:o.guard=none)(hd:gL n o x env=some env')(h:cj P o env H F s x)(hJ:i<e->JW z J s)(hH:uU H s=some H1)
  (hr:kF P ops n z e J l env' H1 fun fs env H=>Q (⟨F,i9 s⟩::fs) env H):kF P ops n z e J (i::l) env H Q:=by
 obtain⟨rfl,h2⟩:=cN hd;exact kF.is (cJ ho) hg h2 h hJ (nD hH) hr
theorem kF.look {o0:ab}(ho:br ops.toList i=some o)(hg:o.guard=none)(hd:gL n o x env=some env')(hb:oY ops e i=true)(hz:br H z=some o0)(h:∀H' y,br H' z=some y->J y->aa P o env H' (Is x H'))
  (hr:kF P ops n z e J l env' H fun fs env H=>Q (⟨[],none⟩::fs) env H):kF P ops n z e J (i::l) env H Q:=by
 obtain⟨rfl,h2⟩:=cN hd;refine kF.looks (cJ ho) hg h2 hb (fun H' hl hj=>?_) hr;rw[bj]at hz;have hlt:=(List.getElem?_eq_some_iff.1 hz).1;have hy:H'[z]?=some (H'[z]'(by omega)):=getElem?_eq_getElem (by omega);exact h H' _ (by rw[bj];exact hy)<|hj _ hy
end
abbrev zM :=@ay.mv
abbrev zR :=@LW.region
abbrev zN :=@ay.nil
abbrev zT :=@cx
abbrev zQ :=@LW.seq
abbrev zL :=@gK
abbrev zA :=@aa.fieldAddr
abbrev zD :=@aa.load
abbrev zC :=@aa.call
abbrev zJ :=@Option.some.inj
abbrev zB :=@Gs
abbrev zG :=@CT
abbrev zH :=@LO.mv
abbrev zK :=@LF.mv
abbrev zI :=@Ol
abbrev zO :=@Ok
abbrev zW :=@dW.of
abbrev zX :=@LW.cond
abbrev zY :=@ay.sku
abbrev zn :=@aa.nilCheck
abbrev an :=@aa.bin
abbrev aT :=@aa.pickF
abbrev bv :=@aa.pickT
abbrev zx :=@aa.indexAddrX
abbrev zs :=@aa.store
abbrev zm :=@aa.move
abbrev za :=@aa.assign
abbrev zk :=@LW.skip
abbrev zl :=@LW.block
abbrev zd :=@cj.load
abbrev zt :=@cj.store
abbrev ze :=@aa.alloc
abbrev zc :=@ay.cases
abbrev bR :=@aa.loadC
abbrev bx :=@aa.box
abbrev zp :=@LC.pure
abbrev zh :=@aq.start
abbrev zr :=@LW.ret
abbrev zq :=@LW.exit
abbrev zf :=@yT
abbrev zy :=@po
abbrev eW :=@aa.extract
abbrev QV :=@aa.lenM
abbrev zv :=@Conv.p
abbrev eN :=@LC.start
abbrev gR :=@aa.buildSlice
abbrev iQ (n:Int):LV:=.p (.int .i64 n)
abbrev uQ (n:Int):LV:=.p (.int .u64 n)
abbrev bQ (b:Bool):LV:=.p (.bool b)
section
variable {P : Program} {o : Oper} {env : aE} {H : List ab}
theorem aa.nilCheckV {m id n j fo:Nat}(ho:o.op=.nilCheck x)(hx:bf env x=some (.vptr m id n j fo))(hH:br H id=some (.vec m xs))(hn:n=xs.length):aa P o env H (Is (.vptr m id n j fo) H):=
 aa.val fun a w μ I hst he=>by
  have hr:=he.ev (x:=x) (by simp[ho,Op.operands]) hx;generalize hv:a.eval x=v at hr;rw[bj]at hH
  cases hr with
  |@vptr _ _ _ _ _ B _ hid h1 hnB hf=>
   have hob:=hst.objs id _ _ hH hid
   have hBn:n=B.n:=by cases hob <;>simp_all
   obtain⟨b,hB,rfl⟩:=hf hBn;exact⟨_,by simp[execOp,ho,hv],.vptr hid Z hnB fun _=>⟨b,hB,rfl⟩⟩
variable {α : Type} {f : α -> PV}
theorem aa.storeVS {m id fo n:Nat}{j:Int}{l:List α}{z:α}{p:PV}(ho:o.op=.store t x y)(hx:bf env x=some (.vptr m id (l.map f).length (0+j.toNat) fo))(hy:bf env y=some (.p p))
  (hH:br H id=some (.vec m (l.map f))) (hT:bl P t=some (n,ag)) (hE:∀a,kJ m [f a]=true) (hz:ix l j=some z) (hys:eR p=some ys) (h1:sv ys=true) (hn:dq ys=some n) (hps:eR (f z)=some ps) (hsp:uD ps fo ys=some ps) :
  aa P o env H (Is .any H):=by
 have hj:=(jN hz).2
 have hs:l.set j.toNat z=l:=by
  apply ext_getElem?;intro i;rw[getElem?_set];split
  ·rename_i h;subst h;have:=(List.getElem?_eq_some_iff.1 hj).1;rw[i1_ this,hj]
  ·rfl
 refine aa.storeVP (f:=f) (l:=l) z ho hx hy hH hT hE hz hys h1 hn hps hsp hps ?_;rw[hs,C8 hH];rw[bj]at hH;congr 1;apply ext_getElem?;intro i;rw[getElem?_set];split
 ·rename_i h;subst h;have h2:=hH;have:=(List.getElem?_eq_some_iff.1 hH).1;rw[i1_ this,h2]
 ·rfl
end
section
variable {P : Program} {ops : Array Oper} {n k i : Nat} {H H' H1 : List ab} {env env' : aE} {l : List Nat} {o : Oper} {x : LV}
theorem tI.toF (h:tI P ops n H l env env'):∃fs,sC P ops n 0 0 (fun _=>True) l env H fs env' H/\∀f∈fs,f.wr=none:=by
 induction h with
 |nil=>exact⟨[],.nil,fun f hf=>by cases hf⟩
 | run ho hw hd h r ih=>
  obtain⟨fs,h1,h2⟩:=ih;refine⟨_,.run (F:=range H.length) (s:=none) ho hw hd (fun H' hA=>?_) (fun h=>absurd h (Nat.not_lt_zero _)) h1,fun f hf=>?_⟩
  ·have e:H'=H:=by
    apply ext_getElem?;intro i;by_cases hi:i<H.length
    ·exact hA.at_ i<|mem_range.2 hi
    ·rw[getElem?_eq_none (by rw[hA.len];omega),getElem?_eq_none (by omega)]
   subst e;exact h
  ·rcases List.mem_cons.1 hf with rfl|hf
   ·rfl
   ·exact h2 f hf
 |skip ho hw hd r ih=>
  obtain⟨fs,h1,h2⟩:=ih;refine⟨_,.skip ho hw hd h1,fun f hf=>?_⟩;rcases List.mem_cons.1 hf with rfl|hf
  ·rfl
  ·exact h2 f hf
theorem ua {b:FP}(hb:b.wr=none){j:Nat}:∀{l:List FP} {s:Nat},(∀a∈l,a.wr=none)->vK ops j b l s=true
 |[],_,_=>rfl
 |a::r,s,h=>by
  unfold vK;rw[ua hb fun c hc=>h c (List.mem_cons_of_mem _ hc),show qd a b=false by unfold qd;rw[h a (List.mem_cons_self ..),hb];rfl];simp
theorem Jc {fs:List FP}(h:∀f∈fs,f.wr=none):DZ ops fs=true:=by
 have key:∀(g:List FP) (j:Nat),(∀f∈g,f.wr=none)->rC ops fs g j=true:=by
  intro g
  induction g with
  |nil=>intro j _;rfl
  |cons b r ih=>
   intro j hg;have hb:=hg b (List.mem_cons_self ..);unfold rC;rw[ua hb h,ih (j+1) fun c hc=>hg c (List.mem_cons_of_mem _ hc),hb];rfl
 exact key fs 0 h
theorem LW.draw2 (hm:P.follows .mixedOrders=true)(hok:qE ops=true)(h:LO P ops n (range ops.size) env H (fun env=>Q .normal env H)):LW P n k (.region id ops true) env H Q:=by
 obtain⟨env',hc,hq⟩:=h;obtain⟨fs,h1,h2⟩:=hc.toF;exact LW.drawWJ (z:=0) (e:=0) (J:=fun _=>True) hm hok (fun _ _=>trivial) ⟨fs,env',H,h1,Jc h2,hq⟩
def Md (n:Nat)(l:List Oper)(i:Nat)(x:LV)(env:aE):Option (Oper×aE):=
 match br l i with
 |none=>none
 | some o=>match o.guard with
  |some _=>none
  |none=>match gL n o x env with
   |none=>none
   |some e=>some (o,e)
theorem uE {l:List Oper}(h:Md n l i x env=some (o,env')):br l i=some o/\o.guard=none/\gL n o x env=some env':=by
 unfold Md at h;split at h
 ·cases h
 ·rename_i o' h1;split at h
  ·cases h
  ·rename_i h2;split at h
   ·cases h
   ·rename_i e h3;cases h;exact⟨h1,h2,h3⟩
theorem yS {Q:aE->List ab->Prop}(h0:Md n ops.toList i x env=some (o,env'))(h:aa P o env H (Is x H'))(hr:ay P ops n k l env' H' Q):ay P ops n k (i::l) env H Q:=
 have ⟨a,b,c⟩:=uE h0
 ay.st a b c h hr
theorem yE {Q:aE->Prop}(h0:Md n ops.toList i x env=some (o,env'))(h:aa P o env H (Is x H))(hr:LO P ops n l env' H Q):LO P ops n (i::l) env H Q:=
 have ⟨a,b,c⟩:=uE h0
 LO.st a b c h hr
theorem yF {s:Option (Nat×ab)}{Q:List FP->aE->List ab->Prop}(h0:Md n ops.toList i x env=some (o,env'))(h:cj P o env H F s x)(hH:uU H s=some H1)
  (hr:LF P ops n l env' H1 fun fs env H=>Q (⟨F,i9 s⟩::fs) env H):LF P ops n (i::l) env H Q:=
 have ⟨a,b,c⟩:=uE h0
 LF.st a b c h hH hr
def J7 (n:Nat)(l:List Oper)(i:Nat)(x:LV)(env:aE):Option (Oper×Nat×Bool×aE):=
 match br l i with
 |none=>none
 | some o=>match o.guard with
  |none=>none
  | some (j,b)=>match fM l j with
   |none=>none
   |some t=>match gL n o x env with
    |none=>none
    |some e=>some (o,t,b,e)
theorem qt {l:List Oper}{t:Nat}(h:J7 n l i x env=some (o,t,b,env')):∃j,br l i=some o/\o.guard=some (j,b)/\fM l j=some t/\gL n o x env=some env':=by
 unfold J7 at h;split at h
 ·cases h
 ·rename_i o' h1;split at h
  ·cases h
  ·rename_i j b' h2;split at h
   ·cases h
   ·rename_i t' h3;split at h
    ·cases h
    ·rename_i e h4;cases h;exact⟨j,h1,h2,h3,h4⟩
theorem yV {t:Nat}{Q:aE->List ab->Prop}(h0:J7 n ops.toList i x env=some (o,t,b,env'))(hb:env.get t=some (.p (.bool b)))(h:aa P o env H (Is x H'))(hr:ay P ops n k l env' H' Q):ay P ops n k (i::l) env H Q:=
 have ⟨_,a,c,d,e⟩:=qt h0
 ay.gd a c d hb e h hr
theorem yU {t:Nat}{Q:aE->List ab->Prop}(h0:J7 n ops.toList i (.tup []) env=some (o,t,b,env'))(hb:env.get t=some (.p (.bool c)))(hbc:c= !b)(hr:ay P ops n k l env' H Q):ay P ops n k (i::l) env H Q:=
 have ⟨_,a,c,d,e⟩:=qt h0
 ay.sk a c d hb hbc e hr
end
theorem yG {env env':aE}{l:List Nat}{x:LV}{Q:List FP->aE->List ab->Prop}(h0:Md n ops.toList i x env=some (o,env'))(h:cj P o env H [] none x)(hr:LF P ops n l env' H (fun fs env H=>Q (⟨[],i9 none⟩::fs) env H)):LF P ops n (i::l) env H Q:=yF h0 h rfl hr
theorem yP {env:aE}{as rs:List PV}(ho:o.op=.call { callee:=.value fo,args:=args,argTypes:=ats})(hf:bf env fo=some (.fn f first caps))(hl:lE env args.toList=some ls)(h:aq P f as rs)(hv:eX false H (first++ls++caps) as)(hc:eI P f=true:=by kernel_rfl):aa P o env H (Is (qL rs) H):=aa.call ho hf hl hc (LC.pure h hv)
theorem yC {env:aE}(ho:o.op=.call { callee:=.value fo,args:=args,argTypes:=ats})(hf:bf env fo=some (.fn f first caps))(hl:lE env args.toList=some ls)(h:LC P f (first++ls++caps) H R)(hc:eI P f=true:=by kernel_rfl):aa P o env H R:=aa.call ho hf hl hc h
theorem qR {y:Code}{env:aE}(h:ay P ops n k (range ops.size) env H (fun env H=>wZ (fun env H=>LW P n k y env H Q) Q .normal env H)):LW P n k (.seq (.region id ops false) y) env H Q:=LW.seq (LW.region h)
theorem nT {env:aE}{R:aE->List ab->Prop}(h:R env H):ay P ops n k [] env H (fun env H=>wZ R Q .normal env H):=ay.nil (cx h)
theorem dG {z:Bool}:eX z H [.p a] [a]:=.cons Conv.p .nil
theorem bG {z:Bool}{a b:PV}:eX z H [.p a,.p b] [a,b]:=.cons Conv.p dG
theorem pA {z:Bool}{a b c:PV}:eX z H [.p a,.p b,.p c] [a,b,c]:=.cons Conv.p bG
theorem we {z:Bool}{a b c d:PV}:eX z H [.p a,.p b,.p c,.p d] [a,b,c,d]:=.cons Conv.p pA
theorem BP {z:Bool}{a b c d e:PV}:eX z H [.p a,.p b,.p c,.p d,.p e] [a,b,c,d,e]:=.cons Conv.p we
theorem yK {env env':aE}{l:List Nat}{t:Nat}{Q:aE->Prop}(h0:J7 n ops.toList i (.tup []) env=some (o,t,b,env'))(hb:env.get t=some (.p (.bool c)))(hbc:c= !b)(hr:LO P ops n l env' H Q):LO P ops n (i::l) env H Q:=have ⟨_,a,c,d,e⟩:=qt h0;LO.sk a c d hb hbc e hr
theorem yL {env env':aE}{l:List Nat}{x:LV}{t:Nat}{Q:aE->Prop}(h0:J7 n ops.toList i x env=some (o,t,b,env'))(hb:env.get t=some (.p (.bool b)))(h:aa P o env H (Is x H))(hr:LO P ops n l env' H Q):LO P ops n (i::l) env H Q:=have ⟨_,a,c,d,e⟩:=qt h0;LO.gd a c d hb e h hr
theorem dx {env:aE}(h:LO P ops n (range ops.size) env H (fun env=>Q .normal env H))(hm:P.follows .mixedOrders=true:=by kernel_rfl)(hok:qE ops=true:=by kernel_rfl):LW P n k (.region id ops true) env H Q:=LW.draw2 hm hok h
theorem fB {env:aE}(h:LF P ops n (range ops.size) env H (fun fs env H=>DZ ops fs=true/\Q .normal env H))(hm:P.follows .mixedOrders=true:=by kernel_rfl)(hok:qE ops=true:=by kernel_rfl):LW P n k (.region id ops true) env H Q:=LW.drawW hm hok h
theorem ck {f:α->PV}{env:aE}(ho:o.op=.call { callee:=.builtin .len,args:=#[x],argTypes:=#[t]})(hx:bf env x=some (.p (.slice m (l.map f))))(hT:wR P t=true:=by kernel_rfl):aa P o env H (Is (.p (.int .i64 (l.length:Int))) H):=aa.lenM ho hx hT
theorem er {env:aE}{t:Tmp}{ty:TypeId}(h:env.get t=some (.ptr id 0))(hH:H[id]?=some (.box cs))(hn:va P ty n=true:=by kernel_rfl)(hl:cs.length=n:=by rfl):EF P env H (.cell t ty) (uq cs):=.cellAgg h hH hn hl
theorem av {env' env:aE}(j:Nat)(hs:sE env' env)(hk:ble k j=true:=by rfl)(hH:kC H j=some H':=by rfl)(hl:pp j env'=true:=by rfl)(ho:fD j H'=true:=by rfl):dW k env' H' env H:=dW.of j hs hk hH hl ho
theorem mN {env env':aE}{R:aE->List ab->Prop}(h:LN n ops.toList i env=some env')(hr:R env' H):ay P ops n k [i] env H (fun env H=>wZ R Q .normal env H):=ay.mv h (ay.nil (cx hr))
theorem aw {env env':aE}{l:List Nat}{t:Nat}{Q:aE->List ab->Prop}(h0:J7 n ops.toList i (.tup []) env=some (o,t,b,env'))(hr:ay P ops n k l env' H Q)(hb:env.get t=some (.p (.bool c)):=by rfl)(hbc:c= !b:=by rfl):ay P ops n k (i::l) env H Q:=yU h0 hb hbc hr
theorem b8 {env env':aE}{l:List Nat}{t:Nat}{Q:aE->Prop}(h0:J7 n ops.toList i (.tup []) env=some (o,t,b,env'))(hr:LO P ops n l env' H Q)(hb:env.get t=some (.p (.bool c)):=by rfl)(hbc:c= !b:=by rfl):LO P ops n (i::l) env H Q:=yK h0 hb hbc hr
theorem aZ {fn:Func}{env:aE}{t:Nat}{p:PV}(hr:fn.results=#[.tmp t])(h:env.get t=some (.p p):=by rfl):Zz P fn [p] .ret env H:=yT (hr▸.one (.tmp h)) Conv.p
theorem cp {a b c d:ab}{r:List ab}(h:fD k r=true)(ha:a.lowB k=true:=by rfl)(hb:b.lowB k=true:=by rfl)(hc:c.lowB k=true:=by rfl)(hd:d.lowB k=true:=by rfl):fD k (a::b::c::d::r)=true:=gK ha (gK hb (gK hc (gK hd h)))
end Go.Mg
