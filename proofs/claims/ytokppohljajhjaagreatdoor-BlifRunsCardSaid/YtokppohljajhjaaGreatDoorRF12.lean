/- Lemmas for this claim, part F12: each holds under what it names. -/
import Derived.Test.YtokppohljajhjaaGreatDoorRF11
import Derived.Test.YtokppohljajhjaaGreatDoorRA10
set_option linter.all false
set_option maxRecDepth 20000
set_option maxHeartbeats 16000000
namespace Go.Proofs.YtokppohljajhjaaGreatDoor
open Go Go.Proofs Go.Abs
structure LG(fx:Nat->Prop)(o:Pl)(t:Tk)(r:List Tk)(q:Nat)(f:Fr):Prop where
 t0:f.t 0= .lp o.PP 0
 t1:f.t 1=iO (t::r)
 t4:f.t 4= .lp q 0
 d:f.d=[]
 k:∀i,fx i\/i=o.PP->f.k i=false
structure Few5(p:Ps):Prop where
 i:p.c.ins.length<=1000000
 u:p.c.outs.length<=1000000
 l:p.c.lat.length<=1000000
 g:p.c.gates.length<=1000000
 r:∀g,p.c.gates.getLast? =some g->g.rows.length<=1000000/\g.ins.length<=1000000
abbrev ppC(o:Pl)(p:Ps)(g:V):O:= .cells [.ls o.IN 1 0 p.c.ins.length p.c.ins.length,.ls o.OU 1 0 p.c.outs.length p.c.outs.length,.ls o.LA 3 0 p.c.lat.length p.c.lat.length,.ls o.GA 5 0 p.c.gates.length p.c.gates.length,.bool p.begun,.bool p.ended,g]
abbrev Vh(t:Tk):O:= .cells [vi t.k,.str t.t,vi t.at']
theorem PH.closed{o:Pl}{p:Ps}{last:Option V}{h h':H}(k:PH o p last h){g:V}(h1:h'[o.PP]? =some (ppC o p g))(h2:h'[o.IN]? =h[o.IN]?)(h3:h'[o.OU]? =h[o.OU]?)(h4:h'[o.LA]? =h[o.LA]?)(h5:h'[o.GA]? =some (.cells (p.c.gates.flatMap gaX))) :
 PH o {p with on:=false} none (h'.set o.PP (ppC o p .nilp)):=by
 obtain⟨d1,d2,d3,d4,d5,d6,d7,d8,d9,d10⟩:=k.d;have hl:=(zqe h1).1;have hptr:jV o {p with on:=false}= .nilp:=by unfold jV;exact if_neg (fun h:false=true=>by cases h)
 refine⟨?_,?_,?_,?_,?_,rfl,k.d⟩
 ·rw[zqt hl,hptr]
 ·rw[zqn d1,h2];exact k.i
 ·rw[zqn d2,h3];exact k.u
 ·rw[zqn d3,h4];exact k.l
 ·rw[zqn d4,h5];rfl
theorem He{e:E}{p:Nat->Bool}{h:H}:∀ {vs:List V},V.drops p vs=vs->GVs e p h vs vs
 |[],_=>trivial
 |v::vs,hv=>by rw[V.drops]at hv;injection hv with h1 h2;exact⟨.inl h1.symm,He h2⟩
theorem NH{e:E}{p:Nat->Bool}{h:H}:∀ {a a' b b':List V},GVs e p h a a'->GVs e p h b b'->GVs e p h (a++b) (a'++b')
 |[],[],_,_,_,hb=>hb
 |_::_,_::_,_,_,ha,hb=>⟨ha.1,NH ha.2 hb⟩
 |[],_::_,_,_,ha,_=>ha.elim
 |_::_,[],_,_,ha,_=>ha.elim
theorem yV{e:E}{Hp:H->Prop}{fx:Nat->Prop}{o:Pl}(K:HpOk Hp fx o){p:Ps}{last:Option V}{h:H}(k:PH o p last h)(lo:∀RW n,last=some (.ls RW 1 0 n n)->¬fx RW)(hp:Hp h){f:Fr}(hfd:∀i∈f.d,fx i){n:Nat}{rr:Option Nat}{c:Code}{Q:XE->Fr->H->Prop}
 (hw:∀h1 f1,(f1=f\/∃RW,(¬fx RW/\RW≠o.PP/\∃rs:List S,h[RW]? =some (.cells (rs.map V.str)))/\f1={f with t:=fun i=>(f.t i).drop (·==RW),k:=fun i=>f.k i||i==RW})->Hp h1 ->
  (∀(j:Nat)(x:O),h[j]? =some x->j≠o.GA->(∀p,x.drop p=x)->(∀rs:List S,x≠ .cells (rs.map V.str))->h1[j]? =some x)->h1[o.PP]? =some (ppC o p (jV o p))->PH o {p with on:=false} none (h1.set o.PP (ppC o p .nilp))->awp e n rr c Q f1 h1):awp e n rr c Q f h:=by
 obtain⟨d1,d2,d3,d4,d5,d6,d7,d8,d9,d10⟩:=k.d;have lt:∀ {j x},h[j]? =some x->j<h.length:=fun hx=>(zqe hx).1;have lG:=lt k.g;cases last with
 |none=>have hg:=k.g;exact hw h f (.inl rfl) hp (fun j x hx _ _ _=>hx) k.pp (k.closed k.pp rfl rfl rfl (by rw[hg];rfl))
 |some v =>
  obtain⟨on,ga,hgl,hv⟩:=k.rows;obtain⟨gs,hgs⟩:=List.getLast?_eq_some_iff.1 hgl;have hgc:∀w,QE p.c.gates (some w)=gs.flatMap gaX++xP ga w:=fun w=>by unfold QE;rw[hgl];dsimp only;rw[hgs,List.dropLast_concat]
  have hfl:p.c.gates.flatMap gaX=gs.flatMap gaX++xP ga (aV ga.rows):=by rw[hgs,List.flatMap_append];simp[gaX]
  have hG:=k.g;rw[hgc]at hG;rcases hv with⟨rfl,hr0⟩|⟨RW,rfl,hRW,n1,n2,n3,n4,n5⟩
  ·have e:gs.flatMap gaX++xP ga (aV ga.rows)=(gs.flatMap gaX++xP ga .nils).set (gs.length*5+3) (.is false 1 []):=by rw[List.set_append_right _ _ (by rw[o5];omega),o5,Nat.add_sub_cancel_left,hr0];rfl
   refine jG (h':=h.set o.GA (.cells (p.c.gates.flatMap gaX))) (HLe.set hG ?_) ?_
   ·rw[hfl,e];refine OLe.cells (by simp) ?_;rw[zrn,zrx];refine gX.set (v:= .nils) ?_ VLe.nils;rw[zsb (by rw[o5];omega),o5,Nat.add_sub_cancel_left];rfl
   ·have h1:(h.set o.GA (.cells (p.c.gates.flatMap gaX)))[o.PP]? =some (ppC o p (jV o p)):=by rw[zqn (Ne.symm d4)];exact k.pp
    exact hw _ f (.inl rfl) (K.same hp fun j hf => by rw [zqn (fun e => K.n5 (by rw [e];exact hf))]) (fun j x hx hj _ _ => by rw [zqn (Ne.symm hj)];exact hx) h1
     (k.closed h1 (zqn (Ne.symm d7)) (zqn (Ne.symm d9)) (zqn (Ne.symm d10)) (zqt lG))
  ·have n6:¬fx RW:=lo RW _ rfl;have b:∀ {j:Nat},RW≠j->(j==RW)=false:=fun hn=>by rw[beq_eq_false_iff_ne];exact Ne.symm hn
   obtain⟨h',hh'⟩:∃h',h'=((h.map (O.drop (·==RW))).set RW .dead).set o.GA (.cells (p.c.gates.flatMap gaX)):=⟨_,rfl⟩;have old:∀j,j≠RW->j≠o.GA->h'[j]? =(h[j]?).map (O.drop (·==RW)):=fun j h1 h2=>by rw[hh',zqn (Ne.symm h2),zqn (Ne.symm h1),zqo]
   have hG':h'[o.GA]? =some (.cells (p.c.gates.flatMap gaX)):=by rw[hh',zqt (by simp;omega)]
   have l2:=lt hRW;have old2:∀(j:Nat)(x:O),h[j]? =some x->j≠RW->j≠o.GA->x.drop (·==RW)=x->h'[j]? =h[j]? :=fun j x hx h1 h2 h3=>by rw[old j h1 h2,hx,zrw,h3]
   have hpo:jV o p= .lp o.GA ((p.c.gates.length-1)*5):=by unfold jV;rw[if_pos on]
   have hpd:O.drop (·==RW) (ppC o p (jV o p))=ppC o p (jV o p):=by rw[hpo];show O.cells [V.drop _ _,V.drop _ _,V.drop _ _,V.drop _ _,V.drop _ _,V.drop _ _,V.drop _ _]=_;simp only[V.drop,b n2,b n3,b n4,b n5,zrm,if_false]
   have h1:h'[o.PP]? =some (ppC o p (jV o p)):=by rw[old2 _ _ k.pp (Ne.symm n1) d4 hpd];exact k.pp
   refine wz (·==RW) h' (fun j hj=> ?_) (fun j x hj hx=> ?_) (fun i hi=> ?_) ?_
   ·have hj:j≠RW:=by simpa using hj
    by_cases hjg:j=o.GA
    ·subst hjg;refine .inr ⟨_,_,hG,hG',?_⟩;rw[hfl];refine NH (He (bC jl _)) ⟨.inl rfl,.inl rfl,.inl rfl,.inr ⟨?_,?_⟩,.inl rfl,trivial⟩
     ·simp[V.drop]
     ·exact bu (by rw[iK,hRW];show some (if _ then O.cells (V.drops _ _)else _)=_;rw[aC,if_pos (by simp)]) rfl
    ·exact .inl (old j hj hjg)
   ·have hj:j=RW:=by simpa using hj
    subst hj;rw[hh',zqn (Ne.symm n5),zqt (by simp;omega)]at hx;cases hx;rfl
   ·exact b (fun e=>n6 (by rw[e];exact hfd i hi))
   ·have kk:∀i,fx i\/i=o.PP->(i==RW)=false:=fun i hi=>by
     rw[beq_eq_false_iff_ne];rcases hi with hi|rfl
     ·rintro rfl;exact n6 hi
     ·exact Ne.symm n1
    refine hw h' _ (.inr ⟨RW,⟨n6,n1,_,hRW⟩,rfl⟩) (K.ext h h' (·==RW) hp kk fun j hf=> ?_) (fun j x hx hj hdr hrs=> ?_) h1 (k.closed h1 ?_ ?_ ?_ hG')
    ·exact old j (fun e=>n6 (by rw[<-e];exact hf)) (fun e=>K.n5 (by rw[<-e];exact hf))
    ·rw[old2 j x hx (fun e=>hrs _ (by rw[e,hRW]at hx;cases hx;rfl)) hj (hdr _)];exact hx
    ·exact old2 _ _ k.i (Ne.symm n2) d7 (by show O.cells (V.drops _ _)=_;rw[aC])
    ·exact old2 _ _ k.u (Ne.symm n3) d9 (by show O.cells (V.drops _ _)=_;rw[aC])
    ·exact old2 _ _ k.l (Ne.symm n4) d10 (by show O.cells (V.drops _ _)=_;rw[bC jk])
theorem Hf(t:Tk)(rs:List S):Vh t≠ .cells (rs.map V.str):=fun e=>by
 injection e with e;cases rs with
 |nil=>cases e
 |cons a l=>simp at e
theorem Jk[MO]{Hp:H->Prop}{fx:Nat->Prop}{o:Pl}(K:HpOk Hp fx o){p:Ps}{last:Option V}{h:H}(k:PH o p last h)(lo:∀RW n,last=some (.ls RW 1 0 n n)->¬fx RW)(hp:Hp h){t:Tk}{r:List Tk}{q:Nat}(hqG:q≠o.GA)(hq:h[q]? =some (Vh t)){f:Fr}(g:LG fx o t r q f){n:Nat}{rr:Option Nat}{c:Code}{Q:XE->Fr->H->Prop}
 (hw:∀h1 f1,LG fx o t r q f1->Hp h1->h1[q]? =some (Vh t)->h1[o.PP]? =some (ppC o p (jV o p))->PH o {p with on:=false} none (h1.set o.PP (ppC o p .nilp))->awp TE n rr c Q f1 h1):awp TE n rr c Q f h:=by
 refine yV K k lo hp (by rw[g.d];simp) fun h1 f1 hf hp1 hold h1p k1=>hw h1 f1 ?_ hp1 (hold q _ hq hqG (fun _=>rfl) (Hf t)) h1p k1;rcases hf with rfl|⟨RW,⟨n6,n1,rs,hRW⟩,rfl⟩
 ·exact g
 ·have qR:q≠RW:=fun e=>by rw[e,hRW]at hq;exact Hf t rs (Option.some.inj hq).symm
  have kk:∀i,fx i\/i=o.PP->(i==RW)=false:=fun i hi=>by
   rw[beq_eq_false_iff_ne];rcases hi with hi|rfl
   ·rintro rfl;exact n6 hi
   ·exact Ne.symm n1
  refine⟨?_,?_,?_,g.d,fun i hi=> ?_⟩
  ·show(f.t 0).drop _=_;rw[g.t0,V.drop,kk _ (.inr rfl)];rfl
  ·show(f.t 1).drop _=_;rw[g.t1];rfl
  ·show(f.t 4).drop _=_;rw[g.t4,V.drop,show(q==RW)=false from by rw[beq_eq_false_iff_ne];exact qR];rfl
  ·show(f.k i||i==RW)=false;rw[g.k i hi,kk i hi];rfl
theorem oM(p:Ps)(t:Tk)(r:List Tk):jA p (t::r)=if(!p.ended&&p.begun != (t.t==fC))=false then .error (t.at',2)else if t.t.headD 0≠46 then IW p t r else jh {p with on:=false} t r:=rfl
theorem D5[MO]{Hp:H->Prop}{fx:Nat->Prop}{o:Pl}(K:HpOk Hp fx o){p:Ps}{last:Option V}{h0:H}(k:PH o p last h0)(lo:∀RW n,last=some (.ls RW 1 0 n n)->¬fx RW)(hp:Hp h0)(t:Tk)(r:List Tk)(hl:r.length<=900000)(htn:t.t≠[])(hst:t.t.length<=1000000)(hs:∀t∈r,t.t.length<=1000000)(hfw:Few5 p) :
 ag TE 33 [.lp o.PP 0,iO (t::r)] h0 (ru Hp fx o (jA p (t::r))):=by
 have hM:=mLx;have hg:((t::r).map Tk.v).getD 0 .any=t.v:=rfl;have lt:∀ {j x},h0[j]? =some x->j<h0.length:=fun hx=>(zqe hx).1;have hgE:∀x:O,(h0++[x])[h0.length]? =some x:=fun x=>by simp
 have hgS:∀x y:O,(h0++[x]).set h0.length y=h0++[y]:=fun x y=>by simp
 refine ax Tryz.func33 rfl (by simp[nts]) ?_;refine vn ?_;simp only[wq.1,seval,Tryz.results33,hgE,hgS];refine⟨by omega,?_⟩;have k1:=k.app [.cells [vi t.k,.str t.t,vi t.at']];have hp1:Hp (h0++[.cells [vi t.k,.str t.t,vi t.at']]):=K.same hp fun j hf=>by rw[zqj (K.lt _ hp j hf)]
 obtain⟨h1,hh1⟩:∃h1,h1=h0++[O.cells [vi t.k,.str t.t,vi t.at']]:=⟨_,rfl⟩;have hc:h1[h0.length]? =some (Vh t):=by rw[hh1];exact hgE _
 rw[<-hh1]at k1 hp1 ⊢;obtain⟨c1,hc1⟩:∃c1,c1=(t.t.headD 0):=⟨_,rfl⟩;have hpp:=k1.pp;refine aj (oD mixed (by decide +kernel) ?_);simp only[nts,List.size_toArray,zrt,List.length_nil,Nat.reduceAdd,Nat.reduceSub,List.take_succ_cons,List.take_zero];cases he:p.ended with
 |true =>
  rw[he]at hpp;simp only[wq.1,seval,dw,dB,hc,hpp];have hE:jA p (t::r)= .error (t.at',2):=by rw[oM,he];rfl
  rw[hE];refine aS false t.at' 2 (fun h=>by cases h) (fun _=> ?_);simp only[wq.1,dW];simp only[XE.seq];exact dA (R:=ru Hp fx o (.error (t.at',2))) (by simp only[wq.1]) ⟨fun _ _=>by simp only[wq.1],hp1,rfl⟩
 |false =>
  rw[he]at hpp;simp only[wq.1,seval,dw,dB,hc,hpp];refine aS (!(p.begun==(t.t==[46,109,111,100,101,108]))) t.at' 2 (fun hb=> ?_) (fun hb=> ?_)
  ·have hE:jA p (t::r)=if t.t.headD 0≠46 then IW p t r else jh {p with on:=false} t r:=by rw[oM,if_neg];rw[he];show ¬(!(p.begun==(t.t==[46,109,111,100,101,108])))=false;rw[hb];decide
   rw[hE];simp only[wq.1];refine mG (LG fx o t r h0.length) ⟨by simp only[wq.1,seval],by simp only[wq.1,seval],by simp only[wq.1,seval],by simp only[wq.1],fun _ _=>by simp only[wq.1]⟩ ?_;rintro f ⟨t0,t1,t4,hd,hk⟩;obtain⟨c,cs,hts⟩:=List.exists_cons_of_ne_nil htn;have hhd:t.t.headD 0=c:=by rw[hts];rfl
   rw[hhd];have hgt0:List.getD t.t 0 0=c:=by rw[hts];rfl
   have hl0:(0:Int)<(t.t.length:Nat):=by rw[hts];simp only[zrt];omega
   refine aj ?_;refine vn ?_;simp only[wq.1,seval,t4,hc];by_cases h46:c=46
   ·rw[if_neg (fun h=>h h46)];have hb1:(((List.getD t.t 0 0).toNat:Int) != 46)=false:=by rw[hgt0,h46];rfl
    refine⟨hl0,?_⟩;refine jY (b:=false) (by simp only[wq.1,↓reduceIte]) (by simp only[wq.1,↓reduceIte,hb1]) (fun h=>by cases h) (fun _=> ?_);refine vm ?_;simp only[wq.1];refine mG (LG fx o t r h0.length) ⟨by simp only[wq.1,seval,t0],by simp only[wq.1,seval,t1],by simp only[wq.1,seval,t4],by simp only[wq.1,hd],fun i hi=>by simp only[wq.1,hk i hi]⟩ ?_;clear t0 t1 t4 hd hk f;intro f g;refine Jk K k1 lo hp1 (fun e=>by have:=lt k.g;omega) hc g fun h2 f2 g2 hp2 hc2 hpp2 k3=> ?_;obtain⟨p2,hp2e⟩:∃p2:Ps,p2={p with on:=false}:=⟨_,rfl⟩;rw[<-hp2e]at k3 ⊢;have hfw:Few5 p2:=by rw[hp2e];exact⟨hfw.i,hfw.u,hfw.l,hfw.g,hfw.r⟩
    have hqP:h0.length≠o.PP:=fun e=>by rw[e,hpp2]at hc2;injection hc2 with hc2;injection hc2 with hc2;have:=congrArg List.length hc2;simp at this
    have lPP:=(zqe hpp2).1;have hp3:Hp (h2.set o.PP (ppC o p .nilp)):=K.same hp2 fun j hf=>by rw[zqn (fun e=>K.n1 (by rw[e];exact hf))]
    have hc3:(h2.set o.PP (ppC o p .nilp))[h0.length]? =some (Vh t):=by rw[zqn (Ne.symm hqP)];exact hc2
    obtain⟨t0,t1,t4,hd,hk⟩:=g2;refine vn ?_;simp only[wq.1,seval,t0,hpp2];obtain⟨h3,hh3⟩:∃h3,h3=h2.set o.PP (ppC o p .nilp):=⟨_,rfl⟩;rw[<-hh3]at hp3 hc3 k3 ⊢;have hm:=MO.tell t.t .nilf;have hkq:∀ {q:Nat->Bool},(∀i,fx i\/i=o.PP->q i=false)->∀i,fx i\/i=o.PP->(f2.k i||q i)=false:=fun hq i hi=>by rw[hk i hi,hq i hi];rfl
    by_cases wendS:t.t=zY
    ·rw[show jh p2 t r=(if r=[]then .ok {p2 with ended:=true} else .error (t.at',2))from by unfold jh;rw[if_pos wendS]];rw[wendS]at hm;have hm2:oQ .str (.str zY) MO.tk MO.tv .nilf true=(True,.tup [.fn (.func 195) [] [],.bool true]):=hm;have hc3:h3[h0.length]? =some (.cells [vi t.k,.str zY,vi t.at']):=by rw[<-wendS];exact hc3
     refine vn ?_;simp only[wq.1,seval,t4,hc3,gl2,gm,hm2];refine vn ?_;simp only[wq.1,seval,t4,hc3];refine aS true t.at' 9 (fun _=> ?_) (fun h=>by cases h);simp only[wq.1];refine vm ?_;simp only[wq.1,seval,t0,t1];refine ag.mono (Nv K k3 (fun _ _ h=>by cases h) hp3 t r (by omega)) ?_;obtain⟨res,hres⟩:∃res:RB Ps,res=(if r=[]then .ok {p2 with ended:=true} else .error (t.at',2)):=⟨_,rfl⟩;rw[<-hres];rintro ae h' q ⟨hq,hH,hr⟩;cases res with
     |ok p'=>obtain⟨rfl,last',kk⟩:=hr;simp only[wq.1,bn,hd];exact⟨hkq hq,hH,rfl,last',kk⟩
     |error x=>have hr:ae= .pan (jW x.1 x.2):=hr;subst hr;simp only[wq.1,dW,hd];exact⟨hkq hq,hH,rfl⟩
    by_cases winputsS:t.t=fJ
    ·rw[show jh p2 t r=(N7 p2 r)from by unfold jh;rw[if_neg wendS];rw[if_pos winputsS]];rw[winputsS]at hm;have hm2:oQ .str (.str fJ) MO.tk MO.tv .nilf true=(True,.tup [.fn (.func 210) [] [],.bool true]):=hm;have hc3:h3[h0.length]? =some (.cells [vi t.k,.str fJ,vi t.at']):=by rw[<-winputsS];exact hc3
     refine vn ?_;simp only[wq.1,seval,t4,hc3,gl2,gm,hm2];refine vn ?_;simp only[wq.1,seval,t4,hc3];refine aS true t.at' 9 (fun _=> ?_) (fun h=>by cases h);simp only[wq.1];refine vm ?_;simp only[wq.1,seval,t0,t1];refine ag.mono (DR K k3 hp3 t r hl hs hfw.i) ?_;obtain⟨res,hres⟩:∃res:RB Ps,res=(N7 p2 r):=⟨_,rfl⟩;rw[<-hres];rintro ae h' q ⟨hq,hH,hr⟩;cases res with
     |ok p'=>obtain⟨rfl,last',kk⟩:=hr;simp only[wq.1,bn,hd];exact⟨hkq hq,hH,rfl,last',kk⟩
     |error x=>have hr:ae= .pan (jW x.1 x.2):=hr;subst hr;simp only[wq.1,dW,hd];exact⟨hkq hq,hH,rfl⟩
    by_cases wlatchS:t.t=gW
    ·rw[show jh p2 t r=(mQ p2 t r)from by unfold jh;rw[if_neg wendS];rw[if_neg winputsS];rw[if_pos wlatchS]];rw[wlatchS]at hm;have hm2:oQ .str (.str gW) MO.tk MO.tv .nilf true=(True,.tup [.fn (.func 212) [] [],.bool true]):=hm;have hc3:h3[h0.length]? =some (.cells [vi t.k,.str gW,vi t.at']):=by rw[<-wlatchS];exact hc3
     refine vn ?_;simp only[wq.1,seval,t4,hc3,gl2,gm,hm2];refine vn ?_;simp only[wq.1,seval,t4,hc3];refine aS true t.at' 9 (fun _=> ?_) (fun h=>by cases h);simp only[wq.1];refine vm ?_;simp only[wq.1,seval,t0,t1];refine ag.mono (FM K k3 hp3 t r hl hs hfw.l) ?_;obtain⟨res,hres⟩:∃res:RB Ps,res=(mQ p2 t r):=⟨_,rfl⟩;rw[<-hres];rintro ae h' q ⟨hq,hH,hr⟩;cases res with
     |ok p'=>obtain⟨rfl,last',kk⟩:=hr;simp only[wq.1,bn,hd];exact⟨hkq hq,hH,rfl,last',kk⟩
     |error x=>have hr:ae= .pan (jW x.1 x.2):=hr;subst hr;simp only[wq.1,dW,hd];exact⟨hkq hq,hH,rfl⟩
    by_cases wmodelS:t.t=fC
    ·rw[show jh p2 t r=(if r.length<=1 then .ok {p2 with begun:=true} else .error (t.at',2))from by unfold jh;rw[if_neg wendS];rw[if_neg winputsS];rw[if_neg wlatchS];rw[if_pos wmodelS]];rw[wmodelS]at hm;have hm2:oQ .str (.str fC) MO.tk MO.tv .nilf true=(True,.tup [.fn (.func 209) [] [],.bool true]):=hm;have hc3:h3[h0.length]? =some (.cells [vi t.k,.str fC,vi t.at']):=by rw[<-wmodelS];exact hc3
     refine vn ?_;simp only[wq.1,seval,t4,hc3,gl2,gm,hm2];refine vn ?_;simp only[wq.1,seval,t4,hc3];refine aS true t.at' 9 (fun _=> ?_) (fun h=>by cases h);simp only[wq.1];refine vm ?_;simp only[wq.1,seval,t0,t1];refine ag.mono (FI K k3 (fun _ _ h=>by cases h) hp3 t r (by omega)) ?_;obtain⟨res,hres⟩:∃res:RB Ps,res=(if r.length<=1 then .ok {p2 with begun:=true} else .error (t.at',2)):=⟨_,rfl⟩;rw[<-hres];rintro ae h' q ⟨hq,hH,hr⟩;cases res with
     |ok p'=>obtain⟨rfl,last',kk⟩:=hr;simp only[wq.1,bn,hd];exact⟨hkq hq,hH,rfl,last',kk⟩
     |error x=>have hr:ae= .pan (jW x.1 x.2):=hr;subst hr;simp only[wq.1,dW,hd];exact⟨hkq hq,hH,rfl⟩
    by_cases wnamesS:t.t=gI
    ·rw[show jh p2 t r=(pI p2 t r)from by unfold jh;rw[if_neg wendS];rw[if_neg winputsS];rw[if_neg wlatchS];rw[if_neg wmodelS];rw[if_pos wnamesS]];rw[wnamesS]at hm;have hm2:oQ .str (.str gI) MO.tk MO.tv .nilf true=(True,.tup [.fn (.func 213) [] [],.bool true]):=hm;have hc3:h3[h0.length]? =some (.cells [vi t.k,.str gI,vi t.at']):=by rw[<-wnamesS];exact hc3
     refine vn ?_;simp only[wq.1,seval,t4,hc3,gl2,gm,hm2];refine vn ?_;simp only[wq.1,seval,t4,hc3];refine aS true t.at' 9 (fun _=> ?_) (fun h=>by cases h);simp only[wq.1];refine vm ?_;simp only[wq.1,seval,t0,t1];refine ag.mono (DX K k3 hp3 t r hl hs hfw.g) ?_;obtain⟨res,hres⟩:∃res:RB Ps,res=(pI p2 t r):=⟨_,rfl⟩;rw[<-hres];rintro ae h' q ⟨hq,hH,hr⟩;cases res with
     |ok p'=>obtain⟨rfl,last',kk⟩:=hr;simp only[wq.1,bn,hd];exact⟨hkq hq,hH,rfl,last',kk⟩
     |error x=>have hr:ae= .pan (jW x.1 x.2):=hr;subst hr;simp only[wq.1,dW,hd];exact⟨hkq hq,hH,rfl⟩
    by_cases woutputsS:t.t=dM
    ·rw[show jh p2 t r=(yc p2 r)from by unfold jh;rw[if_neg wendS];rw[if_neg winputsS];rw[if_neg wlatchS];rw[if_neg wmodelS];rw[if_neg wnamesS];rw[if_pos woutputsS]];rw[woutputsS]at hm;have hm2:oQ .str (.str dM) MO.tk MO.tv .nilf true=(True,.tup [.fn (.func 211) [] [],.bool true]):=hm;have hc3:h3[h0.length]? =some (.cells [vi t.k,.str dM,vi t.at']):=by rw[<-woutputsS];exact hc3
     refine vn ?_;simp only[wq.1,seval,t4,hc3,gl2,gm,hm2];refine vn ?_;simp only[wq.1,seval,t4,hc3];refine aS true t.at' 9 (fun _=> ?_) (fun h=>by cases h);simp only[wq.1];refine vm ?_;simp only[wq.1,seval,t0,t1];refine ag.mono (Ak K k3 hp3 t r hl hs hfw.u) ?_;obtain⟨res,hres⟩:∃res:RB Ps,res=(yc p2 r):=⟨_,rfl⟩;rw[<-hres];rintro ae h' q ⟨hq,hH,hr⟩;cases res with
     |ok p'=>obtain⟨rfl,last',kk⟩:=hr;simp only[wq.1,bn,hd];exact⟨hkq hq,hH,rfl,last',kk⟩
     |error x=>have hr:ae= .pan (jW x.1 x.2):=hr;subst hr;simp only[wq.1,dW,hd];exact⟨hkq hq,hH,rfl⟩
    rw[show jh p2 t r= .error (t.at',9)from by unfold jh;rw[if_neg wendS];rw[if_neg winputsS];rw[if_neg wlatchS];rw[if_neg wmodelS];rw[if_neg wnamesS];rw[if_neg woutputsS]];have hm2:oQ .str (.str t.t) MO.tk MO.tv .nilf true=(True,.tup [.nilf,.bool false]):=by
     rw[hm];refine congrArg _ ?_;show(if t.t=zY then _ else if t.t=fJ then _ else if t.t=gW then _ else if t.t=fC then _ else if t.t=gI then _ else if t.t=dM then _ else _)=_;rw[if_neg wendS,if_neg winputsS,if_neg wlatchS,if_neg wmodelS,if_neg wnamesS,if_neg woutputsS]
    refine vn ?_;simp only[wq.1,seval,t4,hc3,gl2,gm,hm2];refine vn ?_;simp only[wq.1,seval,t4,hc3];refine aS false t.at' 9 (fun h=>by cases h) (fun _=> ?_);simp only[wq.1,dW];simp only[XE.seq];exact dA (R:=ru Hp fx o (.error (t.at',9))) (by simp only[wq.1,hd]) ⟨fun i hi=>by simp only[wq.1,hk i hi],hp3,rfl⟩
   ·rw[if_pos h46];have hb1:(((List.getD t.t 0 0).toNat:Int) != 46)=true:=by
     rw[hgt0,bne_iff_ne];intro e;refine h46 ?_;have e:c.toNat=46:=by omega
     rw[<-UInt8.ofNat_toNat (x:=c),e];rfl
    refine⟨hl0,?_⟩;refine jY (b:=true) (by simp only[wq.1,↓reduceIte]) (by simp only[wq.1,↓reduceIte,hb1]) (fun _=> ?_) (fun h=>by cases h);refine vn ?_;simp only[wq.1,seval,t0,t1];refine ag.mono (Jj K k1 lo hp1 t r hl hst hs hfw.g hfw.r) ?_;rintro ae h' q ⟨hq,hH,hres⟩;have hkq:∀i,fx i\/i=o.PP->(f.k i||q i)=false:=fun i hi=>by rw[hk i hi,hq i hi];rfl
    cases hre:IW p t r with
    |ok p'=>rw[hre]at hres;obtain⟨rfl,last',kk⟩:=hres;simp only[wq.1,bn,hd];refine vm ?_;simp only[wq.1,hd];exact⟨hkq,hH,rfl,last',kk⟩
    |error x=>rw[hre]at hres;have hres:ae= .pan (jW x.1 x.2):=hres;subst hres;simp only[wq.1,dW,hd];simp only[XE.seq];exact dA (R:=ru Hp fx o (.error x)) (by simp only[wq.1,hd]) ⟨hkq,hH,rfl⟩
  ·have hE:jA p (t::r)= .error (t.at',2):=by rw[oM,if_pos];rw[he];exact hb
   rw[hE];simp only[wq.1,dW];simp only[XE.seq];exact dA (R:=ru Hp fx o (.error (t.at',2))) (by simp only[wq.1]) ⟨fun _ _=>by simp only[wq.1],hp1,rfl⟩
theorem xC:∀(l:List Tk)(b:Bool),∀t∈mP b l,t∈l
 |[],_,t,h=>by rw[mP]at h;exact h
 |a::r,b,t,h=>by
  rw[mP]at h;split at h
  ·split at h
   ·exact List.mem_cons_of_mem _ (xC r _ t h)
   ·rcases zrj.1 h with h|h
    ·rw[h];simp
    ·exact List.mem_cons_of_mem _ (xC r _ t h)
  ·rcases zrj.1 h with h|h
   ·rw[h];simp
   ·exact List.mem_cons_of_mem _ (xC r _ t h)
theorem Aq:∀(l acc ln:List Tk),ln∈bM acc l->ln.length<=acc.length+l.length/\∀t∈ln,t∈acc\/(t∈l/\t.k≠3)
 |[],acc,ln,h=>by rw[bM]at h;cases h
 |a::r,acc,ln,h=>by
  rw[bM]at h;split at h
  ·rcases zrj.1 h with h|h
   ·subst h;exact⟨by omega,fun t ht=> .inl ht⟩
   ·obtain⟨h1,h2⟩:=Aq r [] ln h;refine⟨by simp only[List.length_nil,zrt]at h1 ⊢;omega,fun t ht=> ?_⟩;rcases h2 t ht with h|⟨h,h'⟩
    ·cases h
    ·exact .inr ⟨List.mem_cons_of_mem _ h,h'⟩
  ·rename_i hk;obtain⟨h1,h2⟩:=Aq r (acc++[a]) ln h;refine⟨by simp only[zqa,zrt,List.length_nil]at h1 ⊢;omega,fun t ht=> ?_⟩;rcases h2 t ht with h|⟨h,h'⟩
   ·rcases zrf.1 h with h|h
    ·exact .inl h
    ·rw[zrc.1 h];exact .inr ⟨by simp,hk⟩
   ·exact .inr ⟨List.mem_cons_of_mem _ h,h'⟩
theorem rC:∀(l acc:List Tk),((bM acc l).map List.length).sum<=acc.length+l.length
 |[],acc=>by rw[bM];simp
 |a::r,acc=>by
  rw[bM];split
  ·have:=rC r [];simp only[zrd,List.sum_cons,List.length_nil,zrt]at this ⊢;omega
  ·have:=rC r (acc++[a]);simp only[zqa,zrt,List.length_nil]at this ⊢;omega
theorem vw:∀(n p:Nat)(s:S),∀t∈tkB n p s,t.t.length<=s.length/\(t.k≠3->t.t≠[])
 |0,p,s,t,h=>by simp[tkB]at h
 |n+1,p,[],t,h=>by simp[tkB]at h
 |n+1,p,c::r,t,h=>by
  have ih := fun p' (s' : S) (hs : s'.length <= (c :: r).length) t (ht : t ∈ tkB n p' s') => (show t.t.length <= (c :: r).length /\ (t.k ≠ 3 -> t.t ≠ []) from
   ⟨Nat.le_trans (vw n p' s' t ht).1 hs,(vw n p' s' t ht).2⟩)
  rw[tkB]at h;split at h
  ·exact ih _ _ (List.dropWhile_sublist _).length_le t h
  ·split at h
   ·exact ih _ _ (by simp;omega) t h
   ·split at h
    ·exact ih _ _ (by simp) t h
    ·split at h
     ·rcases zrj.1 h with h|h
      ·subst h;exact⟨by simp,fun hk=>absurd rfl hk⟩
      ·exact ih _ _ (by simp) t h
     ·split at h
      ·rcases zrj.1 h with h|h
       ·subst h;exact⟨by simp,fun _=>by simp⟩
       ·exact ih _ _ (by simp) t h
      ·rename_i h1 h2 h3 h4 h5;rcases zrj.1 h with h|h
       ·subst h;refine⟨(List.takeWhile_sublist _).length_le,fun _=> ?_⟩;have hw:gU c=true:=by
         unfold gU;have h3:pG c=false:=by simpa using h3
         simp[h3,h1,h4,h5]
        show(c::r).takeWhile gU≠[];rw[List.takeWhile_cons,if_pos hw];simp
       ·exact ih _ _ (List.dropWhile_sublist _).length_le t h
structure LnOk(N:Nat)(ln:List Tk):Prop where
 n:ln.length<=N
 t:∀t∈ln,t.t.length<=N/\t.t≠[]
theorem Ar(s:S):(iQ s).length<=s.length+1:=by unfold iQ;refine Nat.le_trans (E8 _ _) ?_;rw[zqa,zrk];have:=E9 s.length 0 s;omega
theorem TQ{s:S}{ln:List Tk}(h:ln∈bM [] (iQ s)):LnOk (s.length+1) ln:=by
 obtain⟨h1,h2⟩:=Aq _ _ _ h;have:=Ar s;refine⟨by simp only[List.length_nil]at h1;omega,fun t ht=> ?_⟩;rcases h2 t ht with h|⟨h,hk⟩
 ·cases h
 ·have h3:=xC _ _ t h;rcases zrf.1 h3 with h3|h3
  ·obtain⟨a,b⟩:=vw _ _ _ t h3;exact⟨by omega,b hk⟩
  ·rw[zrc.1 h3]at hk;exact absurd rfl hk
def Ue(l:List Ga):Nat:=(l.map fun g=>g.ins.length+g.rows.length+1).sum
def cnt(p:Ps):Nat:=p.c.ins.length+p.c.outs.length+p.c.lat.length+Ue p.c.gates
theorem vz(l:List Ga)(g:Ga):Ue (l++[g])=Ue l+(g.ins.length+g.rows.length+1):=by simp[Ue]
theorem Hg:∀l:List Ga,l.length<=Ue l
 |[]=>zrb _
 |g::l=>by have:=Hg l;unfold Ue at this ⊢;simp only[zrd,List.sum_cons,zrt];omega
theorem QK{p p':Ps}{ln:List Tk}(h:jA p ln= .ok p'):cnt p'<=cnt p+ln.length:=by
 cases ln with
 |nil=>cases h;exact zrb _
 |cons t r =>
  rw[oM]at h;split at h
  ·cases h
  ·split at h
   ·unfold IW at h;split at h
    ·rename_i g _ hgl;split at h
     ·split at h
      ·cases h;obtain⟨gs,hgs⟩:=List.getLast?_eq_some_iff.1 hgl;unfold cnt;dsimp only;rw[hgs,List.dropLast_concat,vz,vz];simp only[zqa,zrt,List.length_nil];omega
      ·cases h
     ·cases h
    ·cases h
   ·obtain⟨q,hq⟩:∃q:Ps,q={p with on:=false}:=⟨_,rfl⟩;have hc:cnt p=cnt q:=by rw[hq];rfl
    rw[hc];rw[<-hq]at h;clear hq hc;unfold jh at h;split at h
    ·split at h
     ·cases h;exact Nat.le_add_right _ _
     ·cases h
    ·split at h
     ·unfold N7 at h;cases hw:bQ r with
      |error x=>rw[hw]at h;cases h
      |ok l=>rw[hw]at h;cases h;have:=jT hw;unfold cnt;simp only[zqa,zrt];omega
     ·split at h
      ·unfold mQ at h;split at h
       ·split at h
        ·split at h
         ·cases h
         ·split at h
          ·cases h
          ·split at h
           ·cases h;unfold cnt qg;simp only[zqa,zrt,List.length_nil];omega
           ·split at h
            ·cases h;unfold cnt qg;simp only[zqa,zrt,List.length_nil];omega
            ·cases h
        ·cases h
       ·cases h
      ·split at h
       ·split at h
        ·cases h;exact Nat.le_add_right _ _
        ·cases h
       ·split at h
        ·unfold pI at h;split at h
         ·cases h
         ·rename_i hr;cases hw:bQ r with
          |error x=>rw[hw]at h;cases h
          |ok l=>rw[hw]at h;cases h;have:=jT hw;unfold cnt;dsimp only;rw[vz];simp only[List.length_dropLast,List.length_nil,zrt];have:r.length≠0:=fun e=>hr (List.eq_nil_of_length_eq_zero e);omega
        ·split at h
         ·unfold yc at h;cases hw:bQ r with
          |error x=>rw[hw]at h;cases h
          |ok l=>rw[hw]at h;cases h;have:=jT hw;unfold cnt;simp only[zqa,zrt];omega
         ·cases h
theorem xE:∀(ls:List (List Tk))(p p':Ps),bF p ls= .ok p'->cnt p'<=cnt p+(ls.map List.length).sum
 |[],p,p',h=>by cases h;exact Nat.le_add_right _ _
 |l::ls,p,p',h=>by
  rw[bF]at h;cases hl:jA p l with
  |error x=>rw[hl]at h;cases h
  |ok q=>rw[hl]at h;have h1:=QK hl;have h2:=xE ls q p' h;simp only[zrd,List.sum_cons];omega
theorem NI{p:Ps}(h:cnt p<=1000000):Few5 p:=by have h1:=Hg p.c.gates;unfold cnt at h;refine⟨by omega,by omega,by omega,by omega,fun g hg=> ?_⟩;obtain⟨gs,hgs⟩:=List.getLast?_eq_some_iff.1 hg;rw[hgs,vz]at h;omega
theorem xF:∀(d:List (List Tk))(p q:Ps)(l:List Tk),bF p d= .ok q->bF p (d++[l])=jA q l
 |[],p,q,l,h=>by cases h;show(match jA p l with | .error e=>Except.error e | .ok p=>bF p [])=_;cases jA p l<;>rfl
 |a::d,p,q,l,h=>by
  rw[bF]at h;rw[List.cons_append,bF];cases ha:jA p a with
  |error x=>rw[ha]at h;cases h
  |ok q'=>rw[ha]at h;exact xF d q' q l h
theorem yX:∀(d r:List (List Tk))(p:Ps)(x:Nat×Int),bF p d= .error x->bF p (d++r)= .error x
 |[],r,p,x,h=>by cases h
 |a::d,r,p,x,h=>by
  rw[bF]at h;rw[List.cons_append,bF];cases ha:jA p a with
  |error y=>rw[ha]at h;exact h
  |ok q'=>rw[ha]at h;exact yX d r q' x h
theorem D6[MO]{h:H}{K:H->(Nat->Bool)->Prop}(hK:∀X,K (h++[X]) (fun _=>false)):iV TE 29 [.lp 0 0,.lp 1 0,.lp 2 0] h K:=by
 have hgE:∀x:O,(h++[x])[h.length]? =some x:=fun x=>by simp
 have hgS:∀x y:O,(h++[x]).set h.length y=h++[y]:=fun x y=>by simp
 refine kM rfl Tryz.func29 rfl rfl (by simp[nts]) rfl (fun ev w=>rfl) rfl (by decide) ?_;simp only[nts];refine eX rfl rfl ?_;refine jK (x:= .tmp 6) (t:=77) (q:=⟨.struct [(0,3),(1,29)],2,16,.agg [vi 0,vi 0]⟩) rfl (by simp only[wq.1]) (by simp only[wq.1,↓reduceIte]) (by simp only[wq.1,↓reduceIte]) ?_;refine ay rfl rfl ?_;simp only[wq.1,↓reduceIte];refine ay rfl rfl ?_;simp only[wq.1,seval];refine ay rfl rfl ?_;simp only[wq.1,seval];refine ay rfl rfl ?_;simp only[wq.1];refine ay rfl rfl ?_;simp only[wq.1,seval,hgE,hgS];refine ay rfl rfl ?_;simp only[wq.1,seval];refine eG ?_;show awp _ _ _ _ _ _ _;refine vm ?_;simp only[wq.1,seval];exact hK _
theorem D7[MO]{s:S}{h:H}{d1 d2 d3 d4 d5 d6 d7:V}{K:H->(Nat->Bool)->Prop}(a:Nat)(e:Int)(hs:s.length<=1000000000)(g0:h[0]? =some (.cells [.str s]))(g1:h[1]? =some (.cells [d1,d2,d3,d4]))(g2:h[2]? =some (.cells [d5,d6,d7]))
 (hK:∀X,K ((h.set 1 (.cells [.nils,.nils,.nils,.nils])).set 2 (.cells (jU s a e).vc)++[X]) (fun _=>false)) :
 jI TE 29 [.lp 0 0,.lp 1 0,.lp 2 0] (jW a e) h K:=by
 have hgE:∀x:O,(h++[x])[h.length]? =some x:=fun x=>by simp
 have hgS:∀x y:O,(h++[x]).set h.length y=h++[y]:=fun x y=>by simp
 have l0:=(zqe g0).1;have l1:=(zqe g1).1;have l2:=(zqe g2).1;have k0:∀x:O,(h++[x])[0]? =some (.cells [.str s]):=fun x=>by rw[zqj l0];exact g0
 have k1:∀x:O,(h++[x])[1]? =some (.cells [d1,d2,d3,d4]):=fun x=>by rw[zqj l1];exact g1
 have k2:∀x y:O,((h++[x]).set 1 y)[2]? =some (.cells [d5,d6,d7]):=fun x y=>by rw[zqn (by decide),zqj l2];exact g2
 have hss:∀x y z:O,((h++[x]).set 1 y).set 2 z=(h.set 1 y).set 2 z++[x]:=fun x y z=>by rw[List.set_append_left _ _ l1,List.set_append_left _ _ (by rw[zrn];exact l2)]
 refine pz rfl Tryz.func29 rfl rfl (by simp[nts]) rfl (fun ev w=>rfl) rfl (by decide) ?_;simp only[nts];refine ay rfl rfl ?_;simp only[wq.1,↓reduceIte];refine⟨by decide,?_⟩;refine ay rfl rfl ?_;simp only[wq.1,↓reduceIte];refine ay rfl rfl ?_;simp only[wq.1,seval];refine ay rfl rfl ?_;simp only[wq.1,seval];refine ay rfl rfl ?_;simp only[wq.1];refine ay rfl rfl ?_;simp only[wq.1,seval,hgE,hgS];refine ay rfl rfl ?_;simp only[wq.1,seval];refine eG ?_;show awp _ _ _ _ _ _ _;have hf:∃x y z,jU s a e= .agg [vi x,vi y,vi z]:=by unfold jU;split<;>exact⟨_,_,_,rfl⟩
 obtain⟨x,y,z,hf⟩:=hf;rw[hf]at hK;have hsf:=QH s a e hs;rw[hf]at hsf;refine vn ?_;simp only[wq.1,seval];refine vm ?_;simp only[wq.1,seval,hgE,k0];refine ag.ev hsf rfl ?_;simp only[wq.1,seval,k1,k2,hss];exact hK _
abbrev ciN:O:= .cells [.nils,.nils,.nils,.nils]
abbrev faN:O:= .cells [vi 0,vi 0,vi 0]
def fxP(i:Nat):Prop:=i=0\/i=1\/i=2\/i=4\/i=9\/i=10
def oP:Pl:=⟨3,5,6,7,8⟩
structure HpP(s:S)(L:(Nat->V)->LoopState->O)(st:LoopState)(h:H):Prop where
 a:h[0]? =some (.cells [.str s])
 b:h[1]? =some ciN
 c:h[2]? =some faN
 d:h[4]? =some (.cells [.lp 3 0])
 e:h[9]? =some (.misc .dfd)
 f:∃t,t 5= .lp 4 0/\h[10]? =some (L t st)
theorem NJ{s:S}{L:(Nat->V)->LoopState->O}{st:LoopState}(hL:∀p t st,(L t st).drop p=L (fun i=>(t i).drop p) st):HpOk (HpP s L st) fxP oP where
 ext h h' q k hq hj:=by
  have z:=fun j hf=>hj j hf;obtain⟨t,t5,k10⟩:=k.f;have q4:q 4=false:=hq 4 (.inl (by simp[fxP]));have q3:q 3=false:=hq 3 (.inr rfl);refine⟨?_,?_,?_,?_,?_,fun i=>(t i).drop q,?_,?_⟩
  ·rw[z 0 (by simp[fxP]),k.a];rfl
  ·rw[z 1 (by simp[fxP]),k.b];rfl
  ·rw[z 2 (by simp[fxP]),k.c];rfl
  ·rw[z 4 (by simp[fxP]),k.d];show some (O.cells [V.drop _ _])=_;simp only[V.drop,q3,zrm,if_false]
  ·rw[z 9 (by simp[fxP]),k.e];rfl
  ·show(t 5).drop q=_;rw[t5];simp only[V.drop,q4,zrm,if_false]
  ·rw[z 10 (by simp[fxP]),k10,zrw,hL]
 n1:=by simp[fxP,oP]
 n2:=by simp[fxP,oP]
 n3:=by simp[fxP,oP]
 n4:=by simp[fxP,oP]
 n5:=by simp[fxP,oP]
 lt h k j hf:=by
  have lt:∀ {j x},h[j]? =some x->j<h.length:=fun hx=>(zqe hx).1;obtain⟨t,_,k10⟩:=k.f;rcases hf with rfl|rfl|rfl|rfl|rfl|rfl
  ·exact lt k.a
  ·exact lt k.b
  ·exact lt k.c
  ·exact lt k.d
  ·exact lt k.e
  ·exact lt k10
def RHp(s:S)(L:(Nat->V)->LoopState->O)(d:List (List Tk))(h:H):Prop :=
 ∃p last,bF ps0 d= .ok p/\PH oP p last h/\(∀RW n,last=some (.ls RW 1 0 n n)->¬fxP RW)/\HpP s L .ready h
def BHp(s:S)(L:(Nat->V)->LoopState->O)(A:List (List Tk))(v:V)(h:H):Prop :=
 ∃x,bF ps0 A= .error x/\v=jW x.1 x.2/\HpP s L .busy h
def kR(s:S):V:=match mV s with
 | .ok c=> .tup [c.v,.agg [vi 0,vi 0,vi 0]]
 | .error x=> .tup [(⟨[],[],[],[]⟩:Ci).v,jU s x.1 x.2]
def kpP(i:Nat):Prop:=fxP i\/i=3
theorem kp3{j:Nat}(hj:j<3):kpP j:=by
 have:j=0\/j=1\/j=2:=by omega
 rcases this with rfl|rfl|rfl<;>simp[kpP,fxP]
theorem PH.set10{p:Ps}{last:Option V}{h:H}(k:PH oP p last h)(x:O)(hn:∀cs,h[10]? ≠some (.cells cs)):PH oP p last (h.set 10 x):=by
 have old:∀(j:Nat)(y:O),h[j]? =some y->j≠10->(h.set 10 x)[j]? =some y:=fun j y hy hj=>by rw[zqn (Ne.symm hj)];exact hy
 refine⟨old _ _ k.pp (by decide),old _ _ k.i (by decide),old _ _ k.u (by decide),old _ _ k.l (by decide),old _ _ k.g (by decide),?_,k.d⟩;have hr:=k.rows;cases last with
 |none=>exact hr
 |some v =>
  obtain⟨h1,g,h2,h3⟩:=hr;refine⟨h1,g,h2,?_⟩;rcases h3 with h3|⟨RW,a,b,c⟩
  ·exact .inl h3
  ·exact .inr ⟨RW,a,old _ _ b (fun e=>hn _ (by rw[<-e];exact b)),c⟩
theorem HpP.set{s:S}{L:(Nat->V)->LoopState->O}{st:LoopState}{h:H}(k:HpP s L st h)(st':LoopState){t:Nat->V}(t5:t 5= .lp 4 0):HpP s L st' (h.set 10 (L t st')):=by
 obtain⟨t0,_,k10⟩:=k.f;have old:∀(j:Nat)(y:O),h[j]? =some y->j≠10->(h.set 10 (L t st'))[j]? =some y:=fun j y hy hj=>by rw[zqn (Ne.symm hj)];exact hy
 exact⟨old _ _ k.a (by decide),old _ _ k.b (by decide),old _ _ k.c (by decide),old _ _ k.d (by decide),old _ _ k.e (by decide),t,t5,zqt (zqe k10).1⟩
abbrev lpL(asg body:Code):(Nat->V)->LoopState->O:=fun t st=> .loop t 74 #[19] asg body st none
abbrev hp8(s:S):H:=[.cells [.str s],ciN,faN,.cells [.ls 5 1 0 0 0,.ls 6 1 0 0 0,.ls 7 3 0 0 0,.ls 8 5 0 0 0,.bool false,.bool false,.nilp],.cells [.lp 3 0],.cells [],.cells [],.cells [],.cells []]
theorem ph0(s:S)(X:H):PH oP ps0 none (hp8 s++X):=⟨rfl,rfl,rfl,rfl,rfl,rfl,by decide⟩
theorem FN[MO]{s:S}(hs:s.length<=800000){asg body:Code}
 (hasg:∀lb (f:Fr) h ln (Q:XE->Fr->H->Prop),f.t 19=iO ln->Q .normal (f.put (some 6) (iO ln)) h->awp TE 74 (some lb) asg Q f h)
 (hbody:∀lb (f:Fr) h ln (Q:XE->Fr->H->Prop) (QB:V->Fr->H->Prop),f.t 5= .lp 4 0->f.t 6=iO ln->h[4]? =some (.cells [.lp 3 0])->f.d=[] ->
  ag TE 33 [.lp 3 0,iO ln] h (fun ae h' q=>∀f':Fr,f'.d=[]->f'.k=(fun i=>f.k i||q i)->match ae with | .ret _=>Q .normal f' h' | .pan v=>QB v f' h')->Q5 TE 74 (some lb) body Q QB f h)
 {t:Nat->V} (t5:t 5= .lp 4 0) {R:AEnd->H->(Nat->Bool)->Prop}
 (hok:∀v p last h' q,(∀i,kpP i->q i=false)->bF ps0 (bM [] (iQ s))= .ok p->PH oP p last h'->(∀RW n,last=some (.ls RW 1 0 n n)->¬fxP RW)->HpP s (lpL asg body) .ready h'->R (.ret v) h' q)
 (hbad:∀x h' q,(∀i,kpP i->q i=false)->bF ps0 (bM [] (iQ s))= .error x->HpP s (lpL asg body) .busy h'->R (.pan (jW x.1 x.2)) h' q) :
 ag TE 73 ([]++[.yd ((hp8 s).length+1)]++[.ip (iO (iQ s))]) (hp8 s++[.misc .dfd]++[.loop t 74 #[19] asg body .ready none]) R:=by
 have hbl:=Ar s;have hL:∀p t st,((lpL asg body) t st).drop p=(lpL asg body) (fun i=>(t i).drop p) st:=fun _ _ _=>rfl;obtain⟨A,hA⟩:∃A,A=bM [] (iQ s):=⟨_,rfl⟩;have hAl:∀ln∈A,LnOk (s.length+1) ln:=fun ln h=>TQ (by rw[<-hA];exact h);have hAn:∀ln∈A,ln≠[]:=fun ln h=>Po (s:=s) ln (by rw[<-hA];exact h);have hAs:(A.map List.length).sum<=s.length+1:=by have:=rC (iQ s) [];rw[<-hA]at this;simp only[List.length_nil]at this;omega
 refine ag.mono (DU (iQ s) (by omega) (y:=10) (RHp s (lpL asg body)) (BHp s (lpL asg body) A) kpP (.inl (by simp[fxP])) ?_ ?_ _ ?_) ?_
 ·rintro d h X ⟨p,last,h1,h2,h3,h4⟩;refine⟨p,last,h1,h2.app X,h3,(NJ hL).same h4 fun j hf=> ?_⟩;rw[zqj ((NJ hL).lt h h4 j hf)]
 ·rintro d ln rest h ⟨p,last,h1,h2,h3,h4⟩ hsp;rw[<-hA]at hsp;have hin:ln∈A:=by rw[hsp];simp
  obtain⟨hn1,hn2⟩:=hAl ln hin;obtain⟨t1,t15,k10⟩:=h4.f;have hnc:∀cs,h[10]? ≠some (.cells cs):=fun cs e=>by rw[k10]at e;cases e
  have k2:PH oP p last (h.set 10 (lpL asg body t1 .busy)):=h2.set10 _ hnc;have hp2:HpP s (lpL asg body) .busy (h.set 10 (lpL asg body t1 .busy)):=h4.set .busy t15;have hsum:(d.map List.length).sum+ln.length<=s.length+1:=by rw[hsp]at hAs;simp only[zql,zrd,List.sum_append,List.sum_cons]at hAs;omega
  have hcn:=xE d ps0 p h1;have hc0:cnt ps0=0:=rfl;have hfw:Few5 p:=NI (by omega);refine⟨t1,74,#[19],asg,body,k10,rfl,by decide,fun lb=> ?_⟩;refine hasg lb _ _ ln _ (by simp[fZ,Fr.put]) ⟨rfl,rfl,t1,k10,?_⟩;refine hbody lb _ _ ln _ _ (by simp[fZ,Fr.put,t15]) (by simp[fZ,Fr.put]) hp2.d rfl ?_;cases hlc:ln with
  |nil=>exact absurd hlc (hAn ln hin)
  |cons tk r =>
   rw[hlc]at hn1 hn2;refine ag.mono (D5 (NJ hL) k2 h3 hp2 tk r (by simp only[zrt]at hn1;omega) (hn2 tk (by simp)).2 (by have:=(hn2 tk (by simp)).1;omega) (fun x hx=>by have:=(hn2 x (by simp[hx])).1;omega) hfw) ?_;rintro ae h' q ⟨hq,hH,hr⟩ f' hd hk;have hkk:∀i,kpP i->f'.k i=false:=fun i hi=>by
    rw[hk];show(false||q i)=false;rw[hq i (by rcases hi with hi|hi;exact .inl hi;exact .inr hi)];rfl
   have hsn:=xF d ps0 p ln h1;rw[hlc]at hsn;cases hle:jA p (tk::r)with
   |ok p'=>rw[hle]at hr hsn;obtain⟨rfl,last',k',lo'⟩:=hr;obtain⟨t2,t25,k10'⟩:=hH.f;refine⟨rfl,hkk 10 (.inl (by simp[fxP])),t2,.busy,k10',hkk,p',last',hsn,k'.set10 _ (fun cs e=>by rw[k10']at e;cases e),lo',hH.set .ready t25⟩
   |error x=>rw[hle]at hr hsn;have hr:ae= .pan (jW x.1 x.2):=hr;subst hr;refine⟨hd,hkk,x,?_,rfl,hH⟩;have:=yX (d++[tk::r]) rest ps0 x hsn;rw[hsp,hlc,show d++(tk::r)::rest=d++[tk::r]++rest by simp];exact this
 ·exact⟨ps0,none,rfl,by rw[zqc];exact ph0 s _,fun _ _ h=>(by cases h),⟨rfl,rfl,rfl,rfl,rfl,t,t5,rfl⟩⟩
 ·rintro ae h' q ⟨hq,hr⟩;cases ae with
  |ret v=>obtain⟨p,last,h1,h2,h3,h4⟩:=hr;exact hok v p last h' q hq h1 h2 h3 h4
  |pan v=>obtain⟨x,h1,rfl,h2⟩:=hr;exact hbad x h' q hq (by rw[<-hA];exact h1) h2
structure HpQ(s:S)(h:H):Prop where
 a:h[0]? =some (.cells [.str s])
 b:h[1]? =some ciN
 c:h[2]? =some faN
 d:h[4]? =some (.cells [.lp 3 0])
 e:h[9]? =some (.misc .dfd)
 f:∃x,h[10]? =some x
theorem Vj{s:S}:HpOk (HpQ s) fxP oP where
 ext h h' q k hq hj:=by
  have z:=fun j hf=>hj j hf;have q3:q 3=false:=hq 3 (.inr rfl);obtain⟨x10,k10⟩:=k.f;refine⟨?_,?_,?_,?_,?_,x10.drop q,?_⟩
  ·rw[z 0 (by simp[fxP]),k.a];rfl
  ·rw[z 1 (by simp[fxP]),k.b];rfl
  ·rw[z 2 (by simp[fxP]),k.c];rfl
  ·rw[z 4 (by simp[fxP]),k.d];show some (O.cells [V.drop _ _])=_;simp only[V.drop,q3,zrm,if_false]
  ·rw[z 9 (by simp[fxP]),k.e];rfl
  ·rw[z 10 (by simp[fxP]),k10];rfl
 n1:=by simp[fxP,oP]
 n2:=by simp[fxP,oP]
 n3:=by simp[fxP,oP]
 n4:=by simp[fxP,oP]
 n5:=by simp[fxP,oP]
 lt h k j hf:=by
  have lt:∀ {j x},h[j]? =some x->j<h.length:=fun hx=>(zqe hx).1;obtain⟨x10,k10⟩:=k.f;rcases hf with rfl|rfl|rfl|rfl|rfl|rfl
  ·exact lt k.a
  ·exact lt k.b
  ·exact lt k.c
  ·exact lt k.d
  ·exact lt k.e
  ·exact lt k10
structure PF(s:S)(f:Fr):Prop where
 t1:f.t 1= .lp 0 0
 t2:f.t 2= .lp 1 0
 t3:f.t 3= .lp 2 0
 t4:f.t 4=iO (iQ s)
 t5:f.t 5= .lp 4 0
 d:f.d=[9]
 k:∀i,kpP i->f.k i=false
theorem PF.drop{s:S}{f:Fr}(g:PF s f){q:Nat->Bool}(hq:∀i,kpP i->q i=false):PF s (f.drop q):=by
 have z:∀i,fxP i->q i=false:=fun i hi=>hq i (.inl hi);refine⟨?_,?_,?_,?_,?_,g.d,fun i hi=> ?_⟩
 ·show(f.t 1).drop q=_;rw[g.t1,V.drop,z 0 (by simp[fxP])];rfl
 ·show(f.t 2).drop q=_;rw[g.t2,V.drop,z 1 (by simp[fxP])];rfl
 ·show(f.t 3).drop q=_;rw[g.t3,V.drop,z 2 (by simp[fxP])];rfl
 ·show(f.t 4).drop q=_;rw[g.t4];rfl
 ·show(f.t 5).drop q=_;rw[g.t5,V.drop,z 4 (by simp[fxP])];rfl
 ·show(f.k i||q i)=false;rw[g.k i hi,hq i hi];rfl
structure PD(s:S)(p:Ps)(g:V)(i:Nat)(h:H):Prop where
 q:HpQ s h
 pp:h[3]? =some (ppC oP p g)
 i':h[5]? =some (.cells (p.c.ins.map V.str))
 u:h[6]? =some (.cells (p.c.outs.map V.str))
 l:h[7]? =some (.cells (p.c.lat.flatMap laX))
 ga:h[8]? =some (.cells (((p.c.gates.take i).map aU++p.c.gates.drop i).flatMap gaX))
theorem PD.put{s:S}{p:Ps}{g:V}{i:Nat}{h:H}(k:PD s p g i h)(h':H)(i2:Nat)(hga:h'[8]? =some (.cells (((p.c.gates.take i2).map aU++p.c.gates.drop i2).flatMap gaX)))(ho:∀j x,h[j]? =some x->j<11->j≠8->h'[j]? =some x):PD s p g i2 h' :=
 ⟨⟨ho _ _ k.q.a (by decide) (by decide),ho _ _ k.q.b (by decide) (by decide),ho _ _ k.q.c (by decide) (by decide),ho _ _ k.q.d (by decide) (by decide),ho _ _ k.q.e (by decide) (by decide),k.q.f.elim fun x hx=>⟨x,ho _ _ hx (by decide) (by decide)⟩⟩,ho _ _ k.pp (by decide) (by decide),ho _ _ k.i' (by decide) (by decide),ho _ _ k.u (by decide) (by decide),ho _ _ k.l (by decide) (by decide),hga⟩
theorem rD[MO](s:S)(hs:s.length<=800000):Ev TE 11 [.str s] (kR s):=by
 have hM:=mLx;have hGA:oP.GA=8:=rfl;refine l7 ?_;refine kK rfl Tryz.func11 rfl (by simp[nts]) fun ok pl0 w0=> ?_;simp only[nts];refine zN (Q:=fun _ _ _=>False) ?_ (fun _ _ _ h=>by obtain⟨_,_,_,_,_,_,h⟩:=h;exact h.elim);refine vm ?_;simp only[wq.1,seval];refine EL rfl (fn:=Tryz.f11) (q:=29) (caps:=[.lp 0 0,.lp 1 0,.lp 2 0]) (fx:= .tmp 12) rfl rfl (by simp only[wq.1,seval]) rfl rfl rfl rfl (by simp only[wq.1,seval]) (by simp only[wq.1,seval]) (by simp only[wq.1]) rfl fun dd=> ?_;simp only[nts];obtain⟨ee,hee⟩:∃ee:E,ee={TE with tl:=[dd]}:=⟨_,rfl⟩;have hP:ee.P=P:=by rw[hee];rfl
 have hmix:ee.P.follows .mixedOrders=true:=by rw[hP];exact mixed
 have hT:∀ {g:FuncId} {args:List V} {h:H} {R:AEnd->H->(Nat->Bool)->Prop},ag TE g args h R->ag ee g args h R:=fun hc=>by rw[hee];exact hc.tl _
 have hEv:∀ {g:FuncId} {args:List V} {r:V},Ev TE g args r->Ev ee g args r:=fun hv=>by rw[hee];exact fun ok w vs hs hl=>hv ok w vs (hs.tl TE.tl) hl
 rw[<-hee];obtain⟨QP,eQP⟩:∃QP:XE->Fr->H->Prop,QP=fun xe f' h'=>∃h2,fH f'.d h'=some h2/\V.drops f'.k [V.lp 0 0,V.lp 1 0,V.lp 2 0]=[V.lp 0 0,V.lp 1 0,V.lp 2 0]/\(match xe with
  | .pan v=>jI TE 29 [V.lp 0 0,V.lp 1 0,V.lp 2 0] v h2 fun h'' p=>lZ TE.P Tryz.f11.results.toList (fun v h k=>aA TE h v (kR s)) ({f' with d:=[]}.drop p) h''
  | .ret=>iV TE 29 [V.lp 0 0,V.lp 1 0,V.lp 2 0] h2 fun h'' p=>lZ TE.P Tryz.f11.results.toList (fun v h k=>aA TE h v (kR s)) ({f' with d:=[]}.drop p) h''
  |_=>False):=⟨_,rfl⟩
 refine bi (Q:=QP) (fun xe f' h' hq=>by rw[eQP]at hq;exact hq) ?_;have hkd:∀ {k:Nat->Bool},(∀j,j<3->k j=false)->V.drops k [V.lp 0 0,V.lp 1 0,V.lp 2 0]=[V.lp 0 0,V.lp 1 0,V.lp 2 0]:=fun {k} h=>by
  have z0:=h 0 (by decide);have z1:=h 1 (by decide);have z2:=h 2 (by decide);simp only[V.drops,V.drop,z0,z1,z2,if_false,zrm]
 have hpan:∀ {x:Nat×Int} {f':Fr} {h:H},mV s= .error x->f'.d=[9]->(∀j,j<3->f'.k j=false)->f'.t 2= .lp 1 0->f'.t 3= .lp 2 0->h[9]? =some (.misc .dfd)->h[0]? =some (.cells [.str s])->h[1]? =some ciN->h[2]? =some faN->QP (.pan (jW x.1 x.2)) f' h:=by
  intro x f' h hp hd hk t2 t3 g9 g0 g1 g2;rw[eQP];refine⟨h.set 9 (.misc .shut),by rw[hd];simp only[fH,g9],hkd hk,?_⟩;have e0:(h.set 9 (.misc .shut))[0]? =some (.cells [.str s]):=by rw[zqn (by decide)];exact g0
  have e1:(h.set 9 (.misc .shut))[1]? =some ciN:=by rw[zqn (by decide)];exact g1
  have e2:(h.set 9 (.misc .shut))[2]? =some faN:=by rw[zqn (by decide)];exact g2
  generalize h.set 9 (.misc .shut)=h2 at e0 e1 e2 ⊢;refine D7 x.1 x.2 (by omega) e0 e1 e2 fun X=> ?_;have l1:=(zqe e1).1;have l2:=(zqe e2).1;have r1:((h2.set 1 (.cells [.nils,.nils,.nils,.nils])).set 2 (.cells (jU s x.1 x.2).vc)++[X])[1]? =some ciN:=by
   rw[zqj (by simp;omega),zqn (by decide),zqt l1]
  have r2:((h2.set 1 (.cells [.nils,.nils,.nils,.nils])).set 2 (.cells (jU s x.1 x.2).vc)++[X])[2]? =some (.cells (jU s x.1 x.2).vc):=by rw[zqj (by simp;omega),zqt (by simp;omega)]
  generalize (h2.set 1 (.cells [.nils,.nils,.nils,.nils])).set 2 (.cells (jU s x.1 x.2).vc)++[X]=h3 at r1 r2 ⊢;have hv:kR s= .tup [(⟨[],[],[],[]⟩:Ci).v,jU s x.1 x.2]:=by unfold kR;rw[hp]
  have hf:∃a b c,jU s x.1 x.2= .agg [vi a,vi b,vi c]:=by unfold jU;split<;>exact⟨_,_,_,rfl⟩
  obtain⟨a,b,c,hf⟩:=hf;rw[hv];rw[hf]at r2 ⊢;simp only[Tryz.results11,nts];simp only[wq.1,seval,t2,t3,r1,r2];exact aA.tup (au.cons (aA.agg (au.cons aA.nils (au.cons aA.nils (au.cons aA.nils (au.cons aA.nils au.nil))))) (au.cons (aA.dat rfl) au.nil))
 have hret:∀ {c:Ci} {f':Fr} {h:H},mV s= .ok c->f'.d=[9]->(∀j,j<3->f'.k j=false)->f'.t 2= .lp 1 0->f'.t 3= .lp 2 0->h[9]? =some (.misc .dfd)->h[1]? =some (.cells [.ls 5 1 0 c.ins.length c.ins.length,.ls 6 1 0 c.outs.length c.outs.length,.ls 7 3 0 c.lat.length c.lat.length,.ls 8 5 0 c.gates.length c.gates.length])->h[2]? =some faN ->
  h[5]? =some (.cells (c.ins.map V.str))->h[6]? =some (.cells (c.outs.map V.str))->h[7]? =some (.cells (c.lat.flatMap laX))->h[8]? =some (.cells (c.gates.flatMap gaX))->QP .ret f' h:=by
  intro c f' h hp hd hk t2 t3 g9 g1 g2 g5 g6 g7 g8;rw[eQP];refine⟨h.set 9 (.misc .shut),by rw[hd];simp only[fH,g9],hkd hk,?_⟩;refine D6 fun X=> ?_;have old:∀ {j:Nat} {x:O},h[j]? =some x->j≠9->(h.set 9 (.misc .shut)++[X])[j]? =some x:=fun {j x} hx hj=>by
   have:=(zqe hx).1;rw[zqj (by simp;omega),zqn (Ne.symm hj)];exact hx
  have r1:=old g1 (by decide);have r2:=old g2 (by decide);have r5:=old g5 (by decide);have r6:=old g6 (by decide);have r7:=old g7 (by decide);have r8:=old g8 (by decide);generalize h.set 9 (.misc .shut)++[X]=h3 at r1 r2 r5 r6 r7 r8 ⊢;have hv:kR s= .tup [c.v,.agg [vi 0,vi 0,vi 0]]:=by unfold kR;rw[hp]
  rw[hv];simp only[Tryz.results11,nts];simp only[wq.1,seval,t2,t3,r1,r2];exact aA.tup (au.cons (aA.agg (au.cons (bu r5 rfl) (au.cons (bu r6 rfl) (au.cons (Dh r7 rfl) (au.cons (Di r8 rfl) au.nil))))) (au.cons (aA.dat rfl) au.nil))
 clear eQP;have hb:=SV s (by omega);have hbl:=Ar s;refine aj (bT hmix _ _ _ _ ?_);simp only[wq.1,seval,hP];refine hT (ag.ev hb rfl ?_);simp only[wq.1,seval,hP];refine aj (bT hmix _ _ _ _ ?_);simp only[wq.1,seval,hP];refine iC (iC (iC (iC ?_)));refine jG (h':=[.cells [.str s],ciN,faN,.cells [.ls 5 1 0 0 0,.ls 6 1 0 0 0,.ls 7 3 0 0 0,.ls 8 5 0 0 0,.bool false,.bool false,.nilp],.cells [.lp 3 0],.cells [],.cells [],.cells [],.cells []]) ?_ ?_
 ·refine HLe.set (i:=3) (o':= .cells [.ls 5 1 0 0 0,.ls 6 1 0 0 0,.ls 7 3 0 0 0,.ls 8 5 0 0 0,.bool false,.bool false,.nilp]) rfl (OLe.cells (by simp) ?_);exact gX.cons eU (gX.cons eU (gX.cons eU (gX.cons eU (gX.refl _))))
 refine mG (fun f=>f.t 1= .lp 0 0/\f.t 2= .lp 1 0/\f.t 3= .lp 2 0/\f.t 4=iO (iQ s)/\f.t 5= .lp 4 0/\f.d=[]/\f.k=fun _=>false) ⟨by simp only[wq.1,seval],by simp only[wq.1,seval],by simp only[wq.1,seval],by simp only[wq.1,seval],by simp only[wq.1,↓reduceIte],by simp only[wq.1],by simp only[wq.1]⟩ ?_;rintro f ⟨t1,t2,t3,t4,t5,hd,hk⟩;have hpE:mV s=match bF ps0 (bM [] (iQ s))with
  | .error e=> .error e
  | .ok p=>Ud s p:=rfl
 refine aj (bi (Q:=fun xe f h=>(xe= .normal/\PF s f/\∃p last,bF ps0 (bM [] (iQ s))= .ok p/\PH oP p last h/\(∀RW n,last=some (.ls RW 1 0 n n)->¬fxP RW)/\HpQ s h)\/(∃v,xe= .pan v/\QP (.pan v) f h)) ?_ ?_)
 ·rintro xe f h (⟨rfl,g,p,last,hle,k,lo,hp⟩|⟨v,rfl,hq⟩)
  rotate_left
  ·exact hq
  show awp _ _ _ _ _ _ _;rw[hle]at hpE;have hpE:mV s=Ud s p:=hpE;have hpp:=k.pp;have hcn:cnt p<=900000:=by have h1:=xE _ ps0 p hle;have h2:=rC (iQ s) [];have h3:cnt ps0=0:=rfl;simp only[List.length_nil]at h2;omega
  have hfw:=NI (p:=p) (by omega);have hppc:h[3]? =some (ppC oP p (jV oP p)):=hpp;have hpa:=hp.a;have hpd:=hp.d;obtain⟨t1,t2,t3,t4,t5,hd,hk⟩:=g;have hk3:∀j,j<3->f.k j=false:=fun j hj=>hk j (kp3 hj);refine aj (oD hmix (by decide +kernel) ?_);simp only[nts,List.size_toArray,zrt,List.length_nil,Nat.reduceAdd,Nat.reduceSub,List.take_succ_cons,List.take_zero];simp only[wq.1,seval,dw,dB,hP,t1,t5,hpa,hpd,hppc];refine hT (aS p.ended s.length 2 (fun hen=> ?_) (fun hen=> ?_))
  ·have hpE:mV s=if(mO (ji p.c)).1=0 then .ok (ji p.c)else .error (if(mO (ji p.c)).2=[]then 0 else LV (iQ s) (mO (ji p.c)).2,(mO (ji p.c)).1):=by rw[hpE];unfold Ud;rw[if_neg (by rw[hen];decide)]
   simp only[wq.1];have g0:∀ {f':Fr},f'.t 1=f.t 1->f'.t 2=f.t 2->f'.t 3=f.t 3->f'.t 4=f.t 4->f'.t 5=f.t 5->f'.d=f.d->f'.k=f.k->PF s f':=fun a1 a2 a3 a4 a5 a6 a7=>⟨a1.trans t1,a2.trans t2,a3.trans t3,a4.trans t4,a5.trans t5,a6.trans hd,fun i hi=>by rw[a7];exact hk i hi⟩;refine mG (PF s) (g0 (by simp only[wq.1,seval]) (by simp only[wq.1,seval]) (by simp only[wq.1,seval]) (by simp only[wq.1,seval]) (by simp only[wq.1,seval]) (by simp only[wq.1]) (by simp only[wq.1])) ?_;clear t1 t2 t3 t4 t5 hd hk hk3 g0 f;intro f g;refine yV (e:=ee) Vj k lo hp (fun i hi=>by rw[g.d]at hi;rw[zrc.1 hi];simp[fxP]) fun h1 f1 hf1 hp1 hold h1p k1=> ?_;have g1:PF s f1:=by
    rcases hf1 with rfl|⟨RW,⟨n6,n1,_⟩,rfl⟩
    ·exact g
    ·refine PF.drop (q:=(·==RW)) g fun i hi=> ?_;rw[beq_eq_false_iff_ne];rcases hi with hi|rfl
     ·rintro rfl;exact n6 hi
     ·exact Ne.symm n1
   have kd:PD s p (jV oP p) 0 h1:=by have i5:=k1.i;have i6:=k1.u;have i7:=k1.l;have i8:=k1.g;rw[zqn (by decide)]at i5 i6 i7 i8;exact⟨hp1,h1p,i5,i6,i7,by rw[List.take_zero,List.drop_zero];exact i8⟩
   clear hold hf1 k1 h1p hp1 k lo hp g hppc hpa hpd hpp h f;obtain⟨n,hn⟩:∃n,n=p.c.gates.length:=⟨_,rfl⟩;have hnl:n<=1000000:=hn▸hfw.g;obtain⟨t1,t2,t3,t4,t5,hd,hk⟩:=g1;have kpp:=kd.pp;have kpd:=kd.q.d;refine aj (aj (bT hmix _ _ _ _ ?_));simp only[wq.1,seval,hP,t5,kpp,kpd,<-hn];have g0:∀ {f':Fr},f'.t 1=f1.t 1->f'.t 2=f1.t 2->f'.t 3=f1.t 3->f'.t 4=f1.t 4->f'.t 5=f1.t 5->f'.d=f1.d->f'.k=f1.k->PF s f':=fun a1 a2 a3 a4 a5 a6 a7=>⟨a1.trans t1,a2.trans t2,a3.trans t3,a4.trans t4,a5.trans t5,a6.trans hd,fun i hi=>by rw[a7];exact hk i hi⟩;refine aB ?_;refine aF (fun m f h=>∃i:Nat,m+i=n/\i<=n/\PF s f/\PD s p (jV oP p) i h/\f.t 34= .ls 8 5 0 n n/\f.t 35=vi n/\f.t 36=vi i) n ⟨0,by omega,by omega,g0 (by simp only[wq.1,seval]) (by simp only[wq.1,seval]) (by simp only[wq.1,seval]) (by simp only[wq.1,seval]) (by simp only[wq.1,seval]) (by simp only[wq.1]) (by simp only[wq.1]),kd,by simp only[wq.1,seval];rfl,by simp only[wq.1,seval],by simp only[wq.1,↓reduceIte];rfl⟩ ?_;clear t1 t2 t3 t4 t5 hd hk kpp kpd g0 kd h1 f1;rintro m f h ⟨i,hm,hil,g,k,t34,t35,t36⟩;obtain⟨t1,t2,t3,t4,t5,hd,hk⟩:=g;have g0:∀ {f':Fr},f'.t 1=f.t 1->f'.t 2=f.t 2->f'.t 3=f.t 3->f'.t 4=f.t 4->f'.t 5=f.t 5->f'.d=f.d->f'.k=f.k->PF s f':=fun a1 a2 a3 a4 a5 a6 a7=>⟨a1.trans t1,a2.trans t2,a3.trans t3,a4.trans t4,a5.trans t5,a6.trans hd,fun i hi=>by rw[a7];exact hk i hi⟩;have hw:=az (show i<maxLen by omega);refine aj (bT hmix _ _ _ _ ?_);simp only[wq.1,Nat.reduceLT,hP,t35,t36];refine aj (bT hmix _ _ _ _ ?_);simp only[wq.1,↓reduceIte];refine vcB.mk (fun hlt=> ?_) (fun hlt=> ?_)
   ·have hlt:i<n:=by have:=zqs hlt;omega
    have hlt':i<p.c.gates.length:=by omega
    have kga:=k.ga;have kpp:=k.pp;have kpd:=k.q.d;have kgb:=kga;rw[List.drop_eq_getElem_cons hlt',List.flatMap_append,List.flatMap_cons]at kgb;have gl5:(((p.c.gates.take i).map aU).flatMap gaX).length=i*5:=by rw[o5,zra,zrl];omega
    obtain⟨ga,hga⟩:∃ga,ga=p.c.gates[i]:=⟨_,rfl⟩;rw[<-hga]at kgb;obtain⟨C1,hC1⟩:∃C1,C1=((p.c.gates.take i).map aU).flatMap gaX:=⟨_,rfl⟩;obtain⟨C2,hC2⟩:∃C2,C2=(p.c.gates.drop (i+1)).flatMap gaX:=⟨_,rfl⟩;rw[<-hC1,<-hC2]at kgb;rw[<-hC1]at gl5;obtain⟨CC,hCC⟩:∃CC,CC=C1++(gaX ga++C2):=⟨_,rfl⟩;rw[<-hCC]at kgb;have htk:(CC.drop (i*5)).take 5=gaX ga:=by rw[hCC,<-gl5,List.drop_left];exact List.take_left' rfl
    have hCl:i*5+5<=CC.length:=by rw[hCC,zqa,zqa,gl5,show(gaX ga).length=5 from rfl];omega
    have hgE:∀x:O,(h++[x])[h.length]? =some x:=fun x=>by simp
    have hgS:∀x y:O,(h++[x]).set h.length y=h++[y]:=fun x y=>by simp
    have l8:=(zqe kgb).1;have k8:∀x:O,(h++[x])[8]? =some (.cells CC):=fun x=>by rw[zqj l8];exact kgb
    simp only[wq.1];refine aj (aB ?_);refine aj (bT hmix _ _ _ _ ?_);simp only[wq.1,seval,hP,t34,t36,kgb,htk,hgE,hgS];refine⟨⟨by omega,by omega⟩,hCl,⟨rfl,rfl,zrb _⟩,?_⟩;show awp ee 74 none _ _ _ (h++[O.cells [.str ga.name,vi ga.op,aV ga.ins,aV ga.rows,.bool ga.off]]);have a3:∀x:O,(h++[x])[3]? =some (ppC oP p (jV oP p)):=fun x=>by rw[zqj (zqe kpp).1];exact kpp
    have a4:∀x:O,(h++[x])[4]? =some (.cells [.lp 3 0]):=fun x=>by rw[zqj (zqe kpd).1];exact kpd
    have hs5:CC.take (i*5)++[.str (aU ga).name,vi (aU ga).op,aV (aU ga).ins,aV (aU ga).rows,.bool (aU ga).off]++CC.drop (i*5+5)=C1++(gaX (aU ga)++C2):=by rw[hCC,<-gl5,List.take_left,List.drop_length_add_append,zqc];rfl
    have hga2:C1++(gaX (aU ga)++C2)=((p.c.gates.take (i+1)).map aU++p.c.gates.drop (i+1)).flatMap gaX:=by rw[List.take_succ_eq_append_getElem hlt',zql,List.flatMap_append,List.flatMap_append,hC1,hC2,hga];simp only[zrd,List.map_nil,List.flatMap_cons,List.flatMap_nil,zqp,zqc]
    refine oD hmix (by decide +kernel) ?_;simp only[nts,List.size_toArray,zrt,List.length_nil,Nat.reduceAdd,Nat.reduceSub,List.take_succ_cons,List.take_zero];simp only[wq.1,seval,dw,dB,hP,t5,a4,a3,hgE,<-hn];refine F8.mk (hEv (ve ga)) (by rw[hP];rfl) (by simp only[V.dats,V.dat,aG,zre]) ?_;simp only[wq.1,seval,k8,hs5,hGA];refine⟨⟨by omega,by omega⟩,hCl,?_⟩;refine bT hmix _ _ _ _ ?_;simp only[wq.1,seval,hP,t36,hw];refine .inl ⟨m-1,by omega,i+1,by omega,by omega,g0 (by simp only[wq.1,seval]) (by simp only[wq.1,seval]) (by simp only[wq.1,seval]) (by simp only[wq.1,seval]) (by simp only[wq.1,seval]) (by simp only[wq.1]) (by simp only[wq.1]),k.put _ (i+1) ?_ (fun j x hx hj h8=> ?_),by simp only[wq.1,seval,t34],by simp only[wq.1,seval,t35],by simp only[wq.1,↓reduceIte]⟩
    ·rw[zqt (by simp;omega),hga2]
    ·rw[zqn (Ne.symm h8),zqj (zqe hx).1];exact hx
   ·have hi:i=n:=by have:=of_decide_eq_false hlt;omega
    subst hi;simp only[wq.1];have kpp:=k.pp;have kpd:=k.q.d;have kga:=k.ga;rw[hn,zrx,List.drop_length,zqp]at kga;show awp _ _ _ _ _ _ _;refine aj (bT hmix _ _ _ _ ?_);have k5:=k.i';have k6:=k.u;have k7:=k.l;have hsm:Sum (ji p.c):=by
     have h1:=hfw.i;have h2:=hfw.l;have h3:(p.c.gates.map aU).length=p.c.gates.length:=by simp
     show p.c.ins.length+p.c.lat.length+(p.c.gates.map aU).length<=_;omega
    have hln:i=(ji p.c).gates.length:=by rw[hn];show _=(p.c.gates.map aU).length;simp
    simp only[wq.1,seval,hP,t5,kpd,kpp,<-hn];refine hT (ag.lend (rq (ji p.c) hsm) (au.cons (aA.agg (au.cons (bu k5 rfl) (au.cons (bu k6 rfl) (au.cons (Dh k7 rfl) (au.cons (Di kga hln) au.nil))))) au.nil) rfl ?_);simp only[wq.1,seval,hP];obtain⟨oc,hoc⟩:∃oc,oc=mO (ji p.c):=⟨_,rfl⟩;rw[<-hoc]at hpE ⊢;refine mG (fun f=>PF s f/\f.t 9=vi oc.1/\f.t 10= .str oc.2) ⟨g0 (by simp only[wq.1,seval]) (by simp only[wq.1,seval]) (by simp only[wq.1,seval]) (by simp only[wq.1,seval]) (by simp only[wq.1,seval]) (by simp only[wq.1]) (by simp only[wq.1]),by simp only[wq.1,seval],by simp only[wq.1,↓reduceIte]⟩ ?_;clear t1 t2 t3 t4 t5 hd hk t34 t35 t36 g0 f;rintro f ⟨g,t9,t10⟩;obtain⟨t1,t2,t3,t4,t5,hd,hk⟩:=g;have g0:∀ {f':Fr},f'.t 1=f.t 1->f'.t 2=f.t 2->f'.t 3=f.t 3->f'.t 4=f.t 4->f'.t 5=f.t 5->f'.d=f.d->f'.k=f.k->PF s f':=fun a1 a2 a3 a4 a5 a6 a7=>⟨a1.trans t1,a2.trans t2,a3.trans t3,a4.trans t4,a5.trans t5,a6.trans hd,fun i hi=>by rw[a7];exact hk i hi⟩;obtain⟨at',hat⟩:∃at':Nat,at'=if oc.2=[]then 0 else LV (iQ s) oc.2:=⟨_,rfl⟩
    rw[<-hat]at hpE;refine aj (bT hmix _ _ _ _ ?_);simp only[wq.1,Nat.reduceLT,hP];refine aj (bi (Q:=fun xe f h'=>xe= .normal/\h'=h/\PF s f/\f.t 9=vi oc.1/\f.t 11=vi at') ?_ ?_)
    ·clear t1 t2 t3 t4 t5 t9 t10 hd hk g0 f;rintro xe f h' ⟨rfl,rfl,g,t9,t11⟩;show awp _ _ _ _ _ _ _;obtain⟨t1,t2,t3,t4,t5,hd,hk⟩:=g;have hk3:∀j,j<3->f.k j=false:=fun j hj=>hk j (kp3 hj);refine aj (bT hmix _ _ _ _ ?_);simp only[wq.1,seval,hP,t9,t11];refine hT (aS (oc.1==0) at' oc.1 (fun ho=> ?_) (fun ho=> ?_))
     ·have ho:oc.1=0:=by simpa using ho
      rw[if_pos ho]at hpE;simp only[wq.1];have kb:=k.q.b;have kc:=k.q.c;have l1:=(zqe kb).1;have l2:=(zqe kc).1;refine aj (bT hmix _ _ _ _ ?_);have k2:∀x:O,(h'.set 1 x)[2]? =some faN:=fun x=>by rw[zqn (by decide)];exact kc
      simp only[wq.1,seval,hP,t2,t3,t5,kpd,kpp,kb,k2,<-hn];refine bT hmix _ _ _ _ ?_;simp only[wq.1];have old:∀ {j:Nat} {x:O},h'[j]? =some x->j≠1->j≠2->∀y z:O,((h'.set 1 y).set 2 z)[j]? =some x:=fun {j x} hx h1 h2 y z=>by rw[zqn (Ne.symm h2),zqn (Ne.symm h1)];exact hx
      refine hret hpE (by simp only[wq.1,hd]) (fun j hj=>by simp only[wq.1,hk3 j hj]) (by simp only[wq.1,seval,t2]) (by simp only[wq.1,seval,t3]) (old k.q.e (by decide) (by decide) _ _) ?_ ?_ (old k5 (by decide) (by decide) _ _) (old k6 (by decide) (by decide) _ _) (old k7 (by decide) (by decide) _ _) (old kga (by decide) (by decide) _ _)
      ·rw[zqn (by decide),zqt l1,<-hln];rfl
      ·rw[zqt (by simp;omega)]
     ·have ho:oc.1≠0:=by simpa using ho
      rw[if_neg ho]at hpE;simp only[wq.1,dW,hd];simp only[XE.seq];exact hpan hpE (by simp only[wq.1,hd]) (fun j hj=>by simp only[wq.1,hk3 j hj]) (by simp only[wq.1,seval,t2]) (by simp only[wq.1,seval,t3]) k.q.e k.q.a k.q.b k.q.c
    ·by_cases ho:oc.2=[]
     ·rw[if_pos ho]at hat;have e0:(!(oc.2==[]))=false:=by rw[ho];rfl
      refine aj (bT hmix _ _ _ _ ?_);simp only[wq.1,seval,hP,t10,e0];refine bT hmix _ _ _ _ ?_;simp only[wq.1,seval];refine⟨g0 (by simp only[wq.1,seval]) (by simp only[wq.1,seval]) (by simp only[wq.1,seval]) (by simp only[wq.1,seval]) (by simp only[wq.1,seval]) (by simp only[wq.1]) (by simp only[wq.1]),t9,by simp only[wq.1,hat];try rfl⟩
     ·rw[if_neg ho]at hat;have e0:(!(oc.2==[]))=true:=by simpa using ho
      refine aj (bT hmix _ _ _ _ ?_);simp only[wq.1,seval,hP,t10,e0];refine bT hmix _ _ _ _ ?_;simp only[wq.1,seval,hP,t4,t10];refine hT (ag.ev (Tj (iQ s) oc.2 (fun x hx=> ?_)) (by simp only[V.dats,V.dat,Ac,zre]) ?_)
      ·rcases zrf.1 (xC _ _ x hx)with h3|h3
       ·have:=(vw _ _ _ x h3).1;omega
       ·rw[zrc.1 h3];simp
      ·simp only[wq.1,seval,hP];refine⟨g0 (by simp only[wq.1,seval]) (by simp only[wq.1,seval]) (by simp only[wq.1,seval]) (by simp only[wq.1,seval]) (by simp only[wq.1,seval]) (by simp only[wq.1]) (by simp only[wq.1]),t9,by simp only[wq.1,hat];try rfl⟩
  ·have hpE:mV s= .error (s.length,2):=by rw[hpE];unfold Ud;rw[if_pos hen]
   simp only[wq.1,dW,hd];simp only[XE.seq];exact hpan hpE (by simp only[wq.1,hd]) (fun j hj=>by simp only[wq.1,hk3 j hj]) (by simp only[wq.1,seval,t2]) (by simp only[wq.1,seval,t3]) hp.e hp.a hp.b hp.c
 ·refine aj (bT hmix _ _ _ _ ?_);simp only[wq.1,seval,hP,t4];refine hT (ag.ev (QF (iQ s)) (by simp only[V.dats,V.dat,Ac,zre]) ?_);simp only[wq.1];refine aB ?_;refine qC (q:=73) (first:=[]) (captured:=[.ip (iO (iQ s))]) (by simp only[wq.1,↓reduceIte]) (by simp only[wq.1,↓reduceIte]) (by rw[hP];rfl) ?_;refine hT (FN hs (fun lb f h ln Q h19 hq=> ?_) (fun lb f h ln Q QB h5 h6 h4 hfd hc=> ?_) (by simp only[wq.1,seval,t5]) (fun v p last h' q hq hle k lo hp=> ?_) (fun x h' q hq hle hp=> ?_))
  ·refine vm ?_;simp only[wq.1,Nat.reduceLT,h19];exact hq
  ·refine IC ?_;refine EH ?_;simp only[BI,EG];simp only[wq.1,seval,h5,h6,h4];refine ag.mono hc ?_;rintro ae h' q hh;refine⟨fun i hi=>(by have hi:i∈f.d:=hi;rw[hfd]at hi;cases hi),?_⟩;cases ae with
   |ret v=>exact hh _ hfd rfl
   |pan v=>exact hh _ hfd rfl
  ·unfold Kq;obtain⟨t',_,k10⟩:=hp.f;have h10:h'[((hp8 s).length+1)]? =some (.loop t' 74 #[19] _ _ .ready none):=k10;have hq9:q 9=false:=hq 9 (.inl (by simp[fxP]));have hq10:q 10=false:=hq 10 (.inl (by simp[fxP]));refine⟨fun i hi=> ?_,?_⟩
   ·have hi:i∈9::f.d:=hi;rw[hd]at hi;rw[zrc.1 hi];exact hq9
   dsimp only;rw[h10];refine⟨⟨hq10,by decide⟩,.inl ⟨rfl,?_,p,last,hle,k.set10 _ (fun cs e=>by rw[k10]at e;cases e),lo,?_⟩⟩
   ·refine PF.drop ⟨by simp only[wq.1,seval,t1],by simp only[wq.1,seval,t2],by simp only[wq.1,seval,t3],by simp only[wq.1,seval,t4],by simp only[wq.1,seval,t5],?_,fun i hi=>by simp only[wq.1,hk]⟩ hq;show 9::f.d=[9];rw[hd]
   ·have old:∀ {z:O} (j:Nat) (y:O),h'[j]? =some y->j≠10->(h'.set 10 z)[j]? =some y:=fun {z} j y hy hj=>by rw[zqn (Ne.symm hj)];exact hy
    exact⟨old _ _ hp.a (by decide),old _ _ hp.b (by decide),old _ _ hp.c (by decide),old _ _ hp.d (by decide),old _ _ hp.e (by decide),_,zqt (zqe k10).1⟩
  ·unfold Kq;have hq9:q 9=false:=hq 9 (.inl (by simp[fxP]));refine⟨fun i hi=> ?_,?_⟩
   ·have hi:i∈9::f.d:=hi;rw[hd]at hi;rw[zrc.1 hi];exact hq9
   dsimp only;rw[hle]at hpE;refine .inr ⟨_,rfl,hpan hpE ?_ (fun j hj=> ?_) ?_ ?_ hp.e hp.a hp.b hp.c⟩
   ·show 9::f.d=[9];rw[hd]
   ·show(f.k j||q j)=false;rw[hk,hq j (kp3 hj)];rfl
   ·show(f.t 2).drop q=_;rw[t2,V.drop,hq 1 (.inl (by simp[fxP]))];rfl
   ·show(f.t 3).drop q=_;rw[t3,V.drop,hq 2 (.inl (by simp[fxP]))];rfl
theorem Jl{P:Program}{w:World}{e:TypeId}(he:P.underlying e=some .string)(n:Nat)(a b:ByteArray):(Op.equalIn (n+1) e (.string a) (.string b)).run P w= .ok (a==b) w:=by rw[Op.equalIn];simp[run_underlying he,Result.andThen]
theorem Jm{P:Program}{w:World}{e:TypeId}{k:IntKind}(he:P.underlying e=some (.int k))(n:Nat)(a b:Int):(Op.equalIn (n+1) e (.int k a) (.int k b)).run P w= .ok (a==b) w:=by rw[Op.equalIn];simp[run_underlying he,Result.andThen]
theorem Vk:JJ P 55:=by
 refine⟨by kernel_rfl,fun w a b c d m n=> ?_⟩;have p0:∀(x y z:Value),(part 9 #[x,y,z] 0).run P w= .ok x w:=fun x y z=>run_part_plain w (by simp[Program.plainKey,Tryz.underlying9]) (by simp);have p1:∀(x y z:Value),(part 9 #[x,y,z] 1).run P w= .ok y w:=fun x y z=>run_part_plain w (by simp[Program.plainKey,Tryz.underlying9]) (by simp);have p2:∀(x y z:Value),(part 3 #[x,y,z] 2).run P w= .ok z w:=fun x y z=>run_part_plain w (by simp[Program.plainKey,Tryz.underlying3]) (by simp);have hso:P.stoodInHeld 55=false:=by kernel_rfl
 show(Op.equalIn 10000 55 (.agg #[.string a,.string c,.int .i64 m]) (.agg #[.string b,.string d,.int .i64 n])).run P w= .ok (a==b&&c==d&&m==n) w;rw[Op.equalIn];have e1:=Jl (P:=P) (w:=w) Tryz.underlying9 9998;have e2:=Jm (P:=P) (w:=w) Tryz.underlying3 9998;simp only[Sem.run_bind,run_underlying Tryz.underlying55,Result.andThen];cases h1:(a==b)<;>cases h2:(c==d)<;>cases h3:(m==n)<;>simp[hso,p0,p1,p2,e1,e2,Sem.run_bind,Result.andThen,h1,h2,h3]
theorem yY(a:List S):V.dats [aV a,aV a]=true:=by simp only[V.dats,V.dat,aG,zre]
end Go.Proofs.YtokppohljajhjaaGreatDoor
