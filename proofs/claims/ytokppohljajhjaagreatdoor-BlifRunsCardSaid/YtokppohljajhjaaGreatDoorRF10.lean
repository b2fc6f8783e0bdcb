/- Lemmas for this claim, part F10: each holds under what it names. -/
import Derived.Test.YtokppohljajhjaaGreatDoorRF09
import Derived.Test.YtokppohljajhjaaGreatDoorRA9
set_option linter.all false
set_option maxRecDepth 20000
set_option maxHeartbeats 4000000
namespace Go.Proofs.YtokppohljajhjaaGreatDoor
open Go Go.Proofs Go.Abs
structure Pl where
 PP:Nat
 IN:Nat
 OU:Nat
 LA:Nat
 GA:Nat
structure HpOk(Hp:H->Prop)(fx:Nat->Prop)(o:Pl):Prop where
 ext:∀h h' (q:Nat->Bool),Hp h->(∀i,fx i\/i=o.PP->q i=false)->(∀j,fx j->h'[j]? =(h[j]?).map (O.drop q))->Hp h'
 n1:¬fx o.PP
 n2:¬fx o.IN
 n3:¬fx o.OU
 n4:¬fx o.LA
 n5:¬fx o.GA
 lt:∀h,Hp h->∀j,fx j->j<h.length
def laX(q:La):List V:=[.str q.name,.str q.next,vi q.init]
def xP(g:Ga)(rows:V):List V:=[.str g.name,vi g.op,aV g.ins,rows,.bool g.off]
def gaX(g:Ga):List V:=xP g (aV g.rows)
def QE(l:List Ga)(last:Option V):List V:=match last,l.getLast? with
 |some v,some g=>l.dropLast.flatMap gaX++xP g v
 |_,_=>l.flatMap gaX
def jV(o:Pl)(p:Ps):V:=if p.on=true then .lp o.GA ((p.c.gates.length-1)*5)else .nilp
structure PH(o:Pl)(p:Ps)(last:Option V)(h:H):Prop where
 pp:h[o.PP]? =some (.cells [.ls o.IN 1 0 p.c.ins.length p.c.ins.length,.ls o.OU 1 0 p.c.outs.length p.c.outs.length,.ls o.LA 3 0 p.c.lat.length p.c.lat.length,.ls o.GA 5 0 p.c.gates.length p.c.gates.length,.bool p.begun,.bool p.ended,jV o p])
 i:h[o.IN]? =some (.cells (p.c.ins.map V.str))
 u:h[o.OU]? =some (.cells (p.c.outs.map V.str))
 l:h[o.LA]? =some (.cells (p.c.lat.flatMap laX))
 g:h[o.GA]? =some (.cells (QE p.c.gates last))
 rows:match last with
  |none=>p.on=false
  |some v=>p.on=true/\∃g,p.c.gates.getLast? =some g/\((v= .nils/\g.rows=[])\/∃RW,v= .ls RW 1 0 g.rows.length g.rows.length/\h[RW]? =some (.cells (g.rows.map V.str))/\RW≠o.PP/\RW≠o.IN/\RW≠o.OU/\RW≠o.LA/\RW≠o.GA)
 d:o.PP≠o.IN/\o.PP≠o.OU/\o.PP≠o.LA/\o.PP≠o.GA/\o.IN≠o.OU/\o.IN≠o.LA/\o.IN≠o.GA/\o.OU≠o.LA/\o.OU≠o.GA/\o.LA≠o.GA
theorem HpOk.same{Hp:H->Prop}{fx:Nat->Prop}{o:Pl}(K:HpOk Hp fx o){h h':H}(hp:Hp h)(hj:∀j,fx j->h'[j]? =h[j]?):Hp h':=K.ext h h' (fun _=>false) hp (fun _ _=>rfl) fun j hf=>by
 rw[hj j hf];cases h[j]? with
 |none=>rfl
 |some x=>rw[zrw,iR]
def ru(Hp:H->Prop)(fx:Nat->Prop)(o:Pl)(res:RB Ps)(ae:AEnd)(h':H)(q:Nat->Bool):Prop :=
 (∀i,fx i\/i=o.PP->q i=false)/\Hp h'/\match res with
  | .ok p=>ae= .ret (.tup [])/\∃last,PH o p last h'/\∀RW n,last=some (.ls RW 1 0 n n)->¬fx RW
  | .error x=>ae= .pan (jW x.1 x.2)
theorem PH.flag{o:Pl}{p:Ps}{last:Option V}{h:H}(k:PH o p last h)(p':Ps)(hc:p'.c=p.c)(ho:p'.on=p.on) :
 PH o p' last (h.set o.PP (.cells [.ls o.IN 1 0 p.c.ins.length p.c.ins.length,.ls o.OU 1 0 p.c.outs.length p.c.outs.length,.ls o.LA 3 0 p.c.lat.length p.c.lat.length,.ls o.GA 5 0 p.c.gates.length p.c.gates.length,.bool p'.begun,.bool p'.ended,jV o p])):=by
 obtain⟨d1,d2,d3,d4,_⟩:=k.d;have hl:=(zqe k.pp).1;refine⟨?_,?_,?_,?_,?_,?_,k.d⟩
 ·rw[zqt hl,hc];have:jV o p'=jV o p:=by unfold jV;rw[hc,ho]
  rw[this]
 ·rw[zqn d1,hc];exact k.i
 ·rw[zqn d2,hc];exact k.u
 ·rw[zqn d3,hc];exact k.l
 ·rw[zqn d4,hc];exact k.g
 ·have hr:=k.rows;cases last with
  |none=>exact ho.trans hr
  |some v =>
   obtain⟨h1,g,h2,h3⟩:=hr;refine⟨ho.trans h1,g,by rw[hc];exact h2,?_⟩;rcases h3 with h3|⟨RW,a,b,c,rest⟩
   ·exact .inl h3
   ·exact .inr ⟨RW,a,by rw[zqn (Ne.symm c)];exact b,c,rest⟩
theorem Nv[MO]{Hp:H->Prop}{fx:Nat->Prop}{o:Pl}(K:HpOk Hp fx o){p:Ps}{last:Option V}{h:H}(k:PH o p last h)(lo:∀RW n,last=some (.ls RW 1 0 n n)->¬fx RW)(hp:Hp h)(t:Tk)(r:List Tk)(hl:r.length<=1000000) :
 ag TE 195 [.lp o.PP 0,iO (t::r)] h (ru Hp fx o (if r=[]then .ok {p with ended:=true} else .error (t.at',2))):=by
 have hM:=mLx;have hg:((t::r).map Tk.v).getD 0 .any=t.v:=rfl;have hpp:=k.pp;have hl2:=(zqe hpp).1;have k':=k.flag {p with ended:=true} rfl rfl;have e1:(((r.length+1:Nat):Int)==1)=decide (r=[]):=by rw[Bool.eq_iff_iff,beq_iff_eq,zqb,<-List.length_eq_zero_iff];omega
 refine ax Tryz.func195 rfl (by simp[nts]) ?_;refine vn ?_;simp only[wq.1,seval,Tryz.results195,e1];refine⟨by omega,?_⟩;refine aS (decide (r=[])) t.at' 2 (fun h=> ?_) (fun h=> ?_)
 ·have h0:r=[]:=zqs h;rw[if_pos h0];simp only[wq.1];refine vm ?_;simp only[wq.1,seval,hpp];refine⟨fun _ _=>rfl,K.same hp fun j hf=> ?_,rfl,last,k',lo⟩;have hne:o.PP≠j:=fun e=>K.n1 (by rw[e];exact hf);rw[zqn hne]
 ·have h0:¬r=[]:=of_decide_eq_false h;rw[if_neg h0];simp only[wq.1,dW];simp only[XE.seq];exact dA (R:=ru Hp fx o (.error (t.at',2))) rfl ⟨fun _ _=>rfl,hp,rfl⟩
theorem FI[MO]{Hp:H->Prop}{fx:Nat->Prop}{o:Pl}(K:HpOk Hp fx o){p:Ps}{last:Option V}{h:H}(k:PH o p last h)(lo:∀RW n,last=some (.ls RW 1 0 n n)->¬fx RW)(hp:Hp h)(t:Tk)(r:List Tk)(hl:r.length<=1000000) :
 ag TE 209 [.lp o.PP 0,iO (t::r)] h (ru Hp fx o (if r.length<=1 then .ok {p with begun:=true} else .error (t.at',2))):=by
 have hM:=mLx;have hg:((t::r).map Tk.v).getD 0 .any=t.v:=rfl;have hpp:=k.pp;have hl2:=(zqe hpp).1;have k':=k.flag {p with begun:=true} rfl rfl;have e1:decide (((r.length+1:Nat):Int)<=2)=decide (r.length<=1):=decide_eq_decide.2 (by omega);refine ax Tryz.func209 rfl (by simp[nts]) ?_;refine vn ?_;simp only[wq.1,seval,Tryz.results209,e1];refine⟨by omega,?_⟩;refine aS (decide (r.length<=1)) t.at' 2 (fun h=> ?_) (fun h=> ?_)
 ·have h0:r.length<=1:=zqs h;rw[if_pos h0];simp only[wq.1];refine vm ?_;simp only[wq.1,seval,hpp];refine⟨fun _ _=>rfl,K.same hp fun j hf=> ?_,rfl,last,k',lo⟩;have hne:o.PP≠j:=fun e=>K.n1 (by rw[e];exact hf);rw[zqn hne]
 ·have h0:¬r.length<=1:=of_decide_eq_false h;rw[if_neg h0];simp only[wq.1,dW];simp only[XE.seq];exact dA (R:=ru Hp fx o (.error (t.at',2))) rfl ⟨fun _ _=>rfl,hp,rfl⟩
theorem qo[MO](l:List Tk)(hl:l.length<=1000000)(hs:∀t∈l,t.t.length<=1000000){h:H}{R:AEnd->H->(Nat->Bool)->Prop} (hr:∀X,match bQ l with
 | .ok ws=>(h++X)[h.length]? =some (.cells (ws.map V.str))->R (.ret (.ls h.length 1 0 ws.length ws.length)) (h++X) (fun _=>false)
 | .error x=>R (.pan (jW x.1 x.2)) (h++X) (fun _=>false)):ag TE 214 [iO l] h R:=by
 refine lq (DN l hl hs) (by show(V.dat (iO l)&&true)=true;rfl) fun ae h' p hh=> ?_;have:=hr (h'.map (O.sh h.length));cases hw:bQ l with
 |ok ws=>rw[hw]at hh this;obtain⟨rfl,h1⟩:=hh;refine this ?_;rw[zsb (zrb _),Nat.sub_self,zqo,h1];show some (O.cells (V.shs _ _))=_;rw[V.shs_dats _ _ aG]
 |error x=>rw[hw]at hh this;subst hh;exact this
theorem bC{α:Type}{F:α->List V}{p:Nat->Bool}(hF:∀x,V.drops p (F x)=F x):∀l:List α,V.drops p (l.flatMap F)=l.flatMap F
 |[]=>rfl
 |a::l=>by rw[List.flatMap_cons,fE,hF,bC hF l]
structure GI(fx:Nat->Prop)(o:Pl)(t:Tk)(r:List Tk)(f:Fr):Prop where
 t0:f.t 0= .lp o.PP 0
 t1:f.t 1=iO (t::r)
 d:f.d=[]
 k:∀i,fx i\/i=o.PP->f.k i=false
theorem GI.put{fx:Nat->Prop}{o:Pl}{t:Tk}{r:List Tk}{f:Fr}(g:GI fx o t r f){d:Nat}{v:V}(h0:d≠0)(h1:d≠1):GI fx o t r (f.put (some d) v) :=
 ⟨by simpa [Fr.put,Ne.symm h0]using g.t0,by simpa [Fr.put,Ne.symm h1]using g.t1,g.d,g.k⟩
theorem GI.drop{fx:Nat->Prop}{o:Pl}{t:Tk}{r:List Tk}{f:Fr}(g:GI fx o t r f){p:Nat->Bool}(hp:∀i,fx i\/i=o.PP->p i=false):GI fx o t r (f.drop p):=by
 refine⟨?_,?_,g.d,fun i hi=> ?_⟩
 ·show(f.t 0).drop p=_;rw[g.t0,V.drop,hp _ (.inr rfl)];rfl
 ·show(f.t 1).drop p=_;rw[g.t1];rfl
 ·show(f.k i||p i)=false;rw[g.k i hi,hp i hi];rfl
theorem jT:∀ {l:List Tk} {ws:List S},bQ l= .ok ws->ws.length=l.length
 |[],ws,h=>by cases h;rfl
 |t::l,ws,h=>by
  rw[bQ]at h;cases hw:iG t with
  |error x=>rw[hw]at h;cases h
  |ok s =>
   rw[hw]at h;dsimp only at h;cases hl:bQ l with
   |error x=>rw[hl]at h;cases h
   |ok ws'=>rw[hl]at h;cases h;rw[zrt,jT hl,zrt]
theorem jk{p:Nat->Bool}(q:La):V.drops p (laX q)=laX q:=rfl
theorem jl{p:Nat->Bool}(q:Ga):V.drops p (gaX q)=gaX q:=rfl
theorem PH.insD{o:Pl}{p:Ps}{h0:H}(k:PH o p none h0)(X:H)(ws:List S) :
 PH o {p with c:={p.c with ins:=p.c.ins++ws}} none ((((h0++X).map (O.drop (·==o.IN))).set o.IN (.cells ((p.c.ins++ws).map V.str))).set o.PP (.cells [.ls o.IN 1 0 (p.c.ins.length+ws.length) (p.c.ins.length+ws.length),.ls o.OU 1 0 p.c.outs.length p.c.outs.length,.ls o.LA 3 0 p.c.lat.length p.c.lat.length,.ls o.GA 5 0 p.c.gates.length p.c.gates.length,.bool p.begun,.bool p.ended,.nilp])):=by
 obtain⟨d1,d2,d3,d4,d5,d6,d7,d8,d9,d10⟩:=k.d;have on:p.on=false:=k.rows;have lt:∀ {j x},h0[j]? =some x->j<h0.length:=fun hx=>(zqe hx).1;have l1:=lt k.pp;have l2:=lt k.i;have l3:=lt k.u;have old:∀j x,h0[j]? =some x->j≠o.PP->j≠o.IN->x.drop (·==o.IN)=x->((((h0++X).map (O.drop (·==o.IN))).set o.IN (.cells ((p.c.ins++ws).map V.str))).set o.PP (.cells [.ls o.IN 1 0 (p.c.ins.length+ws.length) (p.c.ins.length+ws.length),.ls o.OU 1 0 p.c.outs.length p.c.outs.length,.ls o.LA 3 0 p.c.lat.length p.c.lat.length,.ls o.GA 5 0 p.c.gates.length p.c.gates.length,.bool p.begun,.bool p.ended,.nilp]))[j]? =some x:=fun j x hx h1 h2 h3=>by rw[zqn (Ne.symm h1),zqn (Ne.symm h2),zqo,zqj (lt hx),hx,zrw,h3]
 refine⟨?_,?_,?_,?_,?_,on,k.d⟩
 ·rw[zqt (by simp;omega)];have:jV o {p with c:={p.c with ins:=p.c.ins++ws}}= .nilp:=by unfold jV;rw[if_neg (by rw[on];decide)]
  rw[this];simp only[zqa]
 ·rw[zqn d1,zqt (by simp;omega)]
 ·exact old _ _ k.u (Ne.symm d2) (Ne.symm d5) (by show O.cells (V.drops _ _)=_;rw[aC])
 ·exact old _ _ k.l (Ne.symm d3) (Ne.symm d6) (by show O.cells (V.drops _ _)=_;rw[bC jk])
 ·exact old _ _ k.g (Ne.symm d4) (Ne.symm d7) (by show O.cells (V.drops _ (List.flatMap gaX _))=_;rw[bC jl];rfl)
def ng(o:Pl)(t:Tk)(r:List Tk):List (Nat×Nat×V):=[(0,4,.lp o.PP 0),(1,5,.lp o.PP 0),(2,6,.lp o.PP 0),(3,7,.lp o.PP 0),(4,8,.lp o.PP 0),(6,10,iO (t::r)),(7,11,iO r),(10,14,.lp o.PP 0),(11,15,.lp o.PP 0),(12,16,.lp o.PP 0)]
def Jf(o:Pl)(p:Ps)(ws:List S)(h0:H)(L:Array Bool)(h:H):Prop :=
 if L.getD 8 false=true then ∃X,(h0++X)[h0.length]? =some (.cells (ws.map V.str)) /\
  if L.getD 13 false=true then h=(((h0++X).map (O.drop (·==o.IN))).set o.IN (.cells ((p.c.ins++ws).map V.str))).set o.PP (.cells [.ls o.IN 1 0 (p.c.ins.length+ws.length) (p.c.ins.length+ws.length),.ls o.OU 1 0 p.c.outs.length p.c.outs.length,.ls o.LA 3 0 p.c.lat.length p.c.lat.length,.ls o.GA 5 0 p.c.gates.length p.c.gates.length,.bool p.begun,.bool p.ended,.nilp])
  else if L.getD 9 false=true then h=((h0++X).map (O.drop (·==o.IN))).set o.IN (.cells ((p.c.ins++ws).map V.str))
  else h=h0++X
 else h=h0
theorem DR[MO]{Hp:H->Prop}{fx:Nat->Prop}{o:Pl}(K:HpOk Hp fx o){p:Ps}{h0:H}(k:PH o p none h0)(hp:Hp h0)(t:Tk)(r:List Tk)(hl:r.length<=900000)(hs:∀t∈r,t.t.length<=1000000)(hn:p.c.ins.length<=1000000) :
 ag TE 210 [.lp o.PP 0,iO (t::r)] h0 (ru Hp fx o (N7 p r)):=by
 have hM:=mLx;obtain⟨d1,d2,d3,d4,d5,d6,d7,d8,d9,d10⟩:=k.d;have on:p.on=false:=k.rows;have hpp:=k.pp;have hptr:jV o p= .nilp:=by unfold jV;rw[if_neg (by rw[on];decide)]
 rw[hptr]at hpp;have lt:∀ {j x},h0[j]? =some x->j<h0.length:=fun hx=>(zqe hx).1;have lPP:=lt k.pp;have lI:=lt k.i;have hsl:((t::r).map Tk.v).drop 1=r.map Tk.v:=rfl;obtain⟨ws,hws⟩:∃ws:List S,∀l,bQ r= .ok l->l=ws:=by
  cases bQ r with
  |ok l=>exact⟨l,fun l' h=>by cases h;rfl⟩
  |error x=>exact⟨[],fun l' h=>by cases h⟩
 refine ax Tryz.func210 rfl (by simp[nts]) ?_;refine qM mixed (fun L f h=>Jf o p ws h0 L h/\FA L f (ng o t r)/\GI fx o t r f/\(L.getD 8 false=true->bQ r= .ok ws/\f.t 12= .ls h0.length 1 0 ws.length ws.length)/\(L.getD 5 false=true->L.getD 9 false=false->f.t 9= .ls o.IN 1 0 p.c.ins.length p.c.ins.length)/\(L.getD 9 false=true->f.t 13= .ls o.IN 1 0 (p.c.ins.length+ws.length) (p.c.ins.length+ws.length))) (by decide +kernel) ?_ ?_ ?_
 ·refine⟨?_,FA.none,⟨rfl,rfl,rfl,fun _ _=>rfl⟩,fun h=> ?_,fun h=> ?_,fun h=> ?_⟩
  ·unfold Jf;rw[if_neg (by decide)]
  all_goals (exfalso;revert h;decide +kernel)
 ·rintro L f h i hcl ⟨hh,hfa,⟨t0,t1,hd,hk⟩,h8,h5,h9⟩ hi;have hlt:i<14:=qL hi;have no:=nM hi;have sz:=lg hi;have pu:∀(d:Nat)(v:V),(∀x∈ng o t r,x.1=i->x.2.1=d/\x.2.2=v)->(∀x∈ng o t r,x.2.1=d->x.1=i)->(decide (d∉([0,1,9,12,13]:List Nat))&&decide (i∉([5,8,9,13]:List Nat)))=true ->
   (Jf o p ws h0 (L.setIfInBounds i true) h/\FA (L.setIfInBounds i true) (f.put (some d) v) (ng o t r)/\GI fx o t r (f.put (some d) v)/\((L.setIfInBounds i true).getD 8 false=true->bQ r= .ok ws/\(f.put (some d) v).t 12= .ls h0.length 1 0 ws.length ws.length)/\((L.setIfInBounds i true).getD 5 false=true->(L.setIfInBounds i true).getD 9 false=false->(f.put (some d) v).t 9= .ls o.IN 1 0 p.c.ins.length p.c.ins.length)/\((L.setIfInBounds i true).getD 9 false=true->(f.put (some d) v).t 13= .ls o.IN 1 0 (p.c.ins.length+ws.length) (p.c.ins.length+ws.length))):=by
   intro d v h1 h2 h3;rw[zqf,zqb,zqb]at h3;simp only[zrj,zrp,or_false,not_or]at h3;obtain⟨⟨e0,e1,e9,e12,e13⟩,i5,i8,i9,i13⟩:=h3;have g:∀j,j≠i->(L.setIfInBounds i true).getD j false=L.getD j false:=fun j hj=>getD_set_ne false (Ne.symm hj);have p':∀j,j≠d->(f.put (some d) v).t j=f.t j:=fun j hj=>by simp[Fr.put,hj]
   refine⟨?_,hfa.put h1 h2,⟨by rw[p' 0 (Ne.symm e0)];exact t0,by rw[p' 1 (Ne.symm e1)];exact t1,hd,hk⟩,?_,?_,?_⟩
   ·unfold Jf;rw[g 8 (Ne.symm i8),g 13 (Ne.symm i13),g 9 (Ne.symm i9)];exact hh
   ·rw[g 8 (Ne.symm i8),p' 12 (Ne.symm e12)];exact h8
   ·rw[g 5 (Ne.symm i5),g 9 (Ne.symm i9),p' 9 (Ne.symm e9)];exact h5
   ·rw[g 9 (Ne.symm i9),p' 13 (Ne.symm e13)];exact h9
  match i,hlt with
  |0,_ =>
   have e:=t0;have pu:=pu 4 (.lp o.PP 0) (by simp[ng]) (by simp[ng]) (by decide);simp only[wq.1,seval,Tryz.results210,t0]
   first|exact pu|exact⟨by omega,pu⟩|exact⟨⟨by omega,by omega⟩,pu⟩|exact⟨⟨by omega,by omega,by omega⟩,pu⟩
  |1,_ =>
   have e:=t0;have pu:=pu 5 (.lp o.PP 0) (by simp[ng]) (by simp[ng]) (by decide);simp only[wq.1,seval,Tryz.results210,t0]
   first|exact pu|exact⟨by omega,pu⟩|exact⟨⟨by omega,by omega⟩,pu⟩|exact⟨⟨by omega,by omega,by omega⟩,pu⟩
  |2,_ =>
   have dp:=aN hi (l:=[1]) (by decide +kernel);have e:=hfa (1,5,.lp o.PP 0) (by simp[ng]) (dp 1 (by simp));have pu:=pu 6 (.lp o.PP 0) (by simp[ng]) (by simp[ng]) (by decide);simp only[wq.1,seval,Tryz.results210,e]
   first|exact pu|exact⟨by omega,pu⟩|exact⟨⟨by omega,by omega⟩,pu⟩|exact⟨⟨by omega,by omega,by omega⟩,pu⟩
  |3,_ =>
   have dp:=aN hi (l:=[2]) (by decide +kernel);have e:=hfa (2,6,.lp o.PP 0) (by simp[ng]) (dp 2 (by simp));have pu:=pu 7 (.lp o.PP 0) (by simp[ng]) (by simp[ng]) (by decide);simp only[wq.1,seval,Tryz.results210,e]
   first|exact pu|exact⟨by omega,pu⟩|exact⟨⟨by omega,by omega⟩,pu⟩|exact⟨⟨by omega,by omega,by omega⟩,pu⟩
  |4,_ =>
   have dp:=aN hi (l:=[3]) (by decide +kernel);have e:=hfa (3,7,.lp o.PP 0) (by simp[ng]) (dp 3 (by simp));have pu:=pu 8 (.lp o.PP 0) (by simp[ng]) (by simp[ng]) (by decide);simp only[wq.1,seval,Tryz.results210,e]
   first|exact pu|exact⟨by omega,pu⟩|exact⟨⟨by omega,by omega⟩,pu⟩|exact⟨⟨by omega,by omega,by omega⟩,pu⟩
  | 5,_ => 
   have dp:=aN hi (l:=[4]) (by decide +kernel);have e:=hfa (4,8,.lp o.PP 0) (by simp[ng]) (dp 4 (by simp));have n9:L.getD 9 false=false:=aZ hcl no (by decide +kernel);have n13:L.getD 13 false=false:=aZ hcl n9 (by decide +kernel);have g:∀j,j≠5->(L.setIfInBounds 5 true).getD j false=L.getD j false:=fun j hj=>getD_set_ne false (Ne.symm hj);have sf:(L.setIfInBounds 5 true).getD 5 false=true:=by simp[Array.getD,sz]
   have hpph:h[o.PP]? =some (.cells [.ls o.IN 1 0 p.c.ins.length p.c.ins.length,.ls o.OU 1 0 p.c.outs.length p.c.outs.length,.ls o.LA 3 0 p.c.lat.length p.c.lat.length,.ls o.GA 5 0 p.c.gates.length p.c.gates.length,.bool p.begun,.bool p.ended,.nilp]):=by
    unfold Jf at hh;split at hh
    ·obtain⟨X,_,hh⟩:=hh;rw[n13,if_neg (by decide),n9,if_neg (by decide)]at hh;rw[hh,zqj lPP];exact hpp
    ·rw[hh];exact hpp
   simp only[wq.1,seval,Tryz.results210,e,hpph];refine⟨?_,hfa.put' rfl,GI.put ⟨t0,t1,hd,hk⟩ (by decide) (by decide),?_,fun h9t=> ?_⟩
   ·unfold Jf;rw[g 8 (by decide),g 13 (by decide),g 9 (by decide)];exact hh
   ·rw[g 8 (by decide)];exact h8
   ·rw[g 9 (by decide),n9]at h9t;cases h9t
  |6,_ =>
   have e:=t0;have pu:=pu 10 (iO (t::r)) (by simp[ng]) (by simp[ng]) (by decide);simp only[wq.1,seval,Tryz.results210,t1]
   first|exact pu|exact⟨by omega,pu⟩|exact⟨⟨by omega,by omega⟩,pu⟩|exact⟨⟨by omega,by omega,by omega⟩,pu⟩
  |7,_ =>
   have dp:=aN hi (l:=[6]) (by decide +kernel);have e:=hfa (6,10,iO (t::r)) (by simp[ng]) (dp 6 (by simp));have pu:=pu 11 (iO r) (by simp[ng]) (by simp[ng]) (by decide);simp only[wq.1,seval,Tryz.results210,e]
   first|exact pu|exact⟨by omega,pu⟩|exact⟨⟨by omega,by omega⟩,pu⟩|exact⟨⟨by omega,by omega,by omega⟩,pu⟩
  | 8,_ => 
   have dp:=aN hi (l:=[7]) (by decide +kernel);have e:=hfa (7,11,iO r) (by simp[ng]) (dp 7 (by simp));have n9:L.getD 9 false=false:=aZ hcl no (by decide +kernel);have n13:L.getD 13 false=false:=aZ hcl n9 (by decide +kernel);have g:∀j,j≠8->(L.setIfInBounds 8 true).getD j false=L.getD j false:=fun j hj=>getD_set_ne false (Ne.symm hj);have sf:(L.setIfInBounds 8 true).getD 8 false=true:=by simp[Array.getD,sz]
   have hh':h=h0:=by unfold Jf at hh;rw[no,if_neg (by decide)]at hh;exact hh
   subst hh';simp only[wq.1,Nat.reduceLT,Tryz.results210,e];refine qo r (by omega) hs fun X=> ?_;cases hw:bQ r with
   |error x =>
    simp only[wq.1,dW];rw[hd];have he:N7 p r= .error x:=by unfold N7;rw[hw]
    rw[he];exact(show ru Hp fx o (.error x) _ _ _ from⟨hk,K.same hp fun j hf=>(by rw[zqj (K.lt _ hp j hf)]),rfl⟩)
   |ok l =>
    have hl':=hws l hw;subst hl';intro hX;simp only[wq.1,seval];refine⟨?_,hfa.put' rfl,GI.put ⟨t0,t1,hd,hk⟩ (by decide) (by decide),?_,fun h9t=> ?_⟩
    ·unfold Jf;rw[sf,if_pos rfl];refine⟨X,hX,?_⟩;rw[g 13 (by decide),n13,if_neg (by decide),g 9 (by decide),n9,if_neg (by decide)]
    ·rw[g 5 (by decide),g 9 (by decide)];exact h5
    ·rw[g 9 (by decide),n9]at h9t;cases h9t
  | 9,_ => 
   have dp:=aN hi (l:=[5,8]) (by decide +kernel);have e9:=h5 (dp 5 (by simp)) no;obtain⟨hwr,e12⟩:=h8 (dp 8 (by simp));have hwl:=jT hwr;have n13:L.getD 13 false=false:=aZ hcl no (by decide +kernel);have g:∀j,j≠9->(L.setIfInBounds 9 true).getD j false=L.getD j false:=fun j hj=>getD_set_ne false (Ne.symm hj);have sf:(L.setIfInBounds 9 true).getD 9 false=true:=by simp[Array.getD,sz]
   unfold Jf at hh;rw[if_pos (dp 8 (by simp))]at hh;obtain⟨X,hX,hh⟩:=hh;rw[n13,if_neg (by decide),no,if_neg (by decide)]at hh;subst hh;have hI:(h0++X)[o.IN]? =some (.cells (p.c.ins.map V.str)):=by rw[zqj lI];exact k.i
   obtain⟨X3,hX3⟩:∃X3,X3=(p.c.ins++ws).map V.str:=⟨_,rfl⟩;have hnx:p.c.ins.map V.str++ws.map V.str=X3:=by rw[hX3,zql]
   have hd3:V.drops (fun x=>x==o.IN) X3=X3:=by rw[hX3,aC]
   have hwk:(ws.map V.str).take ws.length=ws.map V.str:=zqh (by simp);have hdw:V.drops (fun x=>x==o.IN) (ws.map V.str)=ws.map V.str:=aC;have bI:(h0.length==o.IN)=false:=by rw[beq_eq_false_iff_ne];omega
   have bP:(o.PP==o.IN)=false:=by rw[beq_eq_false_iff_ne];exact d1
   simp only[wq.1,seval,Tryz.results210,e9,e12,hI,hX,hnx,hd3,hd,Nat.mul_one,hwk,bI];refine⟨⟨vY,by omega,by omega⟩,?_,(hfa.drop ?_).put' rfl,(GI.drop ⟨t0,t1,hd,hk⟩ ?_).put (by decide) (by decide),fun _=>hwr,fun _ h9f=> ?_⟩
   ·unfold Jf;rw[g 8 (by decide),if_pos (dp 8 (by simp))];refine⟨X,hX,?_⟩;rw[g 13 (by decide),n13,if_neg (by decide),sf,if_pos rfl,zql,<-hX3]
   ·intro x hx;simp only[ng,zrj,zrp,or_false]at hx;rcases hx with rfl|rfl|rfl|rfl|rfl|rfl|rfl|rfl|rfl|rfl<;>first|rfl|(simp only[V.drop,bP];rfl)
   ·rintro i (hi|rfl)
    ·rw[beq_eq_false_iff_ne];rintro rfl;exact K.n2 hi
    ·exact bP
   ·rw[sf]at h9f;cases h9f
  |10,_ =>
   have dp:=aN hi (l:=[0]) (by decide +kernel);have e:=hfa (0,4,.lp o.PP 0) (by simp[ng]) (dp 0 (by simp));have pu:=pu 14 (.lp o.PP 0) (by simp[ng]) (by simp[ng]) (by decide);simp only[wq.1,seval,Tryz.results210,e]
   first|exact pu|exact⟨by omega,pu⟩|exact⟨⟨by omega,by omega⟩,pu⟩|exact⟨⟨by omega,by omega,by omega⟩,pu⟩
  |11,_ =>
   have dp:=aN hi (l:=[10]) (by decide +kernel);have e:=hfa (10,14,.lp o.PP 0) (by simp[ng]) (dp 10 (by simp));have pu:=pu 15 (.lp o.PP 0) (by simp[ng]) (by simp[ng]) (by decide);simp only[wq.1,seval,Tryz.results210,e]
   first|exact pu|exact⟨by omega,pu⟩|exact⟨⟨by omega,by omega⟩,pu⟩|exact⟨⟨by omega,by omega,by omega⟩,pu⟩
  |12,_ =>
   have dp:=aN hi (l:=[11]) (by decide +kernel);have e:=hfa (11,15,.lp o.PP 0) (by simp[ng]) (dp 11 (by simp));have pu:=pu 16 (.lp o.PP 0) (by simp[ng]) (by simp[ng]) (by decide);simp only[wq.1,seval,Tryz.results210,e]
   first|exact pu|exact⟨by omega,pu⟩|exact⟨⟨by omega,by omega⟩,pu⟩|exact⟨⟨by omega,by omega,by omega⟩,pu⟩
  | 13,_ => 
   have dp:=aN hi (l:=[9,12]) (by decide +kernel);have e:=hfa (12,16,.lp o.PP 0) (by simp[ng]) (dp 12 (by simp));have e13:=h9 (dp 9 (by simp));have dd8:L.getD 8 false=true:=nO hcl (dp 9 (by simp)) (l:=[8]) (by decide +kernel) 8 (by simp);have g:∀j,j≠13->(L.setIfInBounds 13 true).getD j false=L.getD j false:=fun j hj=>getD_set_ne false (Ne.symm hj);have sf:(L.setIfInBounds 13 true).getD 13 false=true:=by simp[Array.getD,sz]
   unfold Jf at hh;rw[if_pos dd8]at hh;obtain⟨X,hX,hh⟩:=hh;rw[no,if_neg (by decide),if_pos (dp 9 (by simp))]at hh;have hz:h[o.PP]? =some (.cells [.any,.ls o.OU 1 0 p.c.outs.length p.c.outs.length,.ls o.LA 3 0 p.c.lat.length p.c.lat.length,.ls o.GA 5 0 p.c.gates.length p.c.gates.length,.bool p.begun,.bool p.ended,.nilp]):=by
    rw[hh,zqn (Ne.symm d1),zqo,zqj lPP,hpp];show some (O.cells [V.drop _ _,V.drop _ _,V.drop _ _,V.drop _ _,V.drop _ _,V.drop _ _,V.drop _ _])=_;simp only[V.drop,beq_self_eq_true,if_true,show(o.OU==o.IN)=false from by rw[beq_eq_false_iff_ne];exact Ne.symm d5,show(o.IN==o.OU)=false from by rw[beq_eq_false_iff_ne];exact d5,show(o.LA==o.IN)=false from by rw[beq_eq_false_iff_ne];exact Ne.symm d6,show(o.GA==o.IN)=false from by rw[beq_eq_false_iff_ne];exact Ne.symm d7,show(o.LA==o.OU)=false from by rw[beq_eq_false_iff_ne];exact Ne.symm d8,show(o.GA==o.OU)=false from by rw[beq_eq_false_iff_ne];exact Ne.symm d9,zrm,if_false]
   simp only[wq.1,seval,Tryz.results210,e,e13,hz];refine⟨?_,hfa.skip (by simp[ng]),⟨t0,t1,hd,hk⟩,?_,fun _ h9f=> ?_⟩
   ·unfold Jf;rw[g 8 (by decide),if_pos dd8];refine⟨X,hX,?_⟩;rw[sf,if_pos rfl,hh]
   ·rw[g 8 (by decide)];exact h8
   ·rw[g 9 (by decide),dp 9 (by simp)]at h9f;cases h9f
 ·rintro L f h hall ⟨hh,hfa,⟨t0,t1,hd,hk⟩,h8,h5,h9⟩;have hsd:∀i,i<14->L.getD i false=true:=fun i hi=>hall i hi;unfold Jf at hh;rw[if_pos (hsd 8 (by omega))]at hh;obtain⟨X,hX,hh⟩:=hh;rw[if_pos (hsd 13 (by omega))]at hh;have hwr:=(h8 (hsd 8 (by omega))).1;subst hh;have k':=k.insD X ws;show qF P [] (ru Hp fx o (N7 p r)) .normal f _;unfold N7;rw[hwr];simp only[wq.1,hd];simp only[zql]at k';refine⟨hk,K.ext h0 _ (·==o.IN) hp (fun i hi=> ?_) (fun j hf=> ?_),rfl,none,k',fun _ _ h=>(by cases h)⟩
  ·rw[beq_eq_false_iff_ne];rcases hi with hi|rfl
   ·rintro rfl;exact K.n2 hi
   ·exact d1
  ·have n1:o.PP≠j:=fun e=>K.n1 (by rw[e];exact hf);have n2:o.IN≠j:=fun e=>K.n2 (by rw[e];exact hf);rw[zqn n1,zqn n2,<-zql,zqo,zqj (K.lt _ hp j hf)]
theorem PH.outsD{o:Pl}{p:Ps}{h0:H}(k:PH o p none h0)(X:H)(ws:List S) :
 PH o {p with c:={p.c with outs:=p.c.outs++ws}} none ((((h0++X).map (O.drop (·==o.OU))).set o.OU (.cells ((p.c.outs++ws).map V.str))).set o.PP (.cells [.ls o.IN 1 0 p.c.ins.length p.c.ins.length,.ls o.OU 1 0 (p.c.outs.length+ws.length) (p.c.outs.length+ws.length),.ls o.LA 3 0 p.c.lat.length p.c.lat.length,.ls o.GA 5 0 p.c.gates.length p.c.gates.length,.bool p.begun,.bool p.ended,.nilp])):=by
 obtain⟨d1,d2,d3,d4,d5,d6,d7,d8,d9,d10⟩:=k.d;have on:p.on=false:=k.rows;have lt:∀ {j x},h0[j]? =some x->j<h0.length:=fun hx=>(zqe hx).1;have l1:=lt k.pp;have l2:=lt k.i;have l3:=lt k.u;have old:∀j x,h0[j]? =some x->j≠o.PP->j≠o.OU->x.drop (·==o.OU)=x->((((h0++X).map (O.drop (·==o.OU))).set o.OU (.cells ((p.c.outs++ws).map V.str))).set o.PP (.cells [.ls o.IN 1 0 p.c.ins.length p.c.ins.length,.ls o.OU 1 0 (p.c.outs.length+ws.length) (p.c.outs.length+ws.length),.ls o.LA 3 0 p.c.lat.length p.c.lat.length,.ls o.GA 5 0 p.c.gates.length p.c.gates.length,.bool p.begun,.bool p.ended,.nilp]))[j]? =some x:=fun j x hx h1 h2 h3=>by rw[zqn (Ne.symm h1),zqn (Ne.symm h2),zqo,zqj (lt hx),hx,zrw,h3]
 refine⟨?_,?_,?_,?_,?_,on,k.d⟩
 ·rw[zqt (by simp;omega)];have:jV o {p with c:={p.c with outs:=p.c.outs++ws}}= .nilp:=by unfold jV;rw[if_neg (by rw[on];decide)]
  rw[this];simp only[zqa]
 ·exact old _ _ k.i (Ne.symm d1) d5 (by show O.cells (V.drops _ _)=_;rw[aC])
 ·rw[zqn d2,zqt (by simp;omega)]
 ·exact old _ _ k.l (Ne.symm d3) (Ne.symm d8) (by show O.cells (V.drops _ _)=_;rw[bC jk])
 ·exact old _ _ k.g (Ne.symm d4) (Ne.symm d9) (by show O.cells (V.drops _ (List.flatMap gaX _))=_;rw[bC jl];rfl)
def fM(o:Pl)(t:Tk)(r:List Tk):List (Nat×Nat×V):=[(0,4,.lp o.PP 0),(1,5,.lp o.PP 0),(2,6,.lp o.PP 0),(3,7,.lp o.PP 0),(4,8,.lp o.PP 1),(6,10,iO (t::r)),(7,11,iO r),(10,14,.lp o.PP 0),(11,15,.lp o.PP 0),(12,16,.lp o.PP 1)]
def tJ(o:Pl)(p:Ps)(ws:List S)(h0:H)(L:Array Bool)(h:H):Prop :=
 if L.getD 8 false=true then ∃X,(h0++X)[h0.length]? =some (.cells (ws.map V.str)) /\
  if L.getD 13 false=true then h=(((h0++X).map (O.drop (·==o.OU))).set o.OU (.cells ((p.c.outs++ws).map V.str))).set o.PP (.cells [.ls o.IN 1 0 p.c.ins.length p.c.ins.length,.ls o.OU 1 0 (p.c.outs.length+ws.length) (p.c.outs.length+ws.length),.ls o.LA 3 0 p.c.lat.length p.c.lat.length,.ls o.GA 5 0 p.c.gates.length p.c.gates.length,.bool p.begun,.bool p.ended,.nilp])
  else if L.getD 9 false=true then h=((h0++X).map (O.drop (·==o.OU))).set o.OU (.cells ((p.c.outs++ws).map V.str))
  else h=h0++X
 else h=h0
theorem Ak[MO]{Hp:H->Prop}{fx:Nat->Prop}{o:Pl}(K:HpOk Hp fx o){p:Ps}{h0:H}(k:PH o p none h0)(hp:Hp h0)(t:Tk)(r:List Tk)(hl:r.length<=900000)(hs:∀t∈r,t.t.length<=1000000)(hn:p.c.outs.length<=1000000) :
 ag TE 211 [.lp o.PP 0,iO (t::r)] h0 (ru Hp fx o (yc p r)):=by
 have hM:=mLx;obtain⟨d1,d2,d3,d4,d5,d6,d7,d8,d9,d10⟩:=k.d;have on:p.on=false:=k.rows;have hpp:=k.pp;have hptr:jV o p= .nilp:=by unfold jV;rw[if_neg (by rw[on];decide)]
 rw[hptr]at hpp;have lt:∀ {j x},h0[j]? =some x->j<h0.length:=fun hx=>(zqe hx).1;have lPP:=lt k.pp;have lI:=lt k.u;have hsl:((t::r).map Tk.v).drop 1=r.map Tk.v:=rfl;obtain⟨ws,hws⟩:∃ws:List S,∀l,bQ r= .ok l->l=ws:=by
  cases bQ r with
  |ok l=>exact⟨l,fun l' h=>by cases h;rfl⟩
  |error x=>exact⟨[],fun l' h=>by cases h⟩
 refine ax Tryz.func211 rfl (by simp[nts]) ?_;refine qM mixed (fun L f h=>tJ o p ws h0 L h/\FA L f (fM o t r)/\GI fx o t r f/\(L.getD 8 false=true->bQ r= .ok ws/\f.t 12= .ls h0.length 1 0 ws.length ws.length)/\(L.getD 5 false=true->L.getD 9 false=false->f.t 9= .ls o.OU 1 0 p.c.outs.length p.c.outs.length)/\(L.getD 9 false=true->f.t 13= .ls o.OU 1 0 (p.c.outs.length+ws.length) (p.c.outs.length+ws.length))) (by decide +kernel) ?_ ?_ ?_
 ·refine⟨?_,FA.none,⟨rfl,rfl,rfl,fun _ _=>rfl⟩,fun h=> ?_,fun h=> ?_,fun h=> ?_⟩
  ·unfold tJ;rw[if_neg (by decide)]
  all_goals (exfalso;revert h;decide +kernel)
 ·rintro L f h i hcl ⟨hh,hfa,⟨t0,t1,hd,hk⟩,h8,h5,h9⟩ hi;have hlt:i<14:=qL hi;have no:=nM hi;have sz:=lg hi;have pu:∀(d:Nat)(v:V),(∀x∈fM o t r,x.1=i->x.2.1=d/\x.2.2=v)->(∀x∈fM o t r,x.2.1=d->x.1=i)->(decide (d∉([0,1,9,12,13]:List Nat))&&decide (i∉([5,8,9,13]:List Nat)))=true ->
   (tJ o p ws h0 (L.setIfInBounds i true) h/\FA (L.setIfInBounds i true) (f.put (some d) v) (fM o t r)/\GI fx o t r (f.put (some d) v)/\((L.setIfInBounds i true).getD 8 false=true->bQ r= .ok ws/\(f.put (some d) v).t 12= .ls h0.length 1 0 ws.length ws.length)/\((L.setIfInBounds i true).getD 5 false=true->(L.setIfInBounds i true).getD 9 false=false->(f.put (some d) v).t 9= .ls o.OU 1 0 p.c.outs.length p.c.outs.length)/\((L.setIfInBounds i true).getD 9 false=true->(f.put (some d) v).t 13= .ls o.OU 1 0 (p.c.outs.length+ws.length) (p.c.outs.length+ws.length))):=by
   intro d v h1 h2 h3;rw[zqf,zqb,zqb]at h3;simp only[zrj,zrp,or_false,not_or]at h3;obtain⟨⟨e0,e1,e9,e12,e13⟩,i5,i8,i9,i13⟩:=h3;have g:∀j,j≠i->(L.setIfInBounds i true).getD j false=L.getD j false:=fun j hj=>getD_set_ne false (Ne.symm hj);have p':∀j,j≠d->(f.put (some d) v).t j=f.t j:=fun j hj=>by simp[Fr.put,hj]
   refine⟨?_,hfa.put h1 h2,⟨by rw[p' 0 (Ne.symm e0)];exact t0,by rw[p' 1 (Ne.symm e1)];exact t1,hd,hk⟩,?_,?_,?_⟩
   ·unfold tJ;rw[g 8 (Ne.symm i8),g 13 (Ne.symm i13),g 9 (Ne.symm i9)];exact hh
   ·rw[g 8 (Ne.symm i8),p' 12 (Ne.symm e12)];exact h8
   ·rw[g 5 (Ne.symm i5),g 9 (Ne.symm i9),p' 9 (Ne.symm e9)];exact h5
   ·rw[g 9 (Ne.symm i9),p' 13 (Ne.symm e13)];exact h9
  match i,hlt with
  |0,_ =>
   have e:=t0;have pu:=pu 4 (.lp o.PP 0) (by simp[fM]) (by simp[fM]) (by decide);simp only[wq.1,seval,Tryz.results211,t0]
   first|exact pu|exact⟨by omega,pu⟩|exact⟨⟨by omega,by omega⟩,pu⟩|exact⟨⟨by omega,by omega,by omega⟩,pu⟩
  |1,_ =>
   have e:=t0;have pu:=pu 5 (.lp o.PP 0) (by simp[fM]) (by simp[fM]) (by decide);simp only[wq.1,seval,Tryz.results211,t0]
   first|exact pu|exact⟨by omega,pu⟩|exact⟨⟨by omega,by omega⟩,pu⟩|exact⟨⟨by omega,by omega,by omega⟩,pu⟩
  |2,_ =>
   have dp:=aN hi (l:=[1]) (by decide +kernel);have e:=hfa (1,5,.lp o.PP 0) (by simp[fM]) (dp 1 (by simp));have pu:=pu 6 (.lp o.PP 0) (by simp[fM]) (by simp[fM]) (by decide);simp only[wq.1,seval,Tryz.results211,e]
   first|exact pu|exact⟨by omega,pu⟩|exact⟨⟨by omega,by omega⟩,pu⟩|exact⟨⟨by omega,by omega,by omega⟩,pu⟩
  |3,_ =>
   have dp:=aN hi (l:=[2]) (by decide +kernel);have e:=hfa (2,6,.lp o.PP 0) (by simp[fM]) (dp 2 (by simp));have pu:=pu 7 (.lp o.PP 0) (by simp[fM]) (by simp[fM]) (by decide);simp only[wq.1,seval,Tryz.results211,e]
   first|exact pu|exact⟨by omega,pu⟩|exact⟨⟨by omega,by omega⟩,pu⟩|exact⟨⟨by omega,by omega,by omega⟩,pu⟩
  |4,_ =>
   have dp:=aN hi (l:=[3]) (by decide +kernel);have e:=hfa (3,7,.lp o.PP 0) (by simp[fM]) (dp 3 (by simp));have pu:=pu 8 (.lp o.PP 1) (by simp[fM]) (by simp[fM]) (by decide);simp only[wq.1,seval,Tryz.results211,e]
   first|exact pu|exact⟨by omega,pu⟩|exact⟨⟨by omega,by omega⟩,pu⟩|exact⟨⟨by omega,by omega,by omega⟩,pu⟩
  | 5,_ => 
   have dp:=aN hi (l:=[4]) (by decide +kernel);have e:=hfa (4,8,.lp o.PP 1) (by simp[fM]) (dp 4 (by simp));have n9:L.getD 9 false=false:=aZ hcl no (by decide +kernel);have n13:L.getD 13 false=false:=aZ hcl n9 (by decide +kernel);have g:∀j,j≠5->(L.setIfInBounds 5 true).getD j false=L.getD j false:=fun j hj=>getD_set_ne false (Ne.symm hj);have sf:(L.setIfInBounds 5 true).getD 5 false=true:=by simp[Array.getD,sz]
   have hpph:h[o.PP]? =some (.cells [.ls o.IN 1 0 p.c.ins.length p.c.ins.length,.ls o.OU 1 0 p.c.outs.length p.c.outs.length,.ls o.LA 3 0 p.c.lat.length p.c.lat.length,.ls o.GA 5 0 p.c.gates.length p.c.gates.length,.bool p.begun,.bool p.ended,.nilp]):=by
    unfold tJ at hh;split at hh
    ·obtain⟨X,_,hh⟩:=hh;rw[n13,if_neg (by decide),n9,if_neg (by decide)]at hh;rw[hh,zqj lPP];exact hpp
    ·rw[hh];exact hpp
   simp only[wq.1,seval,Tryz.results211,e,hpph];refine⟨?_,hfa.put' rfl,GI.put ⟨t0,t1,hd,hk⟩ (by decide) (by decide),?_,fun h9t=> ?_⟩
   ·unfold tJ;rw[g 8 (by decide),g 13 (by decide),g 9 (by decide)];exact hh
   ·rw[g 8 (by decide)];exact h8
   ·rw[g 9 (by decide),n9]at h9t;cases h9t
  |6,_ =>
   have e:=t0;have pu:=pu 10 (iO (t::r)) (by simp[fM]) (by simp[fM]) (by decide);simp only[wq.1,seval,Tryz.results211,t1]
   first|exact pu|exact⟨by omega,pu⟩|exact⟨⟨by omega,by omega⟩,pu⟩|exact⟨⟨by omega,by omega,by omega⟩,pu⟩
  |7,_ =>
   have dp:=aN hi (l:=[6]) (by decide +kernel);have e:=hfa (6,10,iO (t::r)) (by simp[fM]) (dp 6 (by simp));have pu:=pu 11 (iO r) (by simp[fM]) (by simp[fM]) (by decide);simp only[wq.1,seval,Tryz.results211,e]
   first|exact pu|exact⟨by omega,pu⟩|exact⟨⟨by omega,by omega⟩,pu⟩|exact⟨⟨by omega,by omega,by omega⟩,pu⟩
  | 8,_ => 
   have dp:=aN hi (l:=[7]) (by decide +kernel);have e:=hfa (7,11,iO r) (by simp[fM]) (dp 7 (by simp));have n9:L.getD 9 false=false:=aZ hcl no (by decide +kernel);have n13:L.getD 13 false=false:=aZ hcl n9 (by decide +kernel);have g:∀j,j≠8->(L.setIfInBounds 8 true).getD j false=L.getD j false:=fun j hj=>getD_set_ne false (Ne.symm hj);have sf:(L.setIfInBounds 8 true).getD 8 false=true:=by simp[Array.getD,sz]
   have hh':h=h0:=by unfold tJ at hh;rw[no,if_neg (by decide)]at hh;exact hh
   subst hh';simp only[wq.1,Nat.reduceLT,Tryz.results211,e];refine qo r (by omega) hs fun X=> ?_;cases hw:bQ r with
   |error x =>
    simp only[wq.1,dW];rw[hd];have he:yc p r= .error x:=by unfold yc;rw[hw]
    rw[he];exact(show ru Hp fx o (.error x) _ _ _ from⟨hk,K.same hp fun j hf=>(by rw[zqj (K.lt _ hp j hf)]),rfl⟩)
   |ok l =>
    have hl':=hws l hw;subst hl';intro hX;simp only[wq.1,seval];refine⟨?_,hfa.put' rfl,GI.put ⟨t0,t1,hd,hk⟩ (by decide) (by decide),?_,fun h9t=> ?_⟩
    ·unfold tJ;rw[sf,if_pos rfl];refine⟨X,hX,?_⟩;rw[g 13 (by decide),n13,if_neg (by decide),g 9 (by decide),n9,if_neg (by decide)]
    ·rw[g 5 (by decide),g 9 (by decide)];exact h5
    ·rw[g 9 (by decide),n9]at h9t;cases h9t
  | 9,_ => 
   have dp:=aN hi (l:=[5,8]) (by decide +kernel);have e9:=h5 (dp 5 (by simp)) no;obtain⟨hwr,e12⟩:=h8 (dp 8 (by simp));have hwl:=jT hwr;have n13:L.getD 13 false=false:=aZ hcl no (by decide +kernel);have g:∀j,j≠9->(L.setIfInBounds 9 true).getD j false=L.getD j false:=fun j hj=>getD_set_ne false (Ne.symm hj);have sf:(L.setIfInBounds 9 true).getD 9 false=true:=by simp[Array.getD,sz]
   unfold tJ at hh;rw[if_pos (dp 8 (by simp))]at hh;obtain⟨X,hX,hh⟩:=hh;rw[n13,if_neg (by decide),no,if_neg (by decide)]at hh;subst hh;have hI:(h0++X)[o.OU]? =some (.cells (p.c.outs.map V.str)):=by rw[zqj lI];exact k.u
   obtain⟨X3,hX3⟩:∃X3,X3=(p.c.outs++ws).map V.str:=⟨_,rfl⟩;have hnx:p.c.outs.map V.str++ws.map V.str=X3:=by rw[hX3,zql]
   have hd3:V.drops (fun x=>x==o.OU) X3=X3:=by rw[hX3,aC]
   have hwk:(ws.map V.str).take ws.length=ws.map V.str:=zqh (by simp);have hdw:V.drops (fun x=>x==o.OU) (ws.map V.str)=ws.map V.str:=aC;have bI:(h0.length==o.OU)=false:=by rw[beq_eq_false_iff_ne];omega
   have bP:(o.PP==o.OU)=false:=by rw[beq_eq_false_iff_ne];exact d2
   simp only[wq.1,seval,Tryz.results211,e9,e12,hI,hX,hnx,hd3,hd,Nat.mul_one,hwk,bI];refine⟨⟨vY,by omega,by omega⟩,?_,(hfa.drop ?_).put' rfl,(GI.drop ⟨t0,t1,hd,hk⟩ ?_).put (by decide) (by decide),fun _=>hwr,fun _ h9f=> ?_⟩
   ·unfold tJ;rw[g 8 (by decide),if_pos (dp 8 (by simp))];refine⟨X,hX,?_⟩;rw[g 13 (by decide),n13,if_neg (by decide),sf,if_pos rfl,zql,<-hX3]
   ·intro x hx;simp only[fM,zrj,zrp,or_false]at hx;rcases hx with rfl|rfl|rfl|rfl|rfl|rfl|rfl|rfl|rfl|rfl<;>first|rfl|(simp only[V.drop,bP];rfl)
   ·rintro i (hi|rfl)
    ·rw[beq_eq_false_iff_ne];rintro rfl;exact K.n3 hi
    ·exact bP
   ·rw[sf]at h9f;cases h9f
  |10,_ =>
   have dp:=aN hi (l:=[0]) (by decide +kernel);have e:=hfa (0,4,.lp o.PP 0) (by simp[fM]) (dp 0 (by simp));have pu:=pu 14 (.lp o.PP 0) (by simp[fM]) (by simp[fM]) (by decide);simp only[wq.1,seval,Tryz.results211,e]
   first|exact pu|exact⟨by omega,pu⟩|exact⟨⟨by omega,by omega⟩,pu⟩|exact⟨⟨by omega,by omega,by omega⟩,pu⟩
  |11,_ =>
   have dp:=aN hi (l:=[10]) (by decide +kernel);have e:=hfa (10,14,.lp o.PP 0) (by simp[fM]) (dp 10 (by simp));have pu:=pu 15 (.lp o.PP 0) (by simp[fM]) (by simp[fM]) (by decide);simp only[wq.1,seval,Tryz.results211,e]
   first|exact pu|exact⟨by omega,pu⟩|exact⟨⟨by omega,by omega⟩,pu⟩|exact⟨⟨by omega,by omega,by omega⟩,pu⟩
  |12,_ =>
   have dp:=aN hi (l:=[11]) (by decide +kernel);have e:=hfa (11,15,.lp o.PP 0) (by simp[fM]) (dp 11 (by simp));have pu:=pu 16 (.lp o.PP 1) (by simp[fM]) (by simp[fM]) (by decide);simp only[wq.1,seval,Tryz.results211,e]
   first|exact pu|exact⟨by omega,pu⟩|exact⟨⟨by omega,by omega⟩,pu⟩|exact⟨⟨by omega,by omega,by omega⟩,pu⟩
  | 13,_ => 
   have dp:=aN hi (l:=[9,12]) (by decide +kernel);have e:=hfa (12,16,.lp o.PP 1) (by simp[fM]) (dp 12 (by simp));have e13:=h9 (dp 9 (by simp));have dd8:L.getD 8 false=true:=nO hcl (dp 9 (by simp)) (l:=[8]) (by decide +kernel) 8 (by simp);have g:∀j,j≠13->(L.setIfInBounds 13 true).getD j false=L.getD j false:=fun j hj=>getD_set_ne false (Ne.symm hj);have sf:(L.setIfInBounds 13 true).getD 13 false=true:=by simp[Array.getD,sz]
   unfold tJ at hh;rw[if_pos dd8]at hh;obtain⟨X,hX,hh⟩:=hh;rw[no,if_neg (by decide),if_pos (dp 9 (by simp))]at hh;have hz:h[o.PP]? =some (.cells [.ls o.IN 1 0 p.c.ins.length p.c.ins.length,.any,.ls o.LA 3 0 p.c.lat.length p.c.lat.length,.ls o.GA 5 0 p.c.gates.length p.c.gates.length,.bool p.begun,.bool p.ended,.nilp]):=by
    rw[hh,zqn (Ne.symm d2),zqo,zqj lPP,hpp];show some (O.cells [V.drop _ _,V.drop _ _,V.drop _ _,V.drop _ _,V.drop _ _,V.drop _ _,V.drop _ _])=_;simp only[V.drop,beq_self_eq_true,if_true,show(o.OU==o.IN)=false from by rw[beq_eq_false_iff_ne];exact Ne.symm d5,show(o.IN==o.OU)=false from by rw[beq_eq_false_iff_ne];exact d5,show(o.LA==o.IN)=false from by rw[beq_eq_false_iff_ne];exact Ne.symm d6,show(o.GA==o.IN)=false from by rw[beq_eq_false_iff_ne];exact Ne.symm d7,show(o.LA==o.OU)=false from by rw[beq_eq_false_iff_ne];exact Ne.symm d8,show(o.GA==o.OU)=false from by rw[beq_eq_false_iff_ne];exact Ne.symm d9,zrm,if_false]
   simp only[wq.1,seval,Tryz.results211,e,e13,hz];refine⟨?_,hfa.skip (by simp[fM]),⟨t0,t1,hd,hk⟩,?_,fun _ h9f=> ?_⟩
   ·unfold tJ;rw[g 8 (by decide),if_pos dd8];refine⟨X,hX,?_⟩;rw[sf,if_pos rfl,hh]
   ·rw[g 8 (by decide)];exact h8
   ·rw[g 9 (by decide),dp 9 (by simp)]at h9f;cases h9f
 ·rintro L f h hall ⟨hh,hfa,⟨t0,t1,hd,hk⟩,h8,h5,h9⟩;have hsd:∀i,i<14->L.getD i false=true:=fun i hi=>hall i hi;unfold tJ at hh;rw[if_pos (hsd 8 (by omega))]at hh;obtain⟨X,hX,hh⟩:=hh;rw[if_pos (hsd 13 (by omega))]at hh;have hwr:=(h8 (hsd 8 (by omega))).1;subst hh;have k':=k.outsD X ws;show qF P [] (ru Hp fx o (yc p r)) .normal f _;unfold yc;rw[hwr];simp only[wq.1,hd];simp only[zql]at k';refine⟨hk,K.ext h0 _ (·==o.OU) hp (fun i hi=> ?_) (fun j hf=> ?_),rfl,none,k',fun _ _ h=>(by cases h)⟩
  ·rw[beq_eq_false_iff_ne];rcases hi with hi|rfl
   ·rintro rfl;exact K.n3 hi
   ·exact d2
  ·have n1:o.PP≠j:=fun e=>K.n1 (by rw[e];exact hf);have n2:o.OU≠j:=fun e=>K.n3 (by rw[e];exact hf);rw[zqn n1,zqn n2,<-zql,zqo,zqj (K.lt _ hp j hf)]
def NO(L:Array Bool)(B:Nat)(h:H)(f:Fr)(ia is d q:Nat)(zc uc:List V):Prop:=L.getD ia false=true->f.t d= .lp q 0/\B<=q/\h[q]? =some (.cells (if L.getD is false=true then uc else zc))
def dG(o:Pl)(t a b:Tk)(r':List Tk)(x y:S):List (Nat×Nat×V):=[(0,19,iO (t::a::b::r')),(1,20,.ip a.v),(2,21,a.v),(3,22,.str x),(4,23,iO (t::a::b::r')),(5,24,.ip b.v),(6,25,b.v),(7,26,.str y),(8,27,.agg [.str y,.str x,vi 2])]
theorem Vf[MO]{Hp:H->Prop}{fx:Nat->Prop}{o:Pl}(K:HpOk Hp fx o){h0:H}(hp:Hp h0)(t a b:Tk)(r':List Tk)(hsa:a.t.length<=1000000)(hsb:b.t.length<=1000000)(hr:r'.length<=1000000){r:Option Nat}{Q:XE->Fr->H->Prop}{f0:Fr}(g0:GI fx o t (a::b::r') f0)
 (hbad1:∀x f h X,iG a= .error x->h=h0++X->f.d=[]->(∀i,fx i\/i=o.PP->f.k i=false)->Q (.pan (jW x.1 x.2)) f h)
 (hbad2:∀x y f h X,iG a= .ok y->iG b= .error x->h=h0++X->f.d=[]->(∀i,fx i\/i=o.PP->f.k i=false)->Q (.pan (jW x.1 x.2)) f h)
 (hk:∀x y q f h X,iG a= .ok x->iG b= .ok y->h=h0++X->h0.length<=q->h[q]? =some (.cells [.str y,.str x,vi 2])->f.t 4= .lp q 0->GI fx o t (a::b::r') f->Q .normal f h) :
 awp TE 66 r (.region 1 (xY Tryz.f212 1) true) Q f0 h0:=by
 simp only[xY,Tryz.f212,uG,List.nil_append,zqp,List.headD_cons,Nat.reduceBEq,zrm,if_false,if_true,List.cons_append];have hM:=mLx;obtain⟨x,hx⟩:∃x,∀s,iG a= .ok s->s=x:=by
  cases iG a with
  |ok s=>exact⟨s,fun s' h=>by cases h;rfl⟩
  |error e=>exact⟨[],fun s' h=>by cases h⟩
 obtain⟨y,hy⟩:∃y,∀s,iG b= .ok s->s=y:=by
  cases iG b with
  |ok s=>exact⟨s,fun s' h=>by cases h;rfl⟩
  |error e=>exact⟨[],fun s' h=>by cases h⟩
 refine qM mixed (fun L f h=>(∃X q,h=h0++X/\NO L h0.length h f 9 10 4 q [.str [],.str [],vi 0] [.str y,.str x,vi 2])/\FA L f (dG o t a b r' x y)/\GI fx o t (a::b::r') f/\(L.getD 3 false=true->iG a= .ok x)/\(L.getD 7 false=true->iG b= .ok y)) (by decide +kernel) ?_ ?_ ?_
 ·refine⟨⟨[],0,by simp,fun h=> ?_⟩,FA.none,g0,fun h=> ?_,fun h=> ?_⟩
  all_goals (exfalso;revert h;decide +kernel)
 ·rintro L f h i hcl ⟨⟨X,q,rfl,hno⟩,hfa,hg,h3,h7⟩ hi;have hlt:i<11:=qL hi;have no:=nM hi;have sz:=lg hi;have t1:=hg.t1;have pu:∀(d:Nat)(v:V),(∀z∈dG o t a b r' x y,z.1=i->z.2.1=d/\z.2.2=v)->(∀z∈dG o t a b r' x y,z.2.1=d->z.1=i)->(decide (d∉([0,1,4]:List Nat))&&decide (i∉([3,7,9,10]:List Nat)))=true ->
   ((∃X' q,h0++X=h0++X'/\NO (L.setIfInBounds i true) h0.length (h0++X) (f.put (some d) v) 9 10 4 q [.str [],.str [],vi 0] [.str y,.str x,vi 2])/\FA (L.setIfInBounds i true) (f.put (some d) v) (dG o t a b r' x y)/\GI fx o t (a::b::r') (f.put (some d) v)/\((L.setIfInBounds i true).getD 3 false=true->iG a= .ok x)/\((L.setIfInBounds i true).getD 7 false=true->iG b= .ok y)):=by
   intro d v h1 h2 h3';rw[zqf,zqb,zqb]at h3';simp only[zrj,zrp,or_false,not_or]at h3';obtain⟨⟨e0,e1,e4⟩,i3,i7,i9,i10⟩:=h3';have g:∀j,j≠i->(L.setIfInBounds i true).getD j false=L.getD j false:=fun j hj=>getD_set_ne false (Ne.symm hj);refine⟨⟨X,q,rfl,fun hh=> ?_⟩,hfa.put h1 h2,hg.put e0 e1,?_,?_⟩
   ·rw[g 9 (Ne.symm i9)]at hh;rw[g 10 (Ne.symm i10)];have:=hno hh;exact⟨by simpa [Fr.put,Ne.symm e4]using this.1,this.2⟩
   ·rw[g 3 (Ne.symm i3)];exact h3
   ·rw[g 7 (Ne.symm i7)];exact h7
  have ga:((t::a::b::r').map Tk.v).getD 1 .any=a.v:=rfl;have gb:((t::a::b::r').map Tk.v).getD 2 .any=b.v:=rfl
  match i,hlt with
  |0,_=>have pu:=pu 19 (iO (t::a::b::r')) (by simp[dG]) (by simp[dG]) (by decide);simp only[wq.1,Nat.reduceLT,t1];exact pu
  |1,_ =>
   have dp:=aN hi (l:=[0]) (by decide +kernel);have e:=hfa (0,19,iO (t::a::b::r')) (by simp[dG]) (dp 0 (by simp));have pu:=pu 20 (.ip a.v) (by simp[dG]) (by simp[dG]) (by decide);simp only[wq.1,seval,e]
   first|exact pu|exact⟨by omega,pu⟩|exact⟨⟨by omega,by omega⟩,pu⟩
  |2,_=>have dp:=aN hi (l:=[1]) (by decide +kernel);have e:=hfa (1,20,.ip a.v) (by simp[dG]) (dp 1 (by simp));have pu:=pu 21 a.v (by simp[dG]) (by simp[dG]) (by decide);simp only[wq.1,seval,e];exact pu
  |3,_ =>
   have dp:=aN hi (l:=[2]) (by decide +kernel);have e:=hfa (2,21,a.v) (by simp[dG]) (dp 2 (by simp));have g:∀j,j≠3->(L.setIfInBounds 3 true).getD j false=L.getD j false:=fun j hj=>getD_set_ne false (Ne.symm hj);have sf:(L.setIfInBounds 3 true).getD 3 false=true:=by simp[Array.getD,sz]
   simp only[wq.1,Nat.reduceLT,e];refine tH a hsa fun X'=> ?_;cases hw:iG a with
   |error z=>simp only[wq.1,dW];exact hbad1 z _ _ (X++X') hw (by rw[zqc]) (hg.drop (fun _ _=>rfl)).d (hg.drop (fun _ _=>rfl)).k
   |ok s =>
    have hs':=hx s hw;subst hs';simp only[wq.1];refine⟨⟨X++X',q,by rw[zqc],fun hh=> ?_⟩,hfa.put (by simp[dG]) (by simp[dG]),hg.put (by decide) (by decide),?_⟩
    ·rw[g 9 (by decide)]at hh;rw[g 10 (by decide)];obtain⟨e1,e2,e3⟩:=hno hh;refine⟨by simpa [Fr.put]using e1,e2,?_⟩;rw[zqj (zqe e3).1];exact e3
    ·rw[g 7 (by decide)];exact h7
  |4,_=>have pu:=pu 23 (iO (t::a::b::r')) (by simp[dG]) (by simp[dG]) (by decide);simp only[wq.1,Nat.reduceLT,t1];exact pu
  |5,_ =>
   have dp:=aN hi (l:=[4]) (by decide +kernel);have e:=hfa (4,23,iO (t::a::b::r')) (by simp[dG]) (dp 4 (by simp));have pu:=pu 24 (.ip b.v) (by simp[dG]) (by simp[dG]) (by decide);simp only[wq.1,seval,e]
   first|exact pu|exact⟨by omega,pu⟩|exact⟨⟨by omega,by omega⟩,pu⟩
  |6,_=>have dp:=aN hi (l:=[5]) (by decide +kernel);have e:=hfa (5,24,.ip b.v) (by simp[dG]) (dp 5 (by simp));have pu:=pu 25 b.v (by simp[dG]) (by simp[dG]) (by decide);simp only[wq.1,seval,e];exact pu
  |7,_ =>
   have dp:=aN hi (l:=[6]) (by decide +kernel);have e:=hfa (6,25,b.v) (by simp[dG]) (dp 6 (by simp));have g:∀j,j≠7->(L.setIfInBounds 7 true).getD j false=L.getD j false:=fun j hj=>getD_set_ne false (Ne.symm hj);have sf:(L.setIfInBounds 7 true).getD 7 false=true:=by simp[Array.getD,sz]
   simp only[wq.1,Nat.reduceLT,e];refine tH b hsb fun X'=> ?_;cases hw:iG b with
   |error z=>simp only[wq.1,dW];have dp3:=aN hi (l:=[3]) (by decide +kernel);exact hbad2 z x _ _ (X++X') (h3 (dp3 3 (by simp))) hw (by rw[zqc]) (hg.drop (fun _ _=>rfl)).d (hg.drop (fun _ _=>rfl)).k
   |ok s =>
    have hs':=hy s hw;subst hs';simp only[wq.1];refine⟨⟨X++X',q,by rw[zqc],fun hh=> ?_⟩,hfa.put (by simp[dG]) (by simp[dG]),hg.put (by decide) (by decide),?_⟩
    ·rw[g 9 (by decide)]at hh;rw[g 10 (by decide)];obtain⟨e1,e2,e3⟩:=hno hh;refine⟨by simpa [Fr.put]using e1,e2,?_⟩;rw[zqj (zqe e3).1];exact e3
    ·rw[g 3 (by decide)];exact h3
  |8,_=>have dp:=aN hi (l:=[3,7]) (by decide +kernel);have e:=hfa (3,22,.str x) (by simp[dG]) (dp 3 (by simp));have e':=hfa (7,26,.str y) (by simp[dG]) (dp 7 (by simp));have pu:=pu 27 (.agg [.str y,.str x,vi 2]) (by simp[dG]) (by simp[dG]) (by decide);simp only[wq.1,seval,e,e'];exact pu
  |9,_ =>
   have n10:L.getD 10 false=false:=aZ hcl no (by decide +kernel);have g:∀j,j≠9->(L.setIfInBounds 9 true).getD j false=L.getD j false:=fun j hj=>getD_set_ne false (Ne.symm hj);have sf:(L.setIfInBounds 9 true).getD 9 false=true:=by simp[Array.getD,sz]
   simp only[wq.1,Nat.reduceLT];refine⟨⟨X++[.cells [.str [],.str [],.int .i64 0]],(h0++X).length,by rw[zqc],fun _=> ?_⟩,hfa.put' rfl,hg.put (by decide) (by decide),?_,?_⟩
   ·rw[g 10 (by decide),n10,if_neg (by decide)];refine⟨by simp[Fr.put],by simp,by simp⟩
   ·rw[g 3 (by decide)];exact h3
   ·rw[g 7 (by decide)];exact h7
  |10,_ =>
   have dp:=aN hi (l:=[8,9]) (by decide +kernel);have e:=hfa (8,27,.agg [.str y,.str x,vi 2]) (by simp[dG]) (dp 8 (by simp));obtain⟨e4,hq,hc⟩:=hno (dp 9 (by simp));rw[no,if_neg (by decide)]at hc;have g:∀j,j≠10->(L.setIfInBounds 10 true).getD j false=L.getD j false:=fun j hj=>getD_set_ne false (Ne.symm hj);have sf:(L.setIfInBounds 10 true).getD 10 false=true:=by simp[Array.getD,sz]
   simp only[wq.1,Nat.reduceAdd,e,e4,hc];refine⟨⟨X.set (q-h0.length) (.cells [.str y,.str x,vi 2]),q,by rw[List.set_append_right _ _ hq],fun _=> ?_⟩,hfa.skip (by simp[dG]),hg,?_,?_⟩
   ·rw[sf,if_pos rfl];exact⟨e4,hq,zqt (zqe hc).1⟩
   ·rw[g 3 (by decide)];exact h3
   ·rw[g 7 (by decide)];exact h7
 ·rintro L f h hall ⟨⟨X,q,rfl,hno⟩,hfa,hg,h3,h7⟩;have hsd:∀i,i<11->L.getD i false=true:=fun i hi=>hall i hi;obtain⟨n1,n2,n3⟩:=hno (hsd 9 (by omega));rw[if_pos (hsd 10 (by omega))]at n3;exact hk x y q f _ X (h3 (hsd 3 (by omega))) (h7 (hsd 7 (by omega))) rfl n2 n3 n1 hg
theorem Nw(s:S):(decide (0<=Lib.index [48,49,50,51] s)&&((s.length:Int)==1))=(AP s).isSome/\∀k,AP s=some k->min (Lib.index [48,49,50,51] s) 2=k:=by
 match s with
 |[]=>exact⟨by simp[AP],fun k h=>by simp[AP]at h⟩
 |a::b::r =>
  have h1:AP (a::b::r)=none:=by simp[AP]
  rw[h1];refine⟨?_,fun k h=>by cases h⟩;have h2:(((a::b::r).length:Int)==1)=false:=by rw[beq_eq_false_iff_ne];simp only[zrt];omega
  rw[h2,Bool.and_false];rfl
 |[c] =>
  have h:∀n,n<256->((decide (0<=Lib.index [48,49,50,51] [UInt8.ofNat n])&&((([UInt8.ofNat n]:S).length:Int)==1))==(AP [UInt8.ofNat n]).isSome&&(match AP [UInt8.ofNat n]with|some k=>min (Lib.index [48,49,50,51] [UInt8.ofNat n]) 2==k|none=>true))=true:=by decide +kernel
  have hc:=h c.toNat c.toNat_lt;rw[UInt8.ofNat_toNat,zqf,beq_iff_eq]at hc;refine⟨hc.1,fun k hk=> ?_⟩;have:=hc.2;rw[hk]at this;simpa using this
theorem PH.app{o:Pl}{p:Ps}{last:Option V}{h:H}(k:PH o p last h)(X:H):PH o p last (h++X):=by
 have old:∀j x,h[j]? =some x->(h++X)[j]? =some x:=fun j x hx=>by rw[zqj (zqe hx).1];exact hx
 refine⟨old _ _ k.pp,old _ _ k.i,old _ _ k.u,old _ _ k.l,old _ _ k.g,?_,k.d⟩;have hr:=k.rows;cases last with
 |none=>exact hr
 |some v =>
  obtain⟨h1,g,h2,h3⟩:=hr;refine⟨h1,g,h2,?_⟩;rcases h3 with h3|⟨RW,a,b,c⟩
  ·exact .inl h3
  ·exact .inr ⟨RW,a,old _ _ b,c⟩
theorem PH.latD{o:Pl}{p:Ps}{h0:H}(k:PH o p none h0)(y x:S)(z:Int) :
 PH o (qg p y x z) none (((h0.map (O.drop (·==o.LA))).set o.LA (.cells ((p.c.lat++[(⟨y,x,z⟩:La)]).flatMap laX))).set o.PP (.cells [.ls o.IN 1 0 p.c.ins.length p.c.ins.length,.ls o.OU 1 0 p.c.outs.length p.c.outs.length,.ls o.LA 3 0 (p.c.lat.length+1) (p.c.lat.length+1),.ls o.GA 5 0 p.c.gates.length p.c.gates.length,.bool p.begun,.bool p.ended,.nilp])):=by
 obtain⟨d1,d2,d3,d4,d5,d6,d7,d8,d9,d10⟩:=k.d;have on:p.on=false:=k.rows;have lt:∀ {j x},h0[j]? =some x->j<h0.length:=fun hx=>(zqe hx).1;have l1:=lt k.pp;have l2:=lt k.l;have old:∀j x',h0[j]? =some x'->j≠o.PP->j≠o.LA->x'.drop (·==o.LA)=x'->(((h0.map (O.drop (·==o.LA))).set o.LA (.cells ((p.c.lat++[(⟨y,x,z⟩:La)]).flatMap laX))).set o.PP (.cells [.ls o.IN 1 0 p.c.ins.length p.c.ins.length,.ls o.OU 1 0 p.c.outs.length p.c.outs.length,.ls o.LA 3 0 (p.c.lat.length+1) (p.c.lat.length+1),.ls o.GA 5 0 p.c.gates.length p.c.gates.length,.bool p.begun,.bool p.ended,.nilp]))[j]? =some x':=fun j x' hx h1 h2 h3=>by rw[zqn (Ne.symm h1),zqn (Ne.symm h2),zqo,hx,zrw,h3]
 refine⟨?_,?_,?_,?_,?_,on,k.d⟩
 ·rw[zqt (by simp;omega)];have:jV o (qg p y x z)= .nilp:=by unfold jV;rw[if_neg (by show ¬p.on=true;rw[on];decide)]
  rw[this];unfold qg;simp only[zqa,zrt,List.length_nil]
 ·exact old _ _ k.i (Ne.symm d1) d6 (by show O.cells (V.drops _ _)=_;rw[aC])
 ·exact old _ _ k.u (Ne.symm d2) d8 (by show O.cells (V.drops _ _)=_;rw[aC])
 ·rw[zqn d3,zqt (by simp;omega)];rfl
 ·exact old _ _ k.g (Ne.symm d4) (Ne.symm d10) (by show O.cells (V.drops _ (List.flatMap gaX _))=_;rw[bC jl];rfl)
def Rt:Plan:=tkZ [0,1,2,3,4]<| .alt 5 (onZ [6,7,8]<|tkZ [9,10,11]<| .one 12<| .fin) (.one 6 (.alt 5 (.one 7<| .one 8<|tkZ [9,10,11]<| .one 12<| .fin) (.one 7 (.one 5<| .one 8<|tkZ [9,10,11]<| .one 12<| .fin))))
theorem Ru[MO]{Hp:H->Prop}{fx:Nat->Prop}{o:Pl}(K:HpOk Hp fx o){p:Ps}{h0:H}(k:PH o p none h0)(hp:Hp h0){q:Nat}{y x:S}{z:Int}(hc:h0[q]? =some (.cells [.str y,.str x,vi z]))(hn:p.c.lat.length<=1000000){f:Fr}
 (t0:f.t 0= .lp o.PP 0) (t4:f.t 4= .lp q 0) (hd:f.d=[]) (hk:∀i,fx i\/i=o.PP->f.k i=false) :
 awp TE 66 none (.region 6 (xY Tryz.f212 6) true) (qF P [] (ru Hp fx o (.ok (qg p y x z)))) f h0:=by
 simp only[xY,Tryz.f212,uG,List.nil_append,zqp,List.headD_cons,Nat.reduceBEq,zrm,if_false,if_true,List.cons_append];have hM:=mLx;obtain⟨d1,d2,d3,d4,d5,d6,d7,d8,d9,d10⟩:=k.d;have on:p.on=false:=k.rows;have hpp:=k.pp;have hptr:jV o p= .nilp:=by unfold jV;rw[if_neg (by rw[on];decide)]
 rw[hptr]at hpp;have hL:=k.l;have hLl:=(zqe hL).1;have hPl:=(zqe hpp).1;obtain⟨X3,hX3⟩:∃X3,X3=(p.c.lat++[(⟨y,x,z⟩:La)]).flatMap laX:=⟨_,rfl⟩;have hnx:p.c.lat.flatMap laX++[.str y,.str x,vi z]=X3:=by rw[hX3,List.flatMap_append];rfl
 have hd3:V.drops (fun x=>x==o.LA) X3=X3:=by rw[hX3,bC jk]
 have hll:(p.c.lat.flatMap laX).length=p.c.lat.length*3:=by
  induction p.c.lat with
  |nil=>rfl
  |cons a l ih=>rw[List.flatMap_cons,zqa,ih,zrt];show 3+_=_;omega
 have bP:(o.PP==o.LA)=false:=by rw[beq_eq_false_iff_ne];exact d3
 have bI:(o.IN==o.LA)=false:=by rw[beq_eq_false_iff_ne];exact d6
 have bU:(o.OU==o.LA)=false:=by rw[beq_eq_false_iff_ne];exact d8
 have bG:(o.GA==o.LA)=false:=by rw[beq_eq_false_iff_ne];exact Ne.symm d10
 have hz:∀x:O,((h0.map (O.drop fun x=>x==o.LA)).set o.LA x)[o.PP]? =some (.cells [.ls o.IN 1 0 p.c.ins.length p.c.ins.length,.ls o.OU 1 0 p.c.outs.length p.c.outs.length,.any,.ls o.GA 5 0 p.c.gates.length p.c.gates.length,.bool p.begun,.bool p.ended,.nilp]):=fun x=>by rw[zqn (Ne.symm d3),zqo,hpp];show some (O.cells [V.drop _ _,V.drop _ _,V.drop _ _,V.drop _ _,V.drop _ _,V.drop _ _,V.drop _ _])=_;simp only[V.drop,beq_self_eq_true,if_true,bI,bU,bG,zrm,if_false]
 have k':=k.latD y x z;rw[<-hX3]at k';refine gQ mixed Rt (fun f' h'=>f'.d=[]/\f'.k=(fun i=>f.k i||i==o.LA)/\h'=((h0.map (O.drop fun x=>x==o.LA)).set o.LA (.cells X3)).set o.PP (.cells [.ls o.IN 1 0 p.c.ins.length p.c.ins.length,.ls o.OU 1 0 p.c.outs.length p.c.outs.length,.ls o.LA 3 0 (p.c.lat.length+1) (p.c.lat.length+1),.ls o.GA 5 0 p.c.gates.length p.c.gates.length,.bool p.begun,.bool p.ended,.nilp])) (by rw[TEP];decide +kernel) (by decide +kernel) ?_ ?_
 ·have hfv:List.flatMap V.vc [V.agg [V.str y,V.str x,vi z]]=[V.str y,V.str x,vi z]:=rfl;have hdl:V.drops (fun x=>x==o.LA) (p.c.lat.flatMap laX)=p.c.lat.flatMap laX:=bC jk _;have hdv:V.drops (fun x=>x==o.LA) [V.str y,V.str x,vi z]=[V.str y,V.str x,vi z]:=rfl;have hao:dm [V.str y,V.str x,vi z]=true:=rfl;have haf:lY [V.agg [V.str y,V.str x,vi z]]=true:=rfl;simp only[wq.1,seval,Rt,t0,t4,hd,hpp,hc,hL,hfv,hnx,hd3,hz,bP,haf];have h31:[0]=List.range 1:=rfl
  and_intros<;>first|omega|exact h31|decide|rfl
 ·rintro f' h' ⟨hd',hk',rfl⟩;simp only[wq.1,hd'];refine⟨fun i hi=> ?_,K.ext h0 _ (·==o.LA) hp (fun i hi=> ?_) (fun j hf=> ?_),rfl,none,k',fun _ _ h=>(by cases h)⟩
  ·rw[hk'];show(f.k i||i==o.LA)=false;rw[hk i hi,Bool.false_or,beq_eq_false_iff_ne];rcases hi with hi|rfl
   ·rintro rfl;exact K.n4 hi
   ·exact d3
  ·rw[beq_eq_false_iff_ne];rcases hi with hi|rfl
   ·rintro rfl;exact K.n4 hi
   ·exact d3
  ·have n1:o.PP≠j:=fun e=>K.n1 (by rw[e];exact hf);have n2:o.LA≠j:=fun e=>K.n4 (by rw[e];exact hf);rw[zqn n1,zqn n2,zqo]
def og(p:Ps)(y x:S):List Tk->RB Ps
 |[]=> .ok (qg p y x 2)
 |i::_=>match AP i.t with
  |some k=> .ok (qg p y x k)
  |none=> .error (i.at',1)
def FK(p:Ps)(a b:Tk)(r':List Tk):RB Ps:=match iG a with
 | .error e=> .error e
 | .ok x=>match iG b with
  | .error e=> .error e
  | .ok y=>og p y x r'
theorem Ny(p:Ps)(t a b:Tk)(r':List Tk):mQ p t (a::b::r')=if r'.length<=1 then FK p a b r' else .error (t.at',2):=by cases r'<;>rfl
theorem DT{p:Ps}{y x:S}{i:Tk}{l:List Tk}{k:Int}(h:AP i.t=some k):og p y x (i::l)= .ok (qg p y x k):=by simp only[og,h]
theorem ut{p:Ps}{y x:S}{i:Tk}{l:List Tk}(h:AP i.t=none):og p y x (i::l)= .error (i.at',1):=by simp only[og,h]
theorem PH.other{o:Pl}{p:Ps}{h:H}(k:PH o p none h){q:Nat}(x:O)(h1:q≠o.PP)(h2:q≠o.IN)(h3:q≠o.OU)(h4:q≠o.LA)(h5:q≠o.GA):PH o p none (h.set q x) :=
 ⟨by rw[zqn h1];exact k.pp,by rw[zqn h2];exact k.i,by rw[zqn h3];exact k.u,by rw[zqn h4];exact k.l,by rw[zqn h5];exact k.g,k.rows,k.d⟩
theorem FM[MO]{Hp:H->Prop}{fx:Nat->Prop}{o:Pl}(K:HpOk Hp fx o){p:Ps}{h0:H}(k:PH o p none h0)(hp:Hp h0)(t:Tk)(r:List Tk)(hl:r.length<=900000)(hs:∀t∈r,t.t.length<=1000000)(hn:p.c.lat.length<=1000000) :
 ag TE 212 [.lp o.PP 0,iO (t::r)] h0 (ru Hp fx o (mQ p t r)):=by
 have hM:=mLx;have hg:((t::r).map Tk.v).getD 0 .any=t.v:=rfl;refine ax Tryz.func212 rfl (by simp[nts]) ?_;refine vn ?_;simp only[wq.1,seval,Tryz.results212];refine⟨by omega,?_⟩;refine aS (((r.length+1:Nat):Int)==3||((r.length+1:Nat):Int)==4) t.at' 2 (fun hnd=> ?_) (fun h=> ?_)
 ·have hlen:r.length=2\/r.length=3:=by simp only[Bool.or_eq_true,beq_iff_eq]at hnd;omega
  obtain⟨a,b,r',hrr⟩:∃a b r',r=a::b::r':=by
   match r,hlen with
   |a::b::r',_=>exact⟨a,b,r',rfl⟩
   |[],h=>simp at h
   |[a],h=>simp at h
  subst hrr;have hr1:r'.length<=1:=by simp only[zrt]at hlen;omega
  have hla:mQ p t (a::b::r')=FK p a b r':=by rw[Ny,if_pos hr1]
  unfold FK at hla;simp only[wq.1];refine vn ?_;refine Vf K hp t a b r' (hs a (by simp)) (hs b (by simp)) (by omega) ⟨rfl,rfl,rfl,fun _ _=>rfl⟩ (fun x f h X hw e hd hk=> ?_) (fun x y f h X hwa hwb e hd hk=> ?_) (fun x y q f h X hwa hwb e hq hc t4 hgi=> ?_)
  ·subst e;refine(dA (P:=P) (rs:=[]) (R:=ru Hp fx o (mQ p t (a::b::r'))) hd ?_);rw[hla,hw];exact⟨hk,K.same hp fun j hf=>by rw[zqj (K.lt _ hp j hf)],rfl⟩
  ·subst e;refine(dA (P:=P) (rs:=[]) (R:=ru Hp fx o (mQ p t (a::b::r'))) hd ?_);rw[hla,hwa,hwb];exact⟨hk,K.same hp fun j hf=>by rw[zqj (K.lt _ hp j hf)],rfl⟩
  ·obtain⟨t0,t1,hd,hk⟩:=hgi;rw[hla,hwa,hwb];dsimp only;have k1:=k.app X;rw[<-e]at k1;have hp1:Hp h:=by rw[e];exact K.same hp fun j hf=>by rw[zqj (K.lt _ hp j hf)]
   have hq5:h0.length<=q:=hq;simp only[wq.1];refine aj ?_;refine vn ?_;simp only[wq.1,seval,t1];rcases r' with _|⟨i,r2⟩
   ·have e3:(((3:Nat):Int)==4)=false:=rfl;refine vm ?_;simp only[wq.1,↓reduceIte,e3];refine Ru K k1 hp1 hc hn (by simp only[wq.1,seval,t0]) (by simp only[wq.1,seval,t4]) (by simp only[wq.1,hd]) (fun i hi=>by simp only[wq.1,hk i hi])
   ·have hr2:r2=[]:=by simp only[zrt]at hr1;exact List.eq_nil_of_length_eq_zero (by omega)
    subst hr2;have hsi:=hs i (by simp);have hX:=LZ [48,49,50,51] i.t (by decide);obtain⟨v1,v2⟩:=Nw i.t;obtain⟨idx,hidx⟩:∃idx,idx=Lib.index [48,49,50,51] i.t:=⟨_,rfl⟩;rw[<-hidx]at hX v1 v2;have gi:([t,a,b,i].map Tk.v).getD 3 .any=i.v:=rfl;have e4:(((4:Nat):Int)==4)=true:=rfl;refine jY (b:=true) (by simp only[wq.1,↓reduceIte,Nat.reduceAdd]) (by simp only[wq.1,↓reduceIte,Nat.reduceEqDiff,Nat.reduceLT,Nat.reduceLeDiff,Nat.reduceAdd,Nat.reduceSub,Int.reduceToNat,Nat.reduceDiv,Int.reduceLT,Int.reduceLE,Int.reduceNeg,Int.reduceBEq,Int.reduceBNe,Int.reduceAdd,Int.reduceSub,Nat.reduceBEq,reduceCtorEq,Nat.reduceMul,ak,Tryz.results212];exact congrArg V.bool e4) (fun _=> ?_) (fun h=>by cases h);refine vn ?_;simp only[wq.1,↓reduceIte,Nat.reduceEqDiff,Nat.reduceLT,Nat.reduceLeDiff,Nat.reduceAdd,Nat.reduceSub,Int.reduceToNat,Nat.reduceDiv,Int.reduceLT,Int.reduceLE,Int.reduceNeg,Int.reduceBEq,Int.reduceBNe,Int.reduceAdd,Int.reduceSub,Nat.reduceBEq,reduceCtorEq,Nat.reduceMul,ak,Tryz.results212,t1,gi];refine⟨by decide,ag.ev hX rfl ?_⟩;simp only[wq.1,↓reduceIte,Nat.reduceEqDiff,Nat.reduceLT,Nat.reduceLeDiff,Nat.reduceAdd,Nat.reduceSub,Int.reduceToNat,Nat.reduceDiv,Int.reduceLT,Int.reduceLE,Int.reduceNeg,Int.reduceBEq,Int.reduceBNe,Int.reduceAdd,Int.reduceSub,Nat.reduceBEq,reduceCtorEq,Nat.reduceMul,ak,Tryz.results212,bn];refine aj (oD mixed (by decide +kernel) ?_);simp only[nts,List.size_toArray,zrt,List.length_nil,Nat.reduceAdd,Nat.reduceSub,List.take_succ_cons,List.take_zero];cases hge:decide (0<=idx)with
    |true =>
     simp only[wq.1,↓reduceIte,Nat.reduceEqDiff,Nat.reduceLT,Nat.reduceLeDiff,Nat.reduceAdd,Nat.reduceSub,Int.reduceToNat,Nat.reduceDiv,Int.reduceLT,Int.reduceLE,Int.reduceNeg,Int.reduceBEq,Int.reduceBNe,Int.reduceAdd,Int.reduceSub,Nat.reduceBEq,reduceCtorEq,Nat.reduceMul,ak,Tryz.results212,dw,dB,t1,gi,hge,zK];refine⟨by decide,by decide,aS ((i.t.length:Int)==1) i.at' 1 (fun hb=> ?_) (fun hb=> ?_)⟩
     ·rw[hge,hb]at v1;obtain⟨kk,hkk⟩:∃kk,AP i.t=some kk:=Option.isSome_iff_exists.1 v1.symm;have hmin:=v2 kk hkk;have hlt:og p y x [i]= .ok (qg p y x kk):=DT hkk;have lt:∀ {j x},h0[j]? =some x->j≠q:=fun hx=>by have:=(zqe hx).1;omega
      have kq:=k1.other (q:=q) (.cells [.str y,.str x,vi kk]) (Ne.symm (lt k.pp)) (Ne.symm (lt k.i)) (Ne.symm (lt k.u)) (Ne.symm (lt k.l)) (Ne.symm (lt k.g));rw[hlt];simp only[wq.1];refine vm ?_;have hpm:Eh [vi idx,V.int .i64 2]=(True,vi kk):=by
       rw[<-hmin];show(True,V.int .i64 (if 2<idx then 2 else idx))=_;have:(if 2<idx then 2 else idx)=min idx 2:=by split<;>omega
       rw[this]
      have hql:=(zqe hc).1;have hpq:Hp (h.set q (.cells [.str y,.str x,vi kk])):=K.same hp1 fun j hf=>by
       have hjq:q≠j:=fun e=>by have:=K.lt _ hp j hf;omega
       rw[zqn hjq]
      simp only[wq.1,seval,t4,hc,hpm];refine Ru K kq hpq (zqt hql) hn (by simp only[wq.1,seval,t0]) (by simp only[wq.1,seval,t4]) (by simp only[wq.1,hd]) (fun i hi=>by simp only[wq.1,hk i hi])
     ·have hn1:AP i.t=none:=by
       cases hdg:AP i.t with
       |none=>rfl
       |some kk=>rw[hdg,hge,hb]at v1;cases v1
      have hlt:og p y x [i]= .error (i.at',1):=ut hn1;simp only[wq.1,dW];simp only[XE.seq];rw[hlt];exact dA (R:=ru Hp fx o (.error (i.at',1))) (by simp only[wq.1,↓reduceIte,Nat.reduceEqDiff,Nat.reduceLT,Nat.reduceLeDiff,Nat.reduceAdd,Nat.reduceSub,Int.reduceToNat,Nat.reduceDiv,Int.reduceLT,Int.reduceLE,Int.reduceNeg,Int.reduceBEq,Int.reduceBNe,Int.reduceAdd,Int.reduceSub,Nat.reduceBEq,reduceCtorEq,Nat.reduceMul,ak,Tryz.results212,hd]) ⟨fun i hi=>by simp only[wq.1,↓reduceIte,Nat.reduceEqDiff,Nat.reduceLT,Nat.reduceLeDiff,Nat.reduceAdd,Nat.reduceSub,Int.reduceToNat,Nat.reduceDiv,Int.reduceLT,Int.reduceLE,Int.reduceNeg,Int.reduceBEq,Int.reduceBNe,Int.reduceAdd,Int.reduceSub,Nat.reduceBEq,reduceCtorEq,Nat.reduceMul,ak,Tryz.results212,hk i hi],hp1,rfl⟩
    |false =>
     simp only[wq.1,↓reduceIte,Nat.reduceEqDiff,Nat.reduceLT,Nat.reduceLeDiff,Nat.reduceAdd,Nat.reduceSub,Int.reduceToNat,Nat.reduceDiv,Int.reduceLT,Int.reduceLE,Int.reduceNeg,Int.reduceBEq,Int.reduceBNe,Int.reduceAdd,Int.reduceSub,Nat.reduceBEq,reduceCtorEq,Nat.reduceMul,ak,Tryz.results212,dw,dB,t1,gi,hge,zK];refine⟨by decide,aS false i.at' 1 (fun hb=>by cases hb) (fun hb=> ?_)⟩
     ·have hn1:AP i.t=none:=by
       cases hdg:AP i.t with
       |none=>rfl
       |some kk=>rw[hdg,hge,Bool.false_and]at v1;cases v1
      have hlt:og p y x [i]= .error (i.at',1):=ut hn1;simp only[wq.1,dW];simp only[XE.seq];rw[hlt];exact dA (R:=ru Hp fx o (.error (i.at',1))) (by simp only[wq.1,hd]) ⟨fun i hi=>by simp only[wq.1,hk i hi],hp1,rfl⟩
 ·have hb:¬(r.length=2\/r.length=3):=by simp only[zsf,beq_eq_false_iff_ne]at h;omega
  have hla:mQ p t r= .error (t.at',2):=by
   unfold mQ
   match r,hb with
   |[],_=>rfl
   |[a],_=>rfl
   |a::b::r',hb=>exact if_neg (by simp only[zrt]at hb;omega)
  rw[hla];simp only[wq.1,dW];simp only[XE.seq];exact dA (R:=ru Hp fx o (.error (t.at',2))) rfl ⟨fun _ _=>rfl,hp,rfl⟩
end Go.Proofs.YtokppohljajhjaaGreatDoor
