/- Lemmas for this claim, part F14: each holds under what it names. -/
import Derived.Test.YthaijohbpdabfaaGreatDoorNF13
import Derived.Test.YthaijohbpdabfaaGreatDoorNF11
import Derived.Test.YthaijohbpdabfaaGreatDoorNF04
import Derived.Test.YthaijohbpdabfaaGreatDoorNA9
import Derived.Test.YthaijohbpdabfaaGreatDoorNF09
import Derived.Test.YthaijohbpdabfaaGreatDoorNA8
import Derived.Test.YthaijohbpdabfaaGreatDoorNF12
import Derived.Test.YthaijohbpdabfaaGreatDoorNF01
set_option linter.all false
set_option maxRecDepth 100000
set_option maxHeartbeats 16000000
namespace Go.Proofs.YthaijohbpdabfaaGreatDoor
open Go Go.Proofs Go.Abs
def PT:Plan:=tkZ [0,1,4,5]<| .alt 2 (.alt 3 (.one 6<| .one 7<| .take 8<| .take 9<| .fin) (.one 6 (.one 3<| .one 7<| .take 8<| .take 9<| .fin))) (.one 6 (onZ [2,3,7]<| .take 8<| .take 9<| .fin))
theorem awp_late4{e:E}{n:Nat}{r:Option Nat}{ops:Array Oper}{Q:XE->Fr->H->Prop}{h:H}(hm:e.P.follows .mixedOrders=true){id:Nat}{f:Fr}(tk pre:List Nat)(last:Nat)(p:Plan)(R:Fr->H->Prop)(hB:oL e.P ops tk pre last p=true)
 (hv:∀K:Fr->H->Prop,(∀f1 h1,gy e n ops (qy R) p f1 h1->K f1 h1)->oK e n ops (qy R) (fun f h=>bC e n ops h (fun f1=>K f1 h) (xK ops pre) f) tk f h) (hk:∀f h,R f h->Q .normal f h):awp e n r (.region id ops true) Q f h :=
 xN hm tk pre last p R hB (hv (fun f1 h1=>gy e n ops (qy R) p f1 h1) (fun _ _ h=>h)) hk
def VR(l:List S)(s:S):Int:=match l.findIdx? (·==s)with|some i=>(i:Int)|none=>-1
theorem VS(l:List S)(s:S):idx l (·==s)=VR l s:=rfl
theorem KP[MO]{c:Ci}{e:Nat}{l:List Tk}{h:H}(k:PC c e l h)(hl:rJ l)(hcl:c.lat.length<=1000000)(hcg:c.gates.length<=1000000){R:AEnd->H->(Nat->Bool)->Prop}
 (hok:∀c' l' h',zG e c l= .ok (c',l')->PC c' e l' h'->K3 h h'->R (.ret (.tup [])) h' x47) (hbad:∀x h',zG e c l= .error x->K3 h h'->R (.pan (uZ x.1 x.2)) h' x47):ag TE 69 [.lp 3 0] h R:=by
 have hM:=mLx;obtain⟨P1,eP1⟩:∃P1:AEnd->H->(Nat->Bool)->Prop,P1=fun ae h' p=>(∀i,i<h.length->p i=true->x47 i=true)/\R ae h' x47:=⟨_,rfl⟩;have hpan:∀(x:Nat×Int) l' h',zG e c l= .error x->PWc c e h l' h'->P1 (.pan (uZ x.1 x.2)) h' (fun _=>false):=fun x l' h' he hw=>by rw[eP1];exact⟨fun i _ h=>(by cases h),hbad _ _ he (k.of hw).2⟩
 unfold zG at hok hpan;have w0:=k.pw;refine rF ?_;rw[<-eP1];refine aj Tryz.func69 rfl (by simp[nts]) ?_;refine vn ?_;simp only[wq.1,seval,Tryz.results69];refine nJ w0 hl (fun s l1 h1 hn k1=> ?_) (fun x l1 h1 hn k1=> ?_)
 rotate_left
 ·rw[hn]at hpan;simp only[wq.1,fB];simp only[XE.seq];exact bU (R:=P1) rfl (hpan _ _ _ rfl k1)
 rw[hn]at hok hpan;dsimp only at hok hpan;obtain⟨o1,o2⟩:=kU hl hn;simp only[wq.1,seval];refine vn ?_;simp only[wq.1,seval];refine mF k1 o1.1 61 (fun l2 h2 hm k2=> ?_) (fun x l2 h2 hm k2=> ?_)
 rotate_left
 ·rw[hm]at hpan;simp only[wq.1,fB];simp only[XE.seq];exact bU (R:=P1) rfl (hpan _ _ _ rfl k2)
 rw[hm]at hok hpan;dsimp only at hok hpan;obtain⟨q1,q2⟩:=kT o1 hm;simp only[wq.1];refine vn ?_;simp only[wq.1,seval];refine AU k2 q1.1 (fun w l3 h3 hw k3'=> ?_) (fun x l3 h3 hw k3=> ?_)
 rotate_left
 ·rw[hw]at hpan;simp only[wq.1,fB];simp only[XE.seq];exact bU (R:=P1) rfl (hpan _ _ _ rfl k3)
 rw[hw]at hok hpan;dsimp only at hok hpan;obtain⟨r1,r2,r3,r4⟩:=uj q1 hw;obtain⟨B,hB⟩:∃B,B=h3.length:=⟨_,rfl⟩;have hgE:∀x:O,(h3++[x])[B]? =some x:=fun x=>by rw[hB];simp
 have hgS:∀x y:O,(h3++[x]).set B y=h3++[y]:=fun x y=>by rw[hB];simp
 have hB0:h.length<=B:=by rw[hB];exact k3'.lt
 simp only[wq.1,seval,<-hB,hgE,hgS];have k3:=k3'.app [O.cells (tkF w)];have hBw:=hgE (O.cells (tkF w));obtain⟨H3,eH3⟩:∃H3,H3=h3++[O.cells (tkF w)]:=⟨_,rfl⟩;rw[<-eH3]at k3 hBw;rw[show h3++[O.cells [vi w.k,.str w.t,vi w.at']]=H3 from eH3.symm];have hBw:H3[B]? =some (.cells [vi w.k,.str w.t,vi w.at']):=hBw;clear hgE hgS;have hla:=uX bM w.t;have hwo:=uX dL w.t;rw[VS]at hla hwo;refine ai (dW mixed PT (fun f h=>f.t 0= .lp 3 0/\f.t 2= .str s/\f.t 3= .lp B 0/\f.t 4=vi (VR bM w.t)/\f.t 5=vi (VR dL w.t)/\f.d=[]/\f.k=(fun _=>false)/\h=H3) (by rw[TEP];decide +kernel) (by decide +kernel) ?_ ?_)
 ·simp only[wq.1,seval,PT,iQ,gl5,gl6,hBw];have hw3:List.length bM=3/\3<=maxLen/\(List.map V.str bM).all V.one=true:=⟨rfl,by omega,rfl⟩;have hw10:List.length dL=10/\10<=maxLen/\(List.map V.str dL).all V.one=true:=⟨rfl,by omega,rfl⟩;refine⟨hw3,hw10,⟨?_,?_⟩,?_⟩
  ·refine ag.ev hla (by simp only[V.dats,V.dat,ax,zre]) ?_;simp only[wq.1,seval,hBw];refine ag.ev hwo (by simp only[V.dats,V.dat,ax,zre]) ?_;simp only[wq.1,seval]
  ·refine ag.ev hla (by simp only[V.dats,V.dat,ax,zre]) ?_;simp only[wq.1,seval];refine ag.ev hwo (by simp only[V.dats,V.dat,ax,zre]) ?_;simp only[wq.1,seval]
  ·refine ag.ev hla (by simp only[V.dats,V.dat,ax,zre]) ?_;simp only[wq.1,seval];refine ag.ev hwo (by simp only[V.dats,V.dat,ax,zre]) ?_;simp only[wq.1,seval]
 rintro f h' ⟨t0,t2,t3,t4,t5,hd,hk,hH⟩;rw[hH];clear hH h';show awp _ _ _ _ _ _ _
 -- the other words
 obtain⟨opI,eopI⟩:∃opI:Int,opI=match opW w.t with|some k=>(k:Int)|none=>-1:=⟨_,rfl⟩
 have hmo:=MO.more w.t (vi 0);refine ai (aX (Q:=fun xe f h=>xe= .normal/\f.t 0= .lp 3 0/\f.t 2= .str s/\f.t 3= .lp B 0/\f.t 4=vi (VR bM w.t)/\f.t 5=vi opI/\f.d=[]/\f.k=(fun _=>false)/\h=H3) ?_ ?_)
 rotate_left
 ·by_cases hbw:w.t=YC
  ·rw[if_pos (show w.t=[66,85,70]from hbw)]at hmo;have ho:opI=2:=by rw[eopI];unfold opW;rw[if_pos hbw];rfl
   rw[ho];refine vn ?_;simp only[wq.1,seval,t3,hBw,iQ,gl2,hmo];refine vm ?_;simp only[wq.1,seval,t0,t2,t3,t4,hd,hk]
  ·rw[if_neg (show ¬w.t=[66,85,70]from hbw)]at hmo;have ho:opI=VR dL w.t:=by rw[eopI];unfold opW;rw[if_neg hbw];rfl
   rw[ho];refine vn ?_;simp only[wq.1,seval,t3,hBw,iQ,gl2,hmo];refine vm ?_;simp only[wq.1,seval,t0,t2,t3,t4,t5,hd,hk]
 clear t0 t2 t3 t4 t5 hd hk hmo f;rintro xe f h' ⟨rfl,t0,t2,t3,t4,t5,hd,hk,hH⟩;rw[hH];clear hH h';show awp _ _ _ _ _ _ _;have hlatI:VR bM w.t=match bM.findIdx? (·==w.t)with|some i=>(i:Int)|none=>-1:=rfl
 obtain⟨latI,elat⟩:∃latI,latI=VR bM w.t:=⟨_,rfl⟩;rw[<-elat]at t4 hlatI;cases hlt:bM.findIdx? (·==w.t)with
 |none =>
  rw[hlt]at hlatI;have hlatI:latI=-1:=hlatI;rw[hlatI]at t4;cases hopw:opW w.t with
  |none =>
   rw[hopw]at eopI;have eopI:opI=-1:=eopI;rw[eopI]at t5;rw[hlt,hopw]at hpan;refine vn ?_;simp only[wq.1,seval,t3,t4,t5,hBw];refine fK _ _ _ (fun hb=>by cases hb) (fun _=> ?_);simp only[wq.1,Int.reduceNeg,fB,hd];simp only[XE.seq];refine bU (R:=P1) (by simp only[wq.1,Int.reduceNeg,hd]) ?_;have hkf:(((((((((f.put (some 32) (vi (-1))).put (some 33) (V.bool false)).put (some 34) (V.bool false)).put (some 35) (vi (-1))).put (some 36) (V.bool false)).put (some 37) (V.bool false)).put (some 38) (V.lp B 2)).put (some 39) (vi ↑w.at')).drop fun x=>false).k=fun _=>false:=by simp only[wq.1,Int.reduceNeg,hk]
   rw[hkf];exact hpan _ _ _ rfl k3
  |some op =>
   rw[hopw]at eopI;have eopI:opI=(op:Int):=eopI;rw[eopI]at t5;rw[hlt,hopw]at hpan hok;dsimp only at hpan hok;have hge:decide ((0:Int)<=(op:Int))=true:=by simp
   refine vn ?_;simp only[wq.1,seval,t3,t4,t5,hBw,hge];refine fK _ _ _ (fun _=> ?_) (fun hb=>by cases hb);simp only[wq.1,Int.reduceNeg];refine vn ?_;simp only[wq.1,seval,t0];refine vU k3 r1 (fun ns l4 h4 hnm k4=> ?_) (fun x l4 h4 hnm k4=> ?_)
   rotate_left
   ·rw[hnm]at hpan;simp only[wq.1,Int.reduceNeg,fB,hd];simp only[XE.seq];refine bU (R:=P1) (by simp only[wq.1,Int.reduceNeg,hd]) ?_;refine Eq.mp (congrArg (P1 _ _) ?_) (hpan _ _ _ rfl k4);simp only[wq.1,Int.reduceNeg,hk]
   rw[hnm]at hok;dsimp only at hok;obtain⟨kc,kk⟩:=k.of k4;simp only[wq.1,seval];refine fM (fun f=>f.t 0= .lp 3 0/\f.t 2= .str s/\f.t 4=vi (-1)/\f.t 5=vi op/\f.t 8=aN ns/\f.d=[]/\f.k=(fun _=>false)) ⟨by simp only[wq.1,seval,t0],by simp only[wq.1,seval,t2],by simp only[wq.1,seval,t4],by simp only[wq.1,seval,t5],by simp only[wq.1,seval],by simp only[wq.1,Int.reduceNeg,hd],by simp only[wq.1,Int.reduceNeg,hk]⟩ ?_;clear t0 t2 t3 t4 t5 hd hk f;rintro f ⟨t0,t2,t4,t5,t8,hd,hk⟩;obtain⟨g,eg⟩:∃g:Ga,g=aZ ⟨s,(op:Nat),ns,[],false⟩:=⟨_,rfl⟩;have hcan:=Ev.le (bW.cons (Dh ⟨s,(op:Nat),ns,[],false⟩ (VLe.refl _) dJ) bW.nil) (IW ⟨s,(op:Nat),ns,[],false⟩);rw[<-eg]at hcan;have hok:∀h',PC {c with gates:=c.gates++[g]} e l4 h'->K3 h h'->R (.ret (.tup [])) h' x47:=fun h' a b=>by
    rw[eg]at a;exact hok _ _ h' rfl a b
   have kp:=kc.p;have kg:=kc.g;have kn:=kc.addGa g;have hgl:=Pq c.gates;refine ai ?_;refine vn ?_;simp only[wq.1,seval,t4];refine bF (b:=true) (by simp only[wq.1,seval];try rfl) (by simp only[wq.1,seval];try trivial) (fun _=> ?_) (fun h=>by cases h);refine ai (xN mixed [0] [1,2,3,4,5,6,7,8,9,10,11] 12 (.one 12<| .take 13<| .take 14<| .take 15<| .one 16<| .fin) (fun f' h'=>f'.d=[]/\(f'.k=fun i=>i==7)/\h'=(((h4.map (O.drop fun j=>j==7)).set 7 (.cells (c.gates.flatMap gaX++gaX g))).set 3 (p4 c l4 e c.ins.length c.outs.length c.lat.length (c.gates.length+1)))) (by rw[TEP];decide +kernel) ?_ ?_)
   ·simp only[wq.1,↓reduceIte,Nat.reduceEqDiff,Nat.reduceLT,Nat.reduceLeDiff,Nat.reduceAdd,Int.reduceNeg,reduceCtorEq,Nat.reduceMul,oK,xK,bC,bI,List.filterMap_cons,List.filterMap_nil,t0,t2,t5,t8,kp];refine uw.mk hcan rfl (by simp only[V.dats,V.dat,ax,zre]) ?_;have s3:∀X:O,((h4.map (O.drop fun x=>x==7)).set 7 X)[3]? =some (.cells [.ls 4 1 0 c.ins.length c.ins.length,.ls 5 1 0 c.outs.length c.outs.length,.ls 6 3 0 c.lat.length c.lat.length,.any,qZ l4,vi e]):=fun X=>by
     rw[zqn (by decide),zqo,kp];rfl
    simp only[wq.1,↓reduceIte,Nat.reduceEqDiff,Nat.reduceLeDiff,Nat.reduceAdd,Int.reduceNeg,Nat.reduceBEq,hd,kg,hgl,jK,s3];refine⟨⟨rfl,by decide⟩,rfl,⟨rfl,by omega,by omega⟩,?_,rfl⟩
    funext i
    rw[hk];show(false||i==7)=(i==7);exact Bool.false_or _
   ·rintro f' h' ⟨hd,hk,rfl⟩;show awp _ _ _ _ _ _ _;refine vm ?_;simp only[wq.1,hd,hk];rw[eP1];refine⟨fun i _ hi=> ?_,hok _ kn (kk.add 7 (by decide) _ _)⟩;have:i=7:=by simpa using hi
    subst this;rfl
 |some lat =>
  rw[hlt]at hlatI;have hlatI:latI=(lat:Int):=hlatI;rw[hlatI]at t4;rw[hlt]at hpan hok;dsimp only at hpan hok;have hge:decide ((0:Int)<=(lat:Int))=true:=by simp
  have hlt0:decide ((lat:Int)<0)=false:=by simp
  refine vn ?_;simp only[wq.1,seval,t3,t4,t5,hBw,hge];refine fK _ _ _ (fun _=> ?_) (fun hb=>by cases hb);simp only[wq.1];refine vn ?_;simp only[wq.1,seval,t0];refine vU k3.self r1 (fun ns l4 h4 hnm k4'=> ?_) (fun x l4 h4 hnm k4'=> ?_)
  rotate_left
  ·have k4:=k3.trans k4';rw[hnm]at hpan;simp only[wq.1,fB,hd];simp only[XE.seq];refine bU (R:=P1) (by simp only[wq.1,hd]) ?_;refine Eq.mp (congrArg (P1 _ _) ?_) (hpan _ _ _ rfl k4);simp only[wq.1,hk]
  rw[hnm]at hok hpan;dsimp only at hok hpan;have hB3:B<H3.length:=(zqe hBw).1;have k4:=k3.trans k4';have l7:=(zqe k.g).1;have hB4:h4[B]? =some (.cells [vi w.k,.str w.t,vi w.at']):=k4'.k B _ hB3 (by omega) hBw rfl;obtain⟨n1,n2,n3⟩:=yV r1 hnm;have e1:(((ns.length:Nat):Int)==1)=decide (ns.length=1):=by rw[Bool.eq_iff_iff,beq_iff_eq,zqb];omega
  simp only[wq.1,seval];refine ai ?_;refine vn ?_;simp only[wq.1,seval,t4,hlt0];refine bF (b:=false) (by simp only[wq.1,↓reduceIte];try rfl) (by simp only[wq.1,↓reduceIte];try trivial) (fun h=>by cases h) (fun _=> ?_);refine vm ?_;simp only[wq.1];show awp _ _ _ _ _ _ _;refine vn ?_;simp only[wq.1,seval,t3,hB4,e1];refine fK _ _ _ (fun hb=> ?_) (fun hb=> ?_)
  rotate_left
  ·have hb:¬ns.length=1:=of_decide_eq_false hb;rw[if_neg hb]at hpan;simp only[wq.1,fB,hd];simp only[XE.seq];refine bU (R:=P1) (by simp only[wq.1,hd]) ?_;refine Eq.mp (congrArg (P1 _ _) ?_) (hpan _ _ _ rfl k4);simp only[wq.1,hk]
  have hb:ns.length=1:=zqs hb;rw[if_pos hb]at hok;obtain⟨kc,kk⟩:=k.of k4;simp only[wq.1];refine fM (fun f=>f.t 0= .lp 3 0/\f.t 2= .str s/\f.t 4=vi lat/\f.t 8=aN ns/\f.d=[]/\f.k=(fun _=>false)) ⟨by simp only[wq.1,seval,t0],by simp only[wq.1,seval,t2],by simp only[wq.1,seval,t4],by simp only[wq.1,seval],by simp only[wq.1,hd],by simp only[wq.1,hk]⟩ ?_;clear t0 t2 t3 t4 t5 hd hk f;rintro f ⟨t0,t2,t4,t8,hd,hk⟩;obtain⟨x,rfl⟩:∃x,ns=[x]:=by
   match ns,hb with
   |[x],_=>exact⟨x,rfl⟩
  obtain⟨q,eq⟩:∃q:La,q=⟨s,x,(lat:Nat)⟩:=⟨_,rfl⟩;have hok:∀h',PC {c with lat:=c.lat++[q]} e l4 h'->K3 h h'->R (.ret (.tup [])) h' x47:=fun h' a b=>by rw[eq]at a;exact hok _ _ h' rfl a b
  have kp:=kc.p;have kg:=kc.a;have kn:=kc.addLa q;have hgl:=SV c.lat;have g0:([x].map V.str).getD 0 .any= .str x:=rfl;refine awp_late4 mixed [0] [1,2,3,4,5,6,7,8,9,10,11,12] 13 (.one 13<| .take 14<| .take 15<| .take 16<| .one 17<| .fin) (fun f' h'=>f'.d=[]/\(f'.k=fun i=>i==6)/\h'=(((h4.map (O.drop fun j=>j==6)).set 6 (.cells (c.lat.flatMap laX++laX q))).set 3 (p4 c l4 e c.ins.length c.outs.length (c.lat.length+1) c.gates.length))) (by rw[TEP];decide +kernel) ?_ ?_
  ·have s3:∀X:O,((h4.map (O.drop fun x=>x==6)).set 6 X)[3]? =some (.cells [.ls 4 1 0 c.ins.length c.ins.length,.ls 5 1 0 c.outs.length c.outs.length,.any,.ls 7 5 0 c.gates.length c.gates.length,qZ l4,vi e]):=fun X=>by rw[zqn (by decide),zqo,kp];rfl
   intro K hK;simp only[wq.1,↓reduceIte,Nat.reduceEqDiff,Nat.reduceLT,Nat.reduceLeDiff,Nat.reduceAdd,Nat.reduceSub,Int.reduceToNat,Nat.reduceDiv,Int.reduceLT,Int.reduceLE,Int.reduceNeg,Int.reduceBEq,Int.reduceBNe,Int.reduceAdd,Int.reduceSub,Nat.reduceBEq,reduceCtorEq,Nat.reduceMul,au,Tryz.results69,oK,xK,List.filterMap_cons,List.filterMap_nil,bC,bI,t0,t2,t4,t8,hd,kp,g0];refine⟨by decide,⟨rfl,by decide⟩,hK _ _ ?_⟩;simp only[wq.1,↓reduceIte,Nat.reduceEqDiff,Nat.reduceLT,Nat.reduceLeDiff,Nat.reduceAdd,Nat.reduceBEq,hd,kg,hgl,AV,s3];refine⟨rfl,⟨rfl,by omega,by omega⟩,?_,by rw[eq];rfl⟩
   funext i
   rw[hk];show(false||i==6)=(i==6);exact Bool.false_or _
  ·rintro f' h' ⟨hd,hk,rfl⟩;show zO P [] P1 XE.normal f' _;simp only[wq.1,hd,hk];rw[eP1];refine⟨fun i _ hi=> ?_,hok _ kn (kk.add 6 (by decide) _ _)⟩;have:i=6:=by simpa using hi
   subst this;rfl
theorem PC.app{c:Ci}{e:Nat}{l:List Tk}{h:H}(k:PC c e l h)(X:H):PC c e l (h++X):=by
 have old:∀ {j:Nat} {y:O},h[j]? =some y->(h++X)[j]? =some y:=fun hy=>by rw[zqj (zqe hy).1];exact hy
 exact⟨old k.p,old k.i,old k.u,old k.a,old k.g⟩
theorem K3.app(h X:H):K3 h (h++X):=fun j cs hj hc _=>by rw[zqj (zqe hc).1];exact hc
def ciB(c:Ci)(n:Nat):Prop:=c.ins.length+c.outs.length+c.lat.length+c.gates.length<=n
def yY(r:List Tk):Bool:=(o7 61 r).1
theorem KQ[MO]{c:Ci}{e:Nat}{t:Tk}{r:List Tk}{h:H}(k:PC c e (t::r) h)(hl:rJ (t::r))(hc:ciB c 1000000){R:AEnd->H->(Nat->Bool)->Prop}
 (hok:∀c' l' h',Ht e c (t::r)= .ok (c',l')->PC c' e l' h'->K3 h h'->R (.ret (.tup [])) h' x47) (hbad:∀x h',Ht e c (t::r)= .error x->K3 h h'->R (.pan (uZ x.1 x.2)) h' x47):ag TE 30 [.lp 3 0] h R:=by
 have hM:=mLx;unfold ciB at hc;obtain⟨B,hB⟩:∃B,B=h.length:=⟨_,rfl⟩;have hgE:∀x:O,(h++[x])[B]? =some x:=fun x=>by rw[hB];simp
 have hgS:∀x y:O,(h++[x]).set B y=h++[y]:=fun x y=>by rw[hB];simp
 have hk0:∀x:O,(h++[x])[3]? =some (.cells [.ls 4 1 0 c.ins.length c.ins.length,.ls 5 1 0 c.outs.length c.outs.length,.ls 6 3 0 c.lat.length c.lat.length,.ls 7 5 0 c.gates.length c.gates.length,qZ (t::r),vi e]):=fun x=>(k.app [x]).p;have kp:=k.p;have g0:((t::r).map Tk.v).getD 0 .any=t.v:=rfl;have e0:((t.k:Int)==0)=decide (t.k=0):=by rw[Bool.eq_iff_iff,beq_iff_eq,zqb];omega
 refine rF ?_;obtain⟨P1,eP1⟩:∃P1:AEnd->H->(Nat->Bool)->Prop,P1=fun ae h' p=>(∀i,i<h.length->p i=true->x47 i=true)/\R ae h' x47:=⟨_,rfl⟩;rw[<-eP1];refine aj Tryz.func30 rfl (by simp[nts]) ?_;refine vn ?_;simp only[wq.1,seval,Tryz.results30,<-hB,kp,hgE,hgS];refine⟨by omega,?_⟩;have k1:=k.app [O.cells [vi t.k,.str t.t,vi t.at']];have hB1:=hgE (O.cells [vi t.k,.str t.t,vi t.at']);have kk1:=K3.app h [O.cells [vi t.k,.str t.t,vi t.at']];obtain⟨h1,eh1⟩:∃h1,h1=h++[O.cells [vi t.k,.str t.t,vi t.at']]:=⟨_,rfl⟩;rw[<-eh1]at k1 hB1 kk1 ⊢;have kp1:=k1.p;refine ai (aX (Q:=fun xe f h=>xe= .normal/\f.t 0= .lp 3 0/\f.t 2= .lp B 0/\f.t 3= .bool (yY r)/\f.d=[]/\f.k=(fun _=>false)/\h=h1) ?_ ?_)
 rotate_left
 ·cases r with
  |nil=>have hl0:decide ((1:Int)<((1:Nat):Int))=false:=rfl;have hn:yY []=false:=rfl;rw[hn];refine vm ?_;have gn:([]:List V).getD 0 V.any= .any:=rfl;have na:V.any.nil? =none:=rfl;simp only[wq.1,seval,kp1,hl0,gn,na]
  |cons u r =>
   have e1:((u.k:Int)==1)=(u.k==1):=by rw[Bool.eq_iff_iff,beq_iff_eq,beq_iff_eq];omega
   have g1:((t::u::r).map Tk.v).getD 1 .any=u.v:=rfl;have hn:yY (u::r)=(u.k==1&&u.t==[61]):=by
    cases hb:isM 61 u with
    |true=>rw[show yY (u::r)=(o7 61 (u::r)).1 from rfl,show o7 61 (u::r)=(true,r)from if_pos hb];exact hb.symm
    |false=>rw[show yY (u::r)=(o7 61 (u::r)).1 from rfl,show o7 61 (u::r)=(false,u::r)from if_neg (by rw[hb];decide)];exact hb.symm
   rw[hn];have hlt:decide ((1:Int)<((r.length+1+1:Nat):Int))=true:=by rw[zqb];omega
   have hlt2:decide ((1:Int)<((r.length+2:Nat):Int))=true:=hlt;cases hk1:(u.k==1)with
   |false=>refine vm ?_;simp only[wq.1,seval,kp1,e1,hk1,hlt];omega
   |true=>refine vm ?_;simp only[wq.1,seval,kp1,e1,hk1,hlt];omega
 rintro xe f h' ⟨rfl,t0,t2,t3,hd,hk,hH⟩;rw[hH];clear hH h';show awp _ _ _ _ _ _ _;have hbi:∀w:S,decide (t.t=w)=(t.t==w):=fun w=>by rw[Bool.eq_iff_iff,zqb,beq_iff_eq]
 have hst:=pq e c t r;have hB0:=hB1
 -- a gate
 obtain⟨b,hb⟩:∃b,b=(decide (t.k=0)&&(t.t==iK||t.t==dZ)&& !yY r):=⟨_,rfl⟩;refine ai ?_;refine ai (aX (Q:=fun xe f h=>xe= .normal/\f.t 0= .lp 3 0/\f.t 2= .lp B 0/\f.t 52= .bool b/\f.d=[]/\f.k=(fun _=>false)/\h=h1) ?_ ?_)
 rotate_left
 ·cases hk0:decide (t.k=0)with
  |false=>rw[hk0]at hb;have hb:b=false:=hb;subst hb;refine vm ?_;simp only[wq.1,seval,t0,t2,t3,hd,hk,hB1,e0,hk0]
  |true=>rw[hk0]at hb;obtain⟨bi,ebi⟩:∃bi,bi=(t.t==iK):=⟨_,rfl⟩;obtain⟨bo,ebo⟩:∃bo,bo=(t.t==dZ):=⟨_,rfl⟩;obtain⟨nm,enm⟩:∃nm,nm=yY r:=⟨_,rfl⟩;rw[<-ebi,<-ebo,<-enm]at hb;rw[<-enm]at t3;have ebi':(t.t==[73,78,80,85,84])=bi:=ebi.symm;have ebo':(t.t==[79,85,84,80,85,84])=bo:=ebo.symm;clear ebi ebo enm hbi hst;cases bi<;>cases bo<;>cases nm<;>(subst hb;refine fM (fun f'=>f'=f) rfl ?_;rintro _ rfl)<;>(refine vm ?_)<;>simp only[wq.1,seval,t0,t2,t3,hd,hk,hB1,e0,hk0,ebi',ebo']
 rintro xe f' h' ⟨rfl,t0,t2,t52,hd,hk,hH⟩;rw[hH];clear hH h';have hbd:b=true↔(t.k=0/\(t.t=iK\/t.t=dZ)/\(o7 61 r).1=false):=by
  rw[hb];show(decide (t.k=0)&&(t.t==iK||t.t==dZ)&& !(o7 61 r).1)=true↔_;simp only[zqf,Bool.or_eq_true,zqb,beq_iff_eq,Bool.not_eq_true',and_assoc]
 refine bF (b:=b) (by simp only[wq.1,t52]) (by simp only[wq.1,t52]) (fun hbt=> ?_) (fun hbf=> ?_)
 ·have hbb:=hbd.1 hbt;rw[if_pos hbb]at hst;rw[hst]at hok hbad;have hw:(t.t==iK)= !(t.t==dZ):=by rcases hbb.2.1 with h1|h1<;>rw[h1]<;>decide
  refine vn ?_;simp only[wq.1,seval,t0,t2,hB1];refine KO k1 hl (by omega) (by omega) t.t (t.t==dZ) hw (fun c' l' h' hp k' kk'=> ?_) (fun x h' hp kk'=> ?_)
  ·simp only[wq.1,bu,hd];refine vm ?_;simp only[wq.1,hd,hk];rw[eP1];exact⟨fun i _ hi=>hi,hok _ _ _ hp k' (kk1.trans kk')⟩
  ·simp only[wq.1,fB,hd];simp only[XE.seq];refine bU (R:=P1) (by simp only[wq.1,hd]) ?_;rw[eP1];refine⟨fun i _ hi=> ?_,hbad _ _ hp (kk1.trans kk')⟩;have hi:(f'.k i||x47 i)=true:=hi;rw[hk]at hi;exact hi
 ·have hbb:¬(t.k=0/\(t.t=iK\/t.t=dZ)/\(o7 61 r).1=false):=fun h=>by rw[hbd.2 h]at hbf;cases hbf
  rw[if_neg hbb]at hst;rw[hst]at hok hbad;refine vm ?_;simp only[wq.1];show awp _ _ _ _ _ _ _;refine vm ?_;simp only[wq.1,seval,t0];refine KP k1 hl (by omega) (by omega) (fun c' l' h' hp k' kk'=> ?_) (fun x h' hp kk'=> ?_)
  ·simp only[wq.1,bu,hd];rw[eP1];refine⟨fun i _ hi=> ?_,hok _ _ _ hp k' (kk1.trans kk')⟩;have hi:(f'.k i||x47 i)=true:=hi;rw[hk]at hi;exact hi
  ·simp only[wq.1,fB,hd];rw[eP1];refine⟨fun i _ hi=> ?_,hbad _ _ hp (kk1.trans kk')⟩;have hi:(f'.k i||x47 i)=true:=hi;rw[hk]at hi;exact hi
theorem FX[MO]{h:H}{K:H->(Nat->Bool)->Prop}(hK:∀X,K (h++[X]) (fun _=>false)):jv TE 26 [.lp 0 0,.lp 1 0,.lp 2 0] h K:=by
 have hgE:∀x:O,(h++[x])[h.length]? =some x:=fun x=>by simp
 have hgS:∀x y:O,(h++[x]).set h.length y=h++[y]:=fun x y=>by simp
 refine lw rfl Tryz.func26 rfl rfl (by simp[nts]) rfl (fun ev w=>rfl) rfl (by decide) ?_;simp only[nts];refine eX rfl rfl ?_;refine jW (x:= .tmp 6) (t:=58) (q:=⟨.struct [(0,3),(1,28)],2,16,.agg [vi 0,vi 0]⟩) rfl (by simp only[wq.1]) (by simp only[wq.1,↓reduceIte]) (by simp only[wq.1,↓reduceIte]) ?_;refine az rfl rfl ?_;simp only[wq.1,↓reduceIte];refine az rfl rfl ?_;simp only[wq.1,seval];refine az rfl rfl ?_;simp only[wq.1,seval];refine az rfl rfl ?_;simp only[wq.1];refine az rfl rfl ?_;simp only[wq.1,seval,hgE,hgS];refine az rfl rfl ?_;simp only[wq.1,seval];refine dX ?_;show awp _ _ _ _ _ _ _;refine vm ?_;simp only[wq.1,seval];exact hK _
theorem FY[MO]{s:S}{h:H}{d1 d2 d3 d4 d5 d6 d7:V}{K:H->(Nat->Bool)->Prop}(a:Nat)(e:Int)(hs:s.length<=1000000000)(g0:h[0]? =some (.cells [.str s]))(g1:h[1]? =some (.cells [d1,d2,d3,d4]))(g2:h[2]? =some (.cells [d5,d6,d7]))
 (hK:∀X,K ((h.set 1 (.cells [.nils,.nils,.nils,.nils])).set 2 (.cells (kF s a e).vc)++[X]) (fun _=>false)) :
 jr TE 26 [.lp 0 0,.lp 1 0,.lp 2 0] (uZ a e) h K:=by
 have hgE:∀x:O,(h++[x])[h.length]? =some x:=fun x=>by simp
 have hgS:∀x y:O,(h++[x]).set h.length y=h++[y]:=fun x y=>by simp
 have l0:=(zqe g0).1;have l1:=(zqe g1).1;have l2:=(zqe g2).1;have k0:∀x:O,(h++[x])[0]? =some (.cells [.str s]):=fun x=>by rw[zqj l0];exact g0
 have k1:∀x:O,(h++[x])[1]? =some (.cells [d1,d2,d3,d4]):=fun x=>by rw[zqj l1];exact g1
 have k2:∀x y:O,((h++[x]).set 1 y)[2]? =some (.cells [d5,d6,d7]):=fun x y=>by rw[zqn (by decide),zqj l2];exact g2
 have hss:∀x y z:O,((h++[x]).set 1 y).set 2 z=(h.set 1 y).set 2 z++[x]:=fun x y z=>by rw[List.set_append_left _ _ l1,List.set_append_left _ _ (by rw[zrn];exact l2)]
 refine lh rfl Tryz.func26 rfl rfl (by simp[nts]) rfl (fun ev w=>rfl) rfl (by decide) ?_;simp only[nts];refine az rfl rfl ?_;simp only[wq.1,↓reduceIte];refine⟨by decide,?_⟩;refine az rfl rfl ?_;simp only[wq.1,↓reduceIte];refine az rfl rfl ?_;simp only[wq.1,seval];refine az rfl rfl ?_;simp only[wq.1,seval];refine az rfl rfl ?_;simp only[wq.1];refine az rfl rfl ?_;simp only[wq.1,seval,hgE,hgS];refine az rfl rfl ?_;simp only[wq.1,seval];refine dX ?_;show awp _ _ _ _ _ _ _;have hf:∃x y z,kF s a e= .agg [vi x,vi y,vi z]:=by unfold kF;split<;>exact⟨_,_,_,rfl⟩
 obtain⟨x,y,z,hf⟩:=hf;rw[hf]at hK;have hsf:=SY s a e hs;rw[hf]at hsf;refine vn ?_;simp only[wq.1,seval];refine vm ?_;simp only[wq.1,seval,hgE,k0];refine ag.ev hsf rfl ?_;simp only[wq.1,seval,k1,k2,hss];exact hK _
theorem S9{e:Nat}{c c':Ci}{out:Bool}{l l':List Tk}{n:Nat}(h:rJ l)(hc:ciB c n)(hm:zH e c out l= .ok (c',l')):rJ l'/\l'.length<=l.length/\ciB c' (n+1):=by
 unfold zH at hm;cases h1:o8 e 40 l with
 |error x=>rw[h1]at hm;cases hm
 |ok l1 =>
  rw[h1]at hm;dsimp only at hm;obtain⟨a1,a2⟩:=kT h h1;cases h2:rC e l1 with
  |error x=>rw[h2]at hm;cases hm
  |ok p =>
   obtain⟨s,l2⟩:=p;rw[h2]at hm;dsimp only at hm;obtain⟨b1,b2⟩:=kU a1 h2;cases h3:o8 e 41 l2 with
   |error x=>rw[h3]at hm;cases hm
   |ok l3=>rw[h3]at hm;dsimp only at hm;obtain⟨d1,d2⟩:=kT b1 h3;injection hm with hm;injection hm with e1 e2;subst e2;refine⟨d1,by omega,?_⟩;rw[<-e1];unfold ciB at hc ⊢;split<;>simp only[zqa,zrk]<;>omega
theorem Tc{e:Nat}{c c':Ci}{l l':List Tk}{n:Nat}(h:rJ l)(hc:ciB c n)(hm:zG e c l= .ok (c',l')):rJ l'/\l'.length<l.length/\ciB c' (n+1):=by
 unfold zG at hm;cases h1:rC e l with
 |error x=>rw[h1]at hm;cases hm
 |ok p =>
  obtain⟨s,l1⟩:=p;rw[h1]at hm;dsimp only at hm;obtain⟨a1,a2⟩:=kU h h1;cases h2:o8 e 61 l1 with
  |error x=>rw[h2]at hm;cases hm
  |ok l2 =>
   rw[h2]at hm;dsimp only at hm;obtain⟨b1,b2⟩:=kT a1 h2;cases h3:wE e l2 with
   |error x=>rw[h3]at hm;cases hm
   |ok p =>
    obtain⟨w,l3⟩:=p;rw[h3]at hm;dsimp only at hm;obtain⟨d1,d2,_,_⟩:=uj b1 h3;unfold ciB at hc ⊢;cases h4:bM.findIdx? (·==w.t)with
    |none =>
     cases h5:opW w.t with
     |none=>rw[h4,h5]at hm;cases hm
     |some op =>
      rw[h4,h5]at hm;dsimp only at hm;cases h6:nV e l3 with
      |error x=>rw[h6]at hm;cases hm
      |ok p=>obtain⟨ns,l4⟩:=p;rw[h6]at hm;dsimp only at hm;obtain⟨f1,f2,_⟩:=yV d1 h6;injection hm with hm;injection hm with e1 e2;subst e2;refine⟨f1,by omega,?_⟩;rw[<-e1];simp only[zqa,zrk];omega
    |some k =>
     rw[h4]at hm;dsimp only at hm;cases h6:nV e l3 with
     |error x=>rw[h6]at hm;cases hm
     |ok p =>
      obtain⟨ns,l4⟩:=p;rw[h6]at hm;dsimp only at hm;obtain⟨f1,f2,_⟩:=yV d1 h6;split at hm
      ·injection hm with hm;injection hm with e1 e2;subst e2;refine⟨f1,by omega,?_⟩;rw[<-e1];simp only[zqa,zrk];omega
      ·cases hm
theorem Td{e:Nat}{c c':Ci}{t:Tk}{r l':List Tk}{n:Nat}(h:rJ (t::r))(hc:ciB c n)(hm:Ht e c (t::r)= .ok (c',l')):rJ l'/\l'.length<(t::r).length/\ciB c' (n+1):=by
 rw[pq]at hm;split at hm
 ·obtain⟨a,b,d⟩:=S9 h.tail hc hm;exact⟨a,by simp only[zrt];omega,d⟩
 ·exact Tc h hc hm
theorem Uj:∀(n p:Nat)(s:S),∀t∈(tkN n p s).1,t.t.length<=s.length
 |0,p,s,t,h=>by simp[tkN]at h
 |n+1,p,[],t,h=>by simp[tkN]at h
 |n+1,p,c::r,t,h=>by
  have hdw:∀q:UInt8->Bool,((c::r).dropWhile q).length<=(c::r).length:=fun q=>(List.dropWhile_sublist _).length_le;have ih:=fun p s=>Uj n p s t;rw[tkN]at h;split at h
  ·exact Nat.le_trans (ih _ _ h) (hdw _)
  ·split at h
   ·exact Nat.le_trans (ih _ _ h) (by simp)
   ·split at h
    ·rcases zrj.1 h with rfl|h
     ·simp
     ·exact Nat.le_trans (ih _ _ h) (by simp)
    ·split at h
     ·rcases zrj.1 h with rfl|h
      ·exact(List.takeWhile_sublist _).length_le
      ·exact Nat.le_trans (ih _ _ h) (hdw _)
     ·simp at h
theorem KR{e F:Nat}{c:Ci}{t:Tk}{r:List Tk}:tY e (F+1) c (t::r)=match Ht e c (t::r)with
 | .error x=> .error x
 | .ok (c',l')=>tY e F c' l':=rfl
theorem KT{f:List Tk->S->Nat}{s:S}{L:List Tk}{a:Nat}(h:tkN s.length 0 s=(L,some a)):nY f s= .error (a,2):=by unfold nY;rw[h]
theorem H9{f:List Tk->S->Nat}{s:S}{L:List Tk}(h:tkN s.length 0 s=(L,none)):nY f s=match tY s.length L.length ⟨[],[],[],[]⟩ L with
 | .error x=> .error x
 | .ok c=>if(sV c).1=0 then .ok c else .error (if(sV c).2=[]then 0 else f L (sV c).2,(sV c).1):=by unfold nY;rw[h];rfl
def nK(s:S):V:=match nY nZ s with
 | .ok c=> .tup [c.v,.agg [vi 0,vi 0,vi 0]]
 | .error x=> .tup [(⟨[],[],[],[]⟩:Ci).v,kF s x.1 x.2]
abbrev ciN:O:= .cells [.nils,.nils,.nils,.nils]
abbrev faN:O:= .cells [vi 0,vi 0,vi 0]
structure H3(s:S)(h:H):Prop where
 a:h[0]? =some (.cells [.str s])
 b:h[1]? =some ciN
 c:h[2]? =some faN
theorem H3.k{s:S}{h h':H}(k:H3 s h)(hk:K3 h h'):H3 s h':=⟨hk 0 _ (by decide) k.a rfl,hk 1 _ (by decide) k.b rfl,hk 2 _ (by decide) k.c rfl⟩
theorem Uk{j:Nat}(hj:j<4):x47 j=false:=by
 have:j=0\/j=1\/j=2\/j=3:=by omega
 rcases this with rfl|rfl|rfl|rfl<;>rfl
theorem ul[MO](s:S)(hs:s.length<=900000):Ev TE 9 [.str s] (nK s):=by
 have hM:=mLx;refine jS ?_;refine lq rfl Tryz.func9 rfl (by simp[nts]) fun ok pl0 w0=> ?_;simp only[nts];refine BJ (Q:=fun _ _ _=>False) ?_ (fun _ _ _ h=>by obtain⟨_,_,_,_,_,_,h⟩:=h;exact h.elim);refine vm ?_;simp only[wq.1,seval];refine qV rfl (fn:=Tryz.f9) (q:=26) (caps:=[.lp 0 0,.lp 1 0,.lp 2 0]) (fx:= .tmp 9) rfl rfl (by simp only[wq.1,seval]) rfl rfl rfl rfl (by simp only[wq.1,seval]) (by simp only[wq.1,seval]) (by simp only[wq.1]) rfl fun dd=> ?_;simp only[nts];obtain⟨ee,hee⟩:∃ee:E,ee={TE with tl:=[dd]}:=⟨_,rfl⟩;have hP:ee.P=P:=by rw[hee];rfl
 have hmix:ee.P.follows .mixedOrders=true:=by rw[hP];exact mixed
 have hT:∀ {g:FuncId} {args:List V} {h:H} {R:AEnd->H->(Nat->Bool)->Prop},ag TE g args h R->ag ee g args h R:=fun hc=>by rw[hee];exact hc.tl _
 rw[<-hee];obtain⟨QP,eQP⟩:∃QP:XE->Fr->H->Prop,QP=fun xe f' h'=>f'.d=[]/\V.drops f'.k [V.lp 0 0,V.lp 1 0,V.lp 2 0]=[V.lp 0 0,V.lp 1 0,V.lp 2 0]/\(match xe with
  | .pan v=>jr TE 26 [V.lp 0 0,V.lp 1 0,V.lp 2 0] v h' fun h'' p=>qP TE.P Tryz.f9.results.toList (fun v h k=>aG TE h v (nK s)) (f'.drop p) h''
  | .ret=>jv TE 26 [V.lp 0 0,V.lp 1 0,V.lp 2 0] h' fun h'' p=>qP TE.P Tryz.f9.results.toList (fun v h k=>aG TE h v (nK s)) (f'.drop p) h''
  |_=>False):=⟨_,rfl⟩
 refine aX (Q:=QP) (fun xe f' h' hq=>by rw[eQP]at hq;exact hq) ?_;have hkd:∀ {k:Nat->Bool},(∀j,j<3->k j=false)->V.drops k [V.lp 0 0,V.lp 1 0,V.lp 2 0]=[V.lp 0 0,V.lp 1 0,V.lp 2 0]:=fun {k} h=>by
  have z0:=h 0 (by decide);have z1:=h 1 (by decide);have z2:=h 2 (by decide);simp only[V.drops,V.drop,z0,z1,z2,if_false,zrm]
 have hpan:∀ {x:Nat×Int} {f':Fr} {h:H},nY nZ s= .error x->f'.d=[]->(∀j,j<3->f'.k j=false)->f'.t 2= .lp 1 0->f'.t 3= .lp 2 0->H3 s h->QP (.pan (uZ x.1 x.2)) f' h:=by
  intro x f' h2 hp hd hk t2 t3 h3;rw[eQP];refine⟨hd,hkd hk,?_⟩;obtain⟨e0,e1,e2⟩:=h3;refine FY x.1 x.2 (by omega) e0 e1 e2 fun X=> ?_;have l1:=(zqe e1).1;have l2:=(zqe e2).1;have r1:((h2.set 1 (.cells [.nils,.nils,.nils,.nils])).set 2 (.cells (kF s x.1 x.2).vc)++[X])[1]? =some ciN:=by
   rw[zqj (by simp;omega),zqn (by decide),zqt l1]
  have r2:((h2.set 1 (.cells [.nils,.nils,.nils,.nils])).set 2 (.cells (kF s x.1 x.2).vc)++[X])[2]? =some (.cells (kF s x.1 x.2).vc):=by rw[zqj (by simp;omega),zqt (by simp;omega)]
  generalize (h2.set 1 (.cells [.nils,.nils,.nils,.nils])).set 2 (.cells (kF s x.1 x.2).vc)++[X]=h3 at r1 r2 ⊢;have hv:nK s= .tup [(⟨[],[],[],[]⟩:Ci).v,kF s x.1 x.2]:=by unfold nK;rw[hp]
  have hf:∃a b c,kF s x.1 x.2= .agg [vi a,vi b,vi c]:=by unfold kF;split<;>exact⟨_,_,_,rfl⟩
  obtain⟨a,b,c,hf⟩:=hf;rw[hv];rw[hf]at r2 ⊢;simp only[Tryz.results9,nts];simp only[wq.1,seval,hd,t2,t3,r1,r2];exact aG.tup (ay.cons (aG.agg (ay.cons aG.nils (ay.cons aG.nils (ay.cons aG.nils (ay.cons aG.nils ay.nil))))) (ay.cons (aG.dat rfl) ay.nil))
 have hret:∀ {c:Ci} {l:List Tk} {f':Fr} {h:H},nY nZ s= .ok c->f'.d=[]->(∀j,j<3->f'.k j=false)->f'.t 2= .lp 1 0->f'.t 3= .lp 2 0->h[1]? =some (.cells [.ls 4 1 0 c.ins.length c.ins.length,.ls 5 1 0 c.outs.length c.outs.length,.ls 6 3 0 c.lat.length c.lat.length,.ls 7 5 0 c.gates.length c.gates.length])->h[2]? =some faN->PC c s.length l h->QP .ret f' h:=by
  intro c l f' h hp hd hk t2 t3 g1 g2 kc;rw[eQP];refine⟨hd,hkd hk,?_⟩;refine FX fun X=> ?_;have old:∀ {j:Nat} {x:O},h[j]? =some x->(h++[X])[j]? =some x:=fun {j x} hx=>by
   have:=(zqe hx).1;rw[zqj (by omega)];exact hx
  have r1:=old g1;have r2:=old g2;have r4:=old kc.i;have r5:=old kc.u;have r6:=old kc.a;have r7:=old kc.g;generalize h++[X]=h3 at r1 r2 r4 r5 r6 r7 ⊢;have hv:nK s= .tup [c.v,.agg [vi 0,vi 0,vi 0]]:=by unfold nK;rw[hp]
  rw[hv];simp only[Tryz.results9,nts];simp only[wq.1,seval,hd,t2,t3,r1,r2];exact aG.tup (ay.cons (aG.agg (ay.cons (aV r4 rfl) (ay.cons (aV r5 rfl) (ay.cons (x9 r6 rfl) (ay.cons (yc r7 rfl) ay.nil))))) (ay.cons (aG.dat rfl) ay.nil))
 have hbn:=SS s (by omega);obtain⟨L,hLo⟩:∃L,tkN s.length 0 s=L:=⟨_,rfl⟩;obtain⟨L,o⟩:=L;have hLl:=PN s.length 0 s;have hLt:=Uj s.length 0 s;unfold PO at hbn;rw[hLo]at hbn hLl hLt;dsimp only at hLl hLt;refine ai (bJ hmix _ _ _ _ ?_);simp only[wq.1,seval,hP];cases o with
 |some a=>dsimp only at hbn;have hpn:=KT (f:=nZ) hLo;refine hT (ag.ev hbn rfl ?_);simp only[wq.1,seval,hP];refine ai (bJ hmix _ _ _ _ ?_);simp only[wq.1,seval,hP];refine hT (fK _ _ _ (fun hb=>by cases hb) (fun _=> ?_));simp only[wq.1,fB];simp only[XE.seq];exact hpan (x:=(a,2)) hpn (by simp only[wq.1]) (fun j hj=>by simp only[wq.1]) (by simp only[wq.1,seval]) (by simp only[wq.1,seval]) ⟨rfl,rfl,rfl⟩
 |none =>
  dsimp only at hbn;have hpn:=H9 (f:=nZ) hLo;refine hT (ag.ev hbn rfl ?_);simp only[wq.1,seval,hP];refine ai (bJ hmix _ _ _ _ ?_);simp only[wq.1,seval,hP];refine hT (fK _ _ _ (fun _=> ?_) (fun hb=>by cases hb));simp only[wq.1];refine ai (bJ hmix _ _ _ _ ?_);simp only[wq.1,seval,hP];refine fQ (fQ (fQ (fQ ?_)));have hTk:rJ L:=⟨by omega,fun t ht=>Nat.le_trans (hLt t ht) (by omega)⟩;obtain⟨hA,ehA⟩:∃hA:H,hA=[.cells [.str s],ciN,faN,.cells [.ls 4 1 0 0 0,.ls 5 1 0 0 0,.ls 6 3 0 0 0,.ls 7 5 0 0 0,qZ L,vi s.length],.cells [],.cells [],.cells [],.cells []]:=⟨_,rfl⟩;have hpc:PC ⟨[],[],[],[]⟩ s.length L hA:=by rw[ehA];exact⟨rfl,rfl,rfl,rfl,rfl⟩
  have hh3:H3 s hA:=by rw[ehA];exact⟨rfl,rfl,rfl⟩
  refine lg (h':=hA) (by rw[ehA];exact HLe.set (i:=3) (o':= .cells [.ls 4 1 0 0 0,.ls 5 1 0 0 0,.ls 6 3 0 0 0,.ls 7 5 0 0 0,qZ L,vi s.length]) rfl (OLe.cells (zrb _) (bW.cons dE (bW.cons dE (bW.cons dE (bW.cons dE (bW.refl _))))))) ?_;clear ehA;obtain⟨Z,eZ⟩:∃Z,Z=tY s.length L.length ⟨[],[],[],[]⟩ L:=⟨_,rfl⟩;rw[<-eZ]at hpn;refine ai ?_;refine aA ?_;refine aC (fun m f h=>∃c' l' F,m=l'.length/\l'.length<=F/\l'.length<=L.length/\tY s.length F c' l'=Z/\rJ l'/\ciB c' (L.length-l'.length)/\PC c' s.length l' h/\H3 s h/\f.t 1= .lp 0 0/\f.t 2= .lp 1 0/\f.t 3= .lp 2 0/\f.t 4=qZ L/\f.t 7= .lp 3 0/\f.d=[]/\(∀j,j<4->f.k j=false)) L.length ⟨⟨[],[],[],[]⟩,L,L.length,rfl,zrb _,zrb _,eZ.symm,hTk,by simp[ciB],hpc,hh3,by simp only[wq.1,seval],by simp only[wq.1,seval],by simp only[wq.1,seval],by simp only[wq.1,seval],by simp only[wq.1,↓reduceIte],by simp only[wq.1],fun j hj=>by simp only[wq.1]⟩ ?_;clear hpc hh3 hA;rintro m f h ⟨c,l,F,hm,hF,hlL,hZ,hl,hci,k,k3,t1,t2,t3,t4,t7,hd,hk⟩;have kp:=k.p;refine ai (ai (bJ hmix _ _ _ _ ?_));simp only[wq.1,seval,hP,t7,kp];cases l with
  |nil =>
   have e0:decide ((0:Int)<((0:Nat):Int))=false:=rfl;have hZc:Z= .ok c:=by rw[<-hZ];cases F<;>rfl
   rw[hZc]at hpn;dsimp only at hpn;refine bJ hmix _ _ _ _ ?_;simp only[wq.1,↓reduceIte,e0];show awp _ _ _ _ _ _ _;have hsm:Sum c:=by
    unfold ciB at hci;show c.ins.length+c.lat.length+c.gates.length<=_;omega
   have ki:=k.i;have ku:=k.u;have ka:=k.a;have kg:=k.g;refine ai (bJ hmix _ _ _ _ ?_);simp only[wq.1,seval,hP,t7,kp];refine hT (ag.lend (EW c hsm) (ay.cons (aG.agg (ay.cons (aV ki rfl) (ay.cons (aV ku rfl) (ay.cons (x9 ka rfl) (ay.cons (yc kg rfl) ay.nil))))) ay.nil) rfl ?_);simp only[wq.1,seval,hP];obtain⟨oc,hoc⟩:∃oc,oc=sV c:=⟨_,rfl⟩;rw[<-hoc]at hpn ⊢;refine fM (fun f=>f.t 2= .lp 1 0/\f.t 3= .lp 2 0/\f.t 4=qZ L/\f.t 6=vi oc.1/\f.t 7= .lp 3 0/\f.t 8= .str oc.2/\f.d=[]/\(∀j,j<4->f.k j=false)) ⟨by simp only[wq.1,seval,t2],by simp only[wq.1,seval,t3],by simp only[wq.1,seval,t4],by simp only[wq.1,seval],by simp only[wq.1,seval,t7],by simp only[wq.1,↓reduceIte],by simp only[wq.1,hd],fun j hj=>by simp only[wq.1,hk j hj]⟩ ?_;clear t1 t2 t3 t4 t7 hd hk f;rintro f ⟨t2,t3,t4,t6,t7,t8,hd,hk⟩;obtain⟨at',hat⟩:∃at':Nat,at'=if oc.2=[]then 0 else nZ L oc.2:=⟨_,rfl⟩
   rw[<-hat]at hpn;refine ai (bJ hmix _ _ _ _ ?_);simp only[wq.1,Nat.reduceLT,hP];refine ai (aX (Q:=fun xe f h'=>xe= .normal/\h'=h/\f.t 2= .lp 1 0/\f.t 3= .lp 2 0/\f.t 5=vi at'/\f.t 6=vi oc.1/\f.t 7= .lp 3 0/\f.d=[]/\(∀j,j<4->f.k j=false)) ?_ ?_)
   rotate_left
   ·by_cases ho:oc.2=[]
    ·rw[if_pos ho]at hat;have e0:(!(oc.2==[]))=false:=by rw[ho];rfl
     refine ai (bJ hmix _ _ _ _ ?_);simp only[wq.1,seval,hP,t8,e0];refine bJ hmix _ _ _ _ ?_;simp only[wq.1,seval];refine⟨by simp only[wq.1,t2],by simp only[wq.1,t3],by simp only[wq.1,hat];try rfl,by simp only[wq.1,t6],by simp only[wq.1,t7],by simp only[wq.1,hd],fun j hj=>by simp only[wq.1,hk j hj]⟩
    ·rw[if_neg ho]at hat;have e0:(!(oc.2==[]))=true:=by simpa using ho
     refine ai (bJ hmix _ _ _ _ ?_);simp only[wq.1,seval,hP,t8,e0];refine bJ hmix _ _ _ _ ?_;simp only[wq.1,seval,hP,t4,t8];refine hT (ag.ev (SN L oc.2 (fun x hx=>hTk.2 x hx)) (by simp only[V.dats,V.dat,GU,zre]) ?_);simp only[wq.1,seval,hP,hd];refine⟨by simp only[wq.1,t2],by simp only[wq.1,t3],by simp only[wq.1,hat];try rfl,by simp only[wq.1,t6],by simp only[wq.1,t7],fun j hj=>by simp only[wq.1,hk j hj]⟩
   clear t2 t3 t4 t6 t7 t8 hd hk f;rintro xe f h' ⟨rfl,rfl,t2,t3,t5,t6,t7,hd,hk⟩;show awp _ _ _ _ _ _ _;refine ai (bJ hmix _ _ _ _ ?_);simp only[wq.1,seval,hP,t5,t6];refine hT (fK (oc.1==0) at' oc.1 (fun ho=> ?_) (fun ho=> ?_))
   ·have ho:oc.1=0:=by simpa using ho
    rw[if_pos ho]at hpn;simp only[wq.1];have kb:=k3.b;have kc:=k3.c;have l1:=(zqe kb).1;have l2:=(zqe kc).1;refine ai (bJ hmix _ _ _ _ ?_);have k2:∀x:O,(h'.set 1 x)[2]? =some faN:=fun x=>by rw[zqn (by decide)];exact kc
    simp only[wq.1,seval,hP,t2,t3,t7,kp,kb,k2];refine bJ hmix _ _ _ _ ?_;simp only[wq.1];have old:∀ {j:Nat} {x:O},h'[j]? =some x->j≠1->j≠2->∀y z:O,((h'.set 1 y).set 2 z)[j]? =some x:=fun {j x} hx h1 h2 y z=>by rw[zqn (Ne.symm h2),zqn (Ne.symm h1)];exact hx
    refine hret (l:=[]) hpn (by simp only[wq.1,hd]) (fun j hj=>by simp only[wq.1,hk j (by omega)]) (by simp only[wq.1,seval,t2]) (by simp only[wq.1,seval,t3]) ?_ ?_ ⟨old kp (by decide) (by decide) _ _,old ki (by decide) (by decide) _ _,old ku (by decide) (by decide) _ _,old ka (by decide) (by decide) _ _,old kg (by decide) (by decide) _ _⟩
    ·rw[zqn (by decide),zqt l1]
    ·rw[zqt (by simp;omega)]
   ·have ho:oc.1≠0:=by simpa using ho
    rw[if_neg ho]at hpn;simp only[wq.1,fB,hd];simp only[XE.seq];exact hpan (x:=(at',oc.1)) hpn (by simp only[wq.1,hd]) (fun j hj=>by simp only[wq.1,hk j (by omega)]) (by simp only[wq.1,seval,t2]) (by simp only[wq.1,seval,t3]) k3
  |cons t r =>
   have e0:decide ((0:Int)<((r.length+1:Nat):Int))=true:=by rw[zqb];omega
   obtain⟨F,rfl⟩:∃n,F=n+1:=⟨F-1,by simp only[zrt]at hF;omega⟩;rw[KR]at hZ;have hlc:(t::r).length=r.length+1:=rfl;rw[hlc]at hm hF hlL hci;refine bJ hmix _ _ _ _ ?_;simp only[wq.1,↓reduceIte,e0];refine aA ?_;refine bJ hmix _ _ _ _ ?_;simp only[wq.1,seval,hP,t7];refine hT (KQ k hl (by unfold ciB at hci ⊢;omega) (fun c' l' h' hst k' kk'=> ?_) (fun x h' hst kk'=> ?_))
   ·rw[hst]at hZ;dsimp only at hZ;obtain⟨o1,o2,o3⟩:=Td hl hci hst;rw[hlc]at o2;simp only[wq.1,bu,hd];refine .inl ⟨l'.length,by omega,c',l',F,rfl,by omega,by omega,hZ,o1,?_,k',k3.k kk',by simp only[wq.1,seval,t1,AX],by simp only[wq.1,seval,t2,AX],by simp only[wq.1,seval,t3,AX],by simp only[wq.1,seval,t4],by simp only[wq.1,seval,t7,AX],by simp only[wq.1,hd],fun j hj=> ?_⟩
    ·unfold ciB at o3 ⊢;omega
    ·simp only[wq.1,hk j hj];exact Uk hj
   ·rw[hst]at hZ;dsimp only at hZ;subst hZ;simp only[wq.1,fB,hd];simp only[XE.seq,XE.block];refine hpan hpn (by simp only[wq.1,hd]) (fun j hj=> ?_) (by simp only[wq.1,seval,t2,AX]) (by simp only[wq.1,seval,t3,AX]) (k3.k kk');show(f.k j||x47 j)=false;rw[hk j (by omega),Uk (by omega)];rfl
theorem Dk:∀(l:List S),(∀s∈l,aS s=true)->Lib.join (l.map uo) [44,32]=CQ l
 |[],_=>rfl
 |[s],h=>by have h1:=h s (by simp);show Lib.join [uo s] [44,32]=aO s;unfold uo;rw[if_pos h1];simp[Lib.join,List.intercalate]
 |s::t::r,h=>by
  have h1:=h s (by simp);have ih:=Dk (t::r) fun x hx=>h x (List.mem_cons_of_mem _ hx);show Lib.join (uo s::uo t::r.map uo) [44,32]=aO s++44::32::CQ (t::r);rw[<-ih];show Lib.join (uo s::uo t::r.map uo) [44,32]=aO s++44::32::Lib.join (uo t::r.map uo) [44,32];have e:uo s=aO s:=by unfold uo;rw[if_pos h1]
  rw[e];simp[Lib.join,List.intercalate]
theorem rG[MO](l:List S)(hl:l.length<=1000000):Ev TE 41 [aN l] (aN (l.map uo)):=by
 have hM:=mLx;refine ak Tryz.func41 rfl (by simp[nts]) ?_;refine vn ?_;simp only[wq.1,Nat.reduceLT,Tryz.results41];refine vn ?_;simp only[wq.1,Nat.reduceLT];refine gV 3 1 (by simp only[wq.1,↓reduceIte]) ?_;refine ai ?_;refine vn ?_;simp only[wq.1,seval];refine aA ?_;refine aC (fun m f h=>∃i:Nat,m+i=l.length/\i<=l.length/\h[0]? =some (.cells (((l.take i).map uo).map V.str))/\f.t 3= .ls 0 1 0 i i/\f.t 8=aN l/\f.t 9=vi l.length/\f.t 10=vi i/\f.d=[]) l.length ⟨0,by omega,by omega,rfl,by simp only[wq.1,seval],by simp only[wq.1,seval],by simp only[wq.1,seval],by simp only[wq.1,↓reduceIte];rfl,by simp only[wq.1]⟩ ?_;rintro m f h ⟨i,hm,hil,h0,t3,t8,t9,t10,hd⟩;have hw:=aB (show i<maxLen by omega);refine vn ?_;simp only[wq.1,Nat.reduceLT,t9,t10];refine vn ?_;simp only[wq.1,↓reduceIte];refine vcB.mk (fun hlt=> ?_) (fun hlt=> ?_)
 ·have hlt:i<l.length:=by have:=zqs hlt;omega
  obtain⟨s,es⟩:∃s,s=l[i]:=⟨_,rfl⟩;have hgs:=zW hlt .any;rw[<-es]at hgs;have hS:=FP s;have hnx:((l.take i).map uo).map V.str++[.str (uo s)]=((l.take (i+1)).map uo).map V.str:=by rw[List.take_succ_eq_append_getElem hlt,zql,zql,es];rfl
  have hln:(((l.take i).map uo).map V.str).length=i:=by simp;omega
  obtain⟨C,eC⟩:∃C,C=((l.take i).map uo).map V.str:=⟨_,rfl⟩;have hCd:∀q,V.drops q C=C:=fun q=>by rw[eC];exact aJ
  rw[<-eC]at h0 hnx hln;have l0:=(zqe h0).1;simp only[wq.1];refine ai ?_;refine aA ?_;refine vn ?_;simp only[wq.1,seval,t8,t10,hgs];refine⟨⟨by omega,by omega⟩,?_⟩;refine vn ?_;simp only[wq.1,seval];refine ag.ev hS rfl ?_;simp only[wq.1,↓reduceIte,Nat.reduceEqDiff,Nat.reduceLT,Nat.reduceAdd];refine vm ?_;simp only[wq.1,↓reduceIte,Nat.reduceEqDiff,Nat.reduceLT,reduceCtorEq,Nat.reduceMul,t3,hd,h0,hCd,hln];refine⟨⟨rfl,by decide⟩,⟨by omega,by omega,by omega⟩,?_⟩;refine vm ?_;simp only[wq.1,seval,t10,hw];refine .inl ⟨m-1,by omega,i+1,by omega,by omega,?_,by simp only[wq.1,seval],by simp only[wq.1,seval,t8],by simp only[wq.1,seval,t9],by simp only[wq.1,↓reduceIte],by simp only[wq.1,hd]⟩;rw[zqt (by simpa using l0),hnx]
 ·have hi:i=l.length:=by have:=of_decide_eq_false hlt;omega
  subst hi;rw[zrx]at h0;simp only[wq.1];show awp _ _ _ _ _ _ _;refine vn ?_;simp only[wq.1,seval,t3];refine vm ?_;simp only[wq.1,↓reduceIte,hd];exact aV h0 (by simp)
def Wb(out:S)(h:H):Prop :=
 (out=[]/\h[1]? =some (.typed 81 [.nilp,.nils])) \/
 (out≠[]/\∃b,1<b/\h[1]? =some (.typed 81 [.lp 1 0,.ls b 1 0 out.length out.length])/\h[b]? =some (.typed 5 (out.map vb)))
def K0(h h':H):Prop:=∀cs,h[0]? =some (.cells cs)->V.dats cs=true->h'[0]? =some (.cells cs)
theorem K0.trans{h h1 h2:H}(a:K0 h h1)(b:K0 h1 h2):K0 h h2:=fun cs hc hd=>b cs (a cs hc hd) hd
theorem Tf[MO]{out s:S}{h:H}{R:AEnd->H->(Nat->Bool)->Prop}(hw:Wb out h)(hs:s≠[])(hl:out.length+s.length<=20000000000000)
 (hr:∀v h' p,(∀j,p j=true->1<j)->Wb (out++s) h'->K0 h h'->R (.ret v) h' p):ag TE 39 [.lp 1 0,.str s] h R:=by
 rcases hw with⟨rfl,h1⟩|⟨ho,b,hb1,h1,h2⟩
 ·have hlt:=(zqe h1).1;refine NE zX s (.inl rfl) h1 hs (by simpa using hl) ?_;refine hr _ _ _ (fun j hj=>by cases hj) (.inr ⟨by simpa using hs,h.length,hlt,?_,?_⟩) (fun cs hc hd=> ?_)
  ·rw[zqt (by simp;omega)];rfl
  ·rw[zqn (by omega),zsb (by omega),show h.length-h.length=0 by omega];rfl
  ·rw[zqn (by decide),zqj (by omega)];exact hc
 ·have hlt:=(zqe h1).1;have hlb:=(zqe h2).1;refine QX zX out s (.inr rfl) (by omega) h1 h2 hl ?_;refine hr _ _ _ (fun j hj=>by have:j=b:=(by simpa using hj);omega) (.inr ⟨by simp[ho],b,hb1,?_,?_⟩) (fun cs hc hd=> ?_)
  ·rw[zqt (by simp;omega)]
  ·rw[zqn (by omega),zqt (by simp;omega)]
  ·rw[zqn (by decide),zqn (by omega),zqo,hc];show some (O.cells (V.drops _ cs))=_;rw[jE.dats_drops _ hd]
theorem nM[MO]{out ahead word:S}{l:List S}{h:H}{R:AEnd->H->(Nat->Bool)->Prop}(hw:Wb out h)(hok:∀s∈l,aS s=true)(hl:out.length+(gm ahead word l).length<=10000000)
 (hll:l.length<=1000000) (hr:∀v h' p,(∀j,p j=true->1<j)->Wb (out++gm ahead word l) h'->K0 h h'->R (.ret v) h' p):ag TE 38 [.str ahead,.str word,aN l,.lp 1 0] h R:=by
 have hM:=mLx;have hsp:=rG l hll;have hcl:(gm ahead word l).length=ahead.length+word.length+(CQ l).length+3:=by unfold gm;simp;omega
 have hj:=Q7 (l.map uo) [44,32] (by simp;omega) (by rw[Dk l hok];omega);rw[Dk l hok]at hj;refine aj Tryz.func38 rfl (by simp[nts]) ?_;refine vm ?_;simp only[wq.1,seval,Tryz.results38];refine⟨by omega,by omega,ag.ev hsp (by simp only[V.dats,V.dat,ax,zre]) ?_⟩;simp only[wq.1,seval];refine ag.ev hj (by simp only[V.dats,V.dat,ax,zre]) ?_;simp only[wq.1,seval];have hcN:ahead++word++[40]++CQ l++[41,10]=gm ahead word l:=by unfold gm;simp
 rw[hcN];refine⟨by omega,by omega,Tf hw (by unfold gm;simp) (by omega) fun v h' p a b c=> ?_⟩;simp only[wq.1,bu];exact hr _ _ _ a b c
theorem Ia(b:Nat)(w:World)(c1:w.drew.cell? ⟨b,1,none⟩=some (.slice none 0 0)) :
 Calls Tryz.prog 42 #[.pointer (some ⟨b,0,none⟩)] w fun e w'=>e= .returned (.string ⟨#[]⟩)/\w'=w.drew:=by
 have hSD:(Builtin.unsafeSliceData_ #[79] 145 #[.slice none 0 0]).run Tryz.prog w.drew= .ok (.pointer none) w.drew :=
  Lib.run_unsafeSliceData_nil w.drew _ _ _ _
 have hUS:(Builtin.unsafeString_ #[145,3] 9 #[.pointer none,.int .i64 0]).run Tryz.prog w.drew= .ok (.string .empty) w.drew :=
  Lib.run_unsafeString_none w.drew 145 3 9 none
 go_enter Tryz.func42,Tryz.ntmps42
 go_wp2
 go_region
 all_goals (go_wp2;go_ret;exact⟨rfl,rfl⟩)
theorem Ti[MO]{T id:Nat}{a:V}{h:H}{R:AEnd->H->(Nat->Bool)->Prop}(hh:h[id]? =some (.typed T [a,.nils]))(hr:R (.ret (.str [])) h (fun _=>false)):ag TE 42 [.lp id 0] h R:=by
 intro ok pl w vs hs hv;simp only[VList,VRel]at hv;obtain⟨y,ys,rfl,⟨b,hpb,rfl⟩,rfl⟩:=hv;have hpb:pl id=some b:=hpb;obtain⟨o,ho,hat⟩:=hs.obj id b hpb;rw[hh]at ho;cases ho;obtain⟨arr,fz,g1,g2,g3,g4⟩:=hat;have g1:w.heap[b]? =some (.cells arr T fz):=g1;obtain⟨x1,e1,r1⟩:=VList.get 1 .nils g4 rfl;have e1:arr[1]? =some x1:=by
  rw[List.getElem?_take_of_lt (by simp)]at e1;simpa using e1
 simp only[VRel]at r1;have hcell:w.drew.cell? ⟨b,1,none⟩=some (.slice none 0 0):=by
  rw[Lib.cell_of_heap (w:=w.drew) g1,e1,r1]
 refine(Ia b w hcell).mono ?_;rintro en w' ⟨rfl,rfl⟩;have x:WExt w w.drew:=WExt.drew w;exact⟨fun _=>false,pl,h,.ret (.str []),hs.wext x,x.keeps hs,by show VRel _ _ _;simp only[VRel];exact⟨_,rfl,by simp,by decide⟩,hr⟩
theorem KU[MO]{out:S}{h:H}{R:AEnd->H->(Nat->Bool)->Prop}(hw:Wb out h)(hl:out.length<=20000000000000)(hr:∀h' p,R (.ret (.str out)) h' p):ag TE 42 [.lp 1 0] h R:=by
 rcases hw with⟨rfl,h1⟩|⟨ho,b,hb1,h1,h2⟩
 ·exact Ti h1 (hr _ _)
 ·exact UK out h1 h2 ho hl (hr _ _)
theorem Wb.app{out:S}{h:H}(hw:Wb out h)(X:H):Wb out (h++X):=by
 have old:∀ {j:Nat} {y:O},h[j]? =some y->(h++X)[j]? =some y:=fun hy=>by rw[zqj (zqe hy).1];exact hy
 rcases hw with⟨rfl,h1⟩|⟨ho,b,hb1,h1,h2⟩
 ·exact .inl ⟨rfl,old h1⟩
 ·exact .inr ⟨ho,b,hb1,old h1,old h2⟩
end Go.Proofs.YthaijohbpdabfaaGreatDoor
