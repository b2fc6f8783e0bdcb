/- Lemmas for this claim, part F05: each holds under what it names. -/
import Derived.Test.YtokppohljajhjaaGreatDoorRF04
import Derived.Test.YtokppohljajhjaaGreatDoorRA9
import Derived.Test.YtokppohljajhjaaGreatDoorRA8
import Derived.Test.YtokppohljajhjaaGreatDoorRA7
import Derived.Test.YtokppohljajhjaaGreatDoorRA10
set_option linter.all false
set_option maxRecDepth 20000
set_option maxHeartbeats 16000000
namespace Go.Proofs.YtokppohljajhjaaGreatDoor
open Go Go.Proofs Go.Abs
theorem qj{l:List S}{s:S}:(at? l s).isSome=l.contains s:=by
 rw[Bool.eq_iff_iff,List.contains_iff_mem];constructor
 ·intro h;obtain⟨n,hn⟩:=Option.isSome_iff_exists.1 h;obtain⟨h1,h2⟩:=qV hn;rw[<-h2];exact zqu h1
 ·intro h;obtain⟨n,hn⟩:=Fb h;rw[hn];rfl
theorem Qh{l:List S}{i:Nat}(h:i<l.length):yF (l.take i) (l.drop i)=if(l.take i).contains l[i]=true then some l[i]else yF (l.take (i+1)) (l.drop (i+1)):=by rw[List.drop_eq_getElem_cons h,yF,List.take_succ_eq_append_getElem h]
theorem lH{p:Nat->Bool}:∀n,V.drops p (List.replicate n (.bool true))=List.replicate n (.bool true)
 |0=>rfl
 |n+1=>by rw[List.replicate_succ,V.drops,lH n];rfl
abbrev U9(l:List S):O:= .map (l.map V.str) (List.replicate l.length (.bool true))
theorem dA{P:Program}{rs:List ResultVar}{R:AEnd->H->(Nat->Bool)->Prop}{f:Fr}{h:H}{v:V}(hd:f.d=[])(hr:R (.pan v) h f.k):qF P rs R (.pan v) f h:=by unfold qF;rw[hd];exact hr
theorem yO[MO]{l:List S}{h:H}{R:AEnd->H->(Nat->Bool)->Prop}(hll:l.length<=1000000)(hok:yF [] l=none->R (.ret (.lm h.length)) (h++[U9 l]) (fun _=>false))
 (hbad:∀s X,yF [] l=some s->R (.pan (yN 5 s)) (h++X) (fun _=>false)):ag TE 59 [aV l] h R:=by
 have hM:=mLx;have hgE:∀x:O,(h++[x])[h.length]? =some x:=fun x=>by simp
 have hgS:∀x y:O,(h++[x]).set h.length y=h++[y]:=fun x y=>by simp
 have h0:yF [] l=yF (l.take 0) (l.drop 0):=rfl;obtain⟨D,hD⟩:∃D,D=yF [] l:=⟨_,rfl⟩;rw[<-hD]at hok hbad h0;refine ax Tryz.func59 rfl (by simp[nts]) ?_;refine vn ?_;simp only[wq.1,Nat.reduceLT,Tryz.results59];refine vn ?_;simp only[wq.1,seval];refine vn ?_;simp only[wq.1,seval];refine aF (fun m f h'=>∃i,m+i=l.length/\i<=l.length/\D=yF (l.take i) (l.drop i)/\f.t 3= .lm h.length/\f.t 7=aV l/\f.t 8=vi l.length/\f.t 9=vi i/\f.d=[]/\f.k=(fun _=>false)/\h'=h++[U9 (l.take i)]) l.length ⟨0,by omega,by omega,h0,by simp only[wq.1,seval],by simp only[wq.1,seval],by simp only[wq.1,seval],by simp only[wq.1,↓reduceIte];rfl,rfl,rfl,rfl⟩ ?_;rintro m f h' ⟨i,hm,hil,hdi,h3,h7,h8,h9,hd,hkf,rfl⟩;have hw:=az (show i<maxLen by omega);have htl:(l.take i).length=i:=by rw[zrl];omega
 refine vn ?_;simp only[wq.1,Nat.reduceLT,h8,h9];refine vn ?_;simp only[wq.1,↓reduceIte];refine vcB.mk (fun hlt=> ?_) (fun hlt=> ?_)
 ·have hlt:i<l.length:=by have:=zqs hlt;omega
  rw[Qh hlt]at hdi;have hac:=qj (l:=l.take i) (s:=l[i]);cases hat:at? (l.take i) l[i]with
  |some n =>
   obtain⟨g1,g2⟩:=qV hat;have hn:n<i:=by simpa using(Nat.lt_of_lt_of_le g1 (by simp;omega))
   have hg:(List.replicate i (V.bool true)).getD n .any= .bool true:=by simp[zqg,hn]
   rw[hat]at hac;have hac:(l.take i).contains l[i]=true:=hac.symm;rw[if_pos hac]at hdi;simp only[wq.1];refine aj (aB ?_);refine vm ?_;simp only[wq.1,seval,h3,h7,h9,Jv hlt,oQ,bW,K.keyOk,hat,hg,hgE,htl];refine⟨⟨by omega,by omega⟩,iE _ _ _ (fun h=>by cases h) (fun _=> ?_)⟩;simp only[wq.1,dW];simp only[XE.seq,XE.block];have hb:=hbad _ [U9 (l.take i)] hdi;refine dA (by simp only[wq.1,hd]) ?_;have hk2:∀f:Fr,f.k=(fun _=>false)->R (.pan (yN 5 l[i])) (h++[U9 (l.take i)]) f.k:=fun f hf=>by rw[hf];exact hb
   refine hk2 _ ?_;simp only[wq.1,hkf]
  |none=>rw[hat]at hac;have hac:(l.take i).contains l[i]=false:=hac.symm;rw[if_neg (by rw[hac];decide)]at hdi;simp only[wq.1];refine aj (aB ?_);refine vm ?_;simp only[wq.1,seval,h3,h7,h9,Jv hlt,oQ,bW,K.keyOk,hat,hgE];refine⟨⟨by omega,by omega⟩,iE _ _ _ (fun _=> ?_) (fun h=>by cases h)⟩;simp only[wq.1,seval,h3,Oo,bW,K.keyOk,hat,hgE,hgS,htl];refine vm ?_;simp only[wq.1,seval,h9,hw];refine .inl ⟨m-1,by omega,i+1,by omega,by omega,hdi,by simp only[wq.1,seval,h3],by simp only[wq.1,seval,h7],by simp only[wq.1,seval,h8],by simp only[wq.1,↓reduceIte],by simp only[wq.1,hd],by simp only[wq.1,hkf],?_⟩;rw[List.take_succ_eq_append_getElem hlt];show _=h++[O.map _ _];rw[zql,zqa,htl,zrk,List.replicate_succ'];rfl
 ·have hi:i=l.length:=by have:=of_decide_eq_false hlt;omega
  rw[hi,List.drop_length,yF]at hdi;rw[hi,zrx];refine vm ?_;simp only[wq.1,seval,h3,hd,hkf];exact hok hdi
theorem Fe[MO]{h:H}{K:H->(Nat->Bool)->Prop}(hK:∀X,K (h++[X]) (fun _=>false)):iV TE 53 [.lp 1 0,.lp 2 0] h K:=by
 have hgE:∀x:O,(h++[x])[h.length]? =some x:=fun x=>by simp
 have hgS:∀x y:O,(h++[x]).set h.length y=h++[y]:=fun x y=>by simp
 refine kM rfl Tryz.func53 rfl rfl (by simp[nts]) rfl (fun ev w=>rfl) rfl (by decide) ?_;simp only[nts];refine eX rfl rfl ?_;refine jK (x:= .tmp 5) (t:=110) (q:=⟨.struct [(0,29),(1,9)],2,24,.agg [vi 0,.str []]⟩) rfl (by simp only[wq.1]) (by simp only[wq.1,↓reduceIte]) (by simp only[wq.1,↓reduceIte]) ?_;refine ay rfl rfl ?_;simp only[wq.1,↓reduceIte];refine ay rfl rfl ?_;simp only[wq.1,seval];refine ay rfl rfl ?_;simp only[wq.1,seval];refine ay rfl rfl ?_;simp only[wq.1];refine ay rfl rfl ?_;simp only[wq.1,seval,hgE,hgS];refine ay rfl rfl ?_;simp only[wq.1,seval];refine eG ?_;show awp _ _ _ _ _ _ _;refine vm ?_;simp only[wq.1,seval];exact hK _
def Rn:Plan:= .take 0<| .take 2<| .alt 1 (.alt 3 (.one 4<| .one 5<| .fin) (.one 4 (.one 3<| .one 5<| .fin))) (.one 3 (onZ [1,4,5]<| .fin))
theorem Ff[MO]{a:O}{d1 d2:V}{G:H}{K:H->(Nat->Bool)->Prop}(e:Int)(s:S)(hK:∀X,K (a:: .cells [vi e]:: .cells [.str s]::(G++[X])) (fun _=>false)) :
 jI TE 53 [.lp 1 0,.lp 2 0] (yN e s) (a:: .cells [d1]:: .cells [d2]::G) K:=by
 have hgE:∀x:O,(G++[x])[G.length]? =some x:=fun x=>by simp
 have hgS:∀x y:O,(G++[x]).set G.length y=G++[y]:=fun x y=>by simp
 unfold yN;refine pz rfl Tryz.func53 rfl rfl (by simp[nts]) rfl (fun ev w=>rfl) rfl (by decide) ?_;simp only[nts];refine ay rfl rfl ?_;simp only[wq.1,↓reduceIte];refine⟨by decide,?_⟩;refine ay rfl rfl ?_;simp only[wq.1,↓reduceIte];refine ay rfl rfl ?_;simp only[wq.1,seval];refine ay rfl rfl ?_;simp only[wq.1,seval];refine ay rfl rfl ?_;simp only[wq.1];refine ay rfl rfl ?_;simp only[wq.1,seval,hgE,hgS];refine ay rfl rfl ?_;simp only[wq.1,seval];refine eG ?_;show awp _ _ _ _ _ _ _;refine vn ?_;simp only[wq.1,seval];refine vm ?_;simp only[wq.1,↓reduceIte];refine gQ mixed Rn (fun f' h'=>f'.d=[]/\f'.k=(fun _=>false)/\∃X,h'=a:: .cells [vi e]:: .cells [.str s]::(G++[X])) (by rw[show TE.P=P from rfl];decide +kernel) (by decide +kernel) ?_ ?_
 ·simp only[wq.1,seval,Rn,hgE];exact⟨_,rfl⟩
 ·rintro f h ⟨hd,hk,X,rfl⟩;exact⟨.inl rfl,hd,by rw[hk];exact hK X⟩
theorem I9[MO](g:Ga):Ev TE 54 [g.v] (.bool (yE g)):=by have e1:decide ((8:Int)<(g.ins.length:Int))=decide (8<g.ins.length):=decide_eq_decide.2 (by omega);have e2:decide ((128:Int)<(g.rows.length:Int))=decide (128<g.rows.length):=decide_eq_decide.2 (by omega);refine ah Tryz.func54 rfl (by simp[nts]) (vm ?_);simp only[wq.1,seval,Tryz.results54,e1,e2];exact eQ rfl rfl
theorem oL{α:Type}{l:List α}{p:α->Bool}{i:Nat}(h:i<l.length)(hn:∀x∈l.take i,p x=false)(hp:p l[i]=true):l.find? p=some l[i]:=by
 rw[List.find?_eq_some_iff_getElem];refine⟨hp,i,h,rfl,fun j hj=> ?_⟩;have:l[j]∈l.take i:=by
  rw[List.mem_take_iff_getElem];exact⟨j,by omega,rfl⟩
 rw[hn _ this];rfl
theorem kD{α:Type}{l:List α}{p:α->Bool}(hn:∀x∈l,p x=false):l.find? p=none:=by rw[List.find?_eq_none];intro x hx;rw[hn x hx];decide
theorem Qi{c:Ci}(h:LimC c):(iD c).length<=3000/\(di c).length<=600/\(gz c).length<=3000:=by obtain⟨l1,l2,l3,l4,l5⟩:=h;have a1:=fF (k:=2) (F:=fun q:La=>[q.name,q.next]) c.lat (fun _ _=>by simp);have a2:=fF (k:=9) (F:=fun g:Ga=>g.name::g.ins) c.gates (fun g hg=>by have:=l5 g hg;simp;omega);have a3:=fF (k:=8) (F:=fun g:Ga=>g.ins) c.gates (fun g hg=>l5 g hg);unfold iD di gz;simp only[zqa,zra];have:=Nat.mul_le_mul_right 9 l4;have:=Nat.mul_le_mul_right 8 l4;have:=Nat.mul_le_mul_right 2 l3;refine⟨by omega,by omega,by omega⟩
theorem Dn[MO](c:Ci)(hsum:c.ins.length+c.lat.length+c.gates.length<=9000000000000000000):Ev TE 25 [c.v] (.tup [vi (lQ c).1,.str (lQ c).2]):=by
 have hM:=mLx;refine l7 ?_;refine kK rfl Tryz.func25 rfl (by simp[nts]) fun ok pl0 w0=> ?_;simp only[nts];refine zN (Q:=fun _ _ _=>False) ?_ (fun _ _ _ h=>by obtain⟨_,_,_,_,_,_,h⟩:=h;exact h.elim);refine vm ?_;simp only[wq.1,seval];refine wF rfl (fn:=Tryz.f25) (q:=53) (caps:=[.lp 1 0,.lp 2 0]) (fx:= .tmp 14) rfl rfl (by simp only[wq.1,seval]) rfl rfl rfl rfl (by simp only[wq.1,seval]) (by simp only[wq.1,seval]) (by simp only[wq.1]) rfl fun dd=> ?_;simp only[nts];obtain⟨ee,hee⟩:∃ee:E,ee={TE with tl:=[dd]}:=⟨_,rfl⟩;have hP:ee.P=P:=by rw[hee];rfl
 have hmix:ee.P.follows .mixedOrders=true:=by rw[hP];exact mixed
 have hT:∀ {g:FuncId} {args:List V} {h:H} {R:AEnd->H->(Nat->Bool)->Prop},ag TE g args h R->ag ee g args h R:=fun hc=>by rw[hee];exact hc.tl _
 rw[<-hee];obtain⟨QP,eQP⟩:∃QP:XE->Fr->H->Prop,QP=fun xe f' h'=>f'.d=[]/\V.drops f'.k [V.lp 1 0,V.lp 2 0]=[V.lp 1 0,V.lp 2 0]/\(match xe with
  | .pan v=>jI TE 53 [V.lp 1 0,V.lp 2 0] v h' fun h'' p=>lZ TE.P Tryz.f25.results.toList (fun v h k=>aA TE h v (.tup [vi (lQ c).1,.str (lQ c).2])) (f'.drop p) h''
  | .ret=>iV TE 53 [V.lp 1 0,V.lp 2 0] h' fun h'' p=>lZ TE.P Tryz.f25.results.toList (fun v h k=>aA TE h v (.tup [vi (lQ c).1,.str (lQ c).2])) (f'.drop p) h''
  |_=>False):=⟨_,rfl⟩
 refine bi (Q:=QP) (fun xe f' h' hq=>by rw[eQP]at hq;exact hq) ?_;have hkd:∀ {k:Nat->Bool},(∀j,j<3->k j=false)->V.drops k [V.lp 1 0,V.lp 2 0]=[V.lp 1 0,V.lp 2 0]:=fun {k} h=>by
  have z1:=h 1 (by decide);have z2:=h 2 (by decide);simp only[V.drops,V.drop,z1,z2,if_false,zrm]
 have hpan:∀ {e:Int} {s:S} {f':Fr} {a:O} {d1 d2:V} {G:H},lQ c=(e,s)->f'.d=[]->(∀j,j<3->f'.k j=false)->f'.t 2= .lp 1 0->f'.t 3= .lp 2 0->QP (.pan (yN e s)) f' (a:: .cells [d1]:: .cells [d2]::G):=by intro e s f' a d1 d2 G hp hd hk t2 t3;rw[eQP];refine⟨hd,hkd hk,?_⟩;refine Ff e s fun X=> ?_;rw[hp];simp only[Tryz.results25,nts];simp only[wq.1,↓reduceIte,hd,t2,t3];exact aA.dat rfl
 have hret:∀ {f':Fr} {a:O} {G:H},lQ c=(0,[])->f'.d=[]->(∀j,j<3->f'.k j=false)->f'.t 2= .lp 1 0->f'.t 3= .lp 2 0->QP .ret f' (a:: .cells [vi 0]:: .cells [.str []]::G):=by intro f' a G hp hd hk t2 t3;rw[eQP];refine⟨hd,hkd hk,?_⟩;refine Fe fun X=> ?_;rw[hp];simp only[Tryz.results25,nts];simp only[wq.1,↓reduceIte,hd,t2,t3];exact aA.dat rfl
 clear eQP;obtain⟨BX,hBX⟩:∃BX:O,BX= .cells [aV c.ins,aV c.outs,oK c.lat,iZ c.gates]:=⟨_,rfl⟩;have hBd:∀p,BX.drop p=BX:=fun p=>by rw[hBX];rfl
 refine aj (bT hmix _ _ _ _ ?_);simp only[wq.1,seval,hP];have w1:IntKind.i64.wrap ((c.ins.length:Int)+c.lat.length)=((c.ins.length+c.lat.length:Nat):Int):=by rw[iw (by omega) (by omega)];omega
 have w2:IntKind.i64.wrap (((c.ins.length+c.lat.length:Nat):Int)+c.gates.length)=((c.ins.length+c.lat.length+c.gates.length:Nat):Int):=by rw[iw (by omega) (by omega)];omega
 have eA:decide (((c.ins.length+c.lat.length+c.gates.length:Nat):Int)<=200)=decide (c.ins.length+c.lat.length+c.gates.length<=200):=decide_eq_decide.2 (by omega);have eB:decide ((c.outs.length:Int)<=200)=decide (c.outs.length<=200):=decide_eq_decide.2 (by omega);have hct:=S9 c.gates 54 [] yE rfl rfl fun g _=>I9 g;have n0:Pm c=false->lQ c=(8,[]):=fun h=>by unfold lQ;rw[if_pos h]
 have hEv:∀ {g:FuncId} {args:List V} {r:V},Ev TE g args r->Ev ee g args r:=fun hv=>by rw[hee];exact fun ok w vs hs hl=>hv ok w vs (hs.tl TE.tl) hl
 have e39:((decide (c.ins.length+c.lat.length+c.gates.length<=200)&&decide (c.outs.length<=200))&& !(c.gates.any yE))=Pm c:=by unfold Pm;rw[Bool.and_assoc]
 refine aj (bT hmix _ _ _ _ ?_);simp only[wq.1,seval,hP,w1,w2,eA,eB];refine Bg.ev (q:=56) (vs:=[iZ c.gates,.fn (.func 54) [] []]) (by simp only[wq.1,seval]) (by simp only[wq.1,seval]) (by rw[hP];rfl) (fun _=>hEv hct) (fun _=>by simp only[V.dats,V.dat,mr,zre]) ?_;simp only[wq.1,seval,hP,e39];rw[<-hBX];refine hT (iE (Pm c) 8 [] (fun hl=> ?_) (fun hl=> ?_))
 ·have hL:=TA hl;obtain⟨tl1,tl2,tl3⟩:=Qi hL;have n1:∀s,(iD c).find? (fun s=> !aT s)=some s->lQ c=(4,s):=fun s h=>by unfold lQ;rw[if_neg (by rw[hl];decide),h]
  have htd:=TB c hL;have hnt:=MK c hL;have hus:=TC c hL;have hcd:=pJ c;simp only[wq.1]
  -- names
  refine aj (bi (Q:=fun xe f h=>(xe= .normal/\(∀s∈iD c,aT s=true)/\f.t 1= .lp 0 0/\f.t 2= .lp 1 0/\f.t 3= .lp 2 0/\f.d=[]/\(∀j,j<3->f.k j=false)/\h=[BX,.cells [vi 0],.cells [.str []]])\/(∃v,xe= .pan v/\QP (.pan v) f h)) ?_ ?_)
  ·rintro xe f h (⟨rfl,hnm,t1,t2,t3,hd,hk,rfl⟩|⟨v,rfl,hq⟩)
   rotate_left
   ·exact hq
   show awp _ _ _ _ _ _ _;have n2:(iD c).find? (fun s=> !aT s)=none:=kD fun s hs=>by rw[hnm s hs];rfl
   have n3:∀s,yF [] (di c)=some s->lQ c=(5,s):=fun s h=>by unfold lQ;rw[if_neg (by rw[hl];decide),n2];dsimp only;rw[h]
   refine aj (bT hmix _ _ _ _ ?_);simp only[wq.1,seval,hP,t1,hBX];rw[<-hBX];refine hT (ag.ev hnt (by simp only[V.dats,Bool.and_true];exact hcd) ?_);simp only[wq.1,seval,hP];refine hT (yO (by omega) (fun hdn=> ?_) (fun s X hdn=> ?_))
   rotate_left
   ·simp only[wq.1,dW];simp only[XE.seq];exact hpan (n3 s hdn) (by simp only[wq.1,hd]) (fun j hj=>by simp only[wq.1,hk j hj]) (by simp only[wq.1,seval,t2]) (by simp only[wq.1,seval,t3])
   have n4:∀s,yF [] c.outs=some s->lQ c=(5,s):=fun s h=>by unfold lQ;rw[if_neg (by rw[hl];decide),n2];dsimp only;rw[hdn];dsimp only;rw[h]
   simp only[wq.1,seval,hP];refine aj (bT hmix _ _ _ _ ?_);simp only[wq.1,seval,hP,t1,hBX];rw[<-hBX];refine hT (yO (by have:=hL.outs;omega) (fun hdo=> ?_) (fun s X hdo=> ?_))
   rotate_left
   ·simp only[wq.1,dW];simp only[XE.seq];exact hpan (n4 s hdo) (by simp only[wq.1,hd]) (fun j hj=>by simp only[wq.1,hk j hj]) (by simp only[wq.1,seval,t2]) (by simp only[wq.1,seval,t3])
   have n5:∀q,c.lat.find? (fun q=> !nT q)=some q->lQ c=(1,q.name):=fun q h=>by unfold lQ;rw[if_neg (by rw[hl];decide),n2];dsimp only;rw[hdn];dsimp only;rw[hdo];dsimp only;rw[h]
   simp only[wq.1,Nat.reduceAdd];obtain⟨N,hN⟩:∃N:O,N=U9 (di c):=⟨_,rfl⟩;have hNd:∀p,N.drop p=N:=fun p=>by
    rw[hN];show O.map (V.drops p _) (V.drops p _)=_;rw[aC,lH]
   have hcl:∀p,([BX,.cells [vi 0],.cells [.str []],N]:H).map (O.drop p)=[BX,.cells [vi 0],.cells [.str []],N]:=fun p=>by show [BX.drop p,_,_,N.drop p]=_;rw[hBd,hNd];rfl
   have t1':f.t 1= .lp 0 0:=t1;rw[<-hN];refine KT (fun f'=>f'.t 1= .lp 0 0/\f'.t 2= .lp 1 0/\f'.t 3= .lp 2 0/\f'.t 7= .lm 3/\f'.d=[]/\(∀j,j<3->f'.k j=false)) _ (fun hq=>hq _ ⟨by simp only[wq.1,seval,t1],by simp only[wq.1,seval,t2],by simp only[wq.1,seval,t3],by simp only[wq.1,seval],by simp only[wq.1,hd],fun j hj=>by simp only[wq.1,hk j hj]⟩) ?_;clear t1 t2 t3 hd hk t1' f;rintro f ⟨t1,t2,t3,t7,hd,hk⟩;refine aj (bi (Q:=fun xe f h=>(xe= .normal/\(∀x∈c.lat,nT x=true)/\f.t 1= .lp 0 0/\f.t 2= .lp 1 0/\f.t 3= .lp 2 0/\f.t 7= .lm 3/\f.d=[]/\(∀j,j<3->f.k j=false)/\∃X,h=[BX,.cells [vi 0],.cells [.str []],N]++X)\/(∃v,xe= .pan v/\QP (.pan v) f h)) ?_ ?_)
   ·rintro xe f h (⟨rfl,hla,t1,t2,t3,t7,hd,hk,X,rfl⟩|⟨v,rfl,hq⟩)
    rotate_left
    ·exact hq
    show awp _ _ _ _ _ _ _;have n5':c.lat.find? (fun q=> !nT q)=none:=kD fun x hx=>by rw[hla x hx];rfl
    have n6:∀g,c.gates.find? (fun g=> !fB g)=some g->lQ c=(1,g.name):=fun g h=>by unfold lQ;rw[if_neg (by rw[hl];decide),n2];dsimp only;rw[hdn];dsimp only;rw[hdo];dsimp only;rw[n5'];dsimp only;rw[h]
    refine aj (bi (Q:=fun xe f h=>(xe= .normal/\(∀x∈c.gates,fB x=true)/\f.t 1= .lp 0 0/\f.t 2= .lp 1 0/\f.t 3= .lp 2 0/\f.t 7= .lm 3/\f.d=[]/\(∀j,j<3->f.k j=false)/\∃X,h=[BX,.cells [vi 0],.cells [.str []],N]++X)\/(∃v,xe= .pan v/\QP (.pan v) f h)) ?_ ?_)
    ·rintro xe f h (⟨rfl,hga,t1,t2,t3,t7,hd,hk,X,rfl⟩|⟨v,rfl,hq⟩)
     rotate_left
     ·exact hq
     show awp _ _ _ _ _ _ _;have n6':c.gates.find? (fun g=> !fB g)=none:=kD fun x hx=>by rw[hga x hx];rfl
     have n7:∀s,(gz c).find? (fun s=> !(di c).contains s)=some s->lQ c=(6,s):=fun s h=>by unfold lQ;rw[if_neg (by rw[hl];decide),n2];dsimp only;rw[hdn];dsimp only;rw[hdo];dsimp only;rw[n5'];dsimp only;rw[n6'];dsimp only;rw[h]
     refine aj (bi (Q:=fun xe f h=>(xe= .normal/\(∀x∈gz c,(di c).contains x=true)/\f.t 1= .lp 0 0/\f.t 2= .lp 1 0/\f.t 3= .lp 2 0/\f.t 7= .lm 3/\f.d=[]/\(∀j,j<3->f.k j=false)/\∃X,h=[BX,.cells [vi 0],.cells [.str []],N]++X)\/(∃v,xe= .pan v/\QP (.pan v) f h)) ?_ ?_)
     ·rintro xe f h (⟨rfl,husd,t1,t2,t3,t7,hd,hk,X,rfl⟩|⟨v,rfl,hq⟩)
      rotate_left
      ·exact hq
      show awp _ _ _ _ _ _ _;have n7':(gz c).find? (fun s=> !(di c).contains s)=none:=kD fun x hx=>by rw[husd x hx];rfl
      have n8:(gz c).find? (fun s=> !(di c).contains s)=none->lQ c=(0,[]):=fun h=>by unfold lQ;rw[if_neg (by rw[hl];decide),n2];dsimp only;rw[hdn];dsimp only;rw[hdo];dsimp only;rw[n5'];dsimp only;rw[n6'];dsimp only;rw[h]
      refine bT hmix _ _ _ _ ?_;simp only[wq.1,seval,hP,t2,t3];exact hret (n8 n7') (by simp only[wq.1,hd]) (fun j hj=>by simp only[wq.1,hk j hj]) (by simp only[wq.1,t2]) (by simp only[wq.1,t3])
     ·refine aj (bT hmix _ _ _ _ ?_);simp only[wq.1,seval,hP,t1,hBX];rw[<-hBX];refine hT (ag.ev hus (by simp only[V.dats,Bool.and_true];exact hcd) ?_);simp only[wq.1,seval,hP];refine aB ?_;refine aF (fun m f h=>∃i:Nat,m+i=(gz c).length/\i<=(gz c).length/\(∀x∈(gz c).take i,(di c).contains x=true)/\f.t 92=aV (gz c)/\f.t 93=vi (gz c).length/\f.t 94=vi i/\f.t 1= .lp 0 0/\f.t 2= .lp 1 0/\f.t 3= .lp 2 0/\f.t 7= .lm 3/\f.d=[]/\(∀j,j<3->f.k j=false)/\∃X,h=[BX,.cells [vi 0],.cells [.str []],N]++X) (gz c).length ⟨0,by omega,by omega,(fun x hx=>by simp at hx),by simp only[wq.1,seval],by simp only[wq.1,seval],by simp only[wq.1,↓reduceIte];rfl,by simp only[wq.1,seval,t1],by simp only[wq.1,seval,t2],by simp only[wq.1,seval,t3],by simp only[wq.1,seval,t7],by simp only[wq.1,hd],fun j hj=>by simp only[wq.1,hk j hj],_,rfl⟩ ?_;clear t1 t2 t3 t7 hd hk;rintro m f h ⟨i,hm,hil,hall,tA,tB,tC,t1,t2,t3,t7,hd,hk,X,rfl⟩;refine dK (h0:=[BX,.cells [vi 0],.cells [.str []],N]) (by rw[hd];simp) ?_;rw[hcl];obtain⟨f',hf'⟩:∃f',f'=f.drop (Abs.eF ([BX,.cells [vi 0],.cells [.str []],N]:H).length):=⟨_,rfl⟩;have u1:f'.t 1= .lp 0 0:=by rw[hf'];show(f.t 1).drop _=_;rw[t1];rfl
      have u2:f'.t 2= .lp 1 0:=by rw[hf'];show(f.t 2).drop _=_;rw[t2];rfl
      have u3:f'.t 3= .lp 2 0:=by rw[hf'];show(f.t 3).drop _=_;rw[t3];rfl
      have u7:f'.t 7= .lm 3:=by rw[hf'];show(f.t 7).drop _=_;rw[t7];rfl
      have uA:f'.t 92=aV (gz c):=by rw[hf'];show(f.t 92).drop _=_;rw[tA];rfl
      have uB:f'.t 93=vi (gz c).length:=by rw[hf'];show(f.t 93).drop _=_;rw[tB];rfl
      have uC:f'.t 94=vi i:=by rw[hf'];show(f.t 94).drop _=_;rw[tC];rfl
      have ud:f'.d=[]:=by rw[hf'];exact hd
      have uk:∀j,j<3->f'.k j=false:=fun j hj=>by rw[hf'];show(f.k j||Abs.eF 4 j)=false;rw[hk j hj];simp[Abs.eF];omega
      rw[<-hf'];clear hf' hd hk t1 t2 t3 t7 tA tB tC X;have hw:=az (show i<maxLen by omega);refine aj (bT hmix _ _ _ _ ?_);simp only[wq.1,Nat.reduceLT,hP,uB,uC];refine aj (bT hmix _ _ _ _ ?_);simp only[wq.1,↓reduceIte];refine vcB.mk (fun hlt=> ?_) (fun hlt=> ?_)
      ·have hlt:i<(gz c).length:=by have:=zqs hlt;omega
       have hnext:(di c).contains (gz c)[i]=true->∀x∈(gz c).take (i+1),(di c).contains x=true:=fun hb=>dD hlt hall hb;have hbadE:(di c).contains (gz c)[i]=false->(gz c).find? (fun x=> !(di c).contains x)=some (gz c)[i]:=fun hb=>oL hlt (fun x hx=>by rw[hall x hx];rfl) (by rw[hb];rfl);simp only[wq.1];obtain⟨s,hs⟩:∃s,s=(gz c)[i]:=⟨_,rfl⟩;have hgg:=Jv hlt .any;rw[<-hs]at hgg hnext hbadE;have hac:=qj (l:=di c) (s:=s);have hmg:oQ .str (.str s) ((di c).map V.str) (List.replicate (di c).length (.bool true)) (.bool false) false=(True,.bool ((di c).contains s)):=by
        rw[<-hac];simp only[oQ,bW];cases hat:at? (di c) s with
        |none=>rfl
        |some n =>
         obtain⟨g1,_⟩:=qV hat;have hg:(List.replicate (di c).length (V.bool true)).getD n .any= .bool true:=by simp[zqg,g1]
         simp only[hg];rfl
       refine aj (bT hmix _ _ _ _ ?_);simp only[wq.1,seval,hP,u7,uA,uC,hgg,hN,K.keyOk,hmg];rw[<-hN];refine⟨⟨by omega,by omega⟩,hT (iE _ 6 _ (fun hb=> ?_) (fun hb=> ?_))⟩
       ·simp only[wq.1];refine bT hmix _ _ _ _ ?_;simp only[wq.1,seval,hP,uC,hw];exact .inl ⟨m-1,by omega,i+1,by omega,by omega,hnext hb,by simp only[wq.1,seval,uA],by simp only[wq.1,seval,uB],by simp only[wq.1,↓reduceIte],by simp only[wq.1,seval,u1],by simp only[wq.1,seval,u2],by simp only[wq.1,seval,u3],by simp only[wq.1,seval,u7],by simp only[wq.1,ud],fun j hj=>by simp only[wq.1,uk j hj],_,rfl⟩
       ·simp only[wq.1,dW];simp only[XE.seq,XE.block];refine .inr ⟨_,rfl,hpan (n7 _ (hbadE hb)) (by simp only[wq.1,ud]) (fun j hj=>by simp only[wq.1,uk j hj]) (by simp only[wq.1,seval,u2]) (by simp only[wq.1,seval,u3])⟩
      ·have hi:i=(gz c).length:=by have:=of_decide_eq_false hlt;omega
       rw[hi,zrx]at hall;simp only[wq.1,seval]
       first
       |exact .inl ⟨hall,u1,u2,u3,u7,ud,uk,[],rfl⟩
       |exact .inl ⟨hall,u1,u2,u3,u7,ud,uk⟩
    ·refine aj (bT hmix _ _ _ _ ?_);simp only[wq.1,seval,hP,t1,hBX];rw[<-hBX];refine aB ?_;refine aF (fun m f h=>∃i:Nat,m+i=c.gates.length/\i<=c.gates.length/\(∀x∈(c.gates).take i,fB x=true)/\f.t 79=iZ c.gates/\f.t 80=vi c.gates.length/\f.t 81=vi i/\f.t 1= .lp 0 0/\f.t 2= .lp 1 0/\f.t 3= .lp 2 0/\f.t 7= .lm 3/\f.d=[]/\(∀j,j<3->f.k j=false)/\∃X,h=[BX,.cells [vi 0],.cells [.str []],N]++X) c.gates.length ⟨0,by omega,by omega,(fun x hx=>by simp at hx),by simp only[wq.1,seval],by simp only[wq.1,seval],by simp only[wq.1,↓reduceIte];rfl,by simp only[wq.1,seval,t1],by simp only[wq.1,seval,t2],by simp only[wq.1,seval,t3],by simp only[wq.1,seval,t7],by simp only[wq.1,hd],fun j hj=>by simp only[wq.1,hk j hj],_,rfl⟩ ?_;clear t1 t2 t3 t7 hd hk;rintro m f h ⟨i,hm,hil,hall,tA,tB,tC,t1,t2,t3,t7,hd,hk,X,rfl⟩;refine dK (h0:=[BX,.cells [vi 0],.cells [.str []],N]) (by rw[hd];simp) ?_;rw[hcl];obtain⟨f',hf'⟩:∃f',f'=f.drop (Abs.eF ([BX,.cells [vi 0],.cells [.str []],N]:H).length):=⟨_,rfl⟩;have u1:f'.t 1= .lp 0 0:=by rw[hf'];show(f.t 1).drop _=_;rw[t1];rfl
     have u2:f'.t 2= .lp 1 0:=by rw[hf'];show(f.t 2).drop _=_;rw[t2];rfl
     have u3:f'.t 3= .lp 2 0:=by rw[hf'];show(f.t 3).drop _=_;rw[t3];rfl
     have u7:f'.t 7= .lm 3:=by rw[hf'];show(f.t 7).drop _=_;rw[t7];rfl
     have uA:f'.t 79=iZ c.gates:=by rw[hf'];show(f.t 79).drop _=_;rw[tA];rfl
     have uB:f'.t 80=vi c.gates.length:=by rw[hf'];show(f.t 80).drop _=_;rw[tB];rfl
     have uC:f'.t 81=vi i:=by rw[hf'];show(f.t 81).drop _=_;rw[tC];rfl
     have ud:f'.d=[]:=by rw[hf'];exact hd
     have uk:∀j,j<3->f'.k j=false:=fun j hj=>by rw[hf'];show(f.k j||Abs.eF 4 j)=false;rw[hk j hj];simp[Abs.eF];omega
     rw[<-hf'];clear hf' hd hk t1 t2 t3 t7 tA tB tC X;have hw:=az (show i<maxLen by omega);refine aj (bT hmix _ _ _ _ ?_);simp only[wq.1,Nat.reduceLT,hP,uB,uC];refine aj (bT hmix _ _ _ _ ?_);simp only[wq.1,↓reduceIte];refine vcB.mk (fun hlt=> ?_) (fun hlt=> ?_)
     ·have hlt:i<c.gates.length:=by have:=zqs hlt;omega
      have hnext:fB (c.gates)[i]=true->∀x∈(c.gates).take (i+1),fB x=true:=fun hb=>dD hlt hall hb;have hbadE:fB (c.gates)[i]=false->(c.gates).find? (fun x=> !fB x)=some (c.gates)[i]:=fun hb=>oL hlt (fun x hx=>by rw[hall x hx];rfl) (by rw[hb];rfl);simp only[wq.1];obtain⟨g,hg⟩:∃g,g=c.gates[i]:=⟨_,rfl⟩;have hgg:=uM hlt .any;rw[<-hg]at hgg hnext hbadE;have hev:=hEv (GR g);refine aj (aB ?_);refine aj (bT hmix _ _ _ _ ?_);simp only[wq.1,seval,hP,uA,uC,hgg];refine⟨⟨by omega,by omega⟩,?_⟩;refine oD hmix (by decide +kernel) ?_;simp only[nts,List.size_toArray,zrt,List.length_nil,Nat.reduceAdd,Nat.reduceSub,List.take_succ_cons,List.take_zero];simp only[wq.1,seval,dw,dB,hP];refine F8.mk hev (by rw[hP];rfl) (by simp only[V.dats,V.dat,aG,zre]) ?_;simp only[wq.1,seval];refine hT (iE _ 1 _ (fun hb=> ?_) (fun hb=> ?_))
      ·simp only[wq.1];refine bT hmix _ _ _ _ ?_;simp only[wq.1,seval,hP,uC,hw];exact .inl ⟨m-1,by omega,i+1,by omega,by omega,hnext hb,by simp only[wq.1,seval,uA],by simp only[wq.1,seval,uB],by simp only[wq.1,↓reduceIte],by simp only[wq.1,seval,u1],by simp only[wq.1,seval,u2],by simp only[wq.1,seval,u3],by simp only[wq.1,seval,u7],by simp only[wq.1,ud],fun j hj=>by simp only[wq.1,uk j hj],_,rfl⟩
      ·simp only[wq.1,dW];simp only[XE.seq,XE.block];refine .inr ⟨_,rfl,hpan (n6 _ (hbadE hb)) (by simp only[wq.1,ud]) (fun j hj=>by simp only[wq.1,uk j hj]) (by simp only[wq.1,seval,u2]) (by simp only[wq.1,seval,u3])⟩
     ·have hi:i=c.gates.length:=by have:=of_decide_eq_false hlt;omega
      rw[hi,zrx]at hall;simp only[wq.1,seval]
      first
      |exact .inl ⟨hall,u1,u2,u3,u7,ud,uk,[],rfl⟩
      |exact .inl ⟨hall,u1,u2,u3,u7,ud,uk⟩
   ·refine aj (bT hmix _ _ _ _ ?_);simp only[wq.1,seval,hP,t1,hBX];rw[<-hBX];refine aB ?_;refine aF (fun m f h=>∃i:Nat,m+i=c.lat.length/\i<=c.lat.length/\(∀x∈(c.lat).take i,nT x=true)/\f.t 60=oK c.lat/\f.t 61=vi c.lat.length/\f.t 62=vi i/\f.t 1= .lp 0 0/\f.t 2= .lp 1 0/\f.t 3= .lp 2 0/\f.t 7= .lm 3/\f.d=[]/\(∀j,j<3->f.k j=false)/\∃X,h=[BX,.cells [vi 0],.cells [.str []],N]++X) c.lat.length ⟨0,by omega,by omega,(fun x hx=>by simp at hx),by simp only[wq.1,seval],by simp only[wq.1,seval],by simp only[wq.1,↓reduceIte];rfl,by simp only[wq.1,seval,t1],by simp only[wq.1,seval,t2],by simp only[wq.1,seval,t3],by simp only[wq.1,seval,t7],by simp only[wq.1,hd],fun j hj=>by simp only[wq.1,hk j hj],_,rfl⟩ ?_;clear t1 t2 t3 t7 hd hk;rintro m f h ⟨i,hm,hil,hall,tA,tB,tC,t1,t2,t3,t7,hd,hk,X,rfl⟩;refine dK (h0:=[BX,.cells [vi 0],.cells [.str []],N]) (by rw[hd];simp) ?_;rw[hcl];obtain⟨f',hf'⟩:∃f',f'=f.drop (Abs.eF ([BX,.cells [vi 0],.cells [.str []],N]:H).length):=⟨_,rfl⟩;have u1:f'.t 1= .lp 0 0:=by rw[hf'];show(f.t 1).drop _=_;rw[t1];rfl
    have u2:f'.t 2= .lp 1 0:=by rw[hf'];show(f.t 2).drop _=_;rw[t2];rfl
    have u3:f'.t 3= .lp 2 0:=by rw[hf'];show(f.t 3).drop _=_;rw[t3];rfl
    have u7:f'.t 7= .lm 3:=by rw[hf'];show(f.t 7).drop _=_;rw[t7];rfl
    have uA:f'.t 60=oK c.lat:=by rw[hf'];show(f.t 60).drop _=_;rw[tA];rfl
    have uB:f'.t 61=vi c.lat.length:=by rw[hf'];show(f.t 61).drop _=_;rw[tB];rfl
    have uC:f'.t 62=vi i:=by rw[hf'];show(f.t 62).drop _=_;rw[tC];rfl
    have ud:f'.d=[]:=by rw[hf'];exact hd
    have uk:∀j,j<3->f'.k j=false:=fun j hj=>by rw[hf'];show(f.k j||Abs.eF 4 j)=false;rw[hk j hj];simp[Abs.eF];omega
    rw[<-hf'];clear hf' hd hk t1 t2 t3 t7 tA tB tC X;have hw:=az (show i<maxLen by omega);refine aj (bT hmix _ _ _ _ ?_);simp only[wq.1,Nat.reduceLT,hP,uB,uC];refine aj (bT hmix _ _ _ _ ?_);simp only[wq.1,↓reduceIte];refine vcB.mk (fun hlt=> ?_) (fun hlt=> ?_)
    ·have hlt:i<c.lat.length:=by have:=zqs hlt;omega
     have hnext:nT (c.lat)[i]=true->∀x∈(c.lat).take (i+1),nT x=true:=fun hb=>dD hlt hall hb;have hbadE:nT (c.lat)[i]=false->(c.lat).find? (fun x=> !nT x)=some (c.lat)[i]:=fun hb=>oL hlt (fun x hx=>by rw[hall x hx];rfl) (by rw[hb];rfl);simp only[wq.1];obtain⟨q,hq⟩:∃q,q=c.lat[i]:=⟨_,rfl⟩;have hgg:=Fa hlt .any;rw[<-hq]at hgg hnext hbadE;have eI:(decide (0<=q.init)&&decide (q.init<=2))=nT q:=rfl;refine aj (bT hmix _ _ _ _ ?_);simp only[wq.1,seval,hP,uA,uC,hgg,eI];refine⟨⟨by omega,by omega⟩,hT (iE _ 1 _ (fun hb=> ?_) (fun hb=> ?_))⟩
     ·simp only[wq.1];refine bT hmix _ _ _ _ ?_;simp only[wq.1,seval,hP,uC,hw];exact .inl ⟨m-1,by omega,i+1,by omega,by omega,hnext hb,by simp only[wq.1,seval,uA],by simp only[wq.1,seval,uB],by simp only[wq.1,↓reduceIte],by simp only[wq.1,seval,u1],by simp only[wq.1,seval,u2],by simp only[wq.1,seval,u3],by simp only[wq.1,seval,u7],by simp only[wq.1,ud],fun j hj=>by simp only[wq.1,uk j hj],_,rfl⟩
     ·simp only[wq.1,dW];simp only[XE.seq,XE.block];refine .inr ⟨_,rfl,hpan (n5 _ (hbadE hb)) (by simp only[wq.1,ud]) (fun j hj=>by simp only[wq.1,uk j hj]) (by simp only[wq.1,seval,u2]) (by simp only[wq.1,seval,u3])⟩
    ·have hi:i=c.lat.length:=by have:=of_decide_eq_false hlt;omega
     rw[hi,zrx]at hall;simp only[wq.1,seval]
     first
     |exact .inl ⟨hall,u1,u2,u3,u7,ud,uk,[],rfl⟩
     |exact .inl ⟨hall,u1,u2,u3,u7,ud,uk⟩
  ·refine aj (bT hmix _ _ _ _ ?_);simp only[wq.1,seval,hP,hBX];rw[<-hBX];refine hT (ag.ev htd (by simp only[V.dats,Bool.and_true];exact hcd) ?_);simp only[wq.1,seval,hP];refine aB ?_;refine aF (fun m f h=>∃i:Nat,m+i=(iD c).length/\i<=(iD c).length/\(∀x∈(iD c).take i,aT x=true)/\f.t 42=aV (iD c)/\f.t 43=vi (iD c).length/\f.t 44=vi i/\f.t 1= .lp 0 0/\f.t 2= .lp 1 0/\f.t 3= .lp 2 0/\f.d=[]/\(∀j,j<3->f.k j=false)/\h=[BX,.cells [vi 0],.cells [.str []]]) (iD c).length ⟨0,by omega,by omega,(fun x hx=>by simp at hx),by simp only[wq.1,seval],by simp only[wq.1,seval],by simp only[wq.1,↓reduceIte];rfl,by simp only[wq.1,seval],by simp only[wq.1,seval],by simp only[wq.1,seval],by simp only[wq.1],fun j hj=>by simp only[wq.1],rfl⟩ ?_;rintro m f h ⟨i,hm,hil,hall,uA,uB,uC,u1,u2,u3,ud,uk,rfl⟩;have hw:=az (show i<maxLen by omega);refine aj (bT hmix _ _ _ _ ?_);simp only[wq.1,Nat.reduceLT,hP,uB,uC];refine aj (bT hmix _ _ _ _ ?_);simp only[wq.1,↓reduceIte];refine vcB.mk (fun hlt=> ?_) (fun hlt=> ?_)
   ·have hlt:i<(iD c).length:=by have:=zqs hlt;omega
    have hin:=uU (iD c)[i];simp only[wq.1];refine aj (bT hmix _ _ _ _ ?_);simp only[wq.1,seval,hP,uA,uC,Jv hlt];refine⟨⟨by omega,by omega⟩,hT (ag.ev hin rfl ?_)⟩;simp only[wq.1,seval,hP];refine hT (iE _ 4 _ (fun hb=> ?_) (fun hb=> ?_))
    ·simp only[wq.1];refine bT hmix _ _ _ _ ?_;simp only[wq.1,seval,hP,uC,hw];exact .inl ⟨m-1,by omega,i+1,by omega,by omega,dD hlt hall hb,by simp only[wq.1,seval,uA],by simp only[wq.1,seval,uB],by simp only[wq.1,↓reduceIte],by simp only[wq.1,seval,u1],by simp only[wq.1,seval,u2],by simp only[wq.1,seval,u3],by simp only[wq.1,ud],fun j hj=>by simp only[wq.1,uk j hj],rfl⟩
    ·simp only[wq.1,dW];simp only[XE.seq,XE.block];refine .inr ⟨_,rfl,hpan (n1 _ (oL hlt (fun x hx=>by rw[hall x hx];rfl) (by rw[hb];rfl))) (by simp only[wq.1,ud]) (fun j hj=>by simp only[wq.1,uk j hj]) (by simp only[wq.1,seval,u2]) (by simp only[wq.1,seval,u3])⟩
   ·have hi:i=(iD c).length:=by have:=of_decide_eq_false hlt;omega
    rw[hi,zrx]at hall;simp only[wq.1,seval];exact .inl ⟨hall,u1,u2,u3,ud,uk⟩
 ·simp only[wq.1,dW];simp only[XE.seq];exact hpan (n0 hl) (by simp only[wq.1]) (fun j hj=>by simp only[wq.1]) (by simp only[wq.1,seval]) (by simp only[wq.1,seval])
abbrev nv(k:Nat):V:=vi (k:Int)
abbrev cO(l:List Nat):List V:=l.map nv
theorem Dp{x:Bool}{id k off:Nat}:VLe (.is true k []) (.ls id k off 0 0):=fun c x h=>by simp only[VRel]at h ⊢;obtain⟨a,cp,h1,h2,h3,h4,_⟩:=h;simp only[true_imp_iff,forall_const]at h4;simp only[List.length_nil]at h1 h4;subst h4;exact⟨a,0,h1,zrb _,zrb _,Nat.zero_le _,.inl rfl⟩
theorem bz{p:Nat->Bool}:∀l:List Nat,V.drops p (cO l)=cO l
 |[]=>rfl
 |a::l=>by show V.drop p (nv a)::V.drops p (cO l)=_;rw[bz l];rfl
theorem Va{l:List Nat}{i:Nat}(h:i<l.length)(d:V):(cO l).getD i d=nv (l.getD i 0):=by rw[dL h,zqg,zqk h];rfl
theorem GY{l:List Nat}{i:Nat}{v:Nat}(h:i<l.length):List.take (i*1) (cO l)++[nv v]++List.drop (i*1+1) (cO l)=cO (l.set i v):=by have e:cO (l.set i v)=(cO l).set i (nv v):=List.map_set ..;rw[Nat.mul_one,e,List.set_eq_take_append_cons_drop,if_pos (by simpa using h),zqc];rfl
theorem ML{l:List Nat}{i:Nat}(h:i<l.length)(d:V):(cO l).getD (i*1) d=nv (l.getD i 0):=by rw[Nat.mul_one];exact Va h d
structure HPi(P Q:Nat)(l:List Nat)(h:H):Prop where
 p:h[P]? =some (.cells [.ls Q 1 0 l.length l.length])
 q:h[Q]? =some (.cells (cO l))
 ne:P≠Q
theorem HPi.set{P Q:Nat}{l l':List Nat}{h:H}(k:HPi P Q l h)(hl:l'.length=l.length):HPi P Q l' (h.set Q (.cells (cO l'))) where
 p:=by rw[zqn k.ne.symm,k.p,hl]
 q:=zqt (zqe k.q).1
 ne:=k.ne
theorem MM [MO] {h : H} {s off : Nat} : UD TE h 170 (.lp s off) "Push" 206 (.lp s off) := by intro ok pl w x hs hx;have hx' := hx;simp only [VRel] at hx;obtain ⟨b, hb, rfl⟩ := hx;exact ⟨_, by kernel_rfl, hx'⟩
theorem Qj [MO] {h : H} {s off : Nat} : UD TE h 170 (.lp s off) "Pop" 205 (.lp s off) := by intro ok pl w x hs hx;have hx' := hx;simp only [VRel] at hx;obtain ⟨b, hb, rfl⟩ := hx;exact ⟨_, by kernel_rfl, hx'⟩
theorem MN [MO] (b off : Nat) (w : World) : ∀ (name : String) (g : FuncId), (name = "Len" ∧ g = 103) ∨ (name = "Less" ∧ g = 204) ∨ (name = "Swap" ∧ g = 207) →
 (Go.method (TE.P.types.size+Made.depth) 170 (.pointer (some ⟨b,off,none⟩)) name).run TE.P w=(do let v <-Instr.loadAt 171 (.pointer (some ⟨b,off,none⟩));pure (g,v):Sem (FuncId×Value)).run TE.P w:=by
 rintro name g (⟨rfl,rfl⟩|⟨rfl,rfl⟩|⟨rfl,rfl⟩)<;>kernel_rfl
theorem fD[MO]{h:H}{P Q:Nat}{l:List Nat}(k:HPi P Q l h){name:String}{g:FuncId}
 (hn : (name = "Len" ∧ g = 103) ∨ (name = "Less" ∧ g = 204) ∨ (name = "Swap" ∧ g = 207)) : UD TE h 170 (.lp P 0) name g (.ls Q 1 0 l.length l.length) := by
 intro ok pl w v hs hx;have hl:=vG (P:=TE.P) hs (t:=171) hx;have hp:vF TE.P h 171 (.lp P 0)=((0+1<=[V.ls Q 1 0 l.length l.length].length/\(true=true)),.ls Q 1 0 l.length l.length):=by
  have hh:dN h P=[V.ls Q 1 0 l.length l.length]:=by simp only[dN,k.p]
  simp only[vF,TEP,tis,hh,V.sub,TI.agg,cond_false,implies_true];rfl
 rw[hp]at hl;obtain⟨y,h1,h2⟩:=hl ⟨zrb 1,rfl⟩;simp only[VRel]at hx;obtain⟨b,hb,rfl⟩:=hx;refine⟨y,?_,h2⟩;rw[MN b 0 w name g hn];simp only[Sem.run_bind];have h1':(Instr.loadAt 171 (.pointer (some ⟨b,0,none⟩))).run TE.P w= .ok y w:=h1;rw[h1'];rfl
theorem sV[MO]{Q n c:Nat}{h:H}{R:AEnd->H->(Nat->Bool)->Prop}(hr:R (.ret (vi n)) h (fun _=>false)):ag TE 103 [.ls Q 1 0 n c] h R:=by refine ax Tryz.func103 rfl (by simp[nts]) (vm ?_);simp only[wq.1,seval,Tryz.results103];exact hr
theorem jP[MO]{Q:Nat}{l:List Nat}{h:H}(hq:h[Q]? =some (.cells (cO l))){i k:Nat}(hi:i<l.length)(hk:k<l.length){R:AEnd->H->(Nat->Bool)->Prop}
 (hr:R (.ret (.bool (decide (l.getD i 0<l.getD k 0)))) h (fun _=>false)):ag TE 204 [.ls Q 1 0 l.length l.length,vi i,vi k] h R:=by
 have e:decide (((l.getD i 0:Nat):Int)<((l.getD k 0:Nat):Int))=decide (l.getD i 0<l.getD k 0):=decide_eq_decide.2 (by omega);refine ax Tryz.func204 rfl (by simp[nts]) (vm ?_);simp only[wq.1,seval,Tryz.results204,hq,ML hi,ML hk,e];exact⟨by decide +kernel,⟨by omega,by omega⟩,by omega,⟨by omega,by omega⟩,by omega,hr⟩
def MQ:Plan:=tkZ [0,1,2,3,4,5,6,8,9,10]<| .alt 7 (.one 11<| .take 12<| .one 13<| .take 14<| .one 15<| .fin) (.one 11 (.one 7<| .take 12<| .one 13<| .take 14<| .one 15<| .fin))
theorem jQ[MO]{Q:Nat}{l:List Nat}{h:H}(hq:h[Q]? =some (.cells (cO l))){i k:Nat}(hi:i<l.length)(hk:k<l.length){R:AEnd->H->(Nat->Bool)->Prop}
 (hr:R (.ret (.tup [])) (h.set Q (.cells (cO (oW l i k)))) (fun _=>false)):ag TE 207 [.ls Q 1 0 l.length l.length,vi i,vi k] h R:=by
 have hxl:Q<h.length:=(zqe hq).1;have n1:=GY (v:=l.getD k 0) hi;have n2:=GY (l:=l.set i (l.getD k 0)) (v:=l.getD i 0) (i:=k) (by simpa using hk);refine ax Tryz.func207 rfl (by simp[nts]) (vm ?_);simp only[wq.1,Tryz.results207];refine gQ mixed MQ (fun f' h'=>f'.d=[]/\(∀j,f'.k j=false)/\h'=h.set Q (.cells (cO (oW l i k)))) (by rw[show TE.P=P from rfl];decide +kernel) (by decide +kernel) ?_ ?_
 ·simp only[wq.1,seval,MQ,hq,ML hi,ML hk,n1,n2,zqt,hxl,zrn,List.set_set];have hsw:(l.set i (l.getD k 0)).set k (l.getD i 0)=oW l i k:=rfl;rw[hsw]
  and_intros<;>first|omega|rfl
 ·rintro f h ⟨hd,hkf,rfl⟩;simp only[wq.1,hd];have:f.k=fun _=>false:=funext hkf;rw[this];exact hr
theorem Ro:∀(f:Nat)(l:List Nat)(j:Nat),(upP f l j).length=l.length
 |0,_,_=>rfl
 |f+1,l,j=>by
  unfold upP;split
  ·rfl
  ·rw[Ro f,gV]
theorem MR[MO]{P Q:Nat}{l:List Nat}{h:H}(k:HPi P Q l h)(hb:l.length<=1000000){j f:Nat}(hj:j<l.length)(hf:j<f){R:AEnd->H->(Nat->Bool)->Prop}
 (hr:R (.ret (.tup [])) (h.set Q (.cells (cO (upP f l j)))) (fun _=>false)):ag TE 128 [.iface 170 (.lp P 0),vi j] h R:=by
 have hM:=mLx;obtain⟨U,hU⟩:∃U,U=upP f l j:=⟨_,rfl⟩;rw[<-hU]at hr;have h0:h=h.set Q (.cells (cO l)):=by have hq:=k.q;obtain⟨h1,h2⟩:=zqe hq;rw[<-h2,List.set_getElem_self]
 refine ax Tryz.func128 rfl (by simp [nts]) (vm ?_);simp only [wq.1,↓reduceIte,Nat.reduceEqDiff,Nat.reduceLT,Nat.reduceLeDiff,Nat.reduceAdd,Nat.reduceSub,Int.reduceToNat,Nat.reduceDiv,Int.reduceLT,Int.reduceLE,Int.reduceNeg,Int.reduceBEq,Int.reduceBNe,Int.reduceAdd,Int.reduceSub,Nat.reduceBEq,reduceCtorEq,Nat.reduceMul,ak,Tryz.results128];refine aF (fun m fr h' => ∃ (l' : List Nat) (j f : Nat),m = j /\ j < l'.length /\ l'.length = l.length /\ j < f /\ U = upP f l' j /\ fr.t 0 = .iface 170 (.lp P 0) /\ fr.t 1 = vi j /\ fr.d = [] /\ (∀ j,fr.k j = false) /\ h' = h.set Q (.cells (cO l'))) j
  ⟨l,j,f,rfl,hj,rfl,hf,hU,rfl,rfl,rfl,fun _=>rfl,h0⟩ ?_
 rintro m fr h' ⟨l',j,f,rfl,hj,hl,hf,hU,t0,t1,hd,hkf,rfl⟩;have hk':=k.set hl;have hkf':fr.k=fun _=>false:=funext hkf;obtain⟨f,rfl⟩:∃f',f=f'+1:=⟨f-1,by omega⟩;rw[upP]at hU;refine vm ?_;by_cases hm:m=0
 ·subst hm;have hq:IntKind.i64.wrap ((IntKind.i64.wrap (((0:Nat):Int)-1)).tdiv 2)=0:=by decide
  have hz:((0:Int)==((0:Nat):Int))=true:=rfl;rw[if_pos (.inl rfl)]at hU;simp only[wq.1,↓reduceIte,Nat.reduceEqDiff,Nat.reduceLT,Nat.reduceLeDiff,Nat.reduceAdd,Nat.reduceSub,Int.reduceToNat,Nat.reduceDiv,Int.reduceLT,Int.reduceLE,Int.reduceNeg,Int.reduceBEq,Int.reduceBNe,Int.reduceAdd,Int.reduceSub,Nat.reduceBEq,reduceCtorEq,Nat.reduceMul,ak,Tryz.results128,t0,t1,hd,hq,hz];refine⟨by decide,.bool false,?_⟩;simp only[wq.1,↓reduceIte,Nat.reduceEqDiff,Nat.reduceLT,Nat.reduceLeDiff,Nat.reduceAdd,Nat.reduceSub,Int.reduceToNat,Nat.reduceDiv,Int.reduceLT,Int.reduceLE,Int.reduceNeg,Int.reduceBEq,Int.reduceBNe,Int.reduceAdd,Int.reduceSub,Nat.reduceBEq,reduceCtorEq,Nat.reduceMul,ak,Tryz.results128,t0,t1,hd,hq,hz,hkf'];rw[hU]at hr;exact hr
 ·have hq:IntKind.i64.wrap ((IntKind.i64.wrap ((m:Int)-1)).tdiv 2)=(((m-1)/2:Nat):Int):=by rw[iw (n:=(m:Int)-1) (by omega) (by omega),show(m:Int)-1=((m-1:Nat):Int) by omega,show((m-1:Nat):Int).tdiv 2=(((m-1)/2:Nat):Int)from rfl,iw (by omega) (by omega)]
  have hne:((((m-1)/2:Nat):Int)==(m:Int))=false:=by rw[beq_eq_false_iff_ne];omega
  simp only[wq.1,↓reduceIte,Nat.reduceEqDiff,Nat.reduceLT,reduceCtorEq,t0,t1,hq,hne];refine⟨by decide,?_⟩;refine bV rfl (t:=170) (v:= .lp P 0) (v':= .ls Q 1 0 l'.length l'.length) (g:=204) (by simp only[wq.1,seval]) (by simp only[wq.1,↓reduceIte,Nat.reduceEqDiff,dE,iU]) (fD hk' (.inr (.inl ⟨rfl,rfl⟩))) (by simp only[wq.1]) ?_;simp only[wq.1,seval];refine jP hk'.q hj (by omega) ?_;by_cases hlt:l'.getD m 0<l'.getD ((m-1)/2) 0
  ·rw[if_neg (by omega)]at hU;simp only[wq.1,seval,t0,t1,decide_eq_true hlt];refine bV rfl (t:=170) (v:= .lp P 0) (v':= .ls Q 1 0 l'.length l'.length) (g:=207) (by simp only[wq.1,seval]) (by simp only[wq.1,seval,dE,iU]) (fD hk' (.inr (.inr ⟨rfl,rfl⟩))) (by simp only[wq.1]) ?_;simp only[wq.1,seval];refine jQ hk'.q (by omega) hj ?_;simp only[wq.1,seval];exact .inl ⟨(m-1)/2,by omega,oW l' ((m-1)/2) m,(m-1)/2,f,rfl,by rw[gV];omega,by rw[gV,hl],by omega,hU,by simp only[wq.1,seval,t0],by simp only[wq.1,↓reduceIte],by simp only[wq.1,hd],hkf,by rw[List.set_set]⟩
  ·rw[if_pos (.inr hlt)]at hU;simp only[wq.1,seval,hd,decide_eq_false hlt];rw[hkf'];rw[hU]at hr;exact hr
theorem Fg[MO]{P Q:Nat}{l:List Nat}{h:H}(k:HPi P Q l h)(hb:l.length<=1000000){m f:Nat}(hm:m<=l.length)(hf:m<=f)(hf1:0<f){R:AEnd->H->(Nat->Bool)->Prop}
 (hr:∀b,R (.ret (.bool b)) (h.set Q (.cells (cO (zW f l 0 m)))) (fun _=>false)):ag TE 129 [.iface 170 (.lp P 0),vi 0,vi m] h R:=by
 have hM:=mLx;obtain⟨U,hU⟩:∃U,U=zW f l 0 m:=⟨_,rfl⟩;rw[<-hU]at hr;have h0:h=h.set Q (.cells (cO l)):=by have hq:=k.q;obtain⟨h1,h2⟩:=zqe hq;rw[<-h2,List.set_getElem_self]
 refine ax Tryz.func129 rfl (by simp [nts]) (vm ?_);simp only [wq.1,seval,Tryz.results129];refine aF (fun mm fr h' => ∃ (l' : List Nat) (i f : Nat),mm = m - i /\ l'.length = l.length /\ m - i <= f /\ 0 < f /\ U = zW f l' i m /\ fr.t 0 = .iface 170 (.lp P 0) /\ fr.t 1 = vi 0 /\ fr.t 2 = vi m /\ fr.t 7 = vi i /\ i <= m /\ fr.d = [] /\ (∀ j,fr.k j = false) /\ h' = h.set Q (.cells (cO l'))) m
  ⟨l,0,f,rfl,rfl,by omega,hf1,hU,rfl,rfl,rfl,rfl,Nat.zero_le _,rfl,fun _=>rfl,h0⟩ ?_
 rintro mm fr h' ⟨l',i,f,hmm,hl,hf,hf1,hU,t0,t1,t2,t7,hi,hd,hkf,rfl⟩;have hk':=k.set hl;have hkf':fr.k=fun _=>false:=funext hkf;obtain⟨f,rfl⟩:∃f',f=f'+1:=⟨f-1,by omega⟩;rw[zW]at hU;have w1:IntKind.i64.wrap (2*(i:Int))=((2*i:Nat):Int):=by rw[iw (by omega) (by omega)];omega
 have w2:IntKind.i64.wrap (((2*i:Nat):Int)+1)=((2*i+1:Nat):Int):=by rw[iw (by omega) (by omega)];omega
 have w3:IntKind.i64.wrap (((2*i+1:Nat):Int)+1)=((2*i+2:Nat):Int):=by rw[iw (by omega) (by omega)];omega
 have z1:decide (((2*i+1:Nat):Int)<0)=false:=by rw[zqd];omega
 refine vm ?_;by_cases hge:m<=2*i+1
 ·have e1:decide ((m:Int)<=((2*i+1:Nat):Int))=true:=by rw[zqb];omega
  rw[if_pos (.inl hge)]at hU;simp only[wq.1,seval,t1,t2,t7,hd,w1,w2,e1,hkf'];rw[hU]at hr;exact hr _
 ·have e1:decide ((m:Int)<=((2*i+1:Nat):Int))=false:=by rw[zqd];omega
  by_cases hlt:2*i+2<m
  ·have e2:decide (((2*i+2:Nat):Int)<(m:Int))=true:=by rw[zqb];omega
   simp only[wq.1,seval,t0,t2,t7,w1,w2,w3,e1,z1,e2];refine bV rfl (t:=170) (v:= .lp P 0) (v':= .ls Q 1 0 l'.length l'.length) (g:=204) (by simp only[wq.1,seval]) (by simp only[wq.1,seval,dE,iU]) (fD hk' (.inr (.inl ⟨rfl,rfl⟩))) (by simp only[wq.1]) ?_;simp only[wq.1,seval];refine jP hk'.q (by omega) (by omega) ?_;by_cases hc:l'.getD (2*i+2) 0<l'.getD (2*i+1) 0
   ·have hkid:Gq l' i m=2*i+2:=by unfold Gq;rw[if_pos ⟨hlt,hc⟩]
    rw[hkid]at hU;simp only[wq.1,seval,t0,t7,decide_eq_true hc];refine bV rfl (t:=170) (v:= .lp P 0) (v':= .ls Q 1 0 l'.length l'.length) (g:=204) (by simp only[wq.1,seval]) (by simp only[wq.1,seval,dE,iU]) (fD hk' (.inr (.inl ⟨rfl,rfl⟩))) (by simp only[wq.1]) ?_;simp only[wq.1,seval];refine jP hk'.q (i:=2*i+2) (k:=i) (by omega) (by omega) ?_;by_cases hsw:l'.getD (2*i+2) 0<l'.getD i 0
    ·rw[if_neg (by omega)]at hU;simp only[wq.1,seval,t0,t7,decide_eq_true hsw];refine bV rfl (t:=170) (v:= .lp P 0) (v':= .ls Q 1 0 l'.length l'.length) (g:=207) (by simp only[wq.1,seval]) (by simp only[wq.1,seval,dE,iU]) (fD hk' (.inr (.inr ⟨rfl,rfl⟩))) (by simp only[wq.1]) ?_;simp only[wq.1,seval];refine jQ hk'.q (i:=i) (k:=2*i+2) (by omega) (by omega) ?_;simp only[wq.1,seval];exact .inl ⟨m-(2*i+2),by omega,oW l' i (2*i+2),2*i+2,f,rfl,by rw[gV,hl],by omega,by omega,hU,by simp only[wq.1,seval,t0],by simp only[wq.1,seval,t1],by simp only[wq.1,seval,t2],by simp only[wq.1,↓reduceIte],by omega,by simp only[wq.1,hd],hkf,by rw[List.set_set]⟩
    ·rw[if_pos (.inr hsw)]at hU;simp only[wq.1,seval,t1,t7,hd,decide_eq_false hsw];rw[hkf'];rw[hU]at hr;exact hr _
   ·have hkid:Gq l' i m=2*i+1:=by unfold Gq;rw[if_neg (fun h=>hc h.2)]
    rw[hkid]at hU;simp only[wq.1,seval,t0,t7,decide_eq_false hc];refine bV rfl (t:=170) (v:= .lp P 0) (v':= .ls Q 1 0 l'.length l'.length) (g:=204) (by simp only[wq.1,seval]) (by simp only[wq.1,seval,dE,iU]) (fD hk' (.inr (.inl ⟨rfl,rfl⟩))) (by simp only[wq.1]) ?_;simp only[wq.1,seval];refine jP hk'.q (i:=2*i+1) (k:=i) (by omega) (by omega) ?_;by_cases hsw:l'.getD (2*i+1) 0<l'.getD i 0
    ·rw[if_neg (by omega)]at hU;simp only[wq.1,seval,t0,t7,decide_eq_true hsw];refine bV rfl (t:=170) (v:= .lp P 0) (v':= .ls Q 1 0 l'.length l'.length) (g:=207) (by simp only[wq.1,seval]) (by simp only[wq.1,seval,dE,iU]) (fD hk' (.inr (.inr ⟨rfl,rfl⟩))) (by simp only[wq.1]) ?_;simp only[wq.1,seval];refine jQ hk'.q (i:=i) (k:=2*i+1) (by omega) (by omega) ?_;simp only[wq.1,seval];exact .inl ⟨m-(2*i+1),by omega,oW l' i (2*i+1),2*i+1,f,rfl,by rw[gV,hl],by omega,by omega,hU,by simp only[wq.1,seval,t0],by simp only[wq.1,seval,t1],by simp only[wq.1,seval,t2],by simp only[wq.1,↓reduceIte],by omega,by simp only[wq.1,hd],hkf,by rw[List.set_set]⟩
    ·rw[if_pos (.inr hsw)]at hU;simp only[wq.1,seval,t1,t7,hd,decide_eq_false hsw];rw[hkf'];rw[hU]at hr;exact hr _
  ·have e2:decide (((2*i+2:Nat):Int)<(m:Int))=false:=by rw[zqd];omega
   have hkid:Gq l' i m=2*i+1:=by unfold Gq;rw[if_neg (fun h=>hlt h.1)]
   rw[hkid]at hU;simp only[wq.1,seval,t0,t2,t7,w1,w2,w3,e1,z1,e2];refine⟨.bool false,?_⟩;simp only[wq.1,seval,t0,t7];refine bV rfl (t:=170) (v:= .lp P 0) (v':= .ls Q 1 0 l'.length l'.length) (g:=204) (by simp only[wq.1,seval]) (by simp only[wq.1,seval,dE,iU]) (fD hk' (.inr (.inl ⟨rfl,rfl⟩))) (by simp only[wq.1]) ?_;simp only[wq.1,seval];refine jP hk'.q (i:=2*i+1) (k:=i) (by omega) (by omega) ?_;by_cases hsw:l'.getD (2*i+1) 0<l'.getD i 0
   ·rw[if_neg (by omega)]at hU;simp only[wq.1,seval,t0,t7,decide_eq_true hsw];refine bV rfl (t:=170) (v:= .lp P 0) (v':= .ls Q 1 0 l'.length l'.length) (g:=207) (by simp only[wq.1,seval]) (by simp only[wq.1,seval,dE,iU]) (fD hk' (.inr (.inr ⟨rfl,rfl⟩))) (by simp only[wq.1]) ?_;simp only[wq.1,seval];refine jQ hk'.q (i:=i) (k:=2*i+1) (by omega) (by omega) ?_;simp only[wq.1,seval];exact .inl ⟨m-(2*i+1),by omega,oW l' i (2*i+1),2*i+1,f,rfl,by rw[gV,hl],by omega,by omega,hU,by simp only[wq.1,seval,t0],by simp only[wq.1,seval,t1],by simp only[wq.1,seval,t2],by simp only[wq.1,↓reduceIte],by omega,by simp only[wq.1,hd],hkf,by rw[List.set_set]⟩
   ·rw[if_pos (.inr hsw)]at hU;simp only[wq.1,seval,t1,t7,hd,decide_eq_false hsw];rw[hkf'];rw[hU]at hr;exact hr _
def Dq:Plan:=tkZ [0,1,2,4]<| .alt 3 (onZ [5,6,7]<| .take 8<| .one 9<| .fin) (.one 5 (.alt 3 (.one 6<| .one 7<| .take 8<| .one 9<| .fin) (.one 6 (.one 3<| .one 7<| .take 8<| .one 9<| .fin))))
def ql(P Q:Nat)(h:H)(l:List Nat):H:=((h.map (O.drop fun x=>x==Q)).set Q (.cells (cO l))).set P (.cells [.ls Q 1 0 l.length l.length])
theorem HPi.push{P Q:Nat}{l:List Nat}{h:H}(k:HPi P Q l h)(l':List Nat):HPi P Q l' (ql P Q h l') where
 p:=by unfold ql;rw[zqt (by simp;exact(zqe k.p).1)]
 q:=by unfold ql;rw[zqn k.ne,zqt (by simp;exact(zqe k.q).1)]
 ne:=k.ne
theorem MS{P Q:Nat}{l l':List Nat}{h:H}(hne:P≠Q)(hl:l'.length=l.length):(ql P Q h l).set Q (.cells (cO l'))=ql P Q h l':=by unfold ql;rw[List.set_comm _ _ hne,List.set_set,hl]
theorem Fh[MO]{P Q:Nat}{l:List Nat}{h:H}(k:HPi P Q l h)(hb:l.length<=1000000)(x:Nat){R:AEnd->H->(Nat->Bool)->Prop}
 (hr:R (.ret (.tup [])) (ql P Q h (l++[x])) (fun i=>i==Q)):ag TE 206 [.lp P 0,.iface 3 (nv x)] h R:=by
 have hM:=mLx;have hp:=k.p;have hq:=k.q;have hpl:=(zqe hp).1;have hql:=(zqe hq).1;have hne:=k.ne;have hne':=hne.symm;have b1:(P==Q)=false:=by simp[hne]
 have hp':(h.map (O.drop fun i=>i==Q))[P]? =some (.cells [.any]):=by rw[zqo,hp];simp[O.drop,V.drops,V.drop]
 have hmap:∀l:List Nat,V.drops (fun i=>i==Q) (cO l)=cO l:=fun l=>bz l;refine ax Tryz.func206 rfl (by simp[nts]) (vm ?_);simp only[wq.1,Tryz.results206];refine gQ mixed Dq (fun f' h'=>f'.d=[]/\f'.k=(fun i=>i==Q)/\h'=ql P Q h (l++[x])) (by rw[TEP];decide +kernel) (by decide +kernel) ?_ ?_
 ·simp only[wq.1,↓reduceIte,Nat.reduceEqDiff,Nat.reduceLT,reduceCtorEq,Nat.reduceMul,Dq,hp,hp',hq,zqn,ne_eq,not_false_eq_true,hne',b1,hmap];have e:cO l++[nv x]=cO (l++[x]):=by simp
  rw[e];refine⟨⟨rfl,by decide⟩,⟨by omega,by omega,by omega⟩,?_⟩;unfold ql;simp
 ·rintro f h' ⟨hd,hkf,rfl⟩;simp only[wq.1,hd,hkf];exact hr
theorem xh[MO]{P Q:Nat}{l:List Nat}{h:H}(k:HPi P Q l h)(hb:l.length<=900000)(x:Nat){R:AEnd->H->(Nat->Bool)->Prop}
 (hr:R (.ret (.tup [])) (ql P Q h (Cm l x)) (fun i=>i==Q)):ag TE 102 [.iface 170 (.lp P 0),.iface 3 (nv x)] h R:=by
 have hM:=mLx;have hne:=k.ne;have b1:(P==Q)=false:=by simp[hne]
 have k1:=k.push (l++[x]);refine ax Tryz.func102 rfl (by simp[nts]) (vm ?_);simp only[wq.1,seval,Tryz.results102];refine bV rfl (t:=170) (v:= .lp P 0) (v':= .lp P 0) (g:=206) (by simp only[wq.1,seval]) (by simp only[wq.1,seval,dE,iU]) MM (by simp only[wq.1]) ?_;simp only[wq.1,↓reduceIte];refine Fh k (by omega) x ?_;simp only[wq.1,seval,bn,b1];refine bV rfl (t:=170) (v:= .lp P 0) (v':= .ls Q 1 0 (l++[x]).length (l++[x]).length) (g:=103) (by simp only[wq.1,↓reduceIte]) (by simp only[wq.1,↓reduceIte,dE]) (fD k1 (.inl ⟨rfl,rfl⟩)) (by simp only[wq.1]) ?_;simp only[wq.1];refine sV ?_;have hw:IntKind.i64.wrap (((l.length+1:Nat):Int)-1)=(l.length:Int):=by rw[iw (by omega) (by omega)];omega
 simp only[wq.1,seval,hw];refine MR k1 (by simp;omega) (j:=l.length) (f:=l.length+1) (by simp) (by omega) ?_;simp only[wq.1];rw[MS hne (Ro _ _ _)];exact hr
def Dt:Plan:=tkZ [0,1,2,4,5]<| .alt 3 (.one 6<| .one 7<|tkZ [8,9,10]<| .one 11<| .fin) (.one 6 (.alt 3 (.one 7<|tkZ [8,9,10]<| .one 11<| .fin) (.one 7 (.take 8<| .one 3<| .take 9<| .take 10<| .one 11<| .fin))))
def Fj(P Q:Nat)(h:H)(l:List Nat):H:=(h.set Q (.cells (cO l))).set P (.cells [.ls Q 1 0 l.length l.length])
theorem HPi.pop{P Q:Nat}{l:List Nat}{h:H}(k:HPi P Q l h)(l':List Nat):HPi P Q l' (Fj P Q h l') where
 p:=by unfold Fj;rw[zqt (by simp;exact(zqe k.p).1)]
 q:=by unfold Fj;rw[zqn k.ne,zqt (zqe k.q).1]
 ne:=k.ne
theorem Ja[MO]{P Q:Nat}{l0:List Nat}{x:Nat}{h:H}(k:HPi P Q (l0++[x]) h)(hb:l0.length<=1000000){R:AEnd->H->(Nat->Bool)->Prop}
 (hr:R (.ret (.iface 3 (nv x))) (Fj P Q h l0) (fun _=>false)):ag TE 205 [.lp P 0] h R:=by
 have hM:=mLx;have hp:=k.p;have hq:=k.q;have hpl:=(zqe hp).1;have hql:=(zqe hq).1;have hne:=k.ne;have hne':=hne.symm;rw[zqa,zrk]at hp;have hw:IntKind.i64.wrap (((l0.length+1:Nat):Int)-1)=(l0.length:Int):=by rw[iw (by omega) (by omega)];omega
 have hgx:(List.map nv l0++[nv x]).getD (l0.length*1) .any=nv x:=by have:=ML (l:=l0++[x]) (i:=l0.length) (by simp) .any;rw[show cO (l0++[x])=List.map nv l0++[nv x] by simp]at this;rw[this];simp
 refine IA ?_;refine ax Tryz.func205 rfl (by simp[nts]) (vm ?_);simp only[wq.1,seval,Tryz.results205];have hzl:(0:Int)<=(l0.length:Int):=by omega
 simp only[wq.1,seval,hp,hq,hw,hgx];refine⟨by decide +kernel,⟨by omega,by omega⟩,by omega,?_⟩;refine gQ mixed Dt (fun f' h2=>f'.t 3=nv x/\f'.d=[]/\(∀j,f'.k j=false)/\h2=h.set P (.cells [.ls Q 1 0 l0.length (l0.length+1)])) (by rw[TEP];decide +kernel) (by decide +kernel) ?_ ?_
 ·simp only[wq.1,seval,Dt,hp,hw];exact⟨by omega,.inl (by omega)⟩
 ·rintro f h2 ⟨h3,hd,hkf,rfl⟩;have hkf':f.k=fun _=>false:=funext hkf;simp only[wq.1,seval,h3,hd,hkf'];refine⟨by simp,Fj P Q h l0,?_,hr⟩;unfold Fj;refine HLe.trans (HLe.set (i:=P) (zqt hpl) (o':= .cells [.ls Q 1 0 l0.length l0.length]) (OLe.cells (zrb _) (gX.cons (VLe.cap (by omega)) gX.nil))) ?_;rw[List.set_set,List.set_comm _ _ hne'];refine HLe.set (o:= .cells (cO (l0++[x]))) ?_ ?_
  ·rw[zqn hne];exact hq
  ·have:=OLe.take (cO (l0++[x])) l0.length;have e:(cO (l0++[x])).take l0.length=cO l0:=by rw[<-List.map_take,List.take_left' rfl]
   rw[e]at this;exact this
theorem Fp{l0:List Nat}{x:Nat}:(l0++[x]).getLastD 0=x:=by simp
theorem Jb[MO]{P Q:Nat}{l:List Nat}{h:H}(k:HPi P Q l h)(hb:l.length<=900000)(hne0:l≠[]){R:AEnd->H->(Nat->Bool)->Prop}
 (hr:R (.ret (.iface 3 (nv ((mZ l).getLastD 0)))) (Fj P Q h (mZ l).dropLast) (fun _=>false)):ag TE 104 [.iface 170 (.lp P 0)] h R:=by
 have hM:=mLx;have hne:=k.ne;have hpos:0<l.length:=List.length_pos_iff.2 hne0;obtain⟨m,hm⟩:∃m,l.length=m+1:=⟨l.length-1,by omega⟩;have hw:IntKind.i64.wrap ((l.length:Int)-1)=(m:Int):=by rw[iw (by omega) (by omega)];omega
 have hpop:mZ l=zW l.length (oW l 0 m) 0 m:=by unfold mZ;rw[hm];rfl
 have k1:=k.set (l':=oW l 0 m) (gV _ _ _);have hpl:=LU hne0;obtain⟨l0,x,e⟩:∃l0 x,mZ l=l0++[x]:=by
  have:mZ l≠[]:=fun h=>by rw[h]at hpl;simp at hpl;omega
  exact⟨_,_,(List.dropLast_concat_getLast this).symm⟩
 have k2:=k1.set (l':=mZ l) (by rw[hpl,gV]);rw[e,Fp,List.dropLast_concat]at hr;rw[e,List.set_set]at k2;have hl0:l0.length=m:=by rw[e,zqa,zrk]at hpl;omega
 refine ax Tryz.func104 rfl (by simp[nts]) (vm ?_);simp only[wq.1,seval,Tryz.results104];refine bV rfl (t:=170) (v:= .lp P 0) (v':= .ls Q 1 0 l.length l.length) (g:=103) (by simp only[wq.1,↓reduceIte]) (by simp only[wq.1,↓reduceIte,dE]) (fD k (.inl ⟨rfl,rfl⟩)) (by simp only[wq.1]) ?_;simp only[wq.1];refine sV ?_;simp only[wq.1,seval,hw];refine bV rfl (t:=170) (v:= .lp P 0) (v':= .ls Q 1 0 l.length l.length) (g:=207) (by simp only[wq.1,seval]) (by simp only[wq.1,seval,dE,iU]) (fD k (.inr (.inr ⟨rfl,rfl⟩))) (by simp only[wq.1]) ?_;simp only[wq.1,↓reduceIte];refine jQ (i:=0) (k:=m) k.q (by omega) (by omega) ?_;simp only[wq.1,seval];refine Fg k1 (by rw[gV];omega) (m:=m) (f:=l.length) (by rw[gV];omega) (by omega) (by omega) fun b=> ?_;rw[<-hpop,e,List.set_set];simp only[wq.1,seval];refine bV rfl (t:=170) (v:= .lp P 0) (v':= .lp P 0) (g:=205) (by simp only[wq.1,↓reduceIte]) (by simp only[wq.1,↓reduceIte,dE]) Qj (by simp only[wq.1]) ?_;simp only[wq.1];rw[show List.map nv l0++[nv x]=cO (l0++[x]) by simp];refine Ja k2 (by omega) ?_;simp only[wq.1,seval];have eh:Fj P Q (h.set Q (.cells (cO (l0++[x])))) l0=Fj P Q h l0:=by unfold Fj;rw[List.set_set]
 rw[show List.map nv l0++[nv x]=cO (l0++[x]) by simp,eh];exact hr
abbrev aO(c:Ci):List S:=c.gates.map (·.name)
abbrev gins(c:Ci):List (List S):=c.gates.map (·.ins)
def plO(l:List S):O:= .map (l.map V.str) (cO (List.range l.length))
abbrev ciO(c:Ci):O:= .cells [aV c.ins,aV c.outs,oK c.lat,iZ c.gates]
theorem Ag(l:List S)(s:S):at? l s=wO l s:=by
 unfold wO
 induction l with
 |nil=>rfl
 |cons x l ih =>
  rw[at?,List.findIdx?_cons];by_cases h:x=s
  ·rw[if_pos h];simp[h]
  ·rw[if_neg h,ih];have:(x==s)=false:=by simpa using h
   rw[this];rfl
theorem Du:∀(l acc:List S),yF acc l=none->acc.Nodup->(acc++l).Nodup
 |[],acc,_,h=>by simpa using h
 |s::l,acc,hd,h=>by
  rw[yF]at hd;by_cases hc:acc.contains s=true
  ·rw[if_pos hc]at hd;cases hd
  ·rw[if_neg hc]at hd;have hn:s∉acc:=fun hm=>hc (List.contains_iff_mem.2 hm);have:=Du l (acc++[s]) hd (List.nodup_append.2 ⟨h,by simp,fun a ha b hb hab=>by
    rw[zrc.1 hb]at hab;exact hn (hab▸ha)⟩)
   rwa [zqc]at this
theorem Dv{c:Ci}(h:yF [] (di c)=none):(aO c).Nodup:=by have:=Du _ _ h List.nodup_nil;unfold di at this;rw[List.nil_append]at this;exact(List.nodup_append.1 this).2.1
theorem Vb{l:List S}(h:l.Nodup){i:Nat}(hi:i<l.length):at? (l.take i) l[i]=none:=Qc fun hm=>by obtain⟨j,hj,e⟩:=List.mem_take_iff_getElem.1 hm;have:=(List.getElem_inj h).1 e;omega
theorem ul[MO](c:Ci)(hn:(aO c).Nodup)(hl:c.gates.length<=1000000):ag TE 63 [c.v] [] (fun ae h' _=>ae= .ret (.lm 1)/\h'=[ciO c,plO (aO c)]):=by
 have hM:=mLx;have hnl:(aO c).length=c.gates.length:=zra ..;obtain⟨BX,hBX⟩:∃BX:O,BX=ciO c:=⟨_,rfl⟩;have hBd:∀p,BX.drop p=BX:=fun p=>by rw[hBX];rfl
 obtain⟨MP,hMP⟩:∃MP:Nat->O,MP=fun i=> .map (((aO c).take i).map V.str) (cO (List.range i)):=⟨_,rfl⟩;have hcl:∀(p:Nat->Bool) i,([BX,MP i]:H).map (O.drop p)=[BX,MP i]:=fun p i=>by show [BX.drop p,(MP i).drop p]=_;rw[hBd,hMP];show [BX,O.map (V.drops p _) (V.drops p _)]=_;rw[aC,bz]
 have hfin:plO (aO c)=MP c.gates.length:=by rw[hMP];show _=O.map _ _;rw[<-hnl,zrx];rfl
 rw[hfin,<-hBX];refine ax Tryz.func63 rfl (by simp[nts]) ?_;refine vn ?_;simp only[wq.1,Nat.reduceLT,Tryz.results63];refine vn ?_;simp only[wq.1,seval];rw[show([O.cells [aV c.ins,aV c.outs,oK c.lat,iZ c.gates],O.map [] []]:H)=[BX,MP 0] by rw[hBX,hMP];rfl];refine vn ?_;simp only[wq.1,seval,hBX];rw[<-hBX];refine aF (fun m f h=>∃(i:Nat)(X:H),m+i=c.gates.length/\i<=c.gates.length/\f.t 3= .lm 1/\f.t 8=iZ c.gates/\f.t 9=vi c.gates.length/\f.t 10=vi i/\f.d=[]/\h=[BX,MP i]++X) c.gates.length ⟨0,[],by omega,by omega,by simp only[wq.1,seval],by simp only[wq.1,seval],by simp only[wq.1,seval],by simp only[wq.1,↓reduceIte];rfl,by simp only[wq.1],rfl⟩ ?_;rintro m f h ⟨i,X,hm,hil,t3,t8,t9,t10,hd,rfl⟩;refine dK (h0:=[BX,MP i]) (by rw[hd];simp) ?_;rw[hcl];obtain⟨f',hf'⟩:∃f',f'=f.drop (Abs.eF ([BX,MP i]:H).length):=⟨_,rfl⟩;have u3:f'.t 3= .lm 1:=by rw[hf'];show(f.t 3).drop _=_;rw[t3];rfl
 have u8:f'.t 8=iZ c.gates:=by rw[hf'];show(f.t 8).drop _=_;rw[t8];rfl
 have u9:f'.t 9=vi c.gates.length:=by rw[hf'];show(f.t 9).drop _=_;rw[t9];rfl
 have u10:f'.t 10=vi i:=by rw[hf'];show(f.t 10).drop _=_;rw[t10];rfl
 have ud:f'.d=[]:=by rw[hf'];exact hd
 rw[<-hf'];clear hf' hd t3 t8 t9 t10 X;have hw:=az (show i<maxLen by omega);refine vn ?_;simp only[wq.1,Nat.reduceLT,u9,u10];refine vn ?_;simp only[wq.1,↓reduceIte];refine vcB.mk (fun hlt=> ?_) (fun hlt=> ?_)
 ·have hlt:i<c.gates.length:=by have:=zqs hlt;omega
  obtain⟨g,hg⟩:∃g,g=c.gates[i]:=⟨_,rfl⟩;have hgg:=uM hlt .any;rw[<-hg]at hgg;have hat:=Vb hn (i:=i) (by omega);have hgn:(aO c)[i]'(by omega)=g.name:=by rw[hg];simp
  rw[hgn]at hat;have hms:MP (i+1)= .map (((aO c).take i).map V.str++[.str g.name]) (cO (List.range i)++[vi i]):=by
   rw[hMP];show O.map _ _=_;rw[List.take_succ_eq_append_getElem (by omega),hgn,List.range_succ,zql];simp
  have hmi:MP i= .map (((aO c).take i).map V.str) (cO (List.range i)):=by rw[hMP]
  simp only[wq.1];refine vn ?_;simp only[wq.1,seval,u3,u8,u10,hgg,hmi,Oo,bW,K.keyOk,hat];refine⟨⟨by omega,by omega⟩,?_⟩;rw[<-hms];refine vm ?_;simp only[wq.1,seval,u10,hw];refine .inl ⟨m-1,by omega,i+1,[O.cells [V.str g.name,vi g.op,aV g.ins,aV g.rows,V.bool g.off]],by omega,by omega,?_⟩;refine⟨by simp only[wq.1,seval,u3],by simp only[wq.1,seval,u8],by simp only[wq.1,seval,u9],by simp only[wq.1,↓reduceIte],by simp only[wq.1,ud],rfl⟩
 ·have hi:i=c.gates.length:=by have:=of_decide_eq_false hlt;omega
  subst hi;refine vm ?_;simp only[wq.1,seval,u3,ud]
end Go.Proofs.YtokppohljajhjaaGreatDoor
