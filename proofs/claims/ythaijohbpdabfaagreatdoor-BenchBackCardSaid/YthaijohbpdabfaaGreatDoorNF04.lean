/- Lemmas for this claim, part F04: each holds under what it names. -/
import Derived.Test.YthaijohbpdabfaaGreatDoorNF03
import Derived.Test.YthaijohbpdabfaaGreatDoorNA9
import Derived.Test.YthaijohbpdabfaaGreatDoorNA8
import Derived.Test.YthaijohbpdabfaaGreatDoorNA7
set_option linter.all false
set_option maxRecDepth 20000
set_option maxHeartbeats 16000000
namespace Go.Proofs.YthaijohbpdabfaaGreatDoor
open Go Go.Proofs Go.Abs
theorem rf{l:List S}{s:S}:(at? l s).isSome=l.contains s:=by
 rw[Bool.eq_iff_iff,List.contains_iff_mem];constructor
 ·intro h;obtain⟨n,hn⟩:=Option.isSome_iff_exists.1 h;obtain⟨h1,h2⟩:=qI hn;rw[<-h2];exact zqu h1
 ·intro h;obtain⟨n,hn⟩:=GZ h;rw[hn];rfl
theorem Rx{l:List S}{i:Nat}(h:i<l.length):zh (l.take i) (l.drop i)=if(l.take i).contains l[i]=true then some l[i]else zh (l.take (i+1)) (l.drop (i+1)):=by rw[List.drop_eq_getElem_cons h,zh,List.take_succ_eq_append_getElem h]
theorem lY{p:Nat->Bool}:∀n,V.drops p (List.replicate n (.bool true))=List.replicate n (.bool true)
 |0=>rfl
 |n+1=>by rw[List.replicate_succ,V.drops,lY n];rfl
abbrev Xo(l:List S):O:= .map (l.map V.str) (List.replicate l.length (.bool true))
theorem bU{P:Program}{rs:List ResultVar}{R:AEnd->H->(Nat->Bool)->Prop}{f:Fr}{h:H}{v:V}(hd:f.d=[])(hr:R (.pan v) h f.k):zO P rs R (.pan v) f h:=by unfold zO;rw[hd];exact hr
theorem Ag[MO]{l:List S}{h:H}{R:AEnd->H->(Nat->Bool)->Prop}(hll:l.length<=1000000)(hok:zh [] l=none->R (.ret (.lm h.length)) (h++[Xo l]) (fun _=>false))
 (hbad:∀s X,zh [] l=some s->R (.pan (Af 5 s)) (h++X) (fun _=>false)):ag TE 106 [aN l] h R:=by
 have hM:=mLx;have hgE:∀x:O,(h++[x])[h.length]? =some x:=fun x=>by simp
 have hgS:∀x y:O,(h++[x]).set h.length y=h++[y]:=fun x y=>by simp
 have h0:zh [] l=zh (l.take 0) (l.drop 0):=rfl;obtain⟨D,hD⟩:∃D,D=zh [] l:=⟨_,rfl⟩;rw[<-hD]at hok hbad h0;refine aj Tryz.func106 rfl (by simp[nts]) ?_;refine vn ?_;simp only[wq.1,Nat.reduceLT,Tryz.results106];refine vn ?_;simp only[wq.1,seval];refine vn ?_;simp only[wq.1,seval];refine aC (fun m f h'=>∃i,m+i=l.length/\i<=l.length/\D=zh (l.take i) (l.drop i)/\f.t 3= .lm h.length/\f.t 7=aN l/\f.t 8=vi l.length/\f.t 9=vi i/\f.d=[]/\f.k=(fun _=>false)/\h'=h++[Xo (l.take i)]) l.length ⟨0,by omega,by omega,h0,by simp only[wq.1,seval],by simp only[wq.1,seval],by simp only[wq.1,seval],by simp only[wq.1,↓reduceIte];rfl,rfl,rfl,rfl⟩ ?_;rintro m f h' ⟨i,hm,hil,hdi,h3,h7,h8,h9,hd,hkf,rfl⟩;have hw:=aB (show i<maxLen by omega);have htl:(l.take i).length=i:=by rw[zrl];omega
 refine vn ?_;simp only[wq.1,Nat.reduceLT,h8,h9];refine vn ?_;simp only[wq.1,↓reduceIte];refine vcB.mk (fun hlt=> ?_) (fun hlt=> ?_)
 ·have hlt:i<l.length:=by have:=zqs hlt;omega
  rw[Rx hlt]at hdi;have hac:=rf (l:=l.take i) (s:=l[i]);cases hat:at? (l.take i) l[i]with
  |some n =>
   obtain⟨g1,g2⟩:=qI hat;have hn:n<i:=by simpa using(Nat.lt_of_lt_of_le g1 (by simp;omega))
   have hg:(List.replicate i (V.bool true)).getD n .any= .bool true:=by simp[zqg,hn]
   rw[hat]at hac;have hac:(l.take i).contains l[i]=true:=hac.symm;rw[if_pos hac]at hdi;simp only[wq.1];refine ai (aA ?_);refine vm ?_;simp only[wq.1,seval,h3,h7,h9,zW hlt,rP,bK,K.keyOk,hat,hg,hgE,htl];refine⟨⟨by omega,by omega⟩,iI _ _ _ (fun h=>by cases h) (fun _=> ?_)⟩;simp only[wq.1,fB];simp only[XE.seq,XE.block];have hb:=hbad _ [Xo (l.take i)] hdi;refine bU (by simp only[wq.1,hd]) ?_;have hk2:∀f:Fr,f.k=(fun _=>false)->R (.pan (Af 5 l[i])) (h++[Xo (l.take i)]) f.k:=fun f hf=>by rw[hf];exact hb
   refine hk2 _ ?_;simp only[wq.1,hkf]
  |none=>rw[hat]at hac;have hac:(l.take i).contains l[i]=false:=hac.symm;rw[if_neg (by rw[hac];decide)]at hdi;simp only[wq.1];refine ai (aA ?_);refine vm ?_;simp only[wq.1,seval,h3,h7,h9,zW hlt,rP,bK,K.keyOk,hat,hgE];refine⟨⟨by omega,by omega⟩,iI _ _ _ (fun _=> ?_) (fun h=>by cases h)⟩;simp only[wq.1,seval,h3,Qp,bK,K.keyOk,hat,hgE,hgS,htl];refine vm ?_;simp only[wq.1,seval,h9,hw];refine .inl ⟨m-1,by omega,i+1,by omega,by omega,hdi,by simp only[wq.1,seval,h3],by simp only[wq.1,seval,h7],by simp only[wq.1,seval,h8],by simp only[wq.1,↓reduceIte],by simp only[wq.1,hd],by simp only[wq.1,hkf],?_⟩;rw[List.take_succ_eq_append_getElem hlt];show _=h++[O.map _ _];rw[zql,zqa,htl,zrk,List.replicate_succ'];rfl
 ·have hi:i=l.length:=by have:=of_decide_eq_false hlt;omega
  rw[hi,List.drop_length,zh]at hdi;rw[hi,zrx];refine vm ?_;simp only[wq.1,seval,h3,hd,hkf];exact hok hdi
theorem G5[MO]{h:H}{K:H->(Nat->Bool)->Prop}(hK:∀X,K (h++[X]) (fun _=>false)):jv TE 100 [.lp 1 0,.lp 2 0] h K:=by
 have hgE:∀x:O,(h++[x])[h.length]? =some x:=fun x=>by simp
 have hgS:∀x y:O,(h++[x]).set h.length y=h++[y]:=fun x y=>by simp
 refine lw rfl Tryz.func100 rfl rfl (by simp[nts]) rfl (fun ev w=>rfl) rfl (by decide) ?_;simp only[nts];refine eX rfl rfl ?_;refine jW (x:= .tmp 5) (t:=172) (q:=⟨.struct [(0,28),(1,9)],2,24,.agg [vi 0,.str []]⟩) rfl (by simp only[wq.1]) (by simp only[wq.1,↓reduceIte]) (by simp only[wq.1,↓reduceIte]) ?_;refine az rfl rfl ?_;simp only[wq.1,↓reduceIte];refine az rfl rfl ?_;simp only[wq.1,seval];refine az rfl rfl ?_;simp only[wq.1,seval];refine az rfl rfl ?_;simp only[wq.1];refine az rfl rfl ?_;simp only[wq.1,seval,hgE,hgS];refine az rfl rfl ?_;simp only[wq.1,seval];refine dX ?_;show awp _ _ _ _ _ _ _;refine vm ?_;simp only[wq.1,seval];exact hK _
def TU:Plan:= .take 0<| .take 2<| .alt 1 (.alt 3 (.one 4<| .one 5<| .fin) (.one 4 (.one 3<| .one 5<| .fin))) (.one 3 (onZ [1,4,5]<| .fin))
theorem G6[MO]{a:O}{d1 d2:V}{G:H}{K:H->(Nat->Bool)->Prop}(e:Int)(s:S)(hK:∀X,K (a:: .cells [vi e]:: .cells [.str s]::(G++[X])) (fun _=>false)) :
 jr TE 100 [.lp 1 0,.lp 2 0] (Af e s) (a:: .cells [d1]:: .cells [d2]::G) K:=by
 have hgE:∀x:O,(G++[x])[G.length]? =some x:=fun x=>by simp
 have hgS:∀x y:O,(G++[x]).set G.length y=G++[y]:=fun x y=>by simp
 unfold Af;refine lh rfl Tryz.func100 rfl rfl (by simp[nts]) rfl (fun ev w=>rfl) rfl (by decide) ?_;simp only[nts];refine az rfl rfl ?_;simp only[wq.1,↓reduceIte];refine⟨by decide,?_⟩;refine az rfl rfl ?_;simp only[wq.1,↓reduceIte];refine az rfl rfl ?_;simp only[wq.1,seval];refine az rfl rfl ?_;simp only[wq.1,seval];refine az rfl rfl ?_;simp only[wq.1];refine az rfl rfl ?_;simp only[wq.1,seval,hgE,hgS];refine az rfl rfl ?_;simp only[wq.1,seval];refine dX ?_;show awp _ _ _ _ _ _ _;refine vn ?_;simp only[wq.1,seval];refine vm ?_;simp only[wq.1,↓reduceIte];refine dW mixed TU (fun f' h'=>f'.d=[]/\f'.k=(fun _=>false)/\∃X,h'=a:: .cells [vi e]:: .cells [.str s]::(G++[X])) (by rw[show TE.P=P from rfl];decide +kernel) (by decide +kernel) ?_ ?_
 ·simp only[wq.1,seval,TU,hgE];exact⟨_,rfl⟩
 ·rintro f h ⟨hd,hk,X,rfl⟩;exact⟨.inl rfl,hd,by rw[hk];exact hK X⟩
theorem KC[MO](g:Ga):Ev TE 101 [g.v] (.bool (zY g)):=by have e1:decide ((8:Int)<(g.ins.length:Int))=decide (8<g.ins.length):=decide_eq_decide.2 (by omega);have e2:decide ((128:Int)<(g.rows.length:Int))=decide (128<g.rows.length):=decide_eq_decide.2 (by omega);refine ak Tryz.func101 rfl (by simp[nts]) (vm ?_);simp only[wq.1,seval,Tryz.results101,e1,e2];exact aG.eq rfl rfl
theorem pY{α:Type}{l:List α}{p:α->Bool}{i:Nat}(h:i<l.length)(hn:∀x∈l.take i,p x=false)(hp:p l[i]=true):l.find? p=some l[i]:=by
 rw[List.find?_eq_some_iff_getElem];refine⟨hp,i,h,rfl,fun j hj=> ?_⟩;have:l[j]∈l.take i:=by
  rw[List.mem_take_iff_getElem];exact⟨j,by omega,rfl⟩
 rw[hn _ this];rfl
theorem kP{α:Type}{l:List α}{p:α->Bool}(hn:∀x∈l,p x=false):l.find? p=none:=by rw[List.find?_eq_none];intro x hx;rw[hn x hx];decide
theorem Ry{c:Ci}(h:LimC c):(dG c).length<=3000/\(bf c).length<=600/\(fZ c).length<=3000:=by obtain⟨l1,l2,l3,l4,l5⟩:=h;have a1:=fJ (k:=2) (F:=fun q:La=>[q.name,q.next]) c.lat (fun _ _=>by simp);have a2:=fJ (k:=9) (F:=fun g:Ga=>g.name::g.ins) c.gates (fun g hg=>by have:=l5 g hg;simp;omega);have a3:=fJ (k:=8) (F:=fun g:Ga=>g.ins) c.gates (fun g hg=>l5 g hg);unfold dG bf fZ;simp only[zqa,zra];have:=Nat.mul_le_mul_right 9 l4;have:=Nat.mul_le_mul_right 8 l4;have:=Nat.mul_le_mul_right 2 l3;refine⟨by omega,by omega,by omega⟩
theorem EK[MO](c:Ci)(hsum:c.ins.length+c.lat.length+c.gates.length<=9000000000000000000):Ev TE 58 [c.v] (.tup [vi (nT c).1,.str (nT c).2]):=by
 have hM:=mLx;refine jS ?_;refine lq rfl Tryz.func58 rfl (by simp[nts]) fun ok pl0 w0=> ?_;simp only[nts];refine BJ (Q:=fun _ _ _=>False) ?_ (fun _ _ _ h=>by obtain⟨_,_,_,_,_,_,h⟩:=h;exact h.elim);refine vm ?_;simp only[wq.1,seval];refine qV rfl (fn:=Tryz.f58) (q:=100) (caps:=[.lp 1 0,.lp 2 0]) (fx:= .tmp 14) rfl rfl (by simp only[wq.1,seval]) rfl rfl rfl rfl (by simp only[wq.1,seval]) (by simp only[wq.1,seval]) (by simp only[wq.1]) rfl fun dd=> ?_;simp only[nts];obtain⟨ee,hee⟩:∃ee:E,ee={TE with tl:=[dd]}:=⟨_,rfl⟩;have hP:ee.P=P:=by rw[hee];rfl
 have hmix:ee.P.follows .mixedOrders=true:=by rw[hP];exact mixed
 have hT:∀ {g:FuncId} {args:List V} {h:H} {R:AEnd->H->(Nat->Bool)->Prop},ag TE g args h R->ag ee g args h R:=fun hc=>by rw[hee];exact hc.tl _
 rw[<-hee];obtain⟨QP,eQP⟩:∃QP:XE->Fr->H->Prop,QP=fun xe f' h'=>f'.d=[]/\V.drops f'.k [V.lp 1 0,V.lp 2 0]=[V.lp 1 0,V.lp 2 0]/\(match xe with
  | .pan v=>jr TE 100 [V.lp 1 0,V.lp 2 0] v h' fun h'' p=>qP TE.P Tryz.f58.results.toList (fun v h k=>aG TE h v (.tup [vi (nT c).1,.str (nT c).2])) (f'.drop p) h''
  | .ret=>jv TE 100 [V.lp 1 0,V.lp 2 0] h' fun h'' p=>qP TE.P Tryz.f58.results.toList (fun v h k=>aG TE h v (.tup [vi (nT c).1,.str (nT c).2])) (f'.drop p) h''
  |_=>False):=⟨_,rfl⟩
 refine aX (Q:=QP) (fun xe f' h' hq=>by rw[eQP]at hq;exact hq) ?_;have hkd:∀ {k:Nat->Bool},(∀j,j<3->k j=false)->V.drops k [V.lp 1 0,V.lp 2 0]=[V.lp 1 0,V.lp 2 0]:=fun {k} h=>by
  have z1:=h 1 (by decide);have z2:=h 2 (by decide);simp only[V.drops,V.drop,z1,z2,if_false,zrm]
 have hpan:∀ {e:Int} {s:S} {f':Fr} {a:O} {d1 d2:V} {G:H},nT c=(e,s)->f'.d=[]->(∀j,j<3->f'.k j=false)->f'.t 2= .lp 1 0->f'.t 3= .lp 2 0->QP (.pan (Af e s)) f' (a:: .cells [d1]:: .cells [d2]::G):=by intro e s f' a d1 d2 G hp hd hk t2 t3;rw[eQP];refine⟨hd,hkd hk,?_⟩;refine G6 e s fun X=> ?_;rw[hp];simp only[Tryz.results58,nts];simp only[wq.1,↓reduceIte,hd,t2,t3];exact aG.dat rfl
 have hret:∀ {f':Fr} {a:O} {G:H},nT c=(0,[])->f'.d=[]->(∀j,j<3->f'.k j=false)->f'.t 2= .lp 1 0->f'.t 3= .lp 2 0->QP .ret f' (a:: .cells [vi 0]:: .cells [.str []]::G):=by intro f' a G hp hd hk t2 t3;rw[eQP];refine⟨hd,hkd hk,?_⟩;refine G5 fun X=> ?_;rw[hp];simp only[Tryz.results58,nts];simp only[wq.1,↓reduceIte,hd,t2,t3];exact aG.dat rfl
 clear eQP;obtain⟨BX,hBX⟩:∃BX:O,BX= .cells [aN c.ins,aN c.outs,kG c.lat,iG c.gates]:=⟨_,rfl⟩;have hBd:∀p,BX.drop p=BX:=fun p=>by rw[hBX];rfl
 refine ai (bJ hmix _ _ _ _ ?_);simp only[wq.1,seval,hP];have w1:IntKind.i64.wrap ((c.ins.length:Int)+c.lat.length)=((c.ins.length+c.lat.length:Nat):Int):=by rw[iL (by omega) (by omega)];omega
 have w2:IntKind.i64.wrap (((c.ins.length+c.lat.length:Nat):Int)+c.gates.length)=((c.ins.length+c.lat.length+c.gates.length:Nat):Int):=by rw[iL (by omega) (by omega)];omega
 have eA:decide (((c.ins.length+c.lat.length+c.gates.length:Nat):Int)<=200)=decide (c.ins.length+c.lat.length+c.gates.length<=200):=decide_eq_decide.2 (by omega);have eB:decide ((c.outs.length:Int)<=200)=decide (c.outs.length<=200):=decide_eq_decide.2 (by omega);have hct:=U1 c.gates 101 [] zY rfl rfl fun g _=>KC g;have n0:Lj c=false->nT c=(8,[]):=fun h=>by unfold nT;rw[if_pos h]
 have hEv:∀ {g:FuncId} {args:List V} {r:V},Ev TE g args r->Ev ee g args r:=fun hv=>by rw[hee];exact fun ok w vs hs hl=>hv ok w vs (hs.tl TE.tl) hl
 have e39:((decide (c.ins.length+c.lat.length+c.gates.length<=200)&&decide (c.outs.length<=200))&& !(c.gates.any zY))=Lj c:=by unfold Lj;rw[Bool.and_assoc]
 refine ai (bJ hmix _ _ _ _ ?_);simp only[wq.1,seval,hP,w1,w2,eA,eB];refine Gf.ev (q:=103) (vs:=[iG c.gates,.fn (.func 101) [] []]) (by simp only[wq.1,seval]) (by simp only[wq.1,seval]) (by rw[hP];rfl) (fun _=>hEv hct) (fun _=>by simp only[V.dats,V.dat,lC,zre]) ?_;simp only[wq.1,seval,hP,e39];rw[<-hBX];refine hT (iI (Lj c) 8 [] (fun hl=> ?_) (fun hl=> ?_))
 ·have hL:=Vb hl;obtain⟨tl1,tl2,tl3⟩:=Ry hL;have n1:∀s,(dG c).find? (fun s=> !aS s)=some s->nT c=(4,s):=fun s h=>by unfold nT;rw[if_neg (by rw[hl];decide),h]
  have htd:=Vd c hL;have hnt:=Ve c hL;have hus:=Vf c hL;have hcd:=vJ c;simp only[wq.1]
  -- names
  refine ai (aX (Q:=fun xe f h=>(xe= .normal/\(∀s∈dG c,aS s=true)/\f.t 1= .lp 0 0/\f.t 2= .lp 1 0/\f.t 3= .lp 2 0/\f.d=[]/\(∀j,j<3->f.k j=false)/\h=[BX,.cells [vi 0],.cells [.str []]])\/(∃v,xe= .pan v/\QP (.pan v) f h)) ?_ ?_)
  ·rintro xe f h (⟨rfl,hnm,t1,t2,t3,hd,hk,rfl⟩|⟨v,rfl,hq⟩)
   rotate_left
   ·exact hq
   show awp _ _ _ _ _ _ _;have n2:(dG c).find? (fun s=> !aS s)=none:=kP fun s hs=>by rw[hnm s hs];rfl
   have n3:∀s,zh [] (bf c)=some s->nT c=(5,s):=fun s h=>by unfold nT;rw[if_neg (by rw[hl];decide),n2];dsimp only;rw[h]
   refine ai (bJ hmix _ _ _ _ ?_);simp only[wq.1,seval,hP,t1,hBX];rw[<-hBX];refine hT (ag.ev hnt (by simp only[V.dats,Bool.and_true];exact hcd) ?_);simp only[wq.1,seval,hP];refine hT (Ag (by omega) (fun hdn=> ?_) (fun s X hdn=> ?_))
   rotate_left
   ·simp only[wq.1,fB];simp only[XE.seq];exact hpan (n3 s hdn) (by simp only[wq.1,hd]) (fun j hj=>by simp only[wq.1,hk j hj]) (by simp only[wq.1,seval,t2]) (by simp only[wq.1,seval,t3])
   have n4:∀s,zh [] c.outs=some s->nT c=(5,s):=fun s h=>by unfold nT;rw[if_neg (by rw[hl];decide),n2];dsimp only;rw[hdn];dsimp only;rw[h]
   simp only[wq.1,seval,hP];refine ai (bJ hmix _ _ _ _ ?_);simp only[wq.1,seval,hP,t1,hBX];rw[<-hBX];refine hT (Ag (by have:=hL.outs;omega) (fun hdo=> ?_) (fun s X hdo=> ?_))
   rotate_left
   ·simp only[wq.1,fB];simp only[XE.seq];exact hpan (n4 s hdo) (by simp only[wq.1,hd]) (fun j hj=>by simp only[wq.1,hk j hj]) (by simp only[wq.1,seval,t2]) (by simp only[wq.1,seval,t3])
   have n5:∀q,c.lat.find? (fun q=> !oP q)=some q->nT c=(1,q.name):=fun q h=>by unfold nT;rw[if_neg (by rw[hl];decide),n2];dsimp only;rw[hdn];dsimp only;rw[hdo];dsimp only;rw[h]
   simp only[wq.1,Nat.reduceAdd];obtain⟨N,hN⟩:∃N:O,N=Xo (bf c):=⟨_,rfl⟩;have hNd:∀p,N.drop p=N:=fun p=>by
    rw[hN];show O.map (V.drops p _) (V.drops p _)=_;rw[aJ,lY]
   have hcl:∀p,([BX,.cells [vi 0],.cells [.str []],N]:H).map (O.drop p)=[BX,.cells [vi 0],.cells [.str []],N]:=fun p=>by show [BX.drop p,_,_,N.drop p]=_;rw[hBd,hNd];rfl
   have t1':f.t 1= .lp 0 0:=t1;rw[<-hN];refine UI (fun f'=>f'.t 1= .lp 0 0/\f'.t 2= .lp 1 0/\f'.t 3= .lp 2 0/\f'.t 7= .lm 3/\f'.d=[]/\(∀j,j<3->f'.k j=false)) _ (fun hq=>hq _ ⟨by simp only[wq.1,seval,t1],by simp only[wq.1,seval,t2],by simp only[wq.1,seval,t3],by simp only[wq.1,seval],by simp only[wq.1,hd],fun j hj=>by simp only[wq.1,hk j hj]⟩) ?_;clear t1 t2 t3 hd hk t1' f;rintro f ⟨t1,t2,t3,t7,hd,hk⟩;refine ai (aX (Q:=fun xe f h=>(xe= .normal/\(∀x∈c.lat,oP x=true)/\f.t 1= .lp 0 0/\f.t 2= .lp 1 0/\f.t 3= .lp 2 0/\f.t 7= .lm 3/\f.d=[]/\(∀j,j<3->f.k j=false)/\∃X,h=[BX,.cells [vi 0],.cells [.str []],N]++X)\/(∃v,xe= .pan v/\QP (.pan v) f h)) ?_ ?_)
   ·rintro xe f h (⟨rfl,hla,t1,t2,t3,t7,hd,hk,X,rfl⟩|⟨v,rfl,hq⟩)
    rotate_left
    ·exact hq
    show awp _ _ _ _ _ _ _;have n5':c.lat.find? (fun q=> !oP q)=none:=kP fun x hx=>by rw[hla x hx];rfl
    have n6:∀g,c.gates.find? (fun g=> !jo g)=some g->nT c=(1,g.name):=fun g h=>by unfold nT;rw[if_neg (by rw[hl];decide),n2];dsimp only;rw[hdn];dsimp only;rw[hdo];dsimp only;rw[n5'];dsimp only;rw[h]
    refine ai (aX (Q:=fun xe f h=>(xe= .normal/\(∀x∈c.gates,jo x=true)/\f.t 1= .lp 0 0/\f.t 2= .lp 1 0/\f.t 3= .lp 2 0/\f.t 7= .lm 3/\f.d=[]/\(∀j,j<3->f.k j=false)/\∃X,h=[BX,.cells [vi 0],.cells [.str []],N]++X)\/(∃v,xe= .pan v/\QP (.pan v) f h)) ?_ ?_)
    ·rintro xe f h (⟨rfl,hga,t1,t2,t3,t7,hd,hk,X,rfl⟩|⟨v,rfl,hq⟩)
     rotate_left
     ·exact hq
     show awp _ _ _ _ _ _ _;have n6':c.gates.find? (fun g=> !jo g)=none:=kP fun x hx=>by rw[hga x hx];rfl
     have n7:∀s,(fZ c).find? (fun s=> !(bf c).contains s)=some s->nT c=(6,s):=fun s h=>by unfold nT;rw[if_neg (by rw[hl];decide),n2];dsimp only;rw[hdn];dsimp only;rw[hdo];dsimp only;rw[n5'];dsimp only;rw[n6'];dsimp only;rw[h]
     refine ai (aX (Q:=fun xe f h=>(xe= .normal/\(∀x∈fZ c,(bf c).contains x=true)/\f.t 1= .lp 0 0/\f.t 2= .lp 1 0/\f.t 3= .lp 2 0/\f.t 7= .lm 3/\f.d=[]/\(∀j,j<3->f.k j=false)/\∃X,h=[BX,.cells [vi 0],.cells [.str []],N]++X)\/(∃v,xe= .pan v/\QP (.pan v) f h)) ?_ ?_)
     ·rintro xe f h (⟨rfl,husd,t1,t2,t3,t7,hd,hk,X,rfl⟩|⟨v,rfl,hq⟩)
      rotate_left
      ·exact hq
      show awp _ _ _ _ _ _ _;have n7':(fZ c).find? (fun s=> !(bf c).contains s)=none:=kP fun x hx=>by rw[husd x hx];rfl
      have n8:(fZ c).find? (fun s=> !(bf c).contains s)=none->nT c=(0,[]):=fun h=>by unfold nT;rw[if_neg (by rw[hl];decide),n2];dsimp only;rw[hdn];dsimp only;rw[hdo];dsimp only;rw[n5'];dsimp only;rw[n6'];dsimp only;rw[h]
      refine bJ hmix _ _ _ _ ?_;simp only[wq.1,seval,hP,t2,t3];exact hret (n8 n7') (by simp only[wq.1,hd]) (fun j hj=>by simp only[wq.1,hk j hj]) (by simp only[wq.1,t2]) (by simp only[wq.1,t3])
     ·refine ai (bJ hmix _ _ _ _ ?_);simp only[wq.1,seval,hP,t1,hBX];rw[<-hBX];refine hT (ag.ev hus (by simp only[V.dats,Bool.and_true];exact hcd) ?_);simp only[wq.1,seval,hP];refine aA ?_;refine aC (fun m f h=>∃i:Nat,m+i=(fZ c).length/\i<=(fZ c).length/\(∀x∈(fZ c).take i,(bf c).contains x=true)/\f.t 92=aN (fZ c)/\f.t 93=vi (fZ c).length/\f.t 94=vi i/\f.t 1= .lp 0 0/\f.t 2= .lp 1 0/\f.t 3= .lp 2 0/\f.t 7= .lm 3/\f.d=[]/\(∀j,j<3->f.k j=false)/\∃X,h=[BX,.cells [vi 0],.cells [.str []],N]++X) (fZ c).length ⟨0,by omega,by omega,(fun x hx=>by simp at hx),by simp only[wq.1,seval],by simp only[wq.1,seval],by simp only[wq.1,↓reduceIte];rfl,by simp only[wq.1,seval,t1],by simp only[wq.1,seval,t2],by simp only[wq.1,seval,t3],by simp only[wq.1,seval,t7],by simp only[wq.1,hd],fun j hj=>by simp only[wq.1,hk j hj],_,rfl⟩ ?_;clear t1 t2 t3 t7 hd hk;rintro m f h ⟨i,hm,hil,hall,tA,tB,tC,t1,t2,t3,t7,hd,hk,X,rfl⟩;refine fD (h0:=[BX,.cells [vi 0],.cells [.str []],N]) (by rw[hd];simp) ?_;rw[hcl];obtain⟨f',hf'⟩:∃f',f'=f.drop (Abs.fV ([BX,.cells [vi 0],.cells [.str []],N]:H).length):=⟨_,rfl⟩;have u1:f'.t 1= .lp 0 0:=by rw[hf'];show(f.t 1).drop _=_;rw[t1];rfl
      have u2:f'.t 2= .lp 1 0:=by rw[hf'];show(f.t 2).drop _=_;rw[t2];rfl
      have u3:f'.t 3= .lp 2 0:=by rw[hf'];show(f.t 3).drop _=_;rw[t3];rfl
      have u7:f'.t 7= .lm 3:=by rw[hf'];show(f.t 7).drop _=_;rw[t7];rfl
      have uA:f'.t 92=aN (fZ c):=by rw[hf'];show(f.t 92).drop _=_;rw[tA];rfl
      have uB:f'.t 93=vi (fZ c).length:=by rw[hf'];show(f.t 93).drop _=_;rw[tB];rfl
      have uC:f'.t 94=vi i:=by rw[hf'];show(f.t 94).drop _=_;rw[tC];rfl
      have ud:f'.d=[]:=by rw[hf'];exact hd
      have uk:∀j,j<3->f'.k j=false:=fun j hj=>by rw[hf'];show(f.k j||Abs.fV 4 j)=false;rw[hk j hj];simp[Abs.fV];omega
      rw[<-hf'];clear hf' hd hk t1 t2 t3 t7 tA tB tC X;have hw:=aB (show i<maxLen by omega);refine ai (bJ hmix _ _ _ _ ?_);simp only[wq.1,Nat.reduceLT,hP,uB,uC];refine ai (bJ hmix _ _ _ _ ?_);simp only[wq.1,↓reduceIte];refine vcB.mk (fun hlt=> ?_) (fun hlt=> ?_)
      ·have hlt:i<(fZ c).length:=by have:=zqs hlt;omega
       have hnext:(bf c).contains (fZ c)[i]=true->∀x∈(fZ c).take (i+1),(bf c).contains x=true:=fun hb=>bT hlt hall hb;have hbadE:(bf c).contains (fZ c)[i]=false->(fZ c).find? (fun x=> !(bf c).contains x)=some (fZ c)[i]:=fun hb=>pY hlt (fun x hx=>by rw[hall x hx];rfl) (by rw[hb];rfl);simp only[wq.1];obtain⟨s,hs⟩:∃s,s=(fZ c)[i]:=⟨_,rfl⟩;have hgg:=zW hlt .any;rw[<-hs]at hgg hnext hbadE;have hac:=rf (l:=bf c) (s:=s);have hmg:rP .str (.str s) ((bf c).map V.str) (List.replicate (bf c).length (.bool true)) (.bool false) false=(True,.bool ((bf c).contains s)):=by
        rw[<-hac];simp only[rP,bK];cases hat:at? (bf c) s with
        |none=>rfl
        |some n =>
         obtain⟨g1,_⟩:=qI hat;have hg:(List.replicate (bf c).length (V.bool true)).getD n .any= .bool true:=by simp[zqg,g1]
         simp only[hg];rfl
       refine ai (bJ hmix _ _ _ _ ?_);simp only[wq.1,seval,hP,u7,uA,uC,hgg,hN,K.keyOk,hmg];rw[<-hN];refine⟨⟨by omega,by omega⟩,hT (iI _ 6 _ (fun hb=> ?_) (fun hb=> ?_))⟩
       ·simp only[wq.1];refine bJ hmix _ _ _ _ ?_;simp only[wq.1,seval,hP,uC,hw];exact .inl ⟨m-1,by omega,i+1,by omega,by omega,hnext hb,by simp only[wq.1,seval,uA],by simp only[wq.1,seval,uB],by simp only[wq.1,↓reduceIte],by simp only[wq.1,seval,u1],by simp only[wq.1,seval,u2],by simp only[wq.1,seval,u3],by simp only[wq.1,seval,u7],by simp only[wq.1,ud],fun j hj=>by simp only[wq.1,uk j hj],_,rfl⟩
       ·simp only[wq.1,fB];simp only[XE.seq,XE.block];refine .inr ⟨_,rfl,hpan (n7 _ (hbadE hb)) (by simp only[wq.1,ud]) (fun j hj=>by simp only[wq.1,uk j hj]) (by simp only[wq.1,seval,u2]) (by simp only[wq.1,seval,u3])⟩
      ·have hi:i=(fZ c).length:=by have:=of_decide_eq_false hlt;omega
       rw[hi,zrx]at hall;simp only[wq.1,seval]
       first
       |exact .inl ⟨hall,u1,u2,u3,u7,ud,uk,[],rfl⟩
       |exact .inl ⟨hall,u1,u2,u3,u7,ud,uk⟩
    ·refine ai (bJ hmix _ _ _ _ ?_);simp only[wq.1,seval,hP,t1,hBX];rw[<-hBX];refine aA ?_;refine aC (fun m f h=>∃i:Nat,m+i=c.gates.length/\i<=c.gates.length/\(∀x∈(c.gates).take i,jo x=true)/\f.t 79=iG c.gates/\f.t 80=vi c.gates.length/\f.t 81=vi i/\f.t 1= .lp 0 0/\f.t 2= .lp 1 0/\f.t 3= .lp 2 0/\f.t 7= .lm 3/\f.d=[]/\(∀j,j<3->f.k j=false)/\∃X,h=[BX,.cells [vi 0],.cells [.str []],N]++X) c.gates.length ⟨0,by omega,by omega,(fun x hx=>by simp at hx),by simp only[wq.1,seval],by simp only[wq.1,seval],by simp only[wq.1,↓reduceIte];rfl,by simp only[wq.1,seval,t1],by simp only[wq.1,seval,t2],by simp only[wq.1,seval,t3],by simp only[wq.1,seval,t7],by simp only[wq.1,hd],fun j hj=>by simp only[wq.1,hk j hj],_,rfl⟩ ?_;clear t1 t2 t3 t7 hd hk;rintro m f h ⟨i,hm,hil,hall,tA,tB,tC,t1,t2,t3,t7,hd,hk,X,rfl⟩;refine fD (h0:=[BX,.cells [vi 0],.cells [.str []],N]) (by rw[hd];simp) ?_;rw[hcl];obtain⟨f',hf'⟩:∃f',f'=f.drop (Abs.fV ([BX,.cells [vi 0],.cells [.str []],N]:H).length):=⟨_,rfl⟩;have u1:f'.t 1= .lp 0 0:=by rw[hf'];show(f.t 1).drop _=_;rw[t1];rfl
     have u2:f'.t 2= .lp 1 0:=by rw[hf'];show(f.t 2).drop _=_;rw[t2];rfl
     have u3:f'.t 3= .lp 2 0:=by rw[hf'];show(f.t 3).drop _=_;rw[t3];rfl
     have u7:f'.t 7= .lm 3:=by rw[hf'];show(f.t 7).drop _=_;rw[t7];rfl
     have uA:f'.t 79=iG c.gates:=by rw[hf'];show(f.t 79).drop _=_;rw[tA];rfl
     have uB:f'.t 80=vi c.gates.length:=by rw[hf'];show(f.t 80).drop _=_;rw[tB];rfl
     have uC:f'.t 81=vi i:=by rw[hf'];show(f.t 81).drop _=_;rw[tC];rfl
     have ud:f'.d=[]:=by rw[hf'];exact hd
     have uk:∀j,j<3->f'.k j=false:=fun j hj=>by rw[hf'];show(f.k j||Abs.fV 4 j)=false;rw[hk j hj];simp[Abs.fV];omega
     rw[<-hf'];clear hf' hd hk t1 t2 t3 t7 tA tB tC X;have hw:=aB (show i<maxLen by omega);refine ai (bJ hmix _ _ _ _ ?_);simp only[wq.1,Nat.reduceLT,hP,uB,uC];refine ai (bJ hmix _ _ _ _ ?_);simp only[wq.1,↓reduceIte];refine vcB.mk (fun hlt=> ?_) (fun hlt=> ?_)
     ·have hlt:i<c.gates.length:=by have:=zqs hlt;omega
      have hnext:jo (c.gates)[i]=true->∀x∈(c.gates).take (i+1),jo x=true:=fun hb=>bT hlt hall hb;have hbadE:jo (c.gates)[i]=false->(c.gates).find? (fun x=> !jo x)=some (c.gates)[i]:=fun hb=>pY hlt (fun x hx=>by rw[hall x hx];rfl) (by rw[hb];rfl);simp only[wq.1];obtain⟨g,hg⟩:∃g,g=c.gates[i]:=⟨_,rfl⟩;have hgg:=sZ hlt .any;rw[<-hg]at hgg hnext hbadE;have hev:=hEv (Ri g);refine ai (aA ?_);refine ai (bJ hmix _ _ _ _ ?_);simp only[wq.1,seval,hP,uA,uC,hgg];refine⟨⟨by omega,by omega⟩,?_⟩;refine kN hmix (by decide +kernel) ?_;simp only[nts,List.size_toArray,zrt,List.length_nil,Nat.reduceAdd,Nat.reduceSub,List.take_succ_cons,List.take_zero];simp only[wq.1,seval,bC,bI,hP];refine uw.mk hev (by rw[hP];rfl) (by simp only[V.dats,V.dat,ax,zre]) ?_;simp only[wq.1,seval];refine hT (iI _ 1 _ (fun hb=> ?_) (fun hb=> ?_))
      ·simp only[wq.1];refine bJ hmix _ _ _ _ ?_;simp only[wq.1,seval,hP,uC,hw];exact .inl ⟨m-1,by omega,i+1,by omega,by omega,hnext hb,by simp only[wq.1,seval,uA],by simp only[wq.1,seval,uB],by simp only[wq.1,↓reduceIte],by simp only[wq.1,seval,u1],by simp only[wq.1,seval,u2],by simp only[wq.1,seval,u3],by simp only[wq.1,seval,u7],by simp only[wq.1,ud],fun j hj=>by simp only[wq.1,uk j hj],_,rfl⟩
      ·simp only[wq.1,fB];simp only[XE.seq,XE.block];refine .inr ⟨_,rfl,hpan (n6 _ (hbadE hb)) (by simp only[wq.1,ud]) (fun j hj=>by simp only[wq.1,uk j hj]) (by simp only[wq.1,seval,u2]) (by simp only[wq.1,seval,u3])⟩
     ·have hi:i=c.gates.length:=by have:=of_decide_eq_false hlt;omega
      rw[hi,zrx]at hall;simp only[wq.1,seval]
      first
      |exact .inl ⟨hall,u1,u2,u3,u7,ud,uk,[],rfl⟩
      |exact .inl ⟨hall,u1,u2,u3,u7,ud,uk⟩
   ·refine ai (bJ hmix _ _ _ _ ?_);simp only[wq.1,seval,hP,t1,hBX];rw[<-hBX];refine aA ?_;refine aC (fun m f h=>∃i:Nat,m+i=c.lat.length/\i<=c.lat.length/\(∀x∈(c.lat).take i,oP x=true)/\f.t 60=kG c.lat/\f.t 61=vi c.lat.length/\f.t 62=vi i/\f.t 1= .lp 0 0/\f.t 2= .lp 1 0/\f.t 3= .lp 2 0/\f.t 7= .lm 3/\f.d=[]/\(∀j,j<3->f.k j=false)/\∃X,h=[BX,.cells [vi 0],.cells [.str []],N]++X) c.lat.length ⟨0,by omega,by omega,(fun x hx=>by simp at hx),by simp only[wq.1,seval],by simp only[wq.1,seval],by simp only[wq.1,↓reduceIte];rfl,by simp only[wq.1,seval,t1],by simp only[wq.1,seval,t2],by simp only[wq.1,seval,t3],by simp only[wq.1,seval,t7],by simp only[wq.1,hd],fun j hj=>by simp only[wq.1,hk j hj],_,rfl⟩ ?_;clear t1 t2 t3 t7 hd hk;rintro m f h ⟨i,hm,hil,hall,tA,tB,tC,t1,t2,t3,t7,hd,hk,X,rfl⟩;refine fD (h0:=[BX,.cells [vi 0],.cells [.str []],N]) (by rw[hd];simp) ?_;rw[hcl];obtain⟨f',hf'⟩:∃f',f'=f.drop (Abs.fV ([BX,.cells [vi 0],.cells [.str []],N]:H).length):=⟨_,rfl⟩;have u1:f'.t 1= .lp 0 0:=by rw[hf'];show(f.t 1).drop _=_;rw[t1];rfl
    have u2:f'.t 2= .lp 1 0:=by rw[hf'];show(f.t 2).drop _=_;rw[t2];rfl
    have u3:f'.t 3= .lp 2 0:=by rw[hf'];show(f.t 3).drop _=_;rw[t3];rfl
    have u7:f'.t 7= .lm 3:=by rw[hf'];show(f.t 7).drop _=_;rw[t7];rfl
    have uA:f'.t 60=kG c.lat:=by rw[hf'];show(f.t 60).drop _=_;rw[tA];rfl
    have uB:f'.t 61=vi c.lat.length:=by rw[hf'];show(f.t 61).drop _=_;rw[tB];rfl
    have uC:f'.t 62=vi i:=by rw[hf'];show(f.t 62).drop _=_;rw[tC];rfl
    have ud:f'.d=[]:=by rw[hf'];exact hd
    have uk:∀j,j<3->f'.k j=false:=fun j hj=>by rw[hf'];show(f.k j||Abs.fV 4 j)=false;rw[hk j hj];simp[Abs.fV];omega
    rw[<-hf'];clear hf' hd hk t1 t2 t3 t7 tA tB tC X;have hw:=aB (show i<maxLen by omega);refine ai (bJ hmix _ _ _ _ ?_);simp only[wq.1,Nat.reduceLT,hP,uB,uC];refine ai (bJ hmix _ _ _ _ ?_);simp only[wq.1,↓reduceIte];refine vcB.mk (fun hlt=> ?_) (fun hlt=> ?_)
    ·have hlt:i<c.lat.length:=by have:=zqs hlt;omega
     have hnext:oP (c.lat)[i]=true->∀x∈(c.lat).take (i+1),oP x=true:=fun hb=>bT hlt hall hb;have hbadE:oP (c.lat)[i]=false->(c.lat).find? (fun x=> !oP x)=some (c.lat)[i]:=fun hb=>pY hlt (fun x hx=>by rw[hall x hx];rfl) (by rw[hb];rfl);simp only[wq.1];obtain⟨q,hq⟩:∃q,q=c.lat[i]:=⟨_,rfl⟩;have hgg:=GX hlt .any;rw[<-hq]at hgg hnext hbadE;have eI:(decide (0<=q.init)&&decide (q.init<=2))=oP q:=rfl;refine ai (bJ hmix _ _ _ _ ?_);simp only[wq.1,seval,hP,uA,uC,hgg,eI];refine⟨⟨by omega,by omega⟩,hT (iI _ 1 _ (fun hb=> ?_) (fun hb=> ?_))⟩
     ·simp only[wq.1];refine bJ hmix _ _ _ _ ?_;simp only[wq.1,seval,hP,uC,hw];exact .inl ⟨m-1,by omega,i+1,by omega,by omega,hnext hb,by simp only[wq.1,seval,uA],by simp only[wq.1,seval,uB],by simp only[wq.1,↓reduceIte],by simp only[wq.1,seval,u1],by simp only[wq.1,seval,u2],by simp only[wq.1,seval,u3],by simp only[wq.1,seval,u7],by simp only[wq.1,ud],fun j hj=>by simp only[wq.1,uk j hj],_,rfl⟩
     ·simp only[wq.1,fB];simp only[XE.seq,XE.block];refine .inr ⟨_,rfl,hpan (n5 _ (hbadE hb)) (by simp only[wq.1,ud]) (fun j hj=>by simp only[wq.1,uk j hj]) (by simp only[wq.1,seval,u2]) (by simp only[wq.1,seval,u3])⟩
    ·have hi:i=c.lat.length:=by have:=of_decide_eq_false hlt;omega
     rw[hi,zrx]at hall;simp only[wq.1,seval]
     first
     |exact .inl ⟨hall,u1,u2,u3,u7,ud,uk,[],rfl⟩
     |exact .inl ⟨hall,u1,u2,u3,u7,ud,uk⟩
  ·refine ai (bJ hmix _ _ _ _ ?_);simp only[wq.1,seval,hP,hBX];rw[<-hBX];refine hT (ag.ev htd (by simp only[V.dats,Bool.and_true];exact hcd) ?_);simp only[wq.1,seval,hP];refine aA ?_;refine aC (fun m f h=>∃i:Nat,m+i=(dG c).length/\i<=(dG c).length/\(∀x∈(dG c).take i,aS x=true)/\f.t 42=aN (dG c)/\f.t 43=vi (dG c).length/\f.t 44=vi i/\f.t 1= .lp 0 0/\f.t 2= .lp 1 0/\f.t 3= .lp 2 0/\f.d=[]/\(∀j,j<3->f.k j=false)/\h=[BX,.cells [vi 0],.cells [.str []]]) (dG c).length ⟨0,by omega,by omega,(fun x hx=>by simp at hx),by simp only[wq.1,seval],by simp only[wq.1,seval],by simp only[wq.1,↓reduceIte];rfl,by simp only[wq.1,seval],by simp only[wq.1,seval],by simp only[wq.1,seval],by simp only[wq.1],fun j hj=>by simp only[wq.1],rfl⟩ ?_;rintro m f h ⟨i,hm,hil,hall,uA,uB,uC,u1,u2,u3,ud,uk,rfl⟩;have hw:=aB (show i<maxLen by omega);refine ai (bJ hmix _ _ _ _ ?_);simp only[wq.1,Nat.reduceLT,hP,uB,uC];refine ai (bJ hmix _ _ _ _ ?_);simp only[wq.1,↓reduceIte];refine vcB.mk (fun hlt=> ?_) (fun hlt=> ?_)
   ·have hlt:i<(dG c).length:=by have:=zqs hlt;omega
    have hin:=wP (dG c)[i];simp only[wq.1];refine ai (bJ hmix _ _ _ _ ?_);simp only[wq.1,seval,hP,uA,uC,zW hlt];refine⟨⟨by omega,by omega⟩,hT (ag.ev hin rfl ?_)⟩;simp only[wq.1,seval,hP];refine hT (iI _ 4 _ (fun hb=> ?_) (fun hb=> ?_))
    ·simp only[wq.1];refine bJ hmix _ _ _ _ ?_;simp only[wq.1,seval,hP,uC,hw];exact .inl ⟨m-1,by omega,i+1,by omega,by omega,bT hlt hall hb,by simp only[wq.1,seval,uA],by simp only[wq.1,seval,uB],by simp only[wq.1,↓reduceIte],by simp only[wq.1,seval,u1],by simp only[wq.1,seval,u2],by simp only[wq.1,seval,u3],by simp only[wq.1,ud],fun j hj=>by simp only[wq.1,uk j hj],rfl⟩
    ·simp only[wq.1,fB];simp only[XE.seq,XE.block];refine .inr ⟨_,rfl,hpan (n1 _ (pY hlt (fun x hx=>by rw[hall x hx];rfl) (by rw[hb];rfl))) (by simp only[wq.1,ud]) (fun j hj=>by simp only[wq.1,uk j hj]) (by simp only[wq.1,seval,u2]) (by simp only[wq.1,seval,u3])⟩
   ·have hi:i=(dG c).length:=by have:=of_decide_eq_false hlt;omega
    rw[hi,zrx]at hall;simp only[wq.1,seval];exact .inl ⟨hall,u1,u2,u3,ud,uk⟩
 ·simp only[wq.1,fB];simp only[XE.seq];exact hpan (n0 hl) (by simp only[wq.1]) (fun j hj=>by simp only[wq.1]) (by simp only[wq.1,seval]) (by simp only[wq.1,seval])
abbrev nv(k:Nat):V:=vi (k:Int)
abbrev dh(l:List Nat):List V:=l.map nv
theorem EL{x:Bool}{id k off:Nat}:VLe (.is true k []) (.ls id k off 0 0):=fun c x h=>by simp only[VRel]at h ⊢;obtain⟨a,cp,h1,h2,h3,h4,_⟩:=h;simp only[true_imp_iff,forall_const]at h4;simp only[List.length_nil]at h1 h4;subst h4;exact⟨a,0,h1,zrb _,zrb _,Nat.zero_le _,.inl rfl⟩
theorem bz{p:Nat->Bool}:∀l:List Nat,V.drops p (dh l)=dh l
 |[]=>rfl
 |a::l=>by show V.drop p (nv a)::V.drops p (dh l)=_;rw[bz l];rfl
theorem XX{l:List Nat}{i:Nat}(h:i<l.length)(d:V):(dh l).getD i d=nv (l.getD i 0):=by rw[fP h,zqg,zqk h];rfl
theorem IZ{l:List Nat}{i:Nat}{v:Nat}(h:i<l.length):List.take (i*1) (dh l)++[nv v]++List.drop (i*1+1) (dh l)=dh (l.set i v):=by have e:dh (l.set i v)=(dh l).set i (nv v):=List.map_set ..;rw[Nat.mul_one,e,List.set_eq_take_append_cons_drop,if_pos (by simpa using h),zqc];rfl
theorem N7{l:List Nat}{i:Nat}(h:i<l.length)(d:V):(dh l).getD (i*1) d=nv (l.getD i 0):=by rw[Nat.mul_one];exact XX h d
structure HPi(P Q:Nat)(l:List Nat)(h:H):Prop where
 p:h[P]? =some (.cells [.ls Q 1 0 l.length l.length])
 q:h[Q]? =some (.cells (dh l))
 ne:P≠Q
theorem HPi.set{P Q:Nat}{l l':List Nat}{h:H}(k:HPi P Q l h)(hl:l'.length=l.length):HPi P Q l' (h.set Q (.cells (dh l'))) where
 p:=by rw[zqn k.ne.symm,k.p,hl]
 q:=zqt (zqe k.q).1
 ne:=k.ne
theorem N8 [MO] {h : H} {s off : Nat} : WJ TE h 246 (.lp s off) "Push" 327 (.lp s off) := by intro ok pl w x hs hx;have hx' := hx;simp only [VRel] at hx;obtain ⟨b, hb, rfl⟩ := hx;exact ⟨_, by kernel_rfl, hx'⟩
theorem Rz [MO] {h : H} {s off : Nat} : WJ TE h 246 (.lp s off) "Pop" 326 (.lp s off) := by intro ok pl w x hs hx;have hx' := hx;simp only [VRel] at hx;obtain ⟨b, hb, rfl⟩ := hx;exact ⟨_, by kernel_rfl, hx'⟩
theorem N9 [MO] (b off : Nat) (w : World) : ∀ (name : String) (g : FuncId), (name = "Len" ∧ g = 174) ∨ (name = "Less" ∧ g = 325) ∨ (name = "Swap" ∧ g = 328) →
 (Go.method (TE.P.types.size+Made.depth) 246 (.pointer (some ⟨b,off,none⟩)) name).run TE.P w=(do let v <-Instr.loadAt 247 (.pointer (some ⟨b,off,none⟩));pure (g,v):Sem (FuncId×Value)).run TE.P w:=by
 rintro name g (⟨rfl,rfl⟩|⟨rfl,rfl⟩|⟨rfl,rfl⟩)<;>kernel_rfl
theorem fF[MO]{h:H}{P Q:Nat}{l:List Nat}(k:HPi P Q l h){name:String}{g:FuncId}
 (hn : (name = "Len" ∧ g = 174) ∨ (name = "Less" ∧ g = 325) ∨ (name = "Swap" ∧ g = 328)) : WJ TE h 246 (.lp P 0) name g (.ls Q 1 0 l.length l.length) := by
 intro ok pl w v hs hx;have hl:=wZ (P:=TE.P) hs (t:=247) hx;have hp:wY TE.P h 247 (.lp P 0)=((0+1<=[V.ls Q 1 0 l.length l.length].length/\(true=true)),.ls Q 1 0 l.length l.length):=by
  have hh:dV h P=[V.ls Q 1 0 l.length l.length]:=by simp only[dV,k.p]
  simp only[wY,TEP,tis,hh,V.sub,TI.agg,cond_false,implies_true];rfl
 rw[hp]at hl;obtain⟨y,h1,h2⟩:=hl ⟨zrb 1,rfl⟩;simp only[VRel]at hx;obtain⟨b,hb,rfl⟩:=hx;refine⟨y,?_,h2⟩;rw[N9 b 0 w name g hn];simp only[Sem.run_bind];have h1':(Instr.loadAt 247 (.pointer (some ⟨b,0,none⟩))).run TE.P w= .ok y w:=h1;rw[h1'];rfl
theorem uM[MO]{Q n c:Nat}{h:H}{R:AEnd->H->(Nat->Bool)->Prop}(hr:R (.ret (vi n)) h (fun _=>false)):ag TE 174 [.ls Q 1 0 n c] h R:=by refine aj Tryz.func174 rfl (by simp[nts]) (vm ?_);simp only[wq.1,seval,Tryz.results174];exact hr
theorem jZ[MO]{Q:Nat}{l:List Nat}{h:H}(hq:h[Q]? =some (.cells (dh l))){i k:Nat}(hi:i<l.length)(hk:k<l.length){R:AEnd->H->(Nat->Bool)->Prop}
 (hr:R (.ret (.bool (decide (l.getD i 0<l.getD k 0)))) h (fun _=>false)):ag TE 325 [.ls Q 1 0 l.length l.length,vi i,vi k] h R:=by
 have e:decide (((l.getD i 0:Nat):Int)<((l.getD k 0:Nat):Int))=decide (l.getD i 0<l.getD k 0):=decide_eq_decide.2 (by omega);refine aj Tryz.func325 rfl (by simp[nts]) (vm ?_);simp only[wq.1,seval,Tryz.results325,hq,N7 hi,N7 hk,e];exact⟨by decide +kernel,⟨by omega,by omega⟩,by omega,⟨by omega,by omega⟩,by omega,hr⟩
def Oa:Plan:=tkZ [0,1,2,3,4,5,6,8,9,10]<| .alt 7 (.one 11<| .take 12<| .one 13<| .take 14<| .one 15<| .fin) (.one 11 (.one 7<| .take 12<| .one 13<| .take 14<| .one 15<| .fin))
theorem kw[MO]{Q:Nat}{l:List Nat}{h:H}(hq:h[Q]? =some (.cells (dh l))){i k:Nat}(hi:i<l.length)(hk:k<l.length){R:AEnd->H->(Nat->Bool)->Prop}
 (hr:R (.ret (.tup [])) (h.set Q (.cells (dh (qB l i k)))) (fun _=>false)):ag TE 328 [.ls Q 1 0 l.length l.length,vi i,vi k] h R:=by
 have hxl:Q<h.length:=(zqe hq).1;have n1:=IZ (v:=l.getD k 0) hi;have n2:=IZ (l:=l.set i (l.getD k 0)) (v:=l.getD i 0) (i:=k) (by simpa using hk);refine aj Tryz.func328 rfl (by simp[nts]) (vm ?_);simp only[wq.1,Tryz.results328];refine dW mixed Oa (fun f' h'=>f'.d=[]/\(∀j,f'.k j=false)/\h'=h.set Q (.cells (dh (qB l i k)))) (by rw[show TE.P=P from rfl];decide +kernel) (by decide +kernel) ?_ ?_
 ·simp only[wq.1,seval,Oa,hq,N7 hi,N7 hk,n1,n2,zqt,hxl,zrn,List.set_set];have hsw:(l.set i (l.getD k 0)).set k (l.getD i 0)=qB l i k:=rfl;rw[hsw]
  and_intros<;>first|omega|rfl
 ·rintro f h ⟨hd,hkf,rfl⟩;simp only[wq.1,hd];have:f.k=fun _=>false:=funext hkf;rw[this];exact hr
theorem TV:∀(f:Nat)(l:List Nat)(j:Nat),(upP f l j).length=l.length
 |0,_,_=>rfl
 |f+1,l,j=>by
  unfold upP;split
  ·rfl
  ·rw[TV f,gW]
theorem Ob[MO]{P Q:Nat}{l:List Nat}{h:H}(k:HPi P Q l h)(hb:l.length<=1000000){j f:Nat}(hj:j<l.length)(hf:j<f){R:AEnd->H->(Nat->Bool)->Prop}
 (hr:R (.ret (.tup [])) (h.set Q (.cells (dh (upP f l j)))) (fun _=>false)):ag TE 236 [.iface 246 (.lp P 0),vi j] h R:=by
 have hM:=mLx;obtain⟨U,hU⟩:∃U,U=upP f l j:=⟨_,rfl⟩;rw[<-hU]at hr;have h0:h=h.set Q (.cells (dh l)):=by have hq:=k.q;obtain⟨h1,h2⟩:=zqe hq;rw[<-h2,List.set_getElem_self]
 refine aj Tryz.func236 rfl (by simp [nts]) (vm ?_);simp only [wq.1,↓reduceIte,Nat.reduceEqDiff,Nat.reduceLT,Nat.reduceLeDiff,Nat.reduceAdd,Nat.reduceSub,Int.reduceToNat,Nat.reduceDiv,Int.reduceLT,Int.reduceLE,Int.reduceNeg,Int.reduceBEq,Int.reduceBNe,Int.reduceAdd,Int.reduceSub,Nat.reduceBEq,reduceCtorEq,Nat.reduceMul,au,Tryz.results236];refine aC (fun m fr h' => ∃ (l' : List Nat) (j f : Nat),m = j /\ j < l'.length /\ l'.length = l.length /\ j < f /\ U = upP f l' j /\ fr.t 0 = .iface 246 (.lp P 0) /\ fr.t 1 = vi j /\ fr.d = [] /\ (∀ j,fr.k j = false) /\ h' = h.set Q (.cells (dh l'))) j
  ⟨l,j,f,rfl,hj,rfl,hf,hU,rfl,rfl,rfl,fun _=>rfl,h0⟩ ?_
 rintro m fr h' ⟨l',j,f,rfl,hj,hl,hf,hU,t0,t1,hd,hkf,rfl⟩;have hk':=k.set hl;have hkf':fr.k=fun _=>false:=funext hkf;obtain⟨f,rfl⟩:∃f',f=f'+1:=⟨f-1,by omega⟩;rw[upP]at hU;refine vm ?_;by_cases hm:m=0
 ·subst hm;have hq:IntKind.i64.wrap ((IntKind.i64.wrap (((0:Nat):Int)-1)).tdiv 2)=0:=by decide
  have hz:((0:Int)==((0:Nat):Int))=true:=rfl;rw[if_pos (.inl rfl)]at hU;simp only[wq.1,↓reduceIte,Nat.reduceEqDiff,Nat.reduceLT,Nat.reduceLeDiff,Nat.reduceAdd,Nat.reduceSub,Int.reduceToNat,Nat.reduceDiv,Int.reduceLT,Int.reduceLE,Int.reduceNeg,Int.reduceBEq,Int.reduceBNe,Int.reduceAdd,Int.reduceSub,Nat.reduceBEq,reduceCtorEq,Nat.reduceMul,au,Tryz.results236,t0,t1,hd,hq,hz];refine⟨by decide,.bool false,?_⟩;simp only[wq.1,↓reduceIte,Nat.reduceEqDiff,Nat.reduceLT,Nat.reduceLeDiff,Nat.reduceAdd,Nat.reduceSub,Int.reduceToNat,Nat.reduceDiv,Int.reduceLT,Int.reduceLE,Int.reduceNeg,Int.reduceBEq,Int.reduceBNe,Int.reduceAdd,Int.reduceSub,Nat.reduceBEq,reduceCtorEq,Nat.reduceMul,au,Tryz.results236,t0,t1,hd,hq,hz,hkf'];rw[hU]at hr;exact hr
 ·have hq:IntKind.i64.wrap ((IntKind.i64.wrap ((m:Int)-1)).tdiv 2)=(((m-1)/2:Nat):Int):=by rw[iL (n:=(m:Int)-1) (by omega) (by omega),show(m:Int)-1=((m-1:Nat):Int) by omega,show((m-1:Nat):Int).tdiv 2=(((m-1)/2:Nat):Int)from rfl,iL (by omega) (by omega)]
  have hne:((((m-1)/2:Nat):Int)==(m:Int))=false:=by rw[beq_eq_false_iff_ne];omega
  simp only[wq.1,↓reduceIte,Nat.reduceEqDiff,Nat.reduceLT,reduceCtorEq,t0,t1,hq,hne];refine⟨by decide,?_⟩;refine bG rfl (t:=246) (v:= .lp P 0) (v':= .ls Q 1 0 l'.length l'.length) (g:=325) (by simp only[wq.1,seval]) (by simp only[wq.1,↓reduceIte,Nat.reduceEqDiff,dH,iZ]) (fF hk' (.inr (.inl ⟨rfl,rfl⟩))) (by simp only[wq.1]) ?_;simp only[wq.1,seval];refine jZ hk'.q hj (by omega) ?_;by_cases hlt:l'.getD m 0<l'.getD ((m-1)/2) 0
  ·rw[if_neg (by omega)]at hU;simp only[wq.1,seval,t0,t1,decide_eq_true hlt];refine bG rfl (t:=246) (v:= .lp P 0) (v':= .ls Q 1 0 l'.length l'.length) (g:=328) (by simp only[wq.1,seval]) (by simp only[wq.1,seval,dH,iZ]) (fF hk' (.inr (.inr ⟨rfl,rfl⟩))) (by simp only[wq.1]) ?_;simp only[wq.1,seval];refine kw hk'.q (by omega) hj ?_;simp only[wq.1,seval];exact .inl ⟨(m-1)/2,by omega,qB l' ((m-1)/2) m,(m-1)/2,f,rfl,by rw[gW];omega,by rw[gW,hl],by omega,hU,by simp only[wq.1,seval,t0],by simp only[wq.1,↓reduceIte],by simp only[wq.1,hd],hkf,by rw[List.set_set]⟩
  ·rw[if_pos (.inr hlt)]at hU;simp only[wq.1,seval,hd,decide_eq_false hlt];rw[hkf'];rw[hU]at hr;exact hr
theorem G7[MO]{P Q:Nat}{l:List Nat}{h:H}(k:HPi P Q l h)(hb:l.length<=1000000){m f:Nat}(hm:m<=l.length)(hf:m<=f)(hf1:0<f){R:AEnd->H->(Nat->Bool)->Prop}
 (hr:∀b,R (.ret (.bool b)) (h.set Q (.cells (dh (BU f l 0 m)))) (fun _=>false)):ag TE 237 [.iface 246 (.lp P 0),vi 0,vi m] h R:=by
 have hM:=mLx;obtain⟨U,hU⟩:∃U,U=BU f l 0 m:=⟨_,rfl⟩;rw[<-hU]at hr;have h0:h=h.set Q (.cells (dh l)):=by have hq:=k.q;obtain⟨h1,h2⟩:=zqe hq;rw[<-h2,List.set_getElem_self]
 refine aj Tryz.func237 rfl (by simp [nts]) (vm ?_);simp only [wq.1,seval,Tryz.results237];refine aC (fun mm fr h' => ∃ (l' : List Nat) (i f : Nat),mm = m - i /\ l'.length = l.length /\ m - i <= f /\ 0 < f /\ U = BU f l' i m /\ fr.t 0 = .iface 246 (.lp P 0) /\ fr.t 1 = vi 0 /\ fr.t 2 = vi m /\ fr.t 7 = vi i /\ i <= m /\ fr.d = [] /\ (∀ j,fr.k j = false) /\ h' = h.set Q (.cells (dh l'))) m
  ⟨l,0,f,rfl,rfl,by omega,hf1,hU,rfl,rfl,rfl,rfl,Nat.zero_le _,rfl,fun _=>rfl,h0⟩ ?_
 rintro mm fr h' ⟨l',i,f,hmm,hl,hf,hf1,hU,t0,t1,t2,t7,hi,hd,hkf,rfl⟩;have hk':=k.set hl;have hkf':fr.k=fun _=>false:=funext hkf;obtain⟨f,rfl⟩:∃f',f=f'+1:=⟨f-1,by omega⟩;rw[BU]at hU;have w1:IntKind.i64.wrap (2*(i:Int))=((2*i:Nat):Int):=by rw[iL (by omega) (by omega)];omega
 have w2:IntKind.i64.wrap (((2*i:Nat):Int)+1)=((2*i+1:Nat):Int):=by rw[iL (by omega) (by omega)];omega
 have w3:IntKind.i64.wrap (((2*i+1:Nat):Int)+1)=((2*i+2:Nat):Int):=by rw[iL (by omega) (by omega)];omega
 have z1:decide (((2*i+1:Nat):Int)<0)=false:=by rw[zqd];omega
 refine vm ?_;by_cases hge:m<=2*i+1
 ·have e1:decide ((m:Int)<=((2*i+1:Nat):Int))=true:=by rw[zqb];omega
  rw[if_pos (.inl hge)]at hU;simp only[wq.1,seval,t1,t2,t7,hd,w1,w2,e1,hkf'];rw[hU]at hr;exact hr _
 ·have e1:decide ((m:Int)<=((2*i+1:Nat):Int))=false:=by rw[zqd];omega
  by_cases hlt:2*i+2<m
  ·have e2:decide (((2*i+2:Nat):Int)<(m:Int))=true:=by rw[zqb];omega
   simp only[wq.1,seval,t0,t2,t7,w1,w2,w3,e1,z1,e2];refine bG rfl (t:=246) (v:= .lp P 0) (v':= .ls Q 1 0 l'.length l'.length) (g:=325) (by simp only[wq.1,seval]) (by simp only[wq.1,seval,dH,iZ]) (fF hk' (.inr (.inl ⟨rfl,rfl⟩))) (by simp only[wq.1]) ?_;simp only[wq.1,seval];refine jZ hk'.q (by omega) (by omega) ?_;by_cases hc:l'.getD (2*i+2) 0<l'.getD (2*i+1) 0
   ·have hkid:IE l' i m=2*i+2:=by unfold IE;rw[if_pos ⟨hlt,hc⟩]
    rw[hkid]at hU;simp only[wq.1,seval,t0,t7,decide_eq_true hc];refine bG rfl (t:=246) (v:= .lp P 0) (v':= .ls Q 1 0 l'.length l'.length) (g:=325) (by simp only[wq.1,seval]) (by simp only[wq.1,seval,dH,iZ]) (fF hk' (.inr (.inl ⟨rfl,rfl⟩))) (by simp only[wq.1]) ?_;simp only[wq.1,seval];refine jZ hk'.q (i:=2*i+2) (k:=i) (by omega) (by omega) ?_;by_cases hsw:l'.getD (2*i+2) 0<l'.getD i 0
    ·rw[if_neg (by omega)]at hU;simp only[wq.1,seval,t0,t7,decide_eq_true hsw];refine bG rfl (t:=246) (v:= .lp P 0) (v':= .ls Q 1 0 l'.length l'.length) (g:=328) (by simp only[wq.1,seval]) (by simp only[wq.1,seval,dH,iZ]) (fF hk' (.inr (.inr ⟨rfl,rfl⟩))) (by simp only[wq.1]) ?_;simp only[wq.1,seval];refine kw hk'.q (i:=i) (k:=2*i+2) (by omega) (by omega) ?_;simp only[wq.1,seval];exact .inl ⟨m-(2*i+2),by omega,qB l' i (2*i+2),2*i+2,f,rfl,by rw[gW,hl],by omega,by omega,hU,by simp only[wq.1,seval,t0],by simp only[wq.1,seval,t1],by simp only[wq.1,seval,t2],by simp only[wq.1,↓reduceIte],by omega,by simp only[wq.1,hd],hkf,by rw[List.set_set]⟩
    ·rw[if_pos (.inr hsw)]at hU;simp only[wq.1,seval,t1,t7,hd,decide_eq_false hsw];rw[hkf'];rw[hU]at hr;exact hr _
   ·have hkid:IE l' i m=2*i+1:=by unfold IE;rw[if_neg (fun h=>hc h.2)]
    rw[hkid]at hU;simp only[wq.1,seval,t0,t7,decide_eq_false hc];refine bG rfl (t:=246) (v:= .lp P 0) (v':= .ls Q 1 0 l'.length l'.length) (g:=325) (by simp only[wq.1,seval]) (by simp only[wq.1,seval,dH,iZ]) (fF hk' (.inr (.inl ⟨rfl,rfl⟩))) (by simp only[wq.1]) ?_;simp only[wq.1,seval];refine jZ hk'.q (i:=2*i+1) (k:=i) (by omega) (by omega) ?_;by_cases hsw:l'.getD (2*i+1) 0<l'.getD i 0
    ·rw[if_neg (by omega)]at hU;simp only[wq.1,seval,t0,t7,decide_eq_true hsw];refine bG rfl (t:=246) (v:= .lp P 0) (v':= .ls Q 1 0 l'.length l'.length) (g:=328) (by simp only[wq.1,seval]) (by simp only[wq.1,seval,dH,iZ]) (fF hk' (.inr (.inr ⟨rfl,rfl⟩))) (by simp only[wq.1]) ?_;simp only[wq.1,seval];refine kw hk'.q (i:=i) (k:=2*i+1) (by omega) (by omega) ?_;simp only[wq.1,seval];exact .inl ⟨m-(2*i+1),by omega,qB l' i (2*i+1),2*i+1,f,rfl,by rw[gW,hl],by omega,by omega,hU,by simp only[wq.1,seval,t0],by simp only[wq.1,seval,t1],by simp only[wq.1,seval,t2],by simp only[wq.1,↓reduceIte],by omega,by simp only[wq.1,hd],hkf,by rw[List.set_set]⟩
    ·rw[if_pos (.inr hsw)]at hU;simp only[wq.1,seval,t1,t7,hd,decide_eq_false hsw];rw[hkf'];rw[hU]at hr;exact hr _
  ·have e2:decide (((2*i+2:Nat):Int)<(m:Int))=false:=by rw[zqd];omega
   have hkid:IE l' i m=2*i+1:=by unfold IE;rw[if_neg (fun h=>hlt h.1)]
   rw[hkid]at hU;simp only[wq.1,seval,t0,t2,t7,w1,w2,w3,e1,z1,e2];refine⟨.bool false,?_⟩;simp only[wq.1,seval,t0,t7];refine bG rfl (t:=246) (v:= .lp P 0) (v':= .ls Q 1 0 l'.length l'.length) (g:=325) (by simp only[wq.1,seval]) (by simp only[wq.1,seval,dH,iZ]) (fF hk' (.inr (.inl ⟨rfl,rfl⟩))) (by simp only[wq.1]) ?_;simp only[wq.1,seval];refine jZ hk'.q (i:=2*i+1) (k:=i) (by omega) (by omega) ?_;by_cases hsw:l'.getD (2*i+1) 0<l'.getD i 0
   ·rw[if_neg (by omega)]at hU;simp only[wq.1,seval,t0,t7,decide_eq_true hsw];refine bG rfl (t:=246) (v:= .lp P 0) (v':= .ls Q 1 0 l'.length l'.length) (g:=328) (by simp only[wq.1,seval]) (by simp only[wq.1,seval,dH,iZ]) (fF hk' (.inr (.inr ⟨rfl,rfl⟩))) (by simp only[wq.1]) ?_;simp only[wq.1,seval];refine kw hk'.q (i:=i) (k:=2*i+1) (by omega) (by omega) ?_;simp only[wq.1,seval];exact .inl ⟨m-(2*i+1),by omega,qB l' i (2*i+1),2*i+1,f,rfl,by rw[gW,hl],by omega,by omega,hU,by simp only[wq.1,seval,t0],by simp only[wq.1,seval,t1],by simp only[wq.1,seval,t2],by simp only[wq.1,↓reduceIte],by omega,by simp only[wq.1,hd],hkf,by rw[List.set_set]⟩
   ·rw[if_pos (.inr hsw)]at hU;simp only[wq.1,seval,t1,t7,hd,decide_eq_false hsw];rw[hkf'];rw[hU]at hr;exact hr _
def EM:Plan:=tkZ [0,1,2,4]<| .alt 3 (onZ [5,6,7]<| .take 8<| .one 9<| .fin) (.one 5 (.alt 3 (.one 6<| .one 7<| .take 8<| .one 9<| .fin) (.one 6 (.one 3<| .one 7<| .take 8<| .one 9<| .fin))))
def rq(P Q:Nat)(h:H)(l:List Nat):H:=((h.map (O.drop fun x=>x==Q)).set Q (.cells (dh l))).set P (.cells [.ls Q 1 0 l.length l.length])
theorem HPi.push{P Q:Nat}{l:List Nat}{h:H}(k:HPi P Q l h)(l':List Nat):HPi P Q l' (rq P Q h l') where
 p:=by unfold rq;rw[zqt (by simp;exact(zqe k.p).1)]
 q:=by unfold rq;rw[zqn k.ne,zqt (by simp;exact(zqe k.q).1)]
 ne:=k.ne
theorem Oc{P Q:Nat}{l l':List Nat}{h:H}(hne:P≠Q)(hl:l'.length=l.length):(rq P Q h l).set Q (.cells (dh l'))=rq P Q h l':=by unfold rq;rw[List.set_comm _ _ hne,List.set_set,hl]
theorem G8[MO]{P Q:Nat}{l:List Nat}{h:H}(k:HPi P Q l h)(hb:l.length<=1000000)(x:Nat){R:AEnd->H->(Nat->Bool)->Prop}
 (hr:R (.ret (.tup [])) (rq P Q h (l++[x])) (fun i=>i==Q)):ag TE 327 [.lp P 0,.iface 3 (nv x)] h R:=by
 have hM:=mLx;have hp:=k.p;have hq:=k.q;have hpl:=(zqe hp).1;have hql:=(zqe hq).1;have hne:=k.ne;have hne':=hne.symm;have b1:(P==Q)=false:=by simp[hne]
 have hp':(h.map (O.drop fun i=>i==Q))[P]? =some (.cells [.any]):=by rw[zqo,hp];simp[O.drop,V.drops,V.drop]
 have hmap:∀l:List Nat,V.drops (fun i=>i==Q) (dh l)=dh l:=fun l=>bz l;refine aj Tryz.func327 rfl (by simp[nts]) (vm ?_);simp only[wq.1,Tryz.results327];refine dW mixed EM (fun f' h'=>f'.d=[]/\f'.k=(fun i=>i==Q)/\h'=rq P Q h (l++[x])) (by rw[TEP];decide +kernel) (by decide +kernel) ?_ ?_
 ·simp only[wq.1,↓reduceIte,Nat.reduceEqDiff,Nat.reduceLT,reduceCtorEq,Nat.reduceMul,EM,hp,hp',hq,zqn,ne_eq,not_false_eq_true,hne',b1,hmap];have e:dh l++[nv x]=dh (l++[x]):=by simp
  rw[e];refine⟨⟨rfl,by decide⟩,⟨by omega,by omega,by omega⟩,?_⟩;unfold rq;simp
 ·rintro f h' ⟨hd,hkf,rfl⟩;simp only[wq.1,hd,hkf];exact hr
theorem yl[MO]{P Q:Nat}{l:List Nat}{h:H}(k:HPi P Q l h)(hb:l.length<=900000)(x:Nat){R:AEnd->H->(Nat->Bool)->Prop}
 (hr:R (.ret (.tup [])) (rq P Q h (Es l x)) (fun i=>i==Q)):ag TE 173 [.iface 246 (.lp P 0),.iface 3 (nv x)] h R:=by
 have hM:=mLx;have hne:=k.ne;have b1:(P==Q)=false:=by simp[hne]
 have k1:=k.push (l++[x]);refine aj Tryz.func173 rfl (by simp[nts]) (vm ?_);simp only[wq.1,seval,Tryz.results173];refine bG rfl (t:=246) (v:= .lp P 0) (v':= .lp P 0) (g:=327) (by simp only[wq.1,seval]) (by simp only[wq.1,seval,dH,iZ]) N8 (by simp only[wq.1]) ?_;simp only[wq.1,↓reduceIte];refine G8 k (by omega) x ?_;simp only[wq.1,seval,bu,b1];refine bG rfl (t:=246) (v:= .lp P 0) (v':= .ls Q 1 0 (l++[x]).length (l++[x]).length) (g:=174) (by simp only[wq.1,↓reduceIte]) (by simp only[wq.1,↓reduceIte,dH]) (fF k1 (.inl ⟨rfl,rfl⟩)) (by simp only[wq.1]) ?_;simp only[wq.1];refine uM ?_;have hw:IntKind.i64.wrap (((l.length+1:Nat):Int)-1)=(l.length:Int):=by rw[iL (by omega) (by omega)];omega
 simp only[wq.1,seval,hw];refine Ob k1 (by simp;omega) (j:=l.length) (f:=l.length+1) (by simp) (by omega) ?_;simp only[wq.1];rw[Oc hne (TV _ _ _)];exact hr
def EN:Plan:=tkZ [0,1,2,4,5]<| .alt 3 (.one 6<| .one 7<|tkZ [8,9,10]<| .one 11<| .fin) (.one 6 (.alt 3 (.one 7<|tkZ [8,9,10]<| .one 11<| .fin) (.one 7 (.take 8<| .one 3<| .take 9<| .take 10<| .one 11<| .fin))))
def G9(P Q:Nat)(h:H)(l:List Nat):H:=(h.set Q (.cells (dh l))).set P (.cells [.ls Q 1 0 l.length l.length])
theorem HPi.pop{P Q:Nat}{l:List Nat}{h:H}(k:HPi P Q l h)(l':List Nat):HPi P Q l' (G9 P Q h l') where
 p:=by unfold G9;rw[zqt (by simp;exact(zqe k.p).1)]
 q:=by unfold G9;rw[zqn k.ne,zqt (zqe k.q).1]
 ne:=k.ne
theorem KD[MO]{P Q:Nat}{l0:List Nat}{x:Nat}{h:H}(k:HPi P Q (l0++[x]) h)(hb:l0.length<=1000000){R:AEnd->H->(Nat->Bool)->Prop}
 (hr:R (.ret (.iface 3 (nv x))) (G9 P Q h l0) (fun _=>false)):ag TE 326 [.lp P 0] h R:=by
 have hM:=mLx;have hp:=k.p;have hq:=k.q;have hpl:=(zqe hp).1;have hql:=(zqe hq).1;have hne:=k.ne;have hne':=hne.symm;rw[zqa,zrk]at hp;have hw:IntKind.i64.wrap (((l0.length+1:Nat):Int)-1)=(l0.length:Int):=by rw[iL (by omega) (by omega)];omega
 have hgx:(List.map nv l0++[nv x]).getD (l0.length*1) .any=nv x:=by have:=N7 (l:=l0++[x]) (i:=l0.length) (by simp) .any;rw[show dh (l0++[x])=List.map nv l0++[nv x] by simp]at this;rw[this];simp
 refine JZ ?_;refine aj Tryz.func326 rfl (by simp[nts]) (vm ?_);simp only[wq.1,seval,Tryz.results326];have hzl:(0:Int)<=(l0.length:Int):=by omega
 simp only[wq.1,seval,hp,hq,hw,hgx];refine⟨by decide +kernel,⟨by omega,by omega⟩,by omega,?_⟩;refine dW mixed EN (fun f' h2=>f'.t 3=nv x/\f'.d=[]/\(∀j,f'.k j=false)/\h2=h.set P (.cells [.ls Q 1 0 l0.length (l0.length+1)])) (by rw[TEP];decide +kernel) (by decide +kernel) ?_ ?_
 ·simp only[wq.1,seval,EN,hp,hw];exact⟨by omega,.inl (by omega)⟩
 ·rintro f h2 ⟨h3,hd,hkf,rfl⟩;have hkf':f.k=fun _=>false:=funext hkf;simp only[wq.1,seval,h3,hd,hkf'];refine⟨by simp,G9 P Q h l0,?_,hr⟩;unfold G9;refine HLe.trans (HLe.set (i:=P) (zqt hpl) (o':= .cells [.ls Q 1 0 l0.length l0.length]) (OLe.cells (zrb _) (bW.cons (VLe.cap (by omega)) bW.nil))) ?_;rw[List.set_set,List.set_comm _ _ hne'];refine HLe.set (o:= .cells (dh (l0++[x]))) ?_ ?_
  ·rw[zqn hne];exact hq
  ·have:=OLe.take (dh (l0++[x])) l0.length;have e:(dh (l0++[x])).take l0.length=dh l0:=by rw[<-List.map_take,List.take_left' rfl]
   rw[e]at this;exact this
theorem Ha{l0:List Nat}{x:Nat}:(l0++[x]).getLastD 0=x:=by simp
theorem KE[MO]{P Q:Nat}{l:List Nat}{h:H}(k:HPi P Q l h)(hb:l.length<=900000)(hne0:l≠[]){R:AEnd->H->(Nat->Bool)->Prop}
 (hr:R (.ret (.iface 3 (nv ((ni l).getLastD 0)))) (G9 P Q h (ni l).dropLast) (fun _=>false)):ag TE 175 [.iface 246 (.lp P 0)] h R:=by
 have hM:=mLx;have hne:=k.ne;have hpos:0<l.length:=List.length_pos_iff.2 hne0;obtain⟨m,hm⟩:∃m,l.length=m+1:=⟨l.length-1,by omega⟩;have hw:IntKind.i64.wrap ((l.length:Int)-1)=(m:Int):=by rw[iL (by omega) (by omega)];omega
 have hpop:ni l=BU l.length (qB l 0 m) 0 m:=by unfold ni;rw[hm];rfl
 have k1:=k.set (l':=qB l 0 m) (gW _ _ _);have hpl:=NG hne0;obtain⟨l0,x,e⟩:∃l0 x,ni l=l0++[x]:=by
  have:ni l≠[]:=fun h=>by rw[h]at hpl;simp at hpl;omega
  exact⟨_,_,(List.dropLast_concat_getLast this).symm⟩
 have k2:=k1.set (l':=ni l) (by rw[hpl,gW]);rw[e,Ha,List.dropLast_concat]at hr;rw[e,List.set_set]at k2;have hl0:l0.length=m:=by rw[e,zqa,zrk]at hpl;omega
 refine aj Tryz.func175 rfl (by simp[nts]) (vm ?_);simp only[wq.1,seval,Tryz.results175];refine bG rfl (t:=246) (v:= .lp P 0) (v':= .ls Q 1 0 l.length l.length) (g:=174) (by simp only[wq.1,↓reduceIte]) (by simp only[wq.1,↓reduceIte,dH]) (fF k (.inl ⟨rfl,rfl⟩)) (by simp only[wq.1]) ?_;simp only[wq.1];refine uM ?_;simp only[wq.1,seval,hw];refine bG rfl (t:=246) (v:= .lp P 0) (v':= .ls Q 1 0 l.length l.length) (g:=328) (by simp only[wq.1,seval]) (by simp only[wq.1,seval,dH,iZ]) (fF k (.inr (.inr ⟨rfl,rfl⟩))) (by simp only[wq.1]) ?_;simp only[wq.1,↓reduceIte];refine kw (i:=0) (k:=m) k.q (by omega) (by omega) ?_;simp only[wq.1,seval];refine G7 k1 (by rw[gW];omega) (m:=m) (f:=l.length) (by rw[gW];omega) (by omega) (by omega) fun b=> ?_;rw[<-hpop,e,List.set_set];simp only[wq.1,seval];refine bG rfl (t:=246) (v:= .lp P 0) (v':= .lp P 0) (g:=326) (by simp only[wq.1,↓reduceIte]) (by simp only[wq.1,↓reduceIte,dH]) Rz (by simp only[wq.1]) ?_;simp only[wq.1];rw[show List.map nv l0++[nv x]=dh (l0++[x]) by simp];refine KD k2 (by omega) ?_;simp only[wq.1,seval];have eh:G9 P Q (h.set Q (.cells (dh (l0++[x])))) l0=G9 P Q h l0:=by unfold G9;rw[List.set_set]
 rw[show List.map nv l0++[nv x]=dh (l0++[x]) by simp,eh];exact hr
abbrev aQ(c:Ci):List S:=c.gates.map (·.name)
abbrev gins(c:Ci):List (List S):=c.gates.map (·.ins)
def plO(l:List S):O:= .map (l.map V.str) (dh (List.range l.length))
abbrev ciO(c:Ci):O:= .cells [aN c.ins,aN c.outs,kG c.lat,iG c.gates]
theorem Ce(l:List S)(s:S):at? l s=jb l s:=by
 unfold jb
 induction l with
 |nil=>rfl
 |cons x l ih =>
  rw[at?,List.findIdx?_cons];by_cases h:x=s
  ·rw[if_pos h];simp[h]
  ·rw[if_neg h,ih];have:(x==s)=false:=by simpa using h
   rw[this];rfl
theorem yt:∀(l acc:List S),zh acc l=none->acc.Nodup->(acc++l).Nodup
 |[],acc,_,h=>by simpa using h
 |s::l,acc,hd,h=>by
  rw[zh]at hd;by_cases hc:acc.contains s=true
  ·rw[if_pos hc]at hd;cases hd
  ·rw[if_neg hc]at hd;have hn:s∉acc:=fun hm=>hc (List.contains_iff_mem.2 hm);have:=yt l (acc++[s]) hd (List.nodup_append.2 ⟨h,by simp,fun a ha b hb hab=>by
    rw[zrc.1 hb]at hab;exact hn (hab▸ha)⟩)
   rwa [zqc]at this
theorem vK{c:Ci}(h:zh [] (bf c)=none):(aQ c).Nodup:=by have:=yt _ _ h List.nodup_nil;unfold bf at this;rw[List.nil_append]at this;exact(List.nodup_append.1 this).2.1
theorem Xp{l:List S}(h:l.Nodup){i:Nat}(hi:i<l.length):at? (l.take i) l[i]=none:=Rt fun hm=>by obtain⟨j,hj,e⟩:=List.mem_take_iff_getElem.1 hm;have:=(List.getElem_inj h).1 e;omega
theorem vM[MO](c:Ci)(hn:(aQ c).Nodup)(hl:c.gates.length<=1000000):ag TE 110 [c.v] [] (fun ae h' _=>ae= .ret (.lm 1)/\h'=[ciO c,plO (aQ c)]):=by
 have hM:=mLx;have hnl:(aQ c).length=c.gates.length:=zra ..;obtain⟨BX,hBX⟩:∃BX:O,BX=ciO c:=⟨_,rfl⟩;have hBd:∀p,BX.drop p=BX:=fun p=>by rw[hBX];rfl
 obtain⟨MP,hMP⟩:∃MP:Nat->O,MP=fun i=> .map (((aQ c).take i).map V.str) (dh (List.range i)):=⟨_,rfl⟩;have hcl:∀(p:Nat->Bool) i,([BX,MP i]:H).map (O.drop p)=[BX,MP i]:=fun p i=>by show [BX.drop p,(MP i).drop p]=_;rw[hBd,hMP];show [BX,O.map (V.drops p _) (V.drops p _)]=_;rw[aJ,bz]
 have hfin:plO (aQ c)=MP c.gates.length:=by rw[hMP];show _=O.map _ _;rw[<-hnl,zrx];rfl
 rw[hfin,<-hBX];refine aj Tryz.func110 rfl (by simp[nts]) ?_;refine vn ?_;simp only[wq.1,Nat.reduceLT,Tryz.results110];refine vn ?_;simp only[wq.1,seval];rw[show([O.cells [aN c.ins,aN c.outs,kG c.lat,iG c.gates],O.map [] []]:H)=[BX,MP 0] by rw[hBX,hMP];rfl];refine vn ?_;simp only[wq.1,seval,hBX];rw[<-hBX];refine aC (fun m f h=>∃(i:Nat)(X:H),m+i=c.gates.length/\i<=c.gates.length/\f.t 3= .lm 1/\f.t 8=iG c.gates/\f.t 9=vi c.gates.length/\f.t 10=vi i/\f.d=[]/\h=[BX,MP i]++X) c.gates.length ⟨0,[],by omega,by omega,by simp only[wq.1,seval],by simp only[wq.1,seval],by simp only[wq.1,seval],by simp only[wq.1,↓reduceIte];rfl,by simp only[wq.1],rfl⟩ ?_;rintro m f h ⟨i,X,hm,hil,t3,t8,t9,t10,hd,rfl⟩;refine fD (h0:=[BX,MP i]) (by rw[hd];simp) ?_;rw[hcl];obtain⟨f',hf'⟩:∃f',f'=f.drop (Abs.fV ([BX,MP i]:H).length):=⟨_,rfl⟩;have u3:f'.t 3= .lm 1:=by rw[hf'];show(f.t 3).drop _=_;rw[t3];rfl
 have u8:f'.t 8=iG c.gates:=by rw[hf'];show(f.t 8).drop _=_;rw[t8];rfl
 have u9:f'.t 9=vi c.gates.length:=by rw[hf'];show(f.t 9).drop _=_;rw[t9];rfl
 have u10:f'.t 10=vi i:=by rw[hf'];show(f.t 10).drop _=_;rw[t10];rfl
 have ud:f'.d=[]:=by rw[hf'];exact hd
 rw[<-hf'];clear hf' hd t3 t8 t9 t10 X;have hw:=aB (show i<maxLen by omega);refine vn ?_;simp only[wq.1,Nat.reduceLT,u9,u10];refine vn ?_;simp only[wq.1,↓reduceIte];refine vcB.mk (fun hlt=> ?_) (fun hlt=> ?_)
 ·have hlt:i<c.gates.length:=by have:=zqs hlt;omega
  obtain⟨g,hg⟩:∃g,g=c.gates[i]:=⟨_,rfl⟩;have hgg:=sZ hlt .any;rw[<-hg]at hgg;have hat:=Xp hn (i:=i) (by omega);have hgn:(aQ c)[i]'(by omega)=g.name:=by rw[hg];simp
  rw[hgn]at hat;have hms:MP (i+1)= .map (((aQ c).take i).map V.str++[.str g.name]) (dh (List.range i)++[vi i]):=by
   rw[hMP];show O.map _ _=_;rw[List.take_succ_eq_append_getElem (by omega),hgn,List.range_succ,zql];simp
  have hmi:MP i= .map (((aQ c).take i).map V.str) (dh (List.range i)):=by rw[hMP]
  simp only[wq.1];refine vn ?_;simp only[wq.1,seval,u3,u8,u10,hgg,hmi,Qp,bK,K.keyOk,hat];refine⟨⟨by omega,by omega⟩,?_⟩;rw[<-hms];refine vm ?_;simp only[wq.1,seval,u10,hw];refine .inl ⟨m-1,by omega,i+1,[O.cells [V.str g.name,vi g.op,aN g.ins,aN g.rows,V.bool g.off]],by omega,by omega,?_⟩;refine⟨by simp only[wq.1,seval,u3],by simp only[wq.1,seval,u8],by simp only[wq.1,seval,u9],by simp only[wq.1,↓reduceIte],by simp only[wq.1,ud],rfl⟩
 ·have hi:i=c.gates.length:=by have:=of_decide_eq_false hlt;omega
  subst hi;refine vm ?_;simp only[wq.1,seval,u3,ud]
end Go.Proofs.YthaijohbpdabfaaGreatDoor
