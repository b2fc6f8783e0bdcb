/- Lemmas for this claim, part F04: each holds under what it names. -/
import Derived.Test.YthaijohbpdabfaaGreatDoorRF03
import Derived.Test.YthaijohbpdabfaaGreatDoorRA9
import Derived.Test.YthaijohbpdabfaaGreatDoorRA8
import Derived.Test.YthaijohbpdabfaaGreatDoorRA7
set_option linter.all false
set_option maxRecDepth 20000
set_option maxHeartbeats 16000000
namespace Go.Proofs.YthaijohbpdabfaaGreatDoor
open Go Go.Proofs Go.Abs
open List renaming length → aa, replicate → ao
open Bool renaming true → ab, false → ac
open Option renaming some → al, none → aq
open Decidable renaming decide → ar
open Go.IntKind renaming wrap → aD
open Go.Result renaming andThen → aM
open Go.Abs.O renaming cells → am
open Go.Abs.V renaming drops → ap, dat → aE, dats → aL
theorem sV{l:List S}{s:S}:(at? l s).isSome=l.contains s:=by
 rw[Bool.eq_iff_iff,List.contains_iff_mem];constructor
 ·intro h;obtain⟨n,hn⟩:=Option.isSome_iff_exists.1 h;obtain⟨h1,h2⟩:=lh hn;rw[<-h2];exact zqu h1
 ·intro h;obtain⟨n,hn⟩:=IZ h;rw[hn];rfl
theorem UM{l:List S}{i:Nat}(h:i<aa l):Aw (l.take i) (l.drop i)=if(l.take i).contains l[i]=ab then al l[i]else Aw (l.take (i+1)) (l.drop (i+1)):=by rw[List.drop_eq_getElem_cons h,Aw,List.take_succ_eq_append_getElem h]
theorem nG{p:Nat->Bool}:∀n,ap p (ao n (.bool ab))=ao n (.bool ab)
 |0=>rfl
 |n+1=>by rw[List.replicate_succ,ap,nG n];rfl
abbrev Zw(l:List S):O:= .map (l.map V.str) (ao (aa l) (.bool ab))
theorem cZ{P:Program}{rs:List ResultVar}{R:AEnd->H->(Nat->Bool)->Prop}{f:Fr}{h:H}{v:V}(hd:f.d=[])(hr:R (.pan v) h f.k):Bj P rs R (.pan v) f h:=by unfold Bj;rw[hd];exact hr
theorem BJ[MO]{l:List S}{h:H}{R:AEnd->H->(Nat->Bool)->Prop}(hll:aa l<=1000000)(hok:Aw [] l=aq->R (.ret (.lm (aa h))) (h++[Zw l]) (λ_=>ac))
 (hbad:∀s X,Aw [] l=al s->R (.pan (BI 5 s)) (h++X) (λ_=>ac)):ag TE 106 [aJ l] h R:=by
 have hM:=mLx;have hgE:∀x:O,(h++[x])[aa h]? =al x:=λx=>by simp
 have hgS:∀x y:O,(h++[x]).set (aa h) y=h++[y]:=λx y=>by simp
 have h0:Aw [] l=Aw (l.take 0) (l.drop 0):=rfl;obtain⟨D,hD⟩:∃D,D=Aw [] l:=⟨_,rfl⟩;rw[<-hD]at hok hbad h0;refine aj Tryz.func106 rfl (by simp[nts]) ?_;refine vn ?_;simp only[wq.1,Nat.reduceLT,Tryz.results106];refine vn ?_;simp only[wq.1,seval];refine vn ?_;simp only[wq.1,seval];refine aF (λm f h'=>∃i,m+i=aa l/\i<=aa l/\D=Aw (l.take i) (l.drop i)/\f.t 3= .lm (aa h)/\f.t 7=aJ l/\f.t 8=vi (aa l)/\f.t 9=vi i/\f.d=[]/\f.k=(λ_=>ac)/\h'=h++[Zw (l.take i)]) (aa l) ⟨0,by omega,by omega,h0,by simp only[wq.1,seval],by simp only[wq.1,seval],by simp only[wq.1,seval],by simp only[wq.1,↓reduceIte];rfl,rfl,rfl,rfl⟩ ?_;rintro m f h' ⟨i,hm,hil,hdi,h3,h7,h8,h9,hd,hkf,rfl⟩;have hw:=aA (show i<maxLen by omega);have htl:aa (l.take i)=i:=by rw[zrl];omega
 refine vn ?_;simp only[wq.1,Nat.reduceLT,h8,h9];refine vn ?_;simp only[wq.1,↓reduceIte];refine vcB.mk (λhlt=> ?_) (λhlt=> ?_)
 ·have hlt:i<aa l:=by have:=zqs hlt;omega
  rw[UM hlt]at hdi;have hac:=sV (l:=l.take i) (s:=l[i]);cases hat:at? (l.take i) l[i]with
  |some n =>
   obtain⟨g1,g2⟩:=lh hat;have hn:n<i:=by simpa using(Nat.lt_of_lt_of_le g1 (by simp;omega))
   have hg:(ao i (V.bool ab)).getD n .any= .bool ab:=by simp[zqg,hn]
   rw[hat]at hac;have hac:(l.take i).contains l[i]=ab:=hac.symm;rw[if_pos hac]at hdi;simp only[wq.1];refine ak (aB ?_);refine vm ?_;simp only[wq.1,seval,h3,h7,h9,Bz hlt,rU,bF,K.keyOk,hat,hg,hgE,htl];refine⟨⟨by omega,by omega⟩,iY _ _ _ (λh=>by cases h) (λ_=> ?_)⟩;simp only[wq.1,fO];simp only[XE.seq,XE.block];have hb:=hbad _ [Zw (l.take i)] hdi;refine cZ (by simp only[wq.1,hd]) ?_;have hk2:∀f:Fr,f.k=(λ_=>ac)->R (.pan (BI 5 l[i])) (h++[Zw (l.take i)]) f.k:=λf hf=>by rw[hf];exact hb
   refine hk2 _ ?_;simp only[wq.1,hkf]
  |none=>rw[hat]at hac;have hac:(l.take i).contains l[i]=ac:=hac.symm;rw[if_neg (by rw[hac];decide)]at hdi;simp only[wq.1];refine ak (aB ?_);refine vm ?_;simp only[wq.1,seval,h3,h7,h9,Bz hlt,rU,bF,K.keyOk,hat,hgE];refine⟨⟨by omega,by omega⟩,iY _ _ _ (λ_=> ?_) (λh=>by cases h)⟩;simp only[wq.1,seval,h3,Ov,bF,K.keyOk,hat,hgE,hgS,htl];refine vm ?_;simp only[wq.1,seval,h9,hw];refine .inl ⟨m-1,by omega,i+1,by omega,by omega,hdi,by simp only[wq.1,seval,h3],by simp only[wq.1,seval,h7],by simp only[wq.1,seval,h8],by simp only[wq.1,↓reduceIte],by simp only[wq.1,hd],by simp only[wq.1,hkf],?_⟩;rw[List.take_succ_eq_append_getElem hlt];show _=h++[O.map _ _];rw[zql,zqa,htl,zrk,List.replicate_succ'];rfl
 ·have hi:i=aa l:=by have:=of_decide_eq_false hlt;omega
  rw[hi,List.drop_length,Aw]at hdi;rw[hi,zrx];refine vm ?_;simp only[wq.1,seval,h3,hd,hkf];exact hok hdi
theorem I4[MO]{h:H}{K:H->(Nat->Bool)->Prop}(hK:∀X,K (h++[X]) (λ_=>ac)):jM TE 100 [.lp 1 0,.lp 2 0] h K:=by
 have hgE:∀x:O,(h++[x])[aa h]? =al x:=λx=>by simp
 have hgS:∀x y:O,(h++[x]).set (aa h) y=h++[y]:=λx y=>by simp
 refine mP rfl Tryz.func100 rfl rfl (by simp[nts]) rfl (λev w=>rfl) rfl (by decide) ?_;simp only[nts];refine dM rfl rfl ?_;refine kS (x:= .tmp 5) (t:=172) (q:=⟨.struct [(0,28),(1,9)],2,24,.agg [vi 0,.str []]⟩) rfl (by simp only[wq.1]) (by simp only[wq.1,↓reduceIte]) (by simp only[wq.1,↓reduceIte]) ?_;refine az rfl rfl ?_;simp only[wq.1,↓reduceIte];refine az rfl rfl ?_;simp only[wq.1,seval];refine az rfl rfl ?_;simp only[wq.1,seval];refine az rfl rfl ?_;simp only[wq.1];refine az rfl rfl ?_;simp only[wq.1,seval,hgE,hgS];refine az rfl rfl ?_;simp only[wq.1,seval];refine dL ?_;show awp _ _ _ _ _ _ _;refine vm ?_;simp only[wq.1,seval];exact hK _
def V8:Plan:= .take 0<| .take 2<| .alt 1 (.alt 3 (.one 4<| .one 5<| .fin) (.one 4 (.one 3<| .one 5<| .fin))) (.one 3 (onZ [1,4,5]<| .fin))
theorem I5[MO]{a:O}{d1 d2:V}{G:H}{K:H->(Nat->Bool)->Prop}(e:Int)(s:S)(hK:∀X,K (a::am [vi e]::am [.str s]::(G++[X])) (λ_=>ac)) :
 jL TE 100 [.lp 1 0,.lp 2 0] (BI e s) (a::am [d1]::am [d2]::G) K:=by
 have hgE:∀x:O,(G++[x])[aa G]? =al x:=λx=>by simp
 have hgS:∀x y:O,(G++[x]).set (aa G) y=G++[y]:=λx y=>by simp
 unfold BI;refine mG rfl Tryz.func100 rfl rfl (by simp[nts]) rfl (λev w=>rfl) rfl (by decide) ?_;simp only[nts];refine az rfl rfl ?_;simp only[wq.1,↓reduceIte];refine⟨by decide,?_⟩;refine az rfl rfl ?_;simp only[wq.1,↓reduceIte];refine az rfl rfl ?_;simp only[wq.1,seval];refine az rfl rfl ?_;simp only[wq.1,seval];refine az rfl rfl ?_;simp only[wq.1];refine az rfl rfl ?_;simp only[wq.1,seval,hgE,hgS];refine az rfl rfl ?_;simp only[wq.1,seval];refine dL ?_;show awp _ _ _ _ _ _ _;refine vn ?_;simp only[wq.1,seval];refine vm ?_;simp only[wq.1,↓reduceIte];refine dJ mixed V8 (λf' h'=>f'.d=[]/\f'.k=(λ_=>ac)/\∃X,h'=a::am [vi e]::am [.str s]::(G++[X])) (by rw[show TE.P=P from rfl];decide +kernel) (by decide +kernel) ?_ ?_
 ·simp only[wq.1,seval,V8,hgE];exact⟨_,rfl⟩
 ·rintro f h ⟨hd,hk,X,rfl⟩;exact⟨.inl rfl,hd,by rw[hk];exact hK X⟩
theorem Nr[MO](g:Ga):Ev TE 101 [g.v] (.bool (BB g)):=by have e1:ar ((8:Int)<(aa g.ins:Int))=ar (8<aa g.ins):=decide_eq_decide.2 (by omega);have e2:ar ((128:Int)<(aa g.rows:Int))=ar (128<aa g.rows):=decide_eq_decide.2 (by omega);refine ai Tryz.func101 rfl (by simp[nts]) (vm ?_);simp only[wq.1,seval,Tryz.results101,e1,e2];exact aC.eq rfl rfl
theorem qQ{α:Type}{l:List α}{p:α->Bool}{i:Nat}(h:i<aa l)(hn:∀x∈l.take i,p x=ac)(hp:p l[i]=ab):l.find? p=al l[i]:=by
 rw[List.find?_eq_some_iff_getElem];refine⟨hp,i,h,rfl,λj hj=> ?_⟩;have:l[j]∈l.take i:=by
  rw[List.mem_take_iff_getElem];exact⟨j,by omega,rfl⟩
 rw[hn _ this];rfl
theorem lU{α:Type}{l:List α}{p:α->Bool}(hn:∀x∈l,p x=ac):l.find? p=aq:=by rw[List.find?_eq_none];intro x hx;rw[hn x hx];decide
theorem UN{c:Ci}(h:LimC c):aa (dW c)<=3000/\aa (aT c)<=600/\aa (fP c)<=3000:=by obtain⟨l1,l2,l3,l4,l5⟩:=h;have a1:=gy (k:=2) (F:=λq:La=>[q.name,q.next]) c.lat (λ_ _=>by simp);have a2:=gy (k:=9) (F:=λg:Ga=>g.name::g.ins) c.gates (λg hg=>by have:=l5 g hg;simp;omega);have a3:=gy (k:=8) (F:=λg:Ga=>g.ins) c.gates (λg hg=>l5 g hg);unfold dW aT fP;simp only[zqa,zra];have:=Nat.mul_le_mul_right 9 l4;have:=Nat.mul_le_mul_right 8 l4;have:=Nat.mul_le_mul_right 2 l3;refine⟨by omega,by omega,by omega⟩
theorem Gf[MO](c:Ci)(hsum:aa c.ins+aa c.lat+aa c.gates<=9000000000000000000):Ev TE 58 [c.v] (.tup [vi (ou c).1,.str (ou c).2]):=by
 have hM:=mLx;refine kN ?_;refine mJ rfl Tryz.func58 rfl (by simp[nts]) λok pl0 w0=> ?_;simp only[nts];refine Du (Q:=λ_ _ _=>False) ?_ (λ_ _ _ h=>by obtain⟨_,_,_,_,_,_,h⟩:=h;exact h.elim);refine vm ?_;simp only[wq.1,seval];refine sK rfl (fn:=Tryz.f58) (q:=100) (caps:=[.lp 1 0,.lp 2 0]) (fx:= .tmp 14) rfl rfl (by simp only[wq.1,seval]) rfl rfl rfl rfl (by simp only[wq.1,seval]) (by simp only[wq.1,seval]) (by simp only[wq.1]) rfl λdd=> ?_;simp only[nts];obtain⟨ee,hee⟩:∃ee:E,ee={TE with tl:=[dd]}:=⟨_,rfl⟩;have hP:ee.P=P:=by rw[hee];rfl
 have hmix:ee.P.follows .mixedOrders=ab:=by rw[hP];exact mixed
 have hT:∀ {g:FuncId} {args:List V} {h:H} {R:AEnd->H->(Nat->Bool)->Prop},ag TE g args h R->ag ee g args h R:=λhc=>by rw[hee];exact hc.tl _
 rw[<-hee];obtain⟨QP,eQP⟩:∃QP:XE->Fr->H->Prop,QP=λxe f' h'=>f'.d=[]/\ap f'.k [V.lp 1 0,V.lp 2 0]=[V.lp 1 0,V.lp 2 0]/\(match xe with
  | .pan v=>jL TE 100 [V.lp 1 0,V.lp 2 0] v h' λh'' p=>su TE.P Tryz.f58.results.toList (λv h k=>aC TE h v (.tup [vi (ou c).1,.str (ou c).2])) (f'.drop p) h''
  | .ret=>jM TE 100 [V.lp 1 0,V.lp 2 0] h' λh'' p=>su TE.P Tryz.f58.results.toList (λv h k=>aC TE h v (.tup [vi (ou c).1,.str (ou c).2])) (f'.drop p) h''
  |_=>False):=⟨_,rfl⟩
 refine bf (Q:=QP) (λxe f' h' hq=>by rw[eQP]at hq;exact hq) ?_;have hkd:∀ {k:Nat->Bool},(∀j,j<3->k j=ac)->ap k [V.lp 1 0,V.lp 2 0]=[V.lp 1 0,V.lp 2 0]:=λ{k} h=>by
  have z1:=h 1 (by decide);have z2:=h 2 (by decide);simp only[ap,V.drop,z1,z2,if_false,zrm]
 have hpan:∀ {e:Int} {s:S} {f':Fr} {a:O} {d1 d2:V} {G:H},ou c=(e,s)->f'.d=[]->(∀j,j<3->f'.k j=ac)->f'.t 2= .lp 1 0->f'.t 3= .lp 2 0->QP (.pan (BI e s)) f' (a::am [d1]::am [d2]::G):=by intro e s f' a d1 d2 G hp hd hk t2 t3;rw[eQP];refine⟨hd,hkd hk,?_⟩;refine I5 e s λX=> ?_;rw[hp];simp only[Tryz.results58,nts];simp only[wq.1,↓reduceIte,hd,t2,t3];exact aC.dat rfl
 have hret:∀ {f':Fr} {a:O} {G:H},ou c=(0,[])->f'.d=[]->(∀j,j<3->f'.k j=ac)->f'.t 2= .lp 1 0->f'.t 3= .lp 2 0->QP .ret f' (a::am [vi 0]::am [.str []]::G):=by intro f' a G hp hd hk t2 t3;rw[eQP];refine⟨hd,hkd hk,?_⟩;refine I4 λX=> ?_;rw[hp];simp only[Tryz.results58,nts];simp only[wq.1,↓reduceIte,hd,t2,t3];exact aC.dat rfl
 clear eQP;obtain⟨BX,hBX⟩:∃BX:O,BX=am [aJ c.ins,aJ c.outs,kY c.lat,iU c.gates]:=⟨_,rfl⟩;have hBd:∀p,BX.drop p=BX:=λp=>by rw[hBX];rfl
 refine ak (bU hmix _ _ _ _ ?_);simp only[wq.1,seval,hP];have w1:aD .i64 ((aa c.ins:Int)+aa c.lat)=((aa c.ins+aa c.lat:Nat):Int):=by rw[iW (by omega) (by omega)];omega
 have w2:aD .i64 (((aa c.ins+aa c.lat:Nat):Int)+aa c.gates)=((aa c.ins+aa c.lat+aa c.gates:Nat):Int):=by rw[iW (by omega) (by omega)];omega
 have eA:ar (((aa c.ins+aa c.lat+aa c.gates:Nat):Int)<=200)=ar (aa c.ins+aa c.lat+aa c.gates<=200):=decide_eq_decide.2 (by omega);have eB:ar ((aa c.outs:Int)<=200)=ar (aa c.outs<=200):=decide_eq_decide.2 (by omega);have hct:=Xt c.gates 101 [] BB rfl rfl λg _=>Nr g;have n0:PL c=ac->ou c=(8,[]):=λh=>by unfold ou;rw[if_pos h]
 have hEv:∀ {g:FuncId} {args:List V} {r:V},Ev TE g args r->Ev ee g args r:=λhv=>by rw[hee];exact λok w vs hs hl=>hv ok w vs (hs.tl TE.tl) hl
 have e39:((ar (aa c.ins+aa c.lat+aa c.gates<=200)&&ar (aa c.outs<=200))&& !(c.gates.any BB))=PL c:=by unfold PL;rw[Bool.and_assoc]
 refine ak (bU hmix _ _ _ _ ?_);simp only[wq.1,seval,hP,w1,w2,eA,eB];refine ET.ev (q:=103) (vs:=[iU c.gates,.fn (.func 101) [] []]) (by simp only[wq.1,seval]) (by simp only[wq.1,seval]) (by rw[hP];rfl) (λ_=>hEv hct) (λ_=>by simp only[aL,aE,kZ,zre]) ?_;simp only[wq.1,seval,hP,e39];rw[<-hBX];refine hT (iY (PL c) 8 [] (λhl=> ?_) (λhl=> ?_))
 ·have hL:=P9 hl;obtain⟨tl1,tl2,tl3⟩:=UN hL;have n1:∀s,(dW c).find? (λs=> !aU s)=al s->ou c=(4,s):=λs h=>by unfold ou;rw[if_neg (by rw[hl];decide),h]
  have htd:=XD c hL;have hnt:=Qa c hL;have hus:=XF c hL;have hcd:=xk c;simp only[wq.1]
  -- names
  refine ak (bf (Q:=λxe f h=>(xe= .normal/\(∀s∈dW c,aU s=ab)/\f.t 1= .lp 0 0/\f.t 2= .lp 1 0/\f.t 3= .lp 2 0/\f.d=[]/\(∀j,j<3->f.k j=ac)/\h=[BX,am [vi 0],am [.str []]])\/(∃v,xe= .pan v/\QP (.pan v) f h)) ?_ ?_)
  ·rintro xe f h (⟨rfl,hnm,t1,t2,t3,hd,hk,rfl⟩|⟨v,rfl,hq⟩)
   rotate_left
   ·exact hq
   show awp _ _ _ _ _ _ _;have n2:(dW c).find? (λs=> !aU s)=aq:=lU λs hs=>by rw[hnm s hs];rfl
   have n3:∀s,Aw [] (aT c)=al s->ou c=(5,s):=λs h=>by unfold ou;rw[if_neg (by rw[hl];decide),n2];dsimp only;rw[h]
   refine ak (bU hmix _ _ _ _ ?_);simp only[wq.1,seval,hP,t1,hBX];rw[<-hBX];refine hT (ag.ev hnt (by simp only[aL,Bool.and_true];exact hcd) ?_);simp only[wq.1,seval,hP];refine hT (BJ (by omega) (λhdn=> ?_) (λs X hdn=> ?_))
   rotate_left
   ·simp only[wq.1,fO];simp only[XE.seq];exact hpan (n3 s hdn) (by simp only[wq.1,hd]) (λj hj=>by simp only[wq.1,hk j hj]) (by simp only[wq.1,seval,t2]) (by simp only[wq.1,seval,t3])
   have n4:∀s,Aw [] c.outs=al s->ou c=(5,s):=λs h=>by unfold ou;rw[if_neg (by rw[hl];decide),n2];dsimp only;rw[hdn];dsimp only;rw[h]
   simp only[wq.1,seval,hP];refine ak (bU hmix _ _ _ _ ?_);simp only[wq.1,seval,hP,t1,hBX];rw[<-hBX];refine hT (BJ (by have:=hL.outs;omega) (λhdo=> ?_) (λs X hdo=> ?_))
   rotate_left
   ·simp only[wq.1,fO];simp only[XE.seq];exact hpan (n4 s hdo) (by simp only[wq.1,hd]) (λj hj=>by simp only[wq.1,hk j hj]) (by simp only[wq.1,seval,t2]) (by simp only[wq.1,seval,t3])
   have n5:∀q,c.lat.find? (λq=> !qf q)=al q->ou c=(1,q.name):=λq h=>by unfold ou;rw[if_neg (by rw[hl];decide),n2];dsimp only;rw[hdn];dsimp only;rw[hdo];dsimp only;rw[h]
   simp only[wq.1,Nat.reduceAdd];obtain⟨N,hN⟩:∃N:O,N=Zw (aT c):=⟨_,rfl⟩;have hNd:∀p,N.drop p=N:=λp=>by
    rw[hN];show O.map (ap p _) (ap p _)=_;rw[aN,nG]
   have hcl:∀p,([BX,am [vi 0],am [.str []],N]:H).map (O.drop p)=[BX,am [vi 0],am [.str []],N]:=λp=>by show [BX.drop p,_,_,N.drop p]=_;rw[hBd,hNd];rfl
   have t1':f.t 1= .lp 0 0:=t1;rw[<-hN];refine W9 (λf'=>f'.t 1= .lp 0 0/\f'.t 2= .lp 1 0/\f'.t 3= .lp 2 0/\f'.t 7= .lm 3/\f'.d=[]/\(∀j,j<3->f'.k j=ac)) _ (λhq=>hq _ ⟨by simp only[wq.1,seval,t1],by simp only[wq.1,seval,t2],by simp only[wq.1,seval,t3],by simp only[wq.1,seval],by simp only[wq.1,hd],λj hj=>by simp only[wq.1,hk j hj]⟩) ?_;clear t1 t2 t3 hd hk t1' f;rintro f ⟨t1,t2,t3,t7,hd,hk⟩;refine ak (bf (Q:=λxe f h=>(xe= .normal/\(∀x∈c.lat,qf x=ab)/\f.t 1= .lp 0 0/\f.t 2= .lp 1 0/\f.t 3= .lp 2 0/\f.t 7= .lm 3/\f.d=[]/\(∀j,j<3->f.k j=ac)/\∃X,h=[BX,am [vi 0],am [.str []],N]++X)\/(∃v,xe= .pan v/\QP (.pan v) f h)) ?_ ?_)
   ·rintro xe f h (⟨rfl,hla,t1,t2,t3,t7,hd,hk,X,rfl⟩|⟨v,rfl,hq⟩)
    rotate_left
    ·exact hq
    show awp _ _ _ _ _ _ _;have n5':c.lat.find? (λq=> !qf q)=aq:=lU λx hx=>by rw[hla x hx];rfl
    have n6:∀g,c.gates.find? (λg=> !gQ g)=al g->ou c=(1,g.name):=λg h=>by unfold ou;rw[if_neg (by rw[hl];decide),n2];dsimp only;rw[hdn];dsimp only;rw[hdo];dsimp only;rw[n5'];dsimp only;rw[h]
    refine ak (bf (Q:=λxe f h=>(xe= .normal/\(∀x∈c.gates,gQ x=ab)/\f.t 1= .lp 0 0/\f.t 2= .lp 1 0/\f.t 3= .lp 2 0/\f.t 7= .lm 3/\f.d=[]/\(∀j,j<3->f.k j=ac)/\∃X,h=[BX,am [vi 0],am [.str []],N]++X)\/(∃v,xe= .pan v/\QP (.pan v) f h)) ?_ ?_)
    ·rintro xe f h (⟨rfl,hga,t1,t2,t3,t7,hd,hk,X,rfl⟩|⟨v,rfl,hq⟩)
     rotate_left
     ·exact hq
     show awp _ _ _ _ _ _ _;have n6':c.gates.find? (λg=> !gQ g)=aq:=lU λx hx=>by rw[hga x hx];rfl
     have n7:∀s,(fP c).find? (λs=> !(aT c).contains s)=al s->ou c=(6,s):=λs h=>by unfold ou;rw[if_neg (by rw[hl];decide),n2];dsimp only;rw[hdn];dsimp only;rw[hdo];dsimp only;rw[n5'];dsimp only;rw[n6'];dsimp only;rw[h]
     refine ak (bf (Q:=λxe f h=>(xe= .normal/\(∀x∈fP c,(aT c).contains x=ab)/\f.t 1= .lp 0 0/\f.t 2= .lp 1 0/\f.t 3= .lp 2 0/\f.t 7= .lm 3/\f.d=[]/\(∀j,j<3->f.k j=ac)/\∃X,h=[BX,am [vi 0],am [.str []],N]++X)\/(∃v,xe= .pan v/\QP (.pan v) f h)) ?_ ?_)
     ·rintro xe f h (⟨rfl,husd,t1,t2,t3,t7,hd,hk,X,rfl⟩|⟨v,rfl,hq⟩)
      rotate_left
      ·exact hq
      show awp _ _ _ _ _ _ _;have n7':(fP c).find? (λs=> !(aT c).contains s)=aq:=lU λx hx=>by rw[husd x hx];rfl
      have n8:(fP c).find? (λs=> !(aT c).contains s)=aq->ou c=(0,[]):=λh=>by unfold ou;rw[if_neg (by rw[hl];decide),n2];dsimp only;rw[hdn];dsimp only;rw[hdo];dsimp only;rw[n5'];dsimp only;rw[n6'];dsimp only;rw[h]
      refine bU hmix _ _ _ _ ?_;simp only[wq.1,seval,hP,t2,t3];exact hret (n8 n7') (by simp only[wq.1,hd]) (λj hj=>by simp only[wq.1,hk j hj]) (by simp only[wq.1,t2]) (by simp only[wq.1,t3])
     ·refine ak (bU hmix _ _ _ _ ?_);simp only[wq.1,seval,hP,t1,hBX];rw[<-hBX];refine hT (ag.ev hus (by simp only[aL,Bool.and_true];exact hcd) ?_);simp only[wq.1,seval,hP];refine aB ?_;refine aF (λm f h=>∃i:Nat,m+i=aa (fP c)/\i<=aa (fP c)/\(∀x∈(fP c).take i,(aT c).contains x=ab)/\f.t 92=aJ (fP c)/\f.t 93=vi (aa (fP c))/\f.t 94=vi i/\f.t 1= .lp 0 0/\f.t 2= .lp 1 0/\f.t 3= .lp 2 0/\f.t 7= .lm 3/\f.d=[]/\(∀j,j<3->f.k j=ac)/\∃X,h=[BX,am [vi 0],am [.str []],N]++X) (aa (fP c)) ⟨0,by omega,by omega,(λx hx=>by simp at hx),by simp only[wq.1,seval],by simp only[wq.1,seval],by simp only[wq.1,↓reduceIte];rfl,by simp only[wq.1,seval,t1],by simp only[wq.1,seval,t2],by simp only[wq.1,seval,t3],by simp only[wq.1,seval,t7],by simp only[wq.1,hd],λj hj=>by simp only[wq.1,hk j hj],_,rfl⟩ ?_;clear t1 t2 t3 t7 hd hk;rintro m f h ⟨i,hm,hil,hall,tA,tB,tC,t1,t2,t3,t7,hd,hk,X,rfl⟩;refine fB (h0:=[BX,am [vi 0],am [.str []],N]) (by rw[hd];simp) ?_;rw[hcl];obtain⟨f',hf'⟩:∃f',f'=f.drop (Abs.fK (aa ([BX,am [vi 0],am [.str []],N]:H))):=⟨_,rfl⟩;have u1:f'.t 1= .lp 0 0:=by rw[hf'];show(f.t 1).drop _=_;rw[t1];rfl
      have u2:f'.t 2= .lp 1 0:=by rw[hf'];show(f.t 2).drop _=_;rw[t2];rfl
      have u3:f'.t 3= .lp 2 0:=by rw[hf'];show(f.t 3).drop _=_;rw[t3];rfl
      have u7:f'.t 7= .lm 3:=by rw[hf'];show(f.t 7).drop _=_;rw[t7];rfl
      have uA:f'.t 92=aJ (fP c):=by rw[hf'];show(f.t 92).drop _=_;rw[tA];rfl
      have uB:f'.t 93=vi (aa (fP c)):=by rw[hf'];show(f.t 93).drop _=_;rw[tB];rfl
      have uC:f'.t 94=vi i:=by rw[hf'];show(f.t 94).drop _=_;rw[tC];rfl
      have ud:f'.d=[]:=by rw[hf'];exact hd
      have uk:∀j,j<3->f'.k j=ac:=λj hj=>by rw[hf'];show(f.k j||Abs.fK 4 j)=ac;rw[hk j hj];simp[Abs.fK];omega
      rw[<-hf'];clear hf' hd hk t1 t2 t3 t7 tA tB tC X;have hw:=aA (show i<maxLen by omega);refine ak (bU hmix _ _ _ _ ?_);simp only[wq.1,Nat.reduceLT,hP,uB,uC];refine ak (bU hmix _ _ _ _ ?_);simp only[wq.1,↓reduceIte];refine vcB.mk (λhlt=> ?_) (λhlt=> ?_)
      ·have hlt:i<aa (fP c):=by have:=zqs hlt;omega
       have hnext:(aT c).contains (fP c)[i]=ab->∀x∈(fP c).take (i+1),(aT c).contains x=ab:=λhb=>cu hlt hall hb;have hbadE:(aT c).contains (fP c)[i]=ac->(fP c).find? (λx=> !(aT c).contains x)=al (fP c)[i]:=λhb=>qQ hlt (λx hx=>by rw[hall x hx];rfl) (by rw[hb];rfl);simp only[wq.1];obtain⟨s,hs⟩:∃s,s=(fP c)[i]:=⟨_,rfl⟩;have hgg:=Bz hlt .any;rw[<-hs]at hgg hnext hbadE;have hac:=sV (l:=aT c) (s:=s);have hmg:rU .str (.str s) ((aT c).map V.str) (ao (aa (aT c)) (.bool ab)) (.bool ac) ac=(True,.bool ((aT c).contains s)):=by
        rw[<-hac];simp only[rU,bF];cases hat:at? (aT c) s with
        |none=>rfl
        |some n =>
         obtain⟨g1,_⟩:=lh hat;have hg:(ao (aa (aT c)) (V.bool ab)).getD n .any= .bool ab:=by simp[zqg,g1]
         simp only[hg];rfl
       refine ak (bU hmix _ _ _ _ ?_);simp only[wq.1,seval,hP,u7,uA,uC,hgg,hN,K.keyOk,hmg];rw[<-hN];refine⟨⟨by omega,by omega⟩,hT (iY _ 6 _ (λhb=> ?_) (λhb=> ?_))⟩
       ·simp only[wq.1];refine bU hmix _ _ _ _ ?_;simp only[wq.1,seval,hP,uC,hw];exact .inl ⟨m-1,by omega,i+1,by omega,by omega,hnext hb,by simp only[wq.1,seval,uA],by simp only[wq.1,seval,uB],by simp only[wq.1,↓reduceIte],by simp only[wq.1,seval,u1],by simp only[wq.1,seval,u2],by simp only[wq.1,seval,u3],by simp only[wq.1,seval,u7],by simp only[wq.1,ud],λj hj=>by simp only[wq.1,uk j hj],_,rfl⟩
       ·simp only[wq.1,fO];simp only[XE.seq,XE.block];refine .inr ⟨_,rfl,hpan (n7 _ (hbadE hb)) (by simp only[wq.1,ud]) (λj hj=>by simp only[wq.1,uk j hj]) (by simp only[wq.1,seval,u2]) (by simp only[wq.1,seval,u3])⟩
      ·have hi:i=aa (fP c):=by have:=of_decide_eq_false hlt;omega
       rw[hi,zrx]at hall;simp only[wq.1,seval]
       first
       |exact .inl ⟨hall,u1,u2,u3,u7,ud,uk,[],rfl⟩
       |exact .inl ⟨hall,u1,u2,u3,u7,ud,uk⟩
    ·refine ak (bU hmix _ _ _ _ ?_);simp only[wq.1,seval,hP,t1,hBX];rw[<-hBX];refine aB ?_;refine aF (λm f h=>∃i:Nat,m+i=aa c.gates/\i<=aa c.gates/\(∀x∈(c.gates).take i,gQ x=ab)/\f.t 79=iU c.gates/\f.t 80=vi (aa c.gates)/\f.t 81=vi i/\f.t 1= .lp 0 0/\f.t 2= .lp 1 0/\f.t 3= .lp 2 0/\f.t 7= .lm 3/\f.d=[]/\(∀j,j<3->f.k j=ac)/\∃X,h=[BX,am [vi 0],am [.str []],N]++X) (aa c.gates) ⟨0,by omega,by omega,(λx hx=>by simp at hx),by simp only[wq.1,seval],by simp only[wq.1,seval],by simp only[wq.1,↓reduceIte];rfl,by simp only[wq.1,seval,t1],by simp only[wq.1,seval,t2],by simp only[wq.1,seval,t3],by simp only[wq.1,seval,t7],by simp only[wq.1,hd],λj hj=>by simp only[wq.1,hk j hj],_,rfl⟩ ?_;clear t1 t2 t3 t7 hd hk;rintro m f h ⟨i,hm,hil,hall,tA,tB,tC,t1,t2,t3,t7,hd,hk,X,rfl⟩;refine fB (h0:=[BX,am [vi 0],am [.str []],N]) (by rw[hd];simp) ?_;rw[hcl];obtain⟨f',hf'⟩:∃f',f'=f.drop (Abs.fK (aa ([BX,am [vi 0],am [.str []],N]:H))):=⟨_,rfl⟩;have u1:f'.t 1= .lp 0 0:=by rw[hf'];show(f.t 1).drop _=_;rw[t1];rfl
     have u2:f'.t 2= .lp 1 0:=by rw[hf'];show(f.t 2).drop _=_;rw[t2];rfl
     have u3:f'.t 3= .lp 2 0:=by rw[hf'];show(f.t 3).drop _=_;rw[t3];rfl
     have u7:f'.t 7= .lm 3:=by rw[hf'];show(f.t 7).drop _=_;rw[t7];rfl
     have uA:f'.t 79=iU c.gates:=by rw[hf'];show(f.t 79).drop _=_;rw[tA];rfl
     have uB:f'.t 80=vi (aa c.gates):=by rw[hf'];show(f.t 80).drop _=_;rw[tB];rfl
     have uC:f'.t 81=vi i:=by rw[hf'];show(f.t 81).drop _=_;rw[tC];rfl
     have ud:f'.d=[]:=by rw[hf'];exact hd
     have uk:∀j,j<3->f'.k j=ac:=λj hj=>by rw[hf'];show(f.k j||Abs.fK 4 j)=ac;rw[hk j hj];simp[Abs.fK];omega
     rw[<-hf'];clear hf' hd hk t1 t2 t3 t7 tA tB tC X;have hw:=aA (show i<maxLen by omega);refine ak (bU hmix _ _ _ _ ?_);simp only[wq.1,Nat.reduceLT,hP,uB,uC];refine ak (bU hmix _ _ _ _ ?_);simp only[wq.1,↓reduceIte];refine vcB.mk (λhlt=> ?_) (λhlt=> ?_)
     ·have hlt:i<aa c.gates:=by have:=zqs hlt;omega
      have hnext:gQ (c.gates)[i]=ab->∀x∈(c.gates).take (i+1),gQ x=ab:=λhb=>cu hlt hall hb;have hbadE:gQ (c.gates)[i]=ac->(c.gates).find? (λx=> !gQ x)=al (c.gates)[i]:=λhb=>qQ hlt (λx hx=>by rw[hall x hx];rfl) (by rw[hb];rfl);simp only[wq.1];obtain⟨g,hg⟩:∃g,g=c.gates[i]:=⟨_,rfl⟩;have hgg:=uH hlt .any;rw[<-hg]at hgg hnext hbadE;have hev:=hEv (Ko g);refine ak (aB ?_);refine ak (bU hmix _ _ _ _ ?_);simp only[wq.1,seval,hP,uA,uC,hgg];refine⟨⟨by omega,by omega⟩,?_⟩;refine lT hmix (by decide +kernel) ?_;simp only[nts,List.size_toArray,zrt,List.length_nil,Nat.reduceAdd,Nat.reduceSub,List.take_succ_cons,List.take_zero];simp only[wq.1,seval,bJ,bT,hP];refine uh.mk hev (by rw[hP];rfl) (by simp only[aL,aE,ax,zre]) ?_;simp only[wq.1,seval];refine hT (iY _ 1 _ (λhb=> ?_) (λhb=> ?_))
      ·simp only[wq.1];refine bU hmix _ _ _ _ ?_;simp only[wq.1,seval,hP,uC,hw];exact .inl ⟨m-1,by omega,i+1,by omega,by omega,hnext hb,by simp only[wq.1,seval,uA],by simp only[wq.1,seval,uB],by simp only[wq.1,↓reduceIte],by simp only[wq.1,seval,u1],by simp only[wq.1,seval,u2],by simp only[wq.1,seval,u3],by simp only[wq.1,seval,u7],by simp only[wq.1,ud],λj hj=>by simp only[wq.1,uk j hj],_,rfl⟩
      ·simp only[wq.1,fO];simp only[XE.seq,XE.block];refine .inr ⟨_,rfl,hpan (n6 _ (hbadE hb)) (by simp only[wq.1,ud]) (λj hj=>by simp only[wq.1,uk j hj]) (by simp only[wq.1,seval,u2]) (by simp only[wq.1,seval,u3])⟩
     ·have hi:i=aa c.gates:=by have:=of_decide_eq_false hlt;omega
      rw[hi,zrx]at hall;simp only[wq.1,seval]
      first
      |exact .inl ⟨hall,u1,u2,u3,u7,ud,uk,[],rfl⟩
      |exact .inl ⟨hall,u1,u2,u3,u7,ud,uk⟩
   ·refine ak (bU hmix _ _ _ _ ?_);simp only[wq.1,seval,hP,t1,hBX];rw[<-hBX];refine aB ?_;refine aF (λm f h=>∃i:Nat,m+i=aa c.lat/\i<=aa c.lat/\(∀x∈(c.lat).take i,qf x=ab)/\f.t 60=kY c.lat/\f.t 61=vi (aa c.lat)/\f.t 62=vi i/\f.t 1= .lp 0 0/\f.t 2= .lp 1 0/\f.t 3= .lp 2 0/\f.t 7= .lm 3/\f.d=[]/\(∀j,j<3->f.k j=ac)/\∃X,h=[BX,am [vi 0],am [.str []],N]++X) (aa c.lat) ⟨0,by omega,by omega,(λx hx=>by simp at hx),by simp only[wq.1,seval],by simp only[wq.1,seval],by simp only[wq.1,↓reduceIte];rfl,by simp only[wq.1,seval,t1],by simp only[wq.1,seval,t2],by simp only[wq.1,seval,t3],by simp only[wq.1,seval,t7],by simp only[wq.1,hd],λj hj=>by simp only[wq.1,hk j hj],_,rfl⟩ ?_;clear t1 t2 t3 t7 hd hk;rintro m f h ⟨i,hm,hil,hall,tA,tB,tC,t1,t2,t3,t7,hd,hk,X,rfl⟩;refine fB (h0:=[BX,am [vi 0],am [.str []],N]) (by rw[hd];simp) ?_;rw[hcl];obtain⟨f',hf'⟩:∃f',f'=f.drop (Abs.fK (aa ([BX,am [vi 0],am [.str []],N]:H))):=⟨_,rfl⟩;have u1:f'.t 1= .lp 0 0:=by rw[hf'];show(f.t 1).drop _=_;rw[t1];rfl
    have u2:f'.t 2= .lp 1 0:=by rw[hf'];show(f.t 2).drop _=_;rw[t2];rfl
    have u3:f'.t 3= .lp 2 0:=by rw[hf'];show(f.t 3).drop _=_;rw[t3];rfl
    have u7:f'.t 7= .lm 3:=by rw[hf'];show(f.t 7).drop _=_;rw[t7];rfl
    have uA:f'.t 60=kY c.lat:=by rw[hf'];show(f.t 60).drop _=_;rw[tA];rfl
    have uB:f'.t 61=vi (aa c.lat):=by rw[hf'];show(f.t 61).drop _=_;rw[tB];rfl
    have uC:f'.t 62=vi i:=by rw[hf'];show(f.t 62).drop _=_;rw[tC];rfl
    have ud:f'.d=[]:=by rw[hf'];exact hd
    have uk:∀j,j<3->f'.k j=ac:=λj hj=>by rw[hf'];show(f.k j||Abs.fK 4 j)=ac;rw[hk j hj];simp[Abs.fK];omega
    rw[<-hf'];clear hf' hd hk t1 t2 t3 t7 tA tB tC X;have hw:=aA (show i<maxLen by omega);refine ak (bU hmix _ _ _ _ ?_);simp only[wq.1,Nat.reduceLT,hP,uB,uC];refine ak (bU hmix _ _ _ _ ?_);simp only[wq.1,↓reduceIte];refine vcB.mk (λhlt=> ?_) (λhlt=> ?_)
    ·have hlt:i<aa c.lat:=by have:=zqs hlt;omega
     have hnext:qf (c.lat)[i]=ab->∀x∈(c.lat).take (i+1),qf x=ab:=λhb=>cu hlt hall hb;have hbadE:qf (c.lat)[i]=ac->(c.lat).find? (λx=> !qf x)=al (c.lat)[i]:=λhb=>qQ hlt (λx hx=>by rw[hall x hx];rfl) (by rw[hb];rfl);simp only[wq.1];obtain⟨q,hq⟩:∃q,q=c.lat[i]:=⟨_,rfl⟩;have hgg:=IY hlt .any;rw[<-hq]at hgg hnext hbadE;have eI:(ar (0<=q.init)&&ar (q.init<=2))=qf q:=rfl;refine ak (bU hmix _ _ _ _ ?_);simp only[wq.1,seval,hP,uA,uC,hgg,eI];refine⟨⟨by omega,by omega⟩,hT (iY _ 1 _ (λhb=> ?_) (λhb=> ?_))⟩
     ·simp only[wq.1];refine bU hmix _ _ _ _ ?_;simp only[wq.1,seval,hP,uC,hw];exact .inl ⟨m-1,by omega,i+1,by omega,by omega,hnext hb,by simp only[wq.1,seval,uA],by simp only[wq.1,seval,uB],by simp only[wq.1,↓reduceIte],by simp only[wq.1,seval,u1],by simp only[wq.1,seval,u2],by simp only[wq.1,seval,u3],by simp only[wq.1,seval,u7],by simp only[wq.1,ud],λj hj=>by simp only[wq.1,uk j hj],_,rfl⟩
     ·simp only[wq.1,fO];simp only[XE.seq,XE.block];refine .inr ⟨_,rfl,hpan (n5 _ (hbadE hb)) (by simp only[wq.1,ud]) (λj hj=>by simp only[wq.1,uk j hj]) (by simp only[wq.1,seval,u2]) (by simp only[wq.1,seval,u3])⟩
    ·have hi:i=aa c.lat:=by have:=of_decide_eq_false hlt;omega
     rw[hi,zrx]at hall;simp only[wq.1,seval]
     first
     |exact .inl ⟨hall,u1,u2,u3,u7,ud,uk,[],rfl⟩
     |exact .inl ⟨hall,u1,u2,u3,u7,ud,uk⟩
  ·refine ak (bU hmix _ _ _ _ ?_);simp only[wq.1,seval,hP,hBX];rw[<-hBX];refine hT (ag.ev htd (by simp only[aL,Bool.and_true];exact hcd) ?_);simp only[wq.1,seval,hP];refine aB ?_;refine aF (λm f h=>∃i:Nat,m+i=aa (dW c)/\i<=aa (dW c)/\(∀x∈(dW c).take i,aU x=ab)/\f.t 42=aJ (dW c)/\f.t 43=vi (aa (dW c))/\f.t 44=vi i/\f.t 1= .lp 0 0/\f.t 2= .lp 1 0/\f.t 3= .lp 2 0/\f.d=[]/\(∀j,j<3->f.k j=ac)/\h=[BX,am [vi 0],am [.str []]]) (aa (dW c)) ⟨0,by omega,by omega,(λx hx=>by simp at hx),by simp only[wq.1,seval],by simp only[wq.1,seval],by simp only[wq.1,↓reduceIte];rfl,by simp only[wq.1,seval],by simp only[wq.1,seval],by simp only[wq.1,seval],by simp only[wq.1],λj hj=>by simp only[wq.1],rfl⟩ ?_;rintro m f h ⟨i,hm,hil,hall,uA,uB,uC,u1,u2,u3,ud,uk,rfl⟩;have hw:=aA (show i<maxLen by omega);refine ak (bU hmix _ _ _ _ ?_);simp only[wq.1,Nat.reduceLT,hP,uB,uC];refine ak (bU hmix _ _ _ _ ?_);simp only[wq.1,↓reduceIte];refine vcB.mk (λhlt=> ?_) (λhlt=> ?_)
   ·have hlt:i<aa (dW c):=by have:=zqs hlt;omega
    have hin:=yf (dW c)[i];simp only[wq.1];refine ak (bU hmix _ _ _ _ ?_);simp only[wq.1,seval,hP,uA,uC,Bz hlt];refine⟨⟨by omega,by omega⟩,hT (ag.ev hin rfl ?_)⟩;simp only[wq.1,seval,hP];refine hT (iY _ 4 _ (λhb=> ?_) (λhb=> ?_))
    ·simp only[wq.1];refine bU hmix _ _ _ _ ?_;simp only[wq.1,seval,hP,uC,hw];exact .inl ⟨m-1,by omega,i+1,by omega,by omega,cu hlt hall hb,by simp only[wq.1,seval,uA],by simp only[wq.1,seval,uB],by simp only[wq.1,↓reduceIte],by simp only[wq.1,seval,u1],by simp only[wq.1,seval,u2],by simp only[wq.1,seval,u3],by simp only[wq.1,ud],λj hj=>by simp only[wq.1,uk j hj],rfl⟩
    ·simp only[wq.1,fO];simp only[XE.seq,XE.block];refine .inr ⟨_,rfl,hpan (n1 _ (qQ hlt (λx hx=>by rw[hall x hx];rfl) (by rw[hb];rfl))) (by simp only[wq.1,ud]) (λj hj=>by simp only[wq.1,uk j hj]) (by simp only[wq.1,seval,u2]) (by simp only[wq.1,seval,u3])⟩
   ·have hi:i=aa (dW c):=by have:=of_decide_eq_false hlt;omega
    rw[hi,zrx]at hall;simp only[wq.1,seval];exact .inl ⟨hall,u1,u2,u3,ud,uk⟩
 ·simp only[wq.1,fO];simp only[XE.seq];exact hpan (n0 hl) (by simp only[wq.1]) (λj hj=>by simp only[wq.1]) (by simp only[wq.1,seval]) (by simp only[wq.1,seval])
abbrev nv(k:Nat):V:=vi (k:Int)
abbrev dh(l:List Nat):List V:=l.map nv
theorem Gg{x:Bool}{id k off:Nat}:VLe (.is ab k []) (.ls id k off 0 0):=λc x h=>by simp only[VRel]at h ⊢;obtain⟨a,cp,h1,h2,h3,h4,_⟩:=h;simp only[true_imp_iff,forall_const]at h4;simp only[List.length_nil]at h1 h4;subst h4;exact⟨a,0,h1,zrb _,zrb _,Nat.zero_le _,.inl rfl⟩
theorem bG{p:Nat->Bool}:∀l:List Nat,ap p (dh l)=dh l
 |[]=>rfl
 |a::l=>by show V.drop p (nv a)::ap p (dh l)=_;rw[bG l];rfl
theorem Zx{l:List Nat}{i:Nat}(h:i<aa l)(d:V):(dh l).getD i d=nv (l.getD i 0):=by rw[fG h,zqg,zqk h];rfl
theorem Ku{l:List Nat}{i:Nat}{v:Nat}(h:i<aa l):List.take (i*1) (dh l)++[nv v]++List.drop (i*1+1) (dh l)=dh (l.set i v):=by have e:dh (l.set i v)=(dh l).set i (nv v):=List.map_set ..;rw[Nat.mul_one,e,List.set_eq_take_append_cons_drop,if_pos (by simpa using h),zqc];rfl
theorem Qb{l:List Nat}{i:Nat}(h:i<aa l)(d:V):(dh l).getD (i*1) d=nv (l.getD i 0):=by rw[Nat.mul_one];exact Zx h d
structure HPi(P Q:Nat)(l:List Nat)(h:H):Prop where
 p:h[P]? =al (am [.ls Q 1 0 (aa l) (aa l)])
 q:h[Q]? =al (am (dh l))
 ne:P≠Q
theorem HPi.set{P Q:Nat}{l l':List Nat}{h:H}(k:HPi P Q l h)(hl:aa l'=aa l):HPi P Q l' (h.set Q (am (dh l'))) where
 p:=by rw[zqn k.ne.symm,k.p,hl]
 q:=zqt (zqe k.q).1
 ne:=k.ne
theorem Qc [MO] {h : H} {s off : Nat} : Y1 TE h 246 (.lp s off) "Push" 327 (.lp s off) := by intro ok pl w x hs hx;have hx' := hx;simp only [VRel] at hx;obtain ⟨b, hb, rfl⟩ := hx;exact ⟨_, by kernel_rfl, hx'⟩
theorem UO [MO] {h : H} {s off : Nat} : Y1 TE h 246 (.lp s off) "Pop" 326 (.lp s off) := by intro ok pl w x hs hx;have hx' := hx;simp only [VRel] at hx;obtain ⟨b, hb, rfl⟩ := hx;exact ⟨_, by kernel_rfl, hx'⟩
theorem Qd [MO] (b off : Nat) (w : World) : ∀ (name : String) (g : FuncId), (name = "Len" ∧ g = 174) ∨ (name = "Less" ∧ g = 325) ∨ (name = "Swap" ∧ g = 328) →
 (Go.method (TE.P.types.size+Made.depth) 246 (.pointer (al ⟨b,off,aq⟩)) name).run TE.P w=(do let v <-Instr.loadAt 247 (.pointer (al ⟨b,off,aq⟩));pure (g,v):Sem (FuncId×Value)).run TE.P w:=by
 rintro name g (⟨rfl,rfl⟩|⟨rfl,rfl⟩|⟨rfl,rfl⟩)<;>kernel_rfl
theorem gm[MO]{h:H}{P Q:Nat}{l:List Nat}(k:HPi P Q l h){name:String}{g:FuncId}
 (hn : (name = "Len" ∧ g = 174) ∨ (name = "Less" ∧ g = 325) ∨ (name = "Swap" ∧ g = 328)) : Y1 TE h 246 (.lp P 0) name g (.ls Q 1 0 l.length l.length) := by
 intro ok pl w v hs hx;have hl:=yC (P:=TE.P) hs (t:=247) hx;have hp:yB TE.P h 247 (.lp P 0)=((0+1<=[V.ls Q 1 0 (aa l) (aa l)].length/\(ab=ab)),.ls Q 1 0 (aa l) (aa l)):=by
  have hh:fA h P=[V.ls Q 1 0 (aa l) (aa l)]:=by simp only[fA,k.p]
  simp only[yB,TEP,tis,hh,V.sub,TI.agg,cond_false,implies_true];rfl
 rw[hp]at hl;obtain⟨y,h1,h2⟩:=hl ⟨zrb 1,rfl⟩;simp only[VRel]at hx;obtain⟨b,hb,rfl⟩:=hx;refine⟨y,?_,h2⟩;rw[Qd b 0 w name g hn];simp only[Sem.run_bind];have h1':(Instr.loadAt 247 (.pointer (al ⟨b,0,aq⟩))).run TE.P w= .ok y w:=h1;rw[h1'];rfl
theorem ww[MO]{Q n c:Nat}{h:H}{R:AEnd->H->(Nat->Bool)->Prop}(hr:R (.ret (vi n)) h (λ_=>ac)):ag TE 174 [.ls Q 1 0 n c] h R:=by refine aj Tryz.func174 rfl (by simp[nts]) (vm ?_);simp only[wq.1,seval,Tryz.results174];exact hr
theorem lq[MO]{Q:Nat}{l:List Nat}{h:H}(hq:h[Q]? =al (am (dh l))){i k:Nat}(hi:i<aa l)(hk:k<aa l){R:AEnd->H->(Nat->Bool)->Prop}
 (hr:R (.ret (.bool (ar (l.getD i 0<l.getD k 0)))) h (λ_=>ac)):ag TE 325 [.ls Q 1 0 (aa l) (aa l),vi i,vi k] h R:=by
 have e:ar (((l.getD i 0:Nat):Int)<((l.getD k 0:Nat):Int))=ar (l.getD i 0<l.getD k 0):=decide_eq_decide.2 (by omega);refine aj Tryz.func325 rfl (by simp[nts]) (vm ?_);simp only[wq.1,seval,Tryz.results325,hq,Qb hi,Qb hk,e];exact⟨by decide +kernel,⟨by omega,by omega⟩,by omega,⟨by omega,by omega⟩,by omega,hr⟩
def Qe:Plan:=tkZ [0,1,2,3,4,5,6,8,9,10]<| .alt 7 (.one 11<| .take 12<| .one 13<| .take 14<| .one 15<| .fin) (.one 11 (.one 7<| .take 12<| .one 13<| .take 14<| .one 15<| .fin))
theorem lu[MO]{Q:Nat}{l:List Nat}{h:H}(hq:h[Q]? =al (am (dh l))){i k:Nat}(hi:i<aa l)(hk:k<aa l){R:AEnd->H->(Nat->Bool)->Prop}
 (hr:R (.ret (.tup [])) (h.set Q (am (dh (rD l i k)))) (λ_=>ac)):ag TE 328 [.ls Q 1 0 (aa l) (aa l),vi i,vi k] h R:=by
 have hxl:Q<aa h:=(zqe hq).1;have n1:=Ku (v:=l.getD k 0) hi;have n2:=Ku (l:=l.set i (l.getD k 0)) (v:=l.getD i 0) (i:=k) (by simpa using hk);refine aj Tryz.func328 rfl (by simp[nts]) (vm ?_);simp only[wq.1,Tryz.results328];refine dJ mixed Qe (λf' h'=>f'.d=[]/\(∀j,f'.k j=ac)/\h'=h.set Q (am (dh (rD l i k)))) (by rw[show TE.P=P from rfl];decide +kernel) (by decide +kernel) ?_ ?_
 ·simp only[wq.1,seval,Qe,hq,Qb hi,Qb hk,n1,n2,zqt,hxl,zrn,List.set_set];have hsw:(l.set i (l.getD k 0)).set k (l.getD i 0)=rD l i k:=rfl;rw[hsw]
  and_intros<;>first|omega|rfl
 ·rintro f h ⟨hd,hkf,rfl⟩;simp only[wq.1,hd];have:f.k=λ_=>ac:=funext hkf;rw[this];exact hr
theorem V9:∀(f:Nat)(l:List Nat)(j:Nat),aa (upP f l j)=aa l
 |0,_,_=>rfl
 |f+1,l,j=>by
  unfold upP;split
  ·rfl
  ·rw[V9 f,iG]
theorem Qg[MO]{P Q:Nat}{l:List Nat}{h:H}(k:HPi P Q l h)(hb:aa l<=1000000){j f:Nat}(hj:j<aa l)(hf:j<f){R:AEnd->H->(Nat->Bool)->Prop}
 (hr:R (.ret (.tup [])) (h.set Q (am (dh (upP f l j)))) (λ_=>ac)):ag TE 236 [.iface 246 (.lp P 0),vi j] h R:=by
 have hM:=mLx;obtain⟨U,hU⟩:∃U,U=upP f l j:=⟨_,rfl⟩;rw[<-hU]at hr;have h0:h=h.set Q (am (dh l)):=by have hq:=k.q;obtain⟨h1,h2⟩:=zqe hq;rw[<-h2,List.set_getElem_self]
 refine aj Tryz.func236 rfl (by simp [nts]) (vm ?_);simp only [wq.1,↓reduceIte,Nat.reduceEqDiff,Nat.reduceLT,Nat.reduceLeDiff,Nat.reduceAdd,Nat.reduceSub,Int.reduceToNat,Nat.reduceDiv,Int.reduceLT,Int.reduceLE,Int.reduceNeg,Int.reduceBEq,Int.reduceBNe,Int.reduceAdd,Int.reduceSub,Nat.reduceBEq,reduceCtorEq,Nat.reduceMul,ay,Tryz.results236];refine aF (λm fr h' => ∃ (l' : List Nat) (j f : Nat),m = j /\ j < aa l' /\ aa l' = aa l /\ j < f /\ U = upP f l' j /\ fr.t 0 = .iface 246 (.lp P 0) /\ fr.t 1 = vi j /\ fr.d = [] /\ (∀ j,fr.k j = ac) /\ h' = h.set Q (am (dh l'))) j
  ⟨l,j,f,rfl,hj,rfl,hf,hU,rfl,rfl,rfl,λ_=>rfl,h0⟩ ?_
 rintro m fr h' ⟨l',j,f,rfl,hj,hl,hf,hU,t0,t1,hd,hkf,rfl⟩;have hk':=k.set hl;have hkf':fr.k=λ_=>ac:=funext hkf;obtain⟨f,rfl⟩:∃f',f=f'+1:=⟨f-1,by omega⟩;rw[upP]at hU;refine vm ?_;by_cases hm:m=0
 ·subst hm;have hq:aD .i64 ((aD .i64 (((0:Nat):Int)-1)).tdiv 2)=0:=by decide
  have hz:((0:Int)==((0:Nat):Int))=ab:=rfl;rw[if_pos (.inl rfl)]at hU;simp only[wq.1,↓reduceIte,Nat.reduceEqDiff,Nat.reduceLT,Nat.reduceLeDiff,Nat.reduceAdd,Nat.reduceSub,Int.reduceToNat,Nat.reduceDiv,Int.reduceLT,Int.reduceLE,Int.reduceNeg,Int.reduceBEq,Int.reduceBNe,Int.reduceAdd,Int.reduceSub,Nat.reduceBEq,reduceCtorEq,Nat.reduceMul,ay,Tryz.results236,t0,t1,hd,hq,hz];refine⟨by decide,.bool ac,?_⟩;simp only[wq.1,↓reduceIte,Nat.reduceEqDiff,Nat.reduceLT,Nat.reduceLeDiff,Nat.reduceAdd,Nat.reduceSub,Int.reduceToNat,Nat.reduceDiv,Int.reduceLT,Int.reduceLE,Int.reduceNeg,Int.reduceBEq,Int.reduceBNe,Int.reduceAdd,Int.reduceSub,Nat.reduceBEq,reduceCtorEq,Nat.reduceMul,ay,Tryz.results236,t0,t1,hd,hq,hz,hkf'];rw[hU]at hr;exact hr
 ·have hq:aD .i64 ((aD .i64 ((m:Int)-1)).tdiv 2)=(((m-1)/2:Nat):Int):=by rw[iW (n:=(m:Int)-1) (by omega) (by omega),show(m:Int)-1=((m-1:Nat):Int) by omega,show((m-1:Nat):Int).tdiv 2=(((m-1)/2:Nat):Int)from rfl,iW (by omega) (by omega)]
  have hne:((((m-1)/2:Nat):Int)==(m:Int))=ac:=by rw[beq_eq_false_iff_ne];omega
  simp only[wq.1,↓reduceIte,Nat.reduceEqDiff,Nat.reduceLT,reduceCtorEq,t0,t1,hq,hne];refine⟨by decide,?_⟩;refine bP rfl (t:=246) (v:= .lp P 0) (v':= .ls Q 1 0 (aa l') (aa l')) (g:=325) (by simp only[wq.1,seval]) (by simp only[wq.1,↓reduceIte,Nat.reduceEqDiff,dX,jo]) (gm hk' (.inr (.inl ⟨rfl,rfl⟩))) (by simp only[wq.1]) ?_;simp only[wq.1,seval];refine lq hk'.q hj (by omega) ?_;by_cases hlt:l'.getD m 0<l'.getD ((m-1)/2) 0
  ·rw[if_neg (by omega)]at hU;simp only[wq.1,seval,t0,t1,decide_eq_true hlt];refine bP rfl (t:=246) (v:= .lp P 0) (v':= .ls Q 1 0 (aa l') (aa l')) (g:=328) (by simp only[wq.1,seval]) (by simp only[wq.1,seval,dX,jo]) (gm hk' (.inr (.inr ⟨rfl,rfl⟩))) (by simp only[wq.1]) ?_;simp only[wq.1,seval];refine lu hk'.q (by omega) hj ?_;simp only[wq.1,seval];exact .inl ⟨(m-1)/2,by omega,rD l' ((m-1)/2) m,(m-1)/2,f,rfl,by rw[iG];omega,by rw[iG,hl],by omega,hU,by simp only[wq.1,seval,t0],by simp only[wq.1,↓reduceIte],by simp only[wq.1,hd],hkf,by rw[List.set_set]⟩
  ·rw[if_pos (.inr hlt)]at hU;simp only[wq.1,seval,hd,decide_eq_false hlt];rw[hkf'];rw[hU]at hr;exact hr
theorem I7[MO]{P Q:Nat}{l:List Nat}{h:H}(k:HPi P Q l h)(hb:aa l<=1000000){m f:Nat}(hm:m<=aa l)(hf:m<=f)(hf1:0<f){R:AEnd->H->(Nat->Bool)->Prop}
 (hr:∀b,R (.ret (.bool b)) (h.set Q (am (dh (DC f l 0 m)))) (λ_=>ac)):ag TE 237 [.iface 246 (.lp P 0),vi 0,vi m] h R:=by
 have hM:=mLx;obtain⟨U,hU⟩:∃U,U=DC f l 0 m:=⟨_,rfl⟩;rw[<-hU]at hr;have h0:h=h.set Q (am (dh l)):=by have hq:=k.q;obtain⟨h1,h2⟩:=zqe hq;rw[<-h2,List.set_getElem_self]
 refine aj Tryz.func237 rfl (by simp [nts]) (vm ?_);simp only [wq.1,seval,Tryz.results237];refine aF (λmm fr h' => ∃ (l' : List Nat) (i f : Nat),mm = m - i /\ aa l' = aa l /\ m - i <= f /\ 0 < f /\ U = DC f l' i m /\ fr.t 0 = .iface 246 (.lp P 0) /\ fr.t 1 = vi 0 /\ fr.t 2 = vi m /\ fr.t 7 = vi i /\ i <= m /\ fr.d = [] /\ (∀ j,fr.k j = ac) /\ h' = h.set Q (am (dh l'))) m
  ⟨l,0,f,rfl,rfl,by omega,hf1,hU,rfl,rfl,rfl,rfl,Nat.zero_le _,rfl,λ_=>rfl,h0⟩ ?_
 rintro mm fr h' ⟨l',i,f,hmm,hl,hf,hf1,hU,t0,t1,t2,t7,hi,hd,hkf,rfl⟩;have hk':=k.set hl;have hkf':fr.k=λ_=>ac:=funext hkf;obtain⟨f,rfl⟩:∃f',f=f'+1:=⟨f-1,by omega⟩;rw[DC]at hU;have w1:aD .i64 (2*(i:Int))=((2*i:Nat):Int):=by rw[iW (by omega) (by omega)];omega
 have w2:aD .i64 (((2*i:Nat):Int)+1)=((2*i+1:Nat):Int):=by rw[iW (by omega) (by omega)];omega
 have w3:aD .i64 (((2*i+1:Nat):Int)+1)=((2*i+2:Nat):Int):=by rw[iW (by omega) (by omega)];omega
 have z1:ar (((2*i+1:Nat):Int)<0)=ac:=by rw[zqd];omega
 refine vm ?_;by_cases hge:m<=2*i+1
 ·have e1:ar ((m:Int)<=((2*i+1:Nat):Int))=ab:=by rw[zqb];omega
  rw[if_pos (.inl hge)]at hU;simp only[wq.1,seval,t1,t2,t7,hd,w1,w2,e1,hkf'];rw[hU]at hr;exact hr _
 ·have e1:ar ((m:Int)<=((2*i+1:Nat):Int))=ac:=by rw[zqd];omega
  by_cases hlt:2*i+2<m
  ·have e2:ar (((2*i+2:Nat):Int)<(m:Int))=ab:=by rw[zqb];omega
   simp only[wq.1,seval,t0,t2,t7,w1,w2,w3,e1,z1,e2];refine bP rfl (t:=246) (v:= .lp P 0) (v':= .ls Q 1 0 (aa l') (aa l')) (g:=325) (by simp only[wq.1,seval]) (by simp only[wq.1,seval,dX,jo]) (gm hk' (.inr (.inl ⟨rfl,rfl⟩))) (by simp only[wq.1]) ?_;simp only[wq.1,seval];refine lq hk'.q (by omega) (by omega) ?_;by_cases hc:l'.getD (2*i+2) 0<l'.getD (2*i+1) 0
   ·have hkid:JW l' i m=2*i+2:=by unfold JW;rw[if_pos ⟨hlt,hc⟩]
    rw[hkid]at hU;simp only[wq.1,seval,t0,t7,decide_eq_true hc];refine bP rfl (t:=246) (v:= .lp P 0) (v':= .ls Q 1 0 (aa l') (aa l')) (g:=325) (by simp only[wq.1,seval]) (by simp only[wq.1,seval,dX,jo]) (gm hk' (.inr (.inl ⟨rfl,rfl⟩))) (by simp only[wq.1]) ?_;simp only[wq.1,seval];refine lq hk'.q (i:=2*i+2) (k:=i) (by omega) (by omega) ?_;by_cases hsw:l'.getD (2*i+2) 0<l'.getD i 0
    ·rw[if_neg (by omega)]at hU;simp only[wq.1,seval,t0,t7,decide_eq_true hsw];refine bP rfl (t:=246) (v:= .lp P 0) (v':= .ls Q 1 0 (aa l') (aa l')) (g:=328) (by simp only[wq.1,seval]) (by simp only[wq.1,seval,dX,jo]) (gm hk' (.inr (.inr ⟨rfl,rfl⟩))) (by simp only[wq.1]) ?_;simp only[wq.1,seval];refine lu hk'.q (i:=i) (k:=2*i+2) (by omega) (by omega) ?_;simp only[wq.1,seval];exact .inl ⟨m-(2*i+2),by omega,rD l' i (2*i+2),2*i+2,f,rfl,by rw[iG,hl],by omega,by omega,hU,by simp only[wq.1,seval,t0],by simp only[wq.1,seval,t1],by simp only[wq.1,seval,t2],by simp only[wq.1,↓reduceIte],by omega,by simp only[wq.1,hd],hkf,by rw[List.set_set]⟩
    ·rw[if_pos (.inr hsw)]at hU;simp only[wq.1,seval,t1,t7,hd,decide_eq_false hsw];rw[hkf'];rw[hU]at hr;exact hr _
   ·have hkid:JW l' i m=2*i+1:=by unfold JW;rw[if_neg (λh=>hc h.2)]
    rw[hkid]at hU;simp only[wq.1,seval,t0,t7,decide_eq_false hc];refine bP rfl (t:=246) (v:= .lp P 0) (v':= .ls Q 1 0 (aa l') (aa l')) (g:=325) (by simp only[wq.1,seval]) (by simp only[wq.1,seval,dX,jo]) (gm hk' (.inr (.inl ⟨rfl,rfl⟩))) (by simp only[wq.1]) ?_;simp only[wq.1,seval];refine lq hk'.q (i:=2*i+1) (k:=i) (by omega) (by omega) ?_;by_cases hsw:l'.getD (2*i+1) 0<l'.getD i 0
    ·rw[if_neg (by omega)]at hU;simp only[wq.1,seval,t0,t7,decide_eq_true hsw];refine bP rfl (t:=246) (v:= .lp P 0) (v':= .ls Q 1 0 (aa l') (aa l')) (g:=328) (by simp only[wq.1,seval]) (by simp only[wq.1,seval,dX,jo]) (gm hk' (.inr (.inr ⟨rfl,rfl⟩))) (by simp only[wq.1]) ?_;simp only[wq.1,seval];refine lu hk'.q (i:=i) (k:=2*i+1) (by omega) (by omega) ?_;simp only[wq.1,seval];exact .inl ⟨m-(2*i+1),by omega,rD l' i (2*i+1),2*i+1,f,rfl,by rw[iG,hl],by omega,by omega,hU,by simp only[wq.1,seval,t0],by simp only[wq.1,seval,t1],by simp only[wq.1,seval,t2],by simp only[wq.1,↓reduceIte],by omega,by simp only[wq.1,hd],hkf,by rw[List.set_set]⟩
    ·rw[if_pos (.inr hsw)]at hU;simp only[wq.1,seval,t1,t7,hd,decide_eq_false hsw];rw[hkf'];rw[hU]at hr;exact hr _
  ·have e2:ar (((2*i+2:Nat):Int)<(m:Int))=ac:=by rw[zqd];omega
   have hkid:JW l' i m=2*i+1:=by unfold JW;rw[if_neg (λh=>hlt h.1)]
   rw[hkid]at hU;simp only[wq.1,seval,t0,t2,t7,w1,w2,w3,e1,z1,e2];refine⟨.bool ac,?_⟩;simp only[wq.1,seval,t0,t7];refine bP rfl (t:=246) (v:= .lp P 0) (v':= .ls Q 1 0 (aa l') (aa l')) (g:=325) (by simp only[wq.1,seval]) (by simp only[wq.1,seval,dX,jo]) (gm hk' (.inr (.inl ⟨rfl,rfl⟩))) (by simp only[wq.1]) ?_;simp only[wq.1,seval];refine lq hk'.q (i:=2*i+1) (k:=i) (by omega) (by omega) ?_;by_cases hsw:l'.getD (2*i+1) 0<l'.getD i 0
   ·rw[if_neg (by omega)]at hU;simp only[wq.1,seval,t0,t7,decide_eq_true hsw];refine bP rfl (t:=246) (v:= .lp P 0) (v':= .ls Q 1 0 (aa l') (aa l')) (g:=328) (by simp only[wq.1,seval]) (by simp only[wq.1,seval,dX,jo]) (gm hk' (.inr (.inr ⟨rfl,rfl⟩))) (by simp only[wq.1]) ?_;simp only[wq.1,seval];refine lu hk'.q (i:=i) (k:=2*i+1) (by omega) (by omega) ?_;simp only[wq.1,seval];exact .inl ⟨m-(2*i+1),by omega,rD l' i (2*i+1),2*i+1,f,rfl,by rw[iG,hl],by omega,by omega,hU,by simp only[wq.1,seval,t0],by simp only[wq.1,seval,t1],by simp only[wq.1,seval,t2],by simp only[wq.1,↓reduceIte],by omega,by simp only[wq.1,hd],hkf,by rw[List.set_set]⟩
   ·rw[if_pos (.inr hsw)]at hU;simp only[wq.1,seval,t1,t7,hd,decide_eq_false hsw];rw[hkf'];rw[hU]at hr;exact hr _
def Gh:Plan:=tkZ [0,1,2,4]<| .alt 3 (onZ [5,6,7]<| .take 8<| .one 9<| .fin) (.one 5 (.alt 3 (.one 6<| .one 7<| .take 8<| .one 9<| .fin) (.one 6 (.one 3<| .one 7<| .take 8<| .one 9<| .fin))))
def sW(P Q:Nat)(h:H)(l:List Nat):H:=((h.map (O.drop λx=>x==Q)).set Q (am (dh l))).set P (am [.ls Q 1 0 (aa l) (aa l)])
theorem HPi.push{P Q:Nat}{l:List Nat}{h:H}(k:HPi P Q l h)(l':List Nat):HPi P Q l' (sW P Q h l') where
 p:=by unfold sW;rw[zqt (by simp;exact(zqe k.p).1)]
 q:=by unfold sW;rw[zqn k.ne,zqt (by simp;exact(zqe k.q).1)]
 ne:=k.ne
theorem Qh{P Q:Nat}{l l':List Nat}{h:H}(hne:P≠Q)(hl:aa l'=aa l):(sW P Q h l).set Q (am (dh l'))=sW P Q h l':=by unfold sW;rw[List.set_comm _ _ hne,List.set_set,hl]
theorem I8[MO]{P Q:Nat}{l:List Nat}{h:H}(k:HPi P Q l h)(hb:aa l<=1000000)(x:Nat){R:AEnd->H->(Nat->Bool)->Prop}
 (hr:R (.ret (.tup [])) (sW P Q h (l++[x])) (λi=>i==Q)):ag TE 327 [.lp P 0,.iface 3 (nv x)] h R:=by
 have hM:=mLx;have hp:=k.p;have hq:=k.q;have hpl:=(zqe hp).1;have hql:=(zqe hq).1;have hne:=k.ne;have hne':=hne.symm;have b1:(P==Q)=ac:=by simp[hne]
 have hp':(h.map (O.drop λi=>i==Q))[P]? =al (am [.any]):=by rw[zqo,hp];simp[O.drop,ap,V.drop]
 have hmap:∀l:List Nat,ap (λi=>i==Q) (dh l)=dh l:=λl=>bG l;refine aj Tryz.func327 rfl (by simp[nts]) (vm ?_);simp only[wq.1,Tryz.results327];refine dJ mixed Gh (λf' h'=>f'.d=[]/\f'.k=(λi=>i==Q)/\h'=sW P Q h (l++[x])) (by rw[TEP];decide +kernel) (by decide +kernel) ?_ ?_
 ·simp only[wq.1,↓reduceIte,Nat.reduceEqDiff,Nat.reduceLT,reduceCtorEq,Nat.reduceMul,Gh,hp,hp',hq,zqn,ne_eq,not_false_eq_true,hne',b1,hmap];have e:dh l++[nv x]=dh (l++[x]):=by simp
  rw[e];refine⟨⟨rfl,by decide⟩,⟨by omega,by omega,by omega⟩,?_⟩;unfold sW;simp
 ·rintro f h' ⟨hd,hkf,rfl⟩;simp only[wq.1,hd,hkf];exact hr
theorem zB[MO]{P Q:Nat}{l:List Nat}{h:H}(k:HPi P Q l h)(hb:aa l<=900000)(x:Nat){R:AEnd->H->(Nat->Bool)->Prop}
 (hr:R (.ret (.tup [])) (sW P Q h (FO l x)) (λi=>i==Q)):ag TE 173 [.iface 246 (.lp P 0),.iface 3 (nv x)] h R:=by
 have hM:=mLx;have hne:=k.ne;have b1:(P==Q)=ac:=by simp[hne]
 have k1:=k.push (l++[x]);refine aj Tryz.func173 rfl (by simp[nts]) (vm ?_);simp only[wq.1,seval,Tryz.results173];refine bP rfl (t:=246) (v:= .lp P 0) (v':= .lp P 0) (g:=327) (by simp only[wq.1,seval]) (by simp only[wq.1,seval,dX,jo]) Qc (by simp only[wq.1]) ?_;simp only[wq.1,↓reduceIte];refine I8 k (by omega) x ?_;simp only[wq.1,seval,bC,b1];refine bP rfl (t:=246) (v:= .lp P 0) (v':= .ls Q 1 0 (aa (l++[x])) (aa (l++[x]))) (g:=174) (by simp only[wq.1,↓reduceIte]) (by simp only[wq.1,↓reduceIte,dX]) (gm k1 (.inl ⟨rfl,rfl⟩)) (by simp only[wq.1]) ?_;simp only[wq.1];refine ww ?_;have hw:aD .i64 (((aa l+1:Nat):Int)-1)=(aa l:Int):=by rw[iW (by omega) (by omega)];omega
 simp only[wq.1,seval,hw];refine Qg k1 (by simp;omega) (j:=aa l) (f:=aa l+1) (by simp) (by omega) ?_;simp only[wq.1];rw[Qh hne (V9 _ _ _)];exact hr
def Gi:Plan:=tkZ [0,1,2,4,5]<| .alt 3 (.one 6<| .one 7<|tkZ [8,9,10]<| .one 11<| .fin) (.one 6 (.alt 3 (.one 7<|tkZ [8,9,10]<| .one 11<| .fin) (.one 7 (.take 8<| .one 3<| .take 9<| .take 10<| .one 11<| .fin))))
def I9(P Q:Nat)(h:H)(l:List Nat):H:=(h.set Q (am (dh l))).set P (am [.ls Q 1 0 (aa l) (aa l)])
theorem HPi.pop{P Q:Nat}{l:List Nat}{h:H}(k:HPi P Q l h)(l':List Nat):HPi P Q l' (I9 P Q h l') where
 p:=by unfold I9;rw[zqt (by simp;exact(zqe k.p).1)]
 q:=by unfold I9;rw[zqn k.ne,zqt (zqe k.q).1]
 ne:=k.ne
theorem Ns[MO]{P Q:Nat}{l0:List Nat}{x:Nat}{h:H}(k:HPi P Q (l0++[x]) h)(hb:aa l0<=1000000){R:AEnd->H->(Nat->Bool)->Prop}
 (hr:R (.ret (.iface 3 (nv x))) (I9 P Q h l0) (λ_=>ac)):ag TE 326 [.lp P 0] h R:=by
 have hM:=mLx;have hp:=k.p;have hq:=k.q;have hpl:=(zqe hp).1;have hql:=(zqe hq).1;have hne:=k.ne;have hne':=hne.symm;rw[zqa,zrk]at hp;have hw:aD .i64 (((aa l0+1:Nat):Int)-1)=(aa l0:Int):=by rw[iW (by omega) (by omega)];omega
 have hgx:(List.map nv l0++[nv x]).getD (aa l0*1) .any=nv x:=by have:=Qb (l:=l0++[x]) (i:=aa l0) (by simp) .any;rw[show dh (l0++[x])=List.map nv l0++[nv x] by simp]at this;rw[this];simp
 refine MM ?_;refine aj Tryz.func326 rfl (by simp[nts]) (vm ?_);simp only[wq.1,seval,Tryz.results326];have hzl:(0:Int)<=(aa l0:Int):=by omega
 simp only[wq.1,seval,hp,hq,hw,hgx];refine⟨by decide +kernel,⟨by omega,by omega⟩,by omega,?_⟩;refine dJ mixed Gi (λf' h2=>f'.t 3=nv x/\f'.d=[]/\(∀j,f'.k j=ac)/\h2=h.set P (am [.ls Q 1 0 (aa l0) (aa l0+1)])) (by rw[TEP];decide +kernel) (by decide +kernel) ?_ ?_
 ·simp only[wq.1,seval,Gi,hp,hw];exact⟨by omega,.inl (by omega)⟩
 ·rintro f h2 ⟨h3,hd,hkf,rfl⟩;have hkf':f.k=λ_=>ac:=funext hkf;simp only[wq.1,seval,h3,hd,hkf'];refine⟨by simp,I9 P Q h l0,?_,hr⟩;unfold I9;refine HLe.trans (HLe.set (i:=P) (zqt hpl) (o':=am [.ls Q 1 0 (aa l0) (aa l0)]) (OLe.cells (zrb _) (dm.cons (VLe.cap (by omega)) dm.nil))) ?_;rw[List.set_set,List.set_comm _ _ hne'];refine HLe.set (o:=am (dh (l0++[x]))) ?_ ?_
  ·rw[zqn hne];exact hq
  ·have:=OLe.take (dh (l0++[x])) (aa l0);have e:(dh (l0++[x])).take (aa l0)=dh l0:=by rw[<-List.map_take,List.take_left' rfl]
   rw[e]at this;exact this
theorem Ja{l0:List Nat}{x:Nat}:(l0++[x]).getLastD 0=x:=by simp
theorem Nu[MO]{P Q:Nat}{l:List Nat}{h:H}(k:HPi P Q l h)(hb:aa l<=900000)(hne0:l≠[]){R:AEnd->H->(Nat->Bool)->Prop}
 (hr:R (.ret (.iface 3 (nv ((oz l).getLastD 0)))) (I9 P Q h (oz l).dropLast) (λ_=>ac)):ag TE 175 [.iface 246 (.lp P 0)] h R:=by
 have hM:=mLx;have hne:=k.ne;have hpos:0<aa l:=List.length_pos_iff.2 hne0;obtain⟨m,hm⟩:∃m,aa l=m+1:=⟨aa l-1,by omega⟩;have hw:aD .i64 ((aa l:Int)-1)=(m:Int):=by rw[iW (by omega) (by omega)];omega
 have hpop:oz l=DC (aa l) (rD l 0 m) 0 m:=by unfold oz;rw[hm];rfl
 have k1:=k.set (l':=rD l 0 m) (iG _ _ _);have hpl:=PN hne0;obtain⟨l0,x,e⟩:∃l0 x,oz l=l0++[x]:=by
  have:oz l≠[]:=λh=>by rw[h]at hpl;simp at hpl;omega
  exact⟨_,_,(List.dropLast_concat_getLast this).symm⟩
 have k2:=k1.set (l':=oz l) (by rw[hpl,iG]);rw[e,Ja,List.dropLast_concat]at hr;rw[e,List.set_set]at k2;have hl0:aa l0=m:=by rw[e,zqa,zrk]at hpl;omega
 refine aj Tryz.func175 rfl (by simp[nts]) (vm ?_);simp only[wq.1,seval,Tryz.results175];refine bP rfl (t:=246) (v:= .lp P 0) (v':= .ls Q 1 0 (aa l) (aa l)) (g:=174) (by simp only[wq.1,↓reduceIte]) (by simp only[wq.1,↓reduceIte,dX]) (gm k (.inl ⟨rfl,rfl⟩)) (by simp only[wq.1]) ?_;simp only[wq.1];refine ww ?_;simp only[wq.1,seval,hw];refine bP rfl (t:=246) (v:= .lp P 0) (v':= .ls Q 1 0 (aa l) (aa l)) (g:=328) (by simp only[wq.1,seval]) (by simp only[wq.1,seval,dX,jo]) (gm k (.inr (.inr ⟨rfl,rfl⟩))) (by simp only[wq.1]) ?_;simp only[wq.1,↓reduceIte];refine lu (i:=0) (k:=m) k.q (by omega) (by omega) ?_;simp only[wq.1,seval];refine I7 k1 (by rw[iG];omega) (m:=m) (f:=aa l) (by rw[iG];omega) (by omega) (by omega) λb=> ?_;rw[<-hpop,e,List.set_set];simp only[wq.1,seval];refine bP rfl (t:=246) (v:= .lp P 0) (v':= .lp P 0) (g:=326) (by simp only[wq.1,↓reduceIte]) (by simp only[wq.1,↓reduceIte,dX]) UO (by simp only[wq.1]) ?_;simp only[wq.1];rw[show List.map nv l0++[nv x]=dh (l0++[x]) by simp];refine Ns k2 (by omega) ?_;simp only[wq.1,seval];have eh:I9 P Q (h.set Q (am (dh (l0++[x])))) l0=I9 P Q h l0:=by unfold I9;rw[List.set_set]
 rw[show List.map nv l0++[nv x]=dh (l0++[x]) by simp,eh];exact hr
abbrev aQ(c:Ci):List S:=c.gates.map (·.name)
abbrev gins(c:Ci):List (List S):=c.gates.map (·.ins)
def plO(l:List S):O:= .map (l.map V.str) (dh (List.range (aa l)))
abbrev ciO(c:Ci):O:=am [aJ c.ins,aJ c.outs,kY c.lat,iU c.gates]
theorem DL(l:List S)(s:S):at? l s=iQ l s:=by
 unfold iQ
 induction l with
 |nil=>rfl
 |cons x l ih =>
  rw[at?,List.findIdx?_cons];by_cases h:x=s
  ·rw[if_pos h];simp[h]
  ·rw[if_neg h,ih];have:(x==s)=ac:=by simpa using h
   rw[this];rfl
theorem uJ:∀(l acc:List S),Aw acc l=aq->acc.Nodup->(acc++l).Nodup
 |[],acc,_,h=>by simpa using h
 |s::l,acc,hd,h=>by
  rw[Aw]at hd;by_cases hc:acc.contains s=ab
  ·rw[if_pos hc]at hd;cases hd
  ·rw[if_neg hc]at hd;have hn:s∉acc:=λhm=>hc (List.contains_iff_mem.2 hm);have:=uJ l (acc++[s]) hd (List.nodup_append.2 ⟨h,by simp,λa ha b hb hab=>by
    rw[zrc.1 hb]at hab;exact hn (hab▸ha)⟩)
   rwa [zqc]at this
theorem lV{c:Ci}(h:Aw [] (aT c)=aq):(aQ c).Nodup:=by have:=uJ _ _ h List.nodup_nil;unfold aT at this;rw[List.nil_append]at this;exact(List.nodup_append.1 this).2.1
theorem Zy{l:List S}(h:l.Nodup){i:Nat}(hi:i<aa l):at? (l.take i) l[i]=aq:=UJ λhm=>by obtain⟨j,hj,e⟩:=List.mem_take_iff_getElem.1 hm;have:=(List.getElem_inj h).1 e;omega
theorem xq[MO](c:Ci)(hn:(aQ c).Nodup)(hl:aa c.gates<=1000000):ag TE 110 [c.v] [] (λae h' _=>ae= .ret (.lm 1)/\h'=[ciO c,plO (aQ c)]):=by
 have hM:=mLx;have hnl:aa (aQ c)=aa c.gates:=zra ..;obtain⟨BX,hBX⟩:∃BX:O,BX=ciO c:=⟨_,rfl⟩;have hBd:∀p,BX.drop p=BX:=λp=>by rw[hBX];rfl
 obtain⟨MP,hMP⟩:∃MP:Nat->O,MP=λi=> .map (((aQ c).take i).map V.str) (dh (List.range i)):=⟨_,rfl⟩;have hcl:∀(p:Nat->Bool) i,([BX,MP i]:H).map (O.drop p)=[BX,MP i]:=λp i=>by show [BX.drop p,(MP i).drop p]=_;rw[hBd,hMP];show [BX,O.map (ap p _) (ap p _)]=_;rw[aN,bG]
 have hfin:plO (aQ c)=MP (aa c.gates):=by rw[hMP];show _=O.map _ _;rw[<-hnl,zrx];rfl
 rw[hfin,<-hBX];refine aj Tryz.func110 rfl (by simp[nts]) ?_;refine vn ?_;simp only[wq.1,Nat.reduceLT,Tryz.results110];refine vn ?_;simp only[wq.1,seval];rw[show([am [aJ c.ins,aJ c.outs,kY c.lat,iU c.gates],O.map [] []]:H)=[BX,MP 0] by rw[hBX,hMP];rfl];refine vn ?_;simp only[wq.1,seval,hBX];rw[<-hBX];refine aF (λm f h=>∃(i:Nat)(X:H),m+i=aa c.gates/\i<=aa c.gates/\f.t 3= .lm 1/\f.t 8=iU c.gates/\f.t 9=vi (aa c.gates)/\f.t 10=vi i/\f.d=[]/\h=[BX,MP i]++X) (aa c.gates) ⟨0,[],by omega,by omega,by simp only[wq.1,seval],by simp only[wq.1,seval],by simp only[wq.1,seval],by simp only[wq.1,↓reduceIte];rfl,by simp only[wq.1],rfl⟩ ?_;rintro m f h ⟨i,X,hm,hil,t3,t8,t9,t10,hd,rfl⟩;refine fB (h0:=[BX,MP i]) (by rw[hd];simp) ?_;rw[hcl];obtain⟨f',hf'⟩:∃f',f'=f.drop (Abs.fK (aa ([BX,MP i]:H))):=⟨_,rfl⟩;have u3:f'.t 3= .lm 1:=by rw[hf'];show(f.t 3).drop _=_;rw[t3];rfl
 have u8:f'.t 8=iU c.gates:=by rw[hf'];show(f.t 8).drop _=_;rw[t8];rfl
 have u9:f'.t 9=vi (aa c.gates):=by rw[hf'];show(f.t 9).drop _=_;rw[t9];rfl
 have u10:f'.t 10=vi i:=by rw[hf'];show(f.t 10).drop _=_;rw[t10];rfl
 have ud:f'.d=[]:=by rw[hf'];exact hd
 rw[<-hf'];clear hf' hd t3 t8 t9 t10 X;have hw:=aA (show i<maxLen by omega);refine vn ?_;simp only[wq.1,Nat.reduceLT,u9,u10];refine vn ?_;simp only[wq.1,↓reduceIte];refine vcB.mk (λhlt=> ?_) (λhlt=> ?_)
 ·have hlt:i<aa c.gates:=by have:=zqs hlt;omega
  obtain⟨g,hg⟩:∃g,g=c.gates[i]:=⟨_,rfl⟩;have hgg:=uH hlt .any;rw[<-hg]at hgg;have hat:=Zy hn (i:=i) (by omega);have hgn:(aQ c)[i]'(by omega)=g.name:=by rw[hg];simp
  rw[hgn]at hat;have hms:MP (i+1)= .map (((aQ c).take i).map V.str++[.str g.name]) (dh (List.range i)++[vi i]):=by
   rw[hMP];show O.map _ _=_;rw[List.take_succ_eq_append_getElem (by omega),hgn,List.range_succ,zql];simp
  have hmi:MP i= .map (((aQ c).take i).map V.str) (dh (List.range i)):=by rw[hMP]
  simp only[wq.1];refine vn ?_;simp only[wq.1,seval,u3,u8,u10,hgg,hmi,Ov,bF,K.keyOk,hat];refine⟨⟨by omega,by omega⟩,?_⟩;rw[<-hms];refine vm ?_;simp only[wq.1,seval,u10,hw];refine .inl ⟨m-1,by omega,i+1,[am [V.str g.name,vi g.op,aJ g.ins,aJ g.rows,V.bool g.off]],by omega,by omega,?_⟩;refine⟨by simp only[wq.1,seval,u3],by simp only[wq.1,seval,u8],by simp only[wq.1,seval,u9],by simp only[wq.1,↓reduceIte],by simp only[wq.1,ud],rfl⟩
 ·have hi:i=aa c.gates:=by have:=of_decide_eq_false hlt;omega
  subst hi;refine vm ?_;simp only[wq.1,seval,u3,ud]
end Go.Proofs.YthaijohbpdabfaaGreatDoor
