/- Lemmas for this claim, part F14: each holds under what it names. -/
import Derived.Test.YthdidjjecjhenaaGreatAF13
import Derived.Test.YthdidjjecjhenaaGreatAA9
set_option linter.all false
set_option maxRecDepth 20000
set_option maxHeartbeats 8000000
namespace Go.Proofs.YthdidjjecjhenaaGreat
open Go Go.Proofs Go.Abs
open List renaming length → aa, replicate → aD
open Bool renaming true → ab, false → am
open Option renaming some → ar, none → aL
open Decidable renaming decide → aM
open Go.IntKind renaming wrap → a5
open Go.Result renaming andThen → a8
open Go.Abs.O renaming cells → aw
open Go.Abs.V renaming drops → aE, dat → a6, dats → a7
theorem qW(to:Cl)(a:Int)(h0:0<=a)(h1:a/2<aa to)(h2:a<=1000000)(ht:∀x∈to,0<=x/\x<=1000000):Ev TE 57 [vi a,.ip (az to)] (vi (mvX to a)):=by
 obtain⟨k,hk⟩:∃k:Nat,a/2=k:=⟨(a/2).toNat,by omega⟩;have hkl:k<aa to:=by omega
 have hg:(to.map vi).getD k .any=vi to[k]:=sU hkl _;have hb:=ht _ (zqu hkl);have w1:a5 .i64 (2*to[k])=2*to[k]:=aV (by omega) (by omega);have w2:a5 .i64 (2*to[k]+a%2)=2*to[k]+a%2:=aV (by omega) (by omega);have e:mvX to a=2*to[k]+a%2:=by unfold mvX;rw[hk,zsg,aP hkl]
 refine aC Tryz.func57 rfl (by simp[nts]) (vm ?_);simp only[wq.1,seval,Tryz.results57,VX,WT h0 (show a<=1000000000 by omega),hk,hg,w1,w2];refine⟨⟨by omega,by omega⟩,?_⟩;exact aH.eq rfl (by rw[e])
abbrev jcV(ni:Int)(n:Nat)(init beg:Cl)(pr:List Pq)(iv:V)(A:List Pq):List V:=[vi ni,.ls 4 1 0 n n,az init,.ls 5 2 0 (aa A) (aa A),.nils,az beg,prs pr,iv,.bool am]
abbrev hAd(x0 x1 x2:List V)(ni:Int)(zs init beg:Cl)(pr:List Pq)(iv:V)(A:List Pq):H:=[aw x0,aw x1,aw x2,aw (jcV ni (aa zs) init beg pr iv A),aw (zs.map vi),aw (fl A)]
abbrev hA9(x0 x1 x2:List V)(ni:Int)(zs init beg:Cl)(pr:List Pq)(iv:V)(m:Mo)(A:List Pq)(to:Cl):H:=[aw x0,aw x1,aw x2,aw (jcV ni (aa zs) init beg pr iv A),aw (zs.map vi),aw (fl A),aw (cCM m),aw (to.map vi),aw [.ls 7 1 0 (aa to) (aa to)]]
def tA(l:List S)(m:Mo)(i:Nat):Cl:=0::((m.ins.take i).map λs=>1+(atI l s:Int))
def tB(l:List S)(m:Mo)(f:Int)(i:Nat):Cl:=0::(m.ins.map (λs=>1+(atI l s:Int))++(List.range i).map λi:Nat=>f+(i:Int))
variable{l:List S}{m:Mo}{i:Nat}
theorem Wq(h:i<aa m.ins):tA l m (i+1)=tA l m i++[1+(atI l m.ins[i]:Int)]:=by unfold tA;rw[zrg,zqk h,zql];rfl
theorem Yb(h:i<=aa m.ins):aa (tA l m i)=i+1:=by unfold tA;simp;omega
variable{f:Int}
theorem Yc:tA l m (aa m.ins)=tB l m f 0:=by unfold tA tB;simp
theorem Ws:tB l m f (i+1)=tB l m f i++[f+(i:Int)]:=by unfold tB;rw[List.range_succ,zql];simp
theorem U6:aa (tB l m f i)=aa m.ins+i+1:=by unfold tB;simp
theorem Wu(hin:∀s∈m.ins,(at? l s).isSome=ab)(hll:aa l<=4000)(hf0:0<=f)(hf1:f<=100000)(hml:aa m.lat<=4000):∀x∈to0 l m f,0<=x/\x<=200000:=λx hx=>by
 unfold to0 at hx;rcases zrj.1 hx with rfl|hx
 ·omega
 ·rcases zrf.1 hx with hx|hx
  ·obtain⟨s,hs,rfl⟩:=zrh.1 hx;have:=JV (hin s hs);omega
  ·obtain⟨i,hi,rfl⟩:=zrh.1 hx;have:=List.mem_range.1 hi;omega
variable{A:List Pq}
theorem QA{s:List Pq×Cl}{p:Pq}:ww f s (A++[p])=Gh f (ww f s A) p:=by unfold ww;rw[List.foldl_append];rfl
theorem BJ{f:Int}(hf0:0<=f)(hf1:f<=20000):∀ {A:List Pq} {s:List Pq×Cl},aa s.1+aa A<=12000->(∀x∈s.2,0<=x/\x<=200000) ->
 (ww f s A).1.length=aa s.1+aa A/\(ww f s A).2.length=aa s.2+aa A/\∀x∈(ww f s A).2,0<=x/\x<=200000
 |[],s,_,hT=>⟨rfl,rfl,hT⟩
 |p::A,s,hl,hT=>by
  rw[zrt]at hl;obtain⟨h1,h2,h3⟩:=BJ hf0 hf1 (A:=A) (s:=Gh f s p) (by simp[Gh];omega) (λx hx=>by
   rcases zrf.1 hx with hx|hx
   ·exact hT x hx
   ·rw[zrc.1 hx];omega)
  have e1:(Gh f s p).1.length=aa s.1+1:=by simp[Gh]
  have e2:(Gh f s p).2.length=aa s.2+1:=by simp[Gh]
  show(ww f (Gh f s p) A).1.length=_/\(ww f (Gh f s p) A).2.length=_/\_;rw[zrt];exact⟨by omega,by omega,h3⟩
variable{x0 x1 x2:List V}{ni:Int}{zs init beg:Cl}{pr A0:List Pq}
theorem BK{first:Int}(d0:a7 x0=ab)(d1:a7 x1=ab)(d2:a7 x2=ab)
 (hin:∀s∈m.ins,(at? l s).isSome=ab) (hll:aa l<=4000) (n0:0<=ni) (n1:ni<=4000) (hz:aa zs<=8000) (hf0:0<=first) (hf1:first<=100000) (hA0:aa A0<=8000) (hma:aa m.g.ands<=4000) (hmi:aa m.ins<=4000) (hml:aa m.lat<=4000)
 (hok:OkA (1+(aa m.ins:Int)+(aa m.lat:Int)) m.g.ands) {R:AEnd->H->(Nat->Bool)->Prop}
 (hr:R (.ret (.fn (.func 57) [] [.ip (az (ww (1+ni+(aa zs:Int)) (A0,to0 l m first) m.g.ands).2)])) (hAd x0 x1 x2 ni zs init beg pr (plV l) (ww (1+ni+(aa zs:Int)) (A0,to0 l m first) m.g.ands).1) (λi=>i==5||aM (6<=i))) :
 ag TE 30 [.lp 3 0,.agg (cCM m),vi first] (hAd x0 x1 x2 ni zs init beg pr (plV l) A0) R:=by
 have hM:=mLx;have dd0:∀p,aE p x0=x0:=λp=>bF.dats_drops _ d0;have dd1:∀p,aE p x1=x1:=λp=>bF.dats_drops _ d1;have dd2:∀p,aE p x2=x2:=λp=>bF.dats_drops _ d2;have ddz:∀p,aE p (zs.map vi)=zs.map vi:=λp=>aN _;refine ag.kp (λi=>i==5||aM (6<=i)) ?_;refine ah Tryz.func30 rfl (by simp[nts]) ?_;refine vn ?_;simp only[wq.1,seval,Tryz.results30];refine ak ?_;refine Jg rfl (by decide) ?_;refine vC (x:= .const (.int .i64 0)) (t:=22) rfl (q:={kind:= .slice 3,size:=1,bytes:=24,zero:= .nils}) (by simp only[wq.1]) (el:=3) rfl (re:={kind:= .int .i64,size:=1,bytes:=8,zero:= .int .i64 0}) (by simp only[wq.1]) rfl (by simp only[wq.1]) (kk:= .i64) (m:=0) (by simp only[wq.1]) ?_;simp only[wq.1,seval];refine ak ?_;refine vn ?_;simp only[wq.1,seval];refine aB ?_;refine aA (λq f h=>∃i,q+i=aa m.ins/\f.t 0= .lp 3 0/\f.t 2=vi first/\f.t 4= .lp 6 0/\f.t 7= .lp 8 0/\f.t 16=ig m.ins/\f.t 17=vi (aa m.ins)/\f.t 18=vi i/\f.d=[]/\h=hA9 x0 x1 x2 ni zs init beg pr (plV l) m A0 (tA l m i)/\∀j,f.k j=ab->(j==5||aM (6<=j))=ab) (aa m.ins) ⟨0,by omega,rfl,rfl,rfl,rfl,rfl,rfl,rfl,rfl,rfl,λj hj=>by cases hj⟩ ?_;rintro q f h ⟨i,hq,t0,t2,t4,t7,t16,t17,t18,hd,rfl,hk⟩;have htl:=Yb (l:=l) (m:=m) (i:=i) (by omega);have dA0:∀p,aE p (fl A0)=fl A0:=λp=>zJ _;have dto:∀p,aE p ((tA l m i).map vi)=(tA l m i).map vi:=λp=>aN _;have hel:aa ((tA l m i).map vi)=aa (tA l m i)*1:=by rw[zra];omega
 refine vn ?_;simp only[wq.1,Nat.reduceLT,t17,t18];refine ak (aX (b:=aM ((i:Int)<aa m.ins)) (by simp only[wq.1,↓reduceIte]) (by simp only[wq.1,↓reduceIte]) (λhlt=> ?_) (λhlt=> ?_))
 ·simp only[zqb,zqi]at hlt;have hw:=ax (show i<maxLen by omega);obtain⟨k,hat⟩:=Option.isSome_iff_exists.1 (hin _ (zqu hlt));have hkl:=(kD hat).1;have hgk:(J7 (aa l)).getD k .any=vi k:=uP hkl _;have hai:atI l m.ins[i]=k:=by unfold atI;rw[hat];rfl
  have w1:a5 .i64 (1+(k:Int))=1+(k:Int):=aV (by omega) (by omega);refine vm ?_;simp only[wq.1];refine ak (aB ?_);refine vn ?_;simp only[wq.1,↓reduceIte,Nat.reduceEqDiff,Nat.reduceLT,t16,t18,BA hlt];refine⟨⟨by omega,by omega⟩,?_⟩;refine nI dV 9 (.one 9<| .one 10<| .fin) (λf' h'=>f'.t 0= .lp 3 0/\f'.t 2=vi first/\f'.t 4= .lp 6 0/\f'.t 7= .lp 8 0/\f'.t 16=ig m.ins/\f'.t 17=vi (aa m.ins)/\f'.t 18=vi i/\f'.d=[]/\(∀j,f'.k j=ab->(j==5||aM (6<=j))=ab)/\h'=hA9 x0 x1 x2 ni zs init beg pr (plV l) m A0 (tA l m (i+1))) (by decide +kernel) ?_ ?_
  ·intro K hK;simp only[List.take_succ_cons,List.take_zero];simp only[wq.1,↓reduceIte,Nat.reduceEqDiff,Nat.reduceLT,Nat.reduceLeDiff,Nat.reduceAdd,reduceCtorEq,Nat.reduceMul,t0,t7,qF,eQ,Abs.K.keyOk,hat,hgk,w1];refine⟨⟨rfl,by decide⟩,hK _ ?_⟩;simp only[wq.1,seval,t0,t2,t4,t7,t16,t17,t18,hd,dd0,dd1,dd2,ddz,dA0,dto];refine⟨⟨by omega,by omega,by omega⟩,λj hj=> ?_,?_⟩
   ·rcases zsi hj with hj|hj
    ·exact hk j hj
    ·rw[beq_iff_eq]at hj;subst hj;rfl
   ·rw[Wq hlt,hai];simp only[hA9,zql,zqa,zrk];rfl
  ·rintro f h ⟨t0,t2,t4,t7,t16,t17,t18,hd,hk,rfl⟩;show awp _ _ _ _ _ _ _;refine vm ?_;simp only[wq.1,seval,t18,hw];exact .inl ⟨q-1,by omega,i+1,by omega,t0,t2,t4,t7,t16,t17,rfl,hd,rfl,λj hj=>by(simp only[wq.1]at hj);exact hk j hj⟩
 ·simp only[zqd,zqi]at hlt;have:i=aa m.ins:=by omega
  subst this;refine vm ?_;simp only[wq.1];show awp _ _ _ _ _ _ _;refine ak ?_;refine vn ?_;simp only[wq.1,seval,t4];refine aB ?_;rw[Yc (f:=first)];refine aA (λq f h=>∃i,q+i=aa m.lat/\f.t 0= .lp 3 0/\f.t 2=vi first/\f.t 4= .lp 6 0/\f.t 7= .lp 8 0/\f.t 35=vi (aa m.lat)/\f.t 36=vi i/\f.d=[]/\h=hA9 x0 x1 x2 ni zs init beg pr (plV l) m A0 (tB l m first i)/\∀j,f.k j=ab->(j==5||aM (6<=j))=ab) (aa m.lat) ⟨0,by omega,t0,t2,t4,t7,rfl,rfl,hd,rfl,λj hj=>hk j hj⟩ ?_;clear t0 t2 t4 t7 t16 t17 t18 hd hk f dto hel htl hq q hlt;rintro q f h ⟨i,hq,t0,t2,t4,t7,t35,t36,hd,rfl,hk⟩;have htl:=U6 (l:=l) (m:=m) (f:=first) (i:=i);have dto:∀p,aE p ((tB l m first i).map vi)=(tB l m first i).map vi:=λp=>aN _;have hel:aa ((tB l m first i).map vi)=aa (tB l m first i)*1:=by rw[zra];omega
  refine vn ?_;simp only[wq.1,Nat.reduceLT,t35,t36];refine ak (aX (b:=aM ((i:Int)<aa m.lat)) (by simp only[wq.1,↓reduceIte]) (by simp only[wq.1,↓reduceIte]) (λhlt=> ?_) (λhlt=> ?_))
  ·simp only[zqb,zqi]at hlt;have hw:=ax (show i<maxLen by omega);have w1:a5 .i64 (first+(i:Int))=first+(i:Int):=aV (by omega) (by omega)
   refine vm ?_;simp only[wq.1];refine ak (aB ?_);refine vm ?_;simp only[wq.1,↓reduceIte,Nat.reduceEqDiff,Nat.reduceLT,Nat.reduceBEq,reduceCtorEq,Nat.reduceMul,t2,t7,t36,hd,w1,dd0,dd1,dd2,ddz,dA0,dto];refine⟨⟨rfl,by decide⟩,⟨by omega,by omega,by omega⟩,?_⟩;refine vm ?_;simp only[wq.1,seval,t36,hw];refine .inl ⟨q-1,by omega,i+1,by omega,by simp only[wq.1,seval,t0],by simp only[wq.1,seval,t2],by simp only[wq.1,seval,t4],by simp only[wq.1,seval,t7],by simp only[wq.1,seval,t35],rfl,hd,?_,λj hj=> ?_⟩
   ·rw[Ws];simp only[hA9,zql,zqa,zrk];rfl
   ·rcases zsi hj with hj|hj
    ·exact hk j hj
    ·rw[beq_iff_eq]at hj;subst hj;rfl
  ·simp only[zqd,zqi]at hlt;have:i=aa m.lat:=by omega
   subst this;refine vm ?_;simp only[wq.1];show awp _ _ _ _ _ _ _;refine vn ?_;simp only[wq.1,seval,t7];refine ak ?_;refine vn ?_;simp only[wq.1,seval,t4];refine aB ?_;obtain⟨F,hF⟩:∃F,F=1+ni+(aa zs:Int):=⟨_,rfl⟩;rw[<-hF]at hr;have hT0:=Wu hin hll hf0 hf1 hml;have hTl:aa (to0 l m first)=aa m.ins+aa m.lat+1:=U6;refine aA (λq f h=>∃(i:Nat)(X:H),q+i=aa m.g.ands/\f.t 0= .lp 3 0/\f.t 7= .lp 8 0/\f.t 11= .fn (.func 57) [] [.lp 8 0]/\f.t 49=prs m.g.ands/\f.t 50=vi (aa m.g.ands)/\f.t 51=vi i/\f.d=[]/\h=hA9 x0 x1 x2 ni zs init beg pr (plV l) m (ww F (A0,to0 l m first) (m.g.ands.take i)).1 (ww F (A0,to0 l m first) (m.g.ands.take i)).2++X/\∀j,f.k j=ab->(j==5||aM (6<=j))=ab) (aa m.g.ands) ⟨0,[],by omega,t0,t7,rfl,rfl,rfl,rfl,hd,by rw[zqp];rfl,λj hj=>hk j hj⟩ ?_;clear t0 t2 t4 t7 t35 t36 hd hk f dto hel htl hq q hlt;rintro q f h ⟨i,X,hq,t0,t7,t11,t49,t50,t51,hd,rfl,hk⟩;obtain⟨k1,k2,k3⟩:=BJ (f:=F) (by omega) (by omega) (s:=(A0,to0 l m first)) (A:=m.g.ands.take i) (by simp;omega) hT0;have hsu:∀(h:i<aa m.g.ands),ww F (A0,to0 l m first) (m.g.ands.take (i+1))=Gh F (ww F (A0,to0 l m first) (m.g.ands.take i)) m.g.ands[i]:=λh=>by
    rw[zrg,zqk h];exact QA
   rw[zrl]at k1 k2;obtain⟨A,T,hAT⟩:∃A T,ww F (A0,to0 l m first) (m.g.ands.take i)=(A,T):=⟨_,_,rfl⟩;rw[hAT]at k1 k2 k3 hsu ⊢;dsimp only at k1 k2 k3 hsu ⊢;have dA:∀p,aE p (fl A)=fl A:=λp=>zJ _;have dT:∀p,aE p (T.map vi)=T.map vi:=λp=>aN _;have hcl:(hA9 x0 x1 x2 ni zs init beg pr (plV l) m A T).map (O.drop (aQ (aa (hA9 x0 x1 x2 ni zs init beg pr (plV l) m A T))))=hA9 x0 x1 x2 ni zs init beg pr (plV l) m A T:=by
    simp only[wq.1,seval,hA9,aE,V.drop,dd0,dd1,dd2,ddz,dA,dT,aQ]
   refine fU (by rw[hd];simp) ?_;rw[hcl];have u0:(f.drop (aQ (aa (hA9 x0 x1 x2 ni zs init beg pr (plV l) m A T)))).t 0= .lp 3 0:=by simp only[wq.1,seval,t0,aQ]
   have u7:(f.drop (aQ (aa (hA9 x0 x1 x2 ni zs init beg pr (plV l) m A T)))).t 7= .lp 8 0:=by simp only[wq.1,seval,t7,aQ]
   have u11:(f.drop (aQ (aa (hA9 x0 x1 x2 ni zs init beg pr (plV l) m A T)))).t 11= .fn (.func 57) [] [.lp 8 0]:=by simp only[wq.1,seval,t11,aQ]
   have u49:(f.drop (aQ (aa (hA9 x0 x1 x2 ni zs init beg pr (plV l) m A T)))).t 49=prs m.g.ands:=by simp only[wq.1,Nat.reduceAdd,t49]
   have u50:(f.drop (aQ (aa (hA9 x0 x1 x2 ni zs init beg pr (plV l) m A T)))).t 50=vi (aa m.g.ands):=by simp only[wq.1,Nat.reduceAdd,t50]
   have u51:(f.drop (aQ (aa (hA9 x0 x1 x2 ni zs init beg pr (plV l) m A T)))).t 51=vi i:=by simp only[wq.1,Nat.reduceAdd,t51]
   have ud:(f.drop (aQ (aa (hA9 x0 x1 x2 ni zs init beg pr (plV l) m A T)))).d=[]:=hd;have uk:∀j,(f.drop (aQ (aa (hA9 x0 x1 x2 ni zs init beg pr (plV l) m A T)))).k j=ab->(j==5||aM (6<=j))=ab:=λj hj=>by
    rcases zsi hj with hj|hj
    ·exact hk j hj
    ·have:9<=j:=by simpa [aQ]using hj
     simp;omega
   generalize f.drop (aQ (aa (hA9 x0 x1 x2 ni zs init beg pr (plV l) m A T)))=f at u0 u7 u11 u49 u50 u51 ud uk ⊢;clear t0 t7 t11 t49 t50 t51 hd hk;refine vn ?_;simp only[wq.1,Nat.reduceLT,u50,u51];refine ak (aX (b:=aM ((i:Int)<aa m.g.ands)) (by simp only[wq.1,↓reduceIte]) (by simp only[wq.1,↓reduceIte]) (λhlt=> ?_) (λhlt=> ?_))
   ·simp only[zqb,zqi]at hlt;have hw:=ax (show i<maxLen by omega);obtain⟨p,hp⟩:∃p,p=m.g.ands[i]:=⟨_,rfl⟩;have hgp:(m.g.ands.map prV).getD i .any=prV p:=by rw[hp];exact V7 hlt _
    obtain⟨o1,o2,o3,o4⟩:=hok i hlt;have hsu:=hsu hlt;rw[<-hp]at o1 o2 o3 o4 hsu;have e1:=qW T p.1 o1 (by omega) (by omega) (λx hx=>by have:=k3 x hx;omega);have e2:=qW T p.2 o2 (by omega) (by omega) (λx hx=>by have:=k3 x hx;omega);have rr:∀(Y:H)(a:Int),aj TE (hA9 x0 x1 x2 ni zs init beg pr (plV l) m A T++Y) [vi a,.lp 8 0] [vi a,.ip (az T)]:=λY a=>aj.cons (aH.dat rfl) (aj.cons (aH.lp rfl (aj.cons (dG rfl rfl) aj.nil) rfl (by simp only[a6,jP]) (by simp[V.vc]) rfl) aj.nil);refine vm ?_;simp only[wq.1];refine ak (aB ?_);refine vn ?_;simp only[wq.1,seval,aG,Tryz.results30,u0,u7,u11,u49,u50,u51,ud,hgp];refine⟨⟨by omega,by omega⟩,?_⟩;have hlA:aa (fl A)=aa A*2:=BF A;have hlT:aa (T.map vi)=aa T*1:=by rw[zra];omega
    have hF2:F+(aa A:Int)=ni+(aa zs:Int)+((aa A+1:Nat):Int):=by omega
    have w1:a5 .i64 (ni+(aa zs:Int))=ni+(aa zs:Int):=aV (by omega) (by omega);have w2:a5 .i64 (ni+(aa zs:Int)+((aa A+1:Nat):Int))=F+(aa A:Int):=by rw[aV (by omega) (by omega),hF2]
    obtain⟨A',hA'⟩:∃A',A'=A++[(mvX T p.1,mvX T p.2)]:=⟨_,rfl⟩;have lA':aa A'=aa A+1:=by rw[hA'];simp
    have fA':fl A'=fl A++[vi (mvX T p.1),vi (mvX T p.2)]:=by rw[hA'];simp only[fl,List.flatMap_append,List.flatMap_cons,List.flatMap_nil,zqp]
    have dA':∀p,aE p (fl A')=fl A':=λp=>zJ _;rw[<-lA']at w2;refine ak (qf dV [0] [1,2,3,4,5,6,7,8,9,10,11,12,13,14,15,16] 17 (.one 17<| .take 18<| .take 19<| .take 20<| .take 21<| .one 22<| .fin) (λf' h'=>f'.t 0= .lp 3 0/\f'.t 7= .lp 8 0/\f'.t 11= .fn (.func 57) [] [.lp 8 0]/\f'.t 49=prs m.g.ands/\f'.t 50=vi (aa m.g.ands)/\f'.t 51=vi i/\f'.d=[]/\(∀j,f'.k j=ab->(j==5||aM (6<=j))=ab)/\h'=hA9 x0 x1 x2 ni zs init beg pr (plV l) m A' T++[aw [vi p.1,vi p.2]]) (by decide +kernel) ?_ ?_)
    ·intro K hK;simp only[rY,List.filterMap_cons,List.filterMap_nil];simp only[wq.1,↓reduceIte,Nat.reduceEqDiff,Nat.reduceLT,Nat.reduceLeDiff,lI,OB,gB,u0,u7,u11,u49,u50,u51,ud];refine⟨by decide,AO.mk e1 (by decide +kernel) (rr _ _) rfl ?_⟩;simp only[wq.1,↓reduceIte,Nat.reduceEqDiff,Int.reduceToNat,gB,u0,u7,u11,u49,u50,u51,ud];refine⟨by decide,AO.mk e2 (by decide +kernel) (rr _ _) rfl ?_⟩;simp only[wq.1,↓reduceIte,Nat.reduceEqDiff,Nat.reduceAdd];refine⟨⟨rfl,by decide⟩,hK _ _ ?_⟩;simp only[wq.1,↓reduceIte,Nat.reduceEqDiff,Nat.reduceLT,Nat.reduceLeDiff,Nat.reduceAdd,Nat.reduceBEq,reduceCtorEq,u0,u7,u11,u49,u50,u51,ud,dd0,dd1,dd2,ddz,dA,dT,hlA];refine⟨rfl,⟨rfl,by omega,by omega⟩,λj hj=> ?_,?_⟩
     ·rcases zsi hj with hj|hj
      ·exact uk j hj
      ·rw[beq_iff_eq]at hj;subst hj;rfl
     ·unfold jcV;rw[lA',fA'];rfl
    ·rintro f h ⟨u0,u7,u11,u49,u50,u51,ud,uk,rfl⟩;show awp _ _ _ _ _ _ _;refine nI dV 24 (.one 24<| .one 25<| .fin) (λf' h'=>f'.t 0= .lp 3 0/\f'.t 7= .lp 8 0/\f'.t 11= .fn (.func 57) [] [.lp 8 0]/\f'.t 49=prs m.g.ands/\f'.t 50=vi (aa m.g.ands)/\f'.t 51=vi i/\f'.d=[]/\(∀j,f'.k j=ab->(j==5||aM (6<=j))=ab)/\h'=hA9 x0 x1 x2 ni zs init beg pr (plV l) m A' (T++[F+(aa A:Int)])++[aw [vi p.1,vi p.2]]) (by decide +kernel) ?_ ?_
     ·intro K hK;simp only[List.take_succ_cons,List.take_zero];simp only[wq.1,↓reduceIte,Nat.reduceEqDiff,Nat.reduceLT,Nat.reduceLeDiff,Nat.reduceAdd,reduceCtorEq,Nat.reduceMul,u0,u7,w1,w2];refine⟨⟨rfl,by decide⟩,hK _ ?_⟩;simp only[wq.1,seval,u0,u7,u11,u49,u50,u51,ud,dd0,dd1,dd2,ddz,dT,dA'];refine⟨⟨by omega,by omega,by omega⟩,λj hj=> ?_⟩;rcases zsi hj with hj|hj
      ·exact uk j hj
      ·rw[beq_iff_eq]at hj;subst hj;rfl
     ·rintro f h ⟨u0,u7,u11,u49,u50,u51,ud,uk,rfl⟩;show awp _ _ _ _ _ _ _;have hst:ww F (A0,to0 l m first) (m.g.ands.take (i+1))=(A',T++[F+(aa A:Int)]):=by rw[hsu,hA'];rfl
      refine vm ?_;simp only[wq.1,seval,u51,hw];refine .inl ⟨q-1,by omega,i+1,[aw [vi p.1,vi p.2]],by omega,u0,u7,u11,u49,u50,rfl,ud,?_,λj hj=>uk j hj⟩;rw[hst];simp only[zql,zqa,zrk];rfl
   ·simp only[zqd,zqi]at hlt;have:i=aa m.g.ands:=by omega
    subst this;rw[zrx]at hAT;rw[hAT]at hr;refine vm ?_;simp only[wq.1];show awp _ _ _ _ _ _ _;refine vn ?_;simp only[wq.1,seval,u11];refine EM (h0:=hAd x0 x1 x2 ni zs init beg pr (plV l) A) (Y:=[aw (cCM m),aw (T.map vi),aw [.ls 7 1 0 (aa T) (aa T)]]) 6 (.fn (.func 57) [] [.ip (az T)]) (λj hj=>by have hj:j∈f.d:=hj;rw[ud]at hj;cases hj) ?_ ?_ ?_
    ·rfl
    ·refine aH.fn aj.nil (aj.cons (aH.lp (cs:=[.ls 7 1 0 (aa T) (aa T)]) rfl (aj.cons (dG ?_ rfl) aj.nil) rfl (by simp only[a6,jP]) (by simp[V.vc]) rfl) aj.nil);show ar (aw (aE _ _))=_;rw[aN]
    ·have hcl6:(hAd x0 x1 x2 ni zs init beg pr (plV l) A).map (O.drop (aQ (aa (hAd x0 x1 x2 ni zs init beg pr (plV l) A))))=hAd x0 x1 x2 ni zs init beg pr (plV l) A:=by simp only[wq.1,seval,hAd,aE,V.drop,dd0,dd1,dd2,ddz,dA,aQ]
     rw[hcl6,hcl6];refine vm ?_;simp only[wq.1,seval,ud];refine⟨λj hj=> ?_,hr⟩;rcases zsi hj with hj|hj
     ·rcases zsi hj with hj|hj
      ·exact uk j hj
      ·have:6<=j:=by simpa [aQ]using hj
       simp;omega
     ·have:6<=j:=by simpa [aQ]using hj
      simp;omega
def ddN(f:Int)(A:List Pq):Nat->List Pq×Cl
 |0=>([],[])
 |i+1=>if((ddN f A i).1.findIdx? (·==A.getD i (0,0))).isSome then ddN f A i else((ddN f A i).1++[A.getD i (0,0)],(ddN f A i).2++[2*(f+(i:Int))])
theorem QB{f:Int}{A:List Pq}:∀i,(ddN f A i).2.length=(ddN f A i).1.length/\(ddN f A i).1.length<=i
 |0=>⟨rfl,zrb _⟩
 |i+1=>by
  obtain⟨h1,h2⟩:=QB (f:=f) (A:=A) i;unfold ddN;split
  ·exact⟨h1,by omega⟩
  ·simp only[zqa,zrk];omega
theorem QC{f:Int}{A:List Pq}:∀i,i<=aa A->∀key:Pq,((ddN f A i).1.findIdx? (·==key)).map (λj=>(ddN f A i).2.getD j 0)=((A.take i).findIdx? (·==key)).map λj:Nat=>2*(f+(j:Int))
 |0,_,key=>by simp[ddN]
 |i+1,hi,key=>by
  have ih:=QC (f:=f) (A:=A) i (by omega);obtain⟨h1,h2⟩:=QB (f:=f) (A:=A) i;have hil:i<aa A:=by omega
  have htk:A.take (i+1)=A.take i++[A[i]]:=by rw[zrg,zqk hil];rfl
  have hgd:A.getD i (0,0)=A[i]:=aP hil;have hlt:aa (A.take i)=i:=by simp;omega
  rw[htk,List.findIdx?_append];show Option.map (λj=>(ddN f A (i+1)).2.getD j 0) ((ddN f A (i+1)).1.findIdx? (·==key))=_;unfold ddN;rw[hgd];have ihp:=ih A[i];have ihk:=ih key;split
  ·rename_i hs;rw[ihk];cases hk:(A.take i).findIdx? (·==key)with
   |some j=>rfl
   |none =>
    have hne:(A[i]==key)=am:=by
     cases he:A[i]==key with
     |false=>rfl
     |true=>have he:=beq_iff_eq.1 he;rw[<-he]at hk;rw[hk,Option.map_none]at ihp;rw[Option.isSome_iff_exists]at hs;obtain⟨j,hj⟩:=hs;rw[hj]at ihp;cases ihp
    simp[List.findIdx?_cons,hne]
  ·rename_i hs;rw[List.findIdx?_append];cases hk:(ddN f A i).1.findIdx? (·==key)with
   |some j =>
    rw[hk]at ihk;obtain⟨hj,_⟩:=List.findIdx?_eq_some_iff_getElem.1 hk;cases hk2:(A.take i).findIdx? (·==key)with
    |none=>rw[hk2]at ihk;cases ihk
    |some j2=>rw[hk2]at ihk;have ihk:=Option.some.inj ihk;show ar (List.getD (_++_) j 0)=ar _;rw[<-ihk,zqg,zqj (by omega),<-zqg]
   |none =>
    rw[hk]at ihk;cases hk2:(A.take i).findIdx? (·==key)with
    |some j2=>rw[hk2]at ihk;cases ihk
    |none =>
     cases he:A[i]==key with
     |false=>simp[List.findIdx?_cons,he]
     |true=>simp only[List.findIdx?_cons,he,List.findIdx?_nil,zrw,Option.none_or,Option.or_none,cond_true,if_true,Nat.zero_add,hlt];rw[zqg,zsb (by omega),h1,Nat.sub_self];rfl
abbrev jcJ(ni:Int)(n:Nat)(init beg:Cl)(pr:List Pq)(iv:V)(A:List Pq):List V:=[vi ni,.ls 4 1 0 n n,az init,prs A,.nils,az beg,prs pr,iv,.bool am]
abbrev gC(ni:Int)(n:Nat)(init:Cl)(A:List Pq):List V:=[vi ni,.ls 4 1 0 n n,az init,prs A,.nils]
abbrev hB(x0 x1 x2:List V)(ni:Int)(zs init beg:Cl)(pr:List Pq)(iv:V)(A:List Pq):H:=[aw x0,aw x1,aw x2,aw (jcJ ni (aa zs) init beg pr iv A),aw (zs.map vi),aw (gC ni (aa zs) init A),aw [vi 0,.nils,.nils,.nils,.nils]]
abbrev hB2(x0 x1 x2:List V)(ni:Int)(zs init beg:Cl)(pr:List Pq)(iv:V)(A0:List Pq)(M:O)(A:List Pq):H:=[aw x0,aw x1,aw x2,aw (jcJ ni (aa zs) init beg pr iv A0),aw (zs.map vi),aw (gC ni (aa zs) init A0),aw [vi 0,.nils,.nils,.nils,.nils],aw (gC ni (aa zs) init A0),M,aw [vi ni,.ls 4 1 0 (aa zs) (aa zs),az init,.ls 10 2 0 (aa A) (aa A),.nils,.lm 8,.nils],aw (fl A)]
abbrev ddO(f:Int)(A:List Pq)(i:Nat):O:= .map ((ddN f A i).1.map prV) ((ddN f A i).2.map vi)
theorem BL{p:Nat->Bool}(A:List Pq):aE p (A.map prV)=A.map prV:=kE
variable{iv:V}{f0:Int}
theorem Gu(hf:f0=1+ni+(aa zs:Int))(d0:a7 x0=ab)(d1:a7 x1=ab)(d2:a7 x2=ab)(di:iv.dat=ab)(n0:0<=ni)(n1:ni<=4000)(hz:aa zs<=4000)(hA:aa A<=8000){R:AEnd->H->(Nat->Bool)->Prop}
 (hr:R (.ret (.lp 9 0)) (hB2 x0 x1 x2 ni zs init beg pr iv A (ddO f0 A (aa A)) A) (λ_=>am)) :
 ag TE 85 [.agg (gC ni (aa zs) init A)] (hB x0 x1 x2 ni zs init beg pr iv A) R:=by
 have hM:=mLx;have dd0:∀p,aE p x0=x0:=λp=>bF.dats_drops _ d0;have dd1:∀p,aE p x1=x1:=λp=>bF.dats_drops _ d1;have dd2:∀p,aE p x2=x2:=λp=>bF.dats_drops _ d2;have ddi:∀p,iv.drop p=iv:=λp=>bF _ di;have ddz:∀p,aE p (zs.map vi)=zs.map vi:=λp=>aN _;have hcl:=MM A (by omega);have hfst:=jY ⟨ni,zs,init,A,[]⟩ (by show _<=ni;omega) (by show ni<=_;omega) (by show aa zs<=_;omega);rw[show Gr.first ⟨ni,zs,init,A,[]⟩=f0 from hf.symm]at hfst;refine ag.fresh ?_;refine ah Tryz.func85 rfl (by simp[nts]) ?_;refine vn ?_;simp only[wq.1,seval,Tryz.results85];refine vn ?_;simp only[wq.1,seval];refine vn ?_;simp only[wq.1,seval];refine jM hcl (by simp only[a7,a6,zre]) (P9 _) ?_;simp only[wq.1,seval];refine ak ?_;refine vn ?_;simp only[wq.1,seval];refine aB ?_;refine aA (λq f h=>∃(i:Nat)(X:H),q+i=aa A/\f.t 1= .lp 7 0/\f.t 3= .lp 9 0/\f.t 20=prs A/\f.t 21=vi (aa A)/\f.t 22=vi i/\f.d=[]/\h=hB2 x0 x1 x2 ni zs init beg pr iv A (ddO f0 A i) A++X/\∀j,j<7->f.k j=am) (aa A) ⟨0,[],by omega,rfl,rfl,rfl,rfl,rfl,rfl,rfl,λj hj=>rfl⟩ ?_;rintro q f h ⟨i,X,hq,t1,t3,t20,t21,t22,hd,rfl,hk⟩;have dA:∀p,aE p (fl A)=fl A:=λp=>zJ _;have dK:∀p,aE p ((ddN f0 A i).1.map prV)=(ddN f0 A i).1.map prV:=λp=>BL _;have dL:∀p,aE p ((ddN f0 A i).2.map vi)=(ddN f0 A i).2.map vi:=λp=>aN _;have hcl:(hB2 x0 x1 x2 ni zs init beg pr iv A (ddO f0 A i) A).map (O.drop (aQ (aa (hB2 x0 x1 x2 ni zs init beg pr iv A (ddO f0 A i) A))))=hB2 x0 x1 x2 ni zs init beg pr iv A (ddO f0 A i) A:=by simp only[wq.1,seval,aE,V.drop,dd0,dd1,dd2,ddi,ddz,dA,dK,dL,aQ]
 refine fU (by rw[hd];simp) ?_;rw[hcl];have u1:(f.drop (aQ (aa (hB2 x0 x1 x2 ni zs init beg pr iv A (ddO f0 A i) A)))).t 1= .lp 7 0:=by simp only[wq.1,seval,t1,aQ]
 have u3:(f.drop (aQ (aa (hB2 x0 x1 x2 ni zs init beg pr iv A (ddO f0 A i) A)))).t 3= .lp 9 0:=by simp only[wq.1,seval,t3,aQ]
 have u20:(f.drop (aQ (aa (hB2 x0 x1 x2 ni zs init beg pr iv A (ddO f0 A i) A)))).t 20=prs A:=by simp only[wq.1,Nat.reduceAdd,t20]
 have u21:(f.drop (aQ (aa (hB2 x0 x1 x2 ni zs init beg pr iv A (ddO f0 A i) A)))).t 21=vi (aa A):=by simp only[wq.1,Nat.reduceAdd,t21]
 have u22:(f.drop (aQ (aa (hB2 x0 x1 x2 ni zs init beg pr iv A (ddO f0 A i) A)))).t 22=vi i:=by simp only[wq.1,Nat.reduceAdd,t22]
 have ud:(f.drop (aQ (aa (hB2 x0 x1 x2 ni zs init beg pr iv A (ddO f0 A i) A)))).d=[]:=hd;have uk:∀j,j<7->(f.drop (aQ (aa (hB2 x0 x1 x2 ni zs init beg pr iv A (ddO f0 A i) A)))).k j=am:=λj hj=>by show(f.k j||aQ 11 j)=am;rw[hk j hj];simp[aQ];omega
 generalize f.drop (aQ (aa (hB2 x0 x1 x2 ni zs init beg pr iv A (ddO f0 A i) A)))=f at u1 u3 u20 u21 u22 ud uk ⊢;clear t1 t3 t20 t21 t22 hd hk hcl;refine vn ?_;simp only[wq.1,Nat.reduceLT,u21,u22];refine ak (aX (b:=aM ((i:Int)<aa A)) (by simp only[wq.1,↓reduceIte]) (by simp only[wq.1,↓reduceIte]) (λhlt=> ?_) (λhlt=> ?_))
 ·simp only[zqb,zqi]at hlt;have hw:=ax (show i<maxLen by omega);obtain⟨p,hp⟩:∃p,p=A[i]:=⟨_,rfl⟩;have hgp:(A.map prV).getD i .any=prV p:=by rw[hp];exact V7 hlt _
  have hgd:A.getD i (0,0)=p:=by rw[hp];exact aP hlt
  have hfi:=uF p (ddN f0 A i).1;have w1:a5 .i64 (f0+(i:Int))=f0+i:=aV (by omega) (by omega);have w2:a5 .i64 (2*(f0+(i:Int)))=2*(f0+i):=aV (by omega) (by omega);refine vm ?_;simp only[wq.1];refine ak (aB ?_);refine vn ?_;simp only[wq.1,seval,u20,u22,hgp];refine⟨⟨by omega,by omega⟩,?_⟩;cases hfx:(ddN f0 A i).1.findIdx? (·==p)with
  |some j =>
   rw[hfx]at hfi;have hst:ddN f0 A (i+1)=ddN f0 A i:=by
    show(if _ then _ else _)=_;rw[hgd,hfx];rfl
   refine vn ?_;simp only[wq.1,seval,u3,qF,hfi,Abs.K.keyOk];refine⟨by decide +kernel,?_⟩;refine vm ?_;simp only[wq.1,seval];refine vm ?_;simp only[wq.1,seval,u22,hw];exact .inl ⟨q-1,by omega,i+1,[aw [vi p.1,vi p.2]],by omega,u1,u3,u20,u21,rfl,ud,by unfold ddO;rw[hst],uk⟩
  |none =>
   rw[hfx]at hfi;have hst:ddN f0 A (i+1)=((ddN f0 A i).1++[p],(ddN f0 A i).2++[2*(f0+(i:Int))]):=by
    show(if _ then _ else _)=_;rw[hgd,hfx];rfl
   have hge:∀(Y:H),aj TE (hB2 x0 x1 x2 ni zs init beg pr iv A (ddO f0 A i) A++Y) [.agg (gC ni (aa zs) init A)] [Gr.v ⟨ni,zs,init,A,[]⟩]:=λY=>aj.cons (aH.agg (aj.cons (aH.dat rfl) (aj.cons (dG rfl rfl) (aj.cons (aH.dat WV) (aj.cons (aH.dat (by simp only[a6])) (aj.cons aH.nils aj.nil)))))) aj.nil;refine vn ?_;simp only[wq.1,seval,u3,qF,hfi,Abs.K.keyOk];refine⟨by decide +kernel,?_⟩;refine vn ?_;simp only[wq.1,seval];refine aX (b:=ab) (by simp only[wq.1,↓reduceIte]) (by simp only[wq.1,↓reduceIte]) (λ_=> ?_) (λh=>by cases h);refine yS dV 10 (.one 10<| .fin) (λf' h'=>f'.t 1= .lp 7 0/\f'.t 3= .lp 9 0/\f'.t 20=prs A/\f'.t 21=vi (aa A)/\f'.t 22=vi i/\f'.d=[]/\(∀j,j<7->f'.k j=am)/\h'=hB2 x0 x1 x2 ni zs init beg pr iv A (ddO f0 A (i+1)) A++[aw [vi p.1,vi p.2]]) (by decide +kernel) ?_ ?_
   ·intro K hK;simp only[List.take_succ_cons,List.take_zero];simp only[wq.1,seval,gB,u1,u3];refine AO.mk hfst (by decide +kernel) (hge [aw [vi p.1,vi p.2]]) rfl ?_;simp only[wq.1,seval,w1,w2];refine hK _ ?_;simp only[wq.1,seval,u1,u3,u20,u21,u22,ud,IZ,hfi,Abs.K.keyOk];exact⟨uk,by unfold ddO;rw[hst,zql,zql];rfl⟩
   ·rintro f h ⟨u1,u3,u20,u21,u22,ud,uk,rfl⟩;show awp _ _ _ _ _ _ _;refine vm ?_;simp only[wq.1,seval,u22,hw];exact .inl ⟨q-1,by omega,i+1,[aw [vi p.1,vi p.2]],by omega,u1,u3,u20,u21,rfl,ud,rfl,uk⟩
 ·simp only[zqd,zqi]at hlt;have:i=aa A:=by omega
  subst this;refine vm ?_;simp only[wq.1];show awp _ _ _ _ _ _ _;refine vm ?_;simp only[wq.1,seval,u3,ud];exact⟨uk,hr⟩
variable{p q:Int}
theorem MZ{vs:Cl}{ks:List Pq}(hf:f0=1+ni+(aa zs:Int))(d0:a7 x0=ab)(d1:a7 x1=ab)(d2:a7 x2=ab)(di:iv.dat=ab)(n0:0<=ni)(n1:ni<=4000)(hz:aa zs<=4000)(hA:aa A<=8000)
 (hvl:aa vs=aa ks) (hlk:∀key:Pq,(ks.findIdx? (·==key)).map (λj=>vs.getD j 0)=(A.findIdx? (·==key)).map λj:Nat=>2*(f0+(j:Int)))
 (p0:0<=p) (p1:p<=100000) (q0:0<=q) (q1:q<=100000) {R:AEnd->H->(Nat->Bool)->Prop}
 (hr:∀M X,R (.ret (vi (jD f0 A p q).2)) (hB2 x0 x1 x2 ni zs init beg pr iv A0 M (jD f0 A p q).1++X) (λi=>aM (10<=i))) :
 ag TE 51 [.lp 9 0,vi p,vi q] (hB2 x0 x1 x2 ni zs init beg pr iv A0 (.map (ks.map prV) (vs.map vi)) A) R:=by
 have hM:=mLx;have dd0:∀p,aE p x0=x0:=λp=>bF.dats_drops _ d0;have dd1:∀p,aE p x1=x1:=λp=>bF.dats_drops _ d1;have dd2:∀p,aE p x2=x2:=λp=>bF.dats_drops _ d2;have ddi:∀p,iv.drop p=iv:=λp=>bF _ di;have ddz:∀p,aE p (zs.map vi)=zs.map vi:=λp=>aN _;have dA:∀p,aE p (fl A)=fl A:=λp=>zJ _;have dK:∀p,aE p (ks.map prV)=ks.map prV:=λp=>BL _;have dL:∀p,aE p (vs.map vi)=vs.map vi:=λp=>aN _;obtain⟨P,hP⟩:∃P,P=max p q:=⟨_,rfl⟩;obtain⟨Q,hQ⟩:∃Q,Q=min p q:=⟨_,rfl⟩;have bP:0<=P/\P<=100000/\0<=Q/\Q<=100000:=by omega
 have hxo:=qp (a:=P) (by omega) (by omega);have hav:jD f0 A p q=if Q=0\/qO P=Q then(A,0)else if Q=1\/P=Q then(A,P)else match A.findIdx? (·==(P,Q))with
  |some i=>(A,2*(f0+(i:Int)))
  |none=>(A++[(P,Q)],2*(f0+(aa A:Int))):=by rw[hP,hQ];rfl
 obtain⟨r,hrv⟩:∃r,r=jD f0 A p q:=⟨_,rfl⟩;rw[<-hrv]at hr hav;have early:∀v,r=(A,v)->∀X,R (.ret (vi v)) (hB2 x0 x1 x2 ni zs init beg pr iv A0 (.map (ks.map prV) (vs.map vi)) A++X) (λi=>aM (10<=i)):=λv hv X=>by have:=hr (.map (ks.map prV) (vs.map vi)) X;rw[hv]at this;exact this
 refine ag.kp (λi=>aM (10<=i)) ?_;refine ah Tryz.func51 rfl (by simp[nts]) ?_;refine vn ?_;simp only[wq.1,Nat.reduceLT,Tryz.results51];refine vn ?_;simp only[wq.1,seval,mx,mn];rw[<-hP,<-hQ];cases e1:Q==0 with
 |true=>refine vn ?_;simp only[wq.1,seval,e1];have:=early 0 (by rw[hav,if_pos (.inl (by simpa using e1))]) [];rw[zqp]at this;exact this
 |false =>
 cases e2:qO P==Q with
 |true=>refine vn ?_;simp only[wq.1,seval,e1,e2,hxo];have:=early 0 (by rw[hav,if_pos (.inr (by simpa using e2))]) [];rw[zqp]at this;exact this
 |false =>
 have n1':¬(Q=0\/qO P=Q):=by
  simp only[beq_eq_false_iff_ne,ne_eq]at e1 e2;rintro(h|h)
  ·exact e1 h
  ·exact e2 h
 rw[if_neg n1']at hav;cases e3:Q==1 with
 |true=>refine vn ?_;simp only[wq.1,seval,e1,e2,e3,hxo];have:=early P (by rw[hav,if_pos (.inl (by simpa using e3))]) [];rw[zqp]at this;exact this
 |false =>
 cases e4:P==Q with
 |true=>refine vn ?_;simp only[wq.1,seval,e1,e2,e3,e4,hxo];have:=early P (by rw[hav,if_pos (.inr (by simpa using e4))]) [];rw[zqp]at this;exact this
 |false =>
 have n2':¬(Q=1\/P=Q):=by
  simp only[beq_eq_false_iff_ne,ne_eq]at e3 e4;rintro(h|h)
  ·exact e3 h
  ·exact e4 h
 rw[if_neg n2']at hav;have hfi:=uF (P,Q) ks;have hlk:=hlk (P,Q);refine vn ?_;simp only[wq.1,seval,e1,e2,e3,e4,hxo];refine vn ?_;simp only[wq.1,seval];cases hfx:ks.findIdx? (·==(P,Q))with
 |some j =>
  rw[hfx]at hfi hlk;obtain⟨hj,_⟩:=List.findIdx?_eq_some_iff_getElem.1 hfx;cases hfa:A.findIdx? (·==(P,Q))with
  |none=>rw[hfa]at hlk;cases hlk
  |some i =>
   rw[hfa]at hlk hav;have hlk:vs.getD j 0=2*(f0+(i:Int)):=Option.some.inj hlk;have hgv:(vs.map vi).getD j .any=vi (2*(f0+(i:Int))):=by rw[<-hlk,aP (show j<aa vs by omega)];exact sU _ _
   refine vn ?_;simp only[wq.1,seval,qF,hfi,Abs.K.keyOk,hgv];refine⟨by decide +kernel,?_⟩;exact early _ hav [aw [vi P,vi Q]]
 |none =>
  rw[hfx]at hfi hlk;cases hfa:A.findIdx? (·==(P,Q))with
  |some i=>rw[hfa]at hlk;cases hlk
  |none =>
   rw[hfa]at hav;have hfst:=jY ⟨ni,zs,init,A,[]⟩ (by show _<=ni;omega) (by show ni<=_;omega) (by show aa zs<=_;omega);rw[show Gr.first ⟨ni,zs,init,A,[]⟩=f0 from hf.symm]at hfst;have hge:aj TE (hB2 x0 x1 x2 ni zs init beg pr iv A0 (.map (ks.map prV) (vs.map vi)) A++[aw [vi P,vi Q]]) [.agg [vi ni,.ls 4 1 0 (aa zs) (aa zs),az init,.ls 10 2 0 (aa A) (aa A),.nils]] [Gr.v ⟨ni,zs,init,A,[]⟩]:=aj.cons (aH.agg (aj.cons (aH.dat rfl) (aj.cons (dG rfl rfl) (aj.cons (aH.dat WV) (aj.cons (mF rfl rfl) (aj.cons aH.nils aj.nil)))))) aj.nil;have w1:a5 .i64 (f0+(aa A:Int))=f0+aa A:=aV (by omega) (by omega);have w2:a5 .i64 (2*(f0+(aa A:Int)))=2*(f0+aa A):=aV (by omega) (by omega);have hlA:aa (fl A)=aa A*2:=BF A;obtain⟨A',hA'⟩:∃A',A'=A++[(P,Q)]:=⟨_,rfl⟩;have lA':aa A'=aa A+1:=by rw[hA'];simp
   have fA':fl A'=fl A++[vi P,vi Q]:=by rw[hA'];simp only[fl,List.flatMap_append,List.flatMap_cons,List.flatMap_nil,zqp]
   rw[<-hA']at hav;refine vn ?_;simp only[wq.1,seval,qF,hfi,Abs.K.keyOk];refine⟨by decide +kernel,?_⟩;refine ak (yS dV 13 (.one 13<| .fin) (λf' h'=>f'.t 0= .lp 9 0/\f'.t 7= .lp 11 0/\f'.t 10=vi (2*(f0+aa A))/\f'.d=[]/\(∀j,f'.k j=am)/\h'=hB2 x0 x1 x2 ni zs init beg pr iv A0 (.map (ks.map prV) (vs.map vi)) A++[aw [vi P,vi Q]]) (by decide +kernel) ?_ ?_)
   ·intro K hK;simp only[List.take_succ_cons,List.take_zero];simp only[wq.1,seval,gB];refine AO.mk hfst (by decide +kernel) hge rfl ?_;simp only[wq.1,seval,w1,w2];refine hK _ ?_;simp only[wq.1,↓reduceIte,Nat.reduceEqDiff,Nat.reduceLT,reduceCtorEq]
   ·rintro f h ⟨u0,u7,u10,ud,uk,rfl⟩;show awp _ _ _ _ _ _ _;refine ak (qf dV [0] [1,2,3,4,5,6,7] 8 (.one 8<| .take 9<| .take 10<| .take 11<| .one 12<| .fin) (λf' h'=>f'.t 0= .lp 9 0/\f'.t 7= .lp 11 0/\f'.t 10=vi (2*(f0+aa A))/\f'.d=[]/\(∀j,f'.k j=ab->aM (10<=j)=ab)/\h'=hB2 x0 x1 x2 ni zs init beg pr iv A0 (.map (ks.map prV) (vs.map vi)) A'++[aw [vi P,vi Q]]) (by decide +kernel) ?_ ?_)
    ·intro K hK;simp only[rY,List.filterMap_cons,List.filterMap_nil];simp only[wq.1,↓reduceIte,Nat.reduceEqDiff,Nat.reduceLT,Nat.reduceLeDiff,Nat.reduceAdd,reduceCtorEq,Nat.reduceMul,lI,gB,u0,u7];refine⟨⟨rfl,by decide⟩,hK _ _ ?_⟩;simp only[wq.1,seval,u0,u7,u10,ud,dd0,dd1,dd2,ddi,ddz,dA,dK,dL,hlA];refine⟨rfl,⟨rfl,by omega,by omega⟩,λj hj=> ?_,?_⟩
     ·rcases zsi hj with hj|hj
      ·rw[uk j]at hj;cases hj
      ·rw[beq_iff_eq]at hj;subst hj;rfl
     ·rw[lA',fA'];rfl
    ·rintro f h ⟨u0,u7,u10,ud,uk,rfl⟩;show awp _ _ _ _ _ _ _;refine ak (nI dV 6 (.one 6<| .fin) (λf' h'=>f'.t 10=vi (2*(f0+aa A))/\f'.d=[]/\(∀j,f'.k j=ab->aM (10<=j)=ab)/\h'=hB2 x0 x1 x2 ni zs init beg pr iv A0 (.map (ks.map prV++[prV (P,Q)]) (vs.map vi++[vi (2*(f0+(aa A:Int)))])) A'++[aw [vi P,vi Q]]) (by decide +kernel) ?_ ?_)
     ·intro K hK;simp only[List.take_succ_cons,List.take_zero];simp only[wq.1,seval,u0,u7,u10];refine hK _ ?_;simp only[wq.1,seval,u10,ud,IZ,hfi,Abs.K.keyOk];exact uk
     ·rintro f h ⟨u10,ud,uk,rfl⟩;show awp _ _ _ _ _ _ _;refine vm ?_;simp only[wq.1,seval,u10,ud];have:=hr (.map (ks.map prV++[prV (P,Q)]) (vs.map vi++[vi (2*(f0+(aa A:Int)))])) [aw [vi P,vi Q]];rw[hav]at this;exact⟨uk,this⟩
abbrev hJ5(x0 x1 x2:List V)(ni:Int)(zs init beg:Cl)(pr:List Pq)(iv:V)(A:List Pq):H:=[aw x0,aw x1,aw x2,aw (jcJ ni (aa zs) init beg pr iv A),aw (zs.map vi)]
theorem Na(hf:f0=1+ni+(aa zs:Int))(d0:a7 x0=ab)(d1:a7 x1=ab)(d2:a7 x2=ab)(di:iv.dat=ab)
 (hg:Gr.chk ⟨ni,zs,init,A,[]⟩=0) (hA1:ni+(aa zs:Int)+(aa A:Int)<4000)
 (p0:0<=p) (p1:p<2*(f0+aa A)) (q0:0<=q) (q1:q<2*(f0+aa A)) {R:AEnd->H->(Nat->Bool)->Prop}
 (hr:R (.ret (.tup [.agg (gC ni (aa zs) init (jD f0 A p q).1),vi (jD f0 A p q).2,vi 0])) (hJ5 x0 x1 x2 ni zs init beg pr iv A++[aw (gC ni (aa zs) init A),aw (gC ni (aa zs) init (jD f0 A p q).1)]) (λ_=>am)) :
 ag TE 58 [.agg (gC ni (aa zs) init A),vi p,vi q] (hJ5 x0 x1 x2 ni zs init beg pr iv A) R:=by
 have hM:=mLx;have dd0:∀p,aE p x0=x0:=λp=>bF.dats_drops _ d0;have dd1:∀p,aE p x1=x1:=λp=>bF.dats_drops _ d1;have dd2:∀p,aE p x2=x2:=λp=>bF.dats_drops _ d2;have ddi:∀p,iv.drop p=iv:=λp=>bF _ di;have ddz:∀p,aE p (zs.map vi)=zs.map vi:=λp=>aN _;obtain⟨_,i0,i1,i2,i3,i4,i5⟩:=aU hg;have i0:0<=ni:=i0;have i1:ni<=4000:=i1;have i2:ni+(aa zs:Int)+(aa A:Int)<=4000:=i2;have hck:=kY ⟨ni,zs,init,A,[]⟩ ⟨by show aa zs<=_;omega,by show aa A<=_;omega⟩;rw[hg]at hck;have hfst:=jY ⟨ni,zs,init,A,[]⟩ (by show _<=ni;omega) (by show ni<=_;omega) (by show aa zs<=_;omega);rw[show Gr.first ⟨ni,zs,init,A,[]⟩=f0 from hf.symm]at hfst;have hge:∀(Y:H),aj TE (hJ5 x0 x1 x2 ni zs init beg pr iv A++Y) [.agg (gC ni (aa zs) init A)] [Gr.v ⟨ni,zs,init,A,[]⟩]:=λY=>aj.cons (aH.agg (aj.cons (aH.dat rfl) (aj.cons (dG rfl rfl) (aj.cons (aH.dat WV) (aj.cons (aH.dat (by simp only[a6])) (aj.cons aH.nils aj.nil)))))) aj.nil;have w1:a5 .i64 (f0+(aa A:Int))=f0+aa A:=aV (by omega) (by omega);have w2:a5 .i64 (2*(f0+(aa A:Int)))=2*(f0+aa A):=aV (by omega) (by omega);have b1:aM (p<0)=am:=by rw[zqd];omega
 have b2:aM (q<0)=am:=by rw[zqd];omega
 have b3:aM (2*(f0+(aa A:Int))<=p)=am:=by rw[zqd];omega
 have b4:aM (2*(f0+(aa A:Int))<=q)=am:=by rw[zqd];omega
 obtain⟨r,hrv⟩:∃r,r=jD f0 A p q:=⟨_,rfl⟩;have hrl:=qx (f0:=f0) (A:=A) (by omega) ⟨p0,p1⟩ ⟨q0,q1⟩;rw[<-hrv]at hr hrl;refine ag.fresh ?_;refine ah Tryz.func58 rfl (by simp[nts]) ?_;refine vn ?_;simp only[wq.1,seval,Tryz.results58];refine vn ?_;simp only[wq.1,seval];refine ag.lend hck (hge _) rfl ?_;simp only[wq.1,seval];refine ak (yS dV 7 (.one 7<| .fin) (λf' h'=>f'.t 1=vi p/\f'.t 2=vi q/\f'.t 3= .lp 5 0/\f'.t 6= .lp 6 0/\f'.t 9=vi 0/\f'.t 10=vi (2*(f0+aa A))/\f'.d=[]/\(∀j,f'.k j=am)/\h'=hB x0 x1 x2 ni zs init beg pr iv A) (by decide +kernel) ?_ ?_)
 ·intro K hK;simp only[List.take_succ_cons,List.take_zero];simp only[wq.1,seval,gB];refine AO.mk hfst (by decide +kernel) (hge _) rfl ?_;simp only[wq.1,seval,w1,w2];refine hK _ ?_;simp only[wq.1,seval]
  trace_state
 ·rintro f h ⟨t1,t2,t3,t6,t9,t10,hd,hk,rfl⟩;show awp _ _ _ _ _ _ _;refine vn ?_;simp only[wq.1,seval,t1,t2,t9,t10,b1,b2,b3,b4];have hlk:=QC (f:=f0) (A:=A) (aa A) (zrb _);rw[zrx]at hlk;have hck2:=kY ⟨ni,zs,init,r.1,[]⟩ ⟨by show aa zs<=_;omega,by show aa r.1<=_;omega⟩;have hc8:Gr.chk ⟨ni,zs,init,r.1,[]⟩≠8:=by
   have hl:Gr.lim ⟨ni,zs,init,r.1,[]⟩=am:=by show(aM (ni<0)||aM (4000<ni)||aM (4000<ni+(aa zs:Int)+(aa r.1:Int))||aM (4000<(aa ([]:Cl):Int)))=am;simp only[zsf,zqd,List.length_nil];omega
   unfold Gr.chk;rw[hl];simp only[zrm,if_false];split
   ·decide
   ·split<;>decide
  have e8:(Gr.chk ⟨ni,zs,init,r.1,[]⟩==8)=am:=by simpa using hc8
  refine vn ?_;simp only[wq.1,seval,t3];refine Gu hf d0 d1 d2 di i0 i1 (by omega) (by omega) ?_;simp only[wq.1,seval];refine vn ?_;simp only[wq.1,seval,t1,t2];refine MZ hf d0 d1 d2 di i0 i1 (by omega) (by omega) (QB _).1 hlk p0 (by omega) q0 (by omega) (λM X=> ?_);rw[<-hrv];simp only[wq.1,seval,bC,hd];refine ak ?_;refine vn ?_;simp only[wq.1,seval];have hge2:aj TE (hB2 x0 x1 x2 ni zs init beg pr iv A M r.1++X) [.agg [vi ni,.ls 4 1 0 (aa zs) (aa zs),az init,.ls 10 2 0 (aa r.1) (aa r.1),.nils]] [Gr.v ⟨ni,zs,init,r.1,[]⟩]:=aj.cons (aH.agg (aj.cons (aH.dat rfl) (aj.cons (dG rfl rfl) (aj.cons (aH.dat WV) (aj.cons (mF rfl rfl) (aj.cons aH.nils aj.nil)))))) aj.nil;refine ag.lend hck2 hge2 rfl ?_;simp only[wq.1,seval,e8];refine vm ?_;simp only[wq.1,↓reduceIte];refine vn ?_;simp only[wq.1,seval,t6]
  change awp _ _ _ _ _ _ ((hJ5 x0 x1 x2 ni zs init beg pr iv A++[aw (gC ni (aa zs) init A),aw [vi ni,.ls 4 1 0 (aa zs) (aa zs),az init,.ls 10 2 0 (aa r.1) (aa r.1),.nils]])++(aw (gC ni (aa zs) init A)::M::aw [vi ni,.ls 4 1 0 (aa zs) (aa zs),az init,.ls 10 2 0 (aa r.1) (aa r.1),.nils,.lm 8,.nils]::aw (fl r.1)::X))
  refine uh (h0:=(hJ5 x0 x1 x2 ni zs init beg pr iv A++[aw (gC ni (aa zs) init A),aw [vi ni,.ls 4 1 0 (aa zs) (aa zs),az init,.ls 10 2 0 (aa r.1) (aa r.1),.nils]])) (Y:=(aw (gC ni (aa zs) init A)::M::aw [vi ni,.ls 4 1 0 (aa zs) (aa zs),az init,.ls 10 2 0 (aa r.1) (aa r.1),.nils,.lm 8,.nils]::aw (fl r.1)::X)) 6 [vi ni,.ls 4 1 0 (aa zs) (aa zs),az init,.ls 10 2 0 (aa r.1) (aa r.1),.nils] (gC ni (aa zs) init r.1) rfl ?_ ?_ ?_ ?_
  ·intro i o ho hne;rcases i with _|_|_|_|_|_|_|i
   ·obtain rfl:=Option.some.inj ho;rw[aZ,dd0]
   ·obtain rfl:=Option.some.inj ho;rw[aZ,dd1]
   ·obtain rfl:=Option.some.inj ho;rw[aZ,dd2]
   ·obtain rfl:=Option.some.inj ho;simp only[wq.1,seval,aE,V.drop,ddi,aQ]
   ·obtain rfl:=Option.some.inj ho;rw[aZ,ddz]
   ·obtain rfl:=Option.some.inj ho;simp only[wq.1,seval,aE,V.drop,aQ]
   ·exact absurd rfl hne
   ·simp at ho
  ·refine⟨.inl rfl,.inl rfl,.inl rfl,.inr ⟨rfl,mF ?_ rfl⟩,.inl rfl,trivial⟩;show ar (aw (aE _ _))=_;rw[zJ]
  ·intro i hi;have hi:i∈f.d:=hi;rw[hd]at hi;cases hi
  ·refine vm ?_;simp only[wq.1,seval,t6,hd,aQ];refine⟨λi hi=> ?_,hr⟩;rw[hk i];simp;omega
theorem Nb(hf:f0=1+ni+(aa zs:Int))(d0:a7 x0=ab)(d1:a7 x1=ab)(d2:a7 x2=ab)(di:iv.dat=ab)
 (hg:Gr.chk ⟨ni,zs,init,A,[]⟩=0) (hA1:ni+(aa zs:Int)+(aa A:Int)<4000)
 (p0:0<=p) (p1:p<2*(f0+aa A)) (q0:0<=q) (q1:q<2*(f0+aa A)) {R:AEnd->H->(Nat->Bool)->Prop}
 (hr:R (.ret (vi (jD f0 A p q).2)) (hJ5 x0 x1 x2 ni zs init beg pr iv (jD f0 A p q).1) (λ_=>am)) :
 ag TE 31 [.lp 3 0,vi p,vi q] (hJ5 x0 x1 x2 ni zs init beg pr iv A) R:=by
 have hM:=mLx;have dd0:∀p,aE p x0=x0:=λp=>bF.dats_drops _ d0;have dd1:∀p,aE p x1=x1:=λp=>bF.dats_drops _ d1;have dd2:∀p,aE p x2=x2:=λp=>bF.dats_drops _ d2;have ddi:∀p,iv.drop p=iv:=λp=>bF _ di;have ddz:∀p,aE p (zs.map vi)=zs.map vi:=λp=>aN _;obtain⟨r,hrv⟩:∃r,r=jD f0 A p q:=⟨_,rfl⟩;rw[<-hrv]at hr;refine ag.fresh ?_;refine ah Tryz.func31 rfl (by simp[nts]) ?_;refine vn ?_;simp only[wq.1,seval,Tryz.results31];refine vn ?_;simp only[wq.1,seval];refine Na hf d0 d1 d2 di hg hA1 p0 p1 q0 q1 ?_;rw[<-hrv];simp only[wq.1,seval];refine ak ?_;refine vn ?_;simp only[wq.1,seval];refine vm ?_;simp only[wq.1,↓reduceIte];refine vn ?_;simp only[wq.1,seval];refine vn ?_;simp only[wq.1,seval];refine fU (h0:=hJ5 x0 x1 x2 ni zs init beg pr iv r.1) (Y:=[aw (gC ni (aa zs) init A),aw (gC ni (aa zs) init r.1),aw (gC ni (aa zs) init r.1)]) (λj hj=>by cases hj) ?_;have hcl:(hJ5 x0 x1 x2 ni zs init beg pr iv r.1).map (O.drop (aQ (aa (hJ5 x0 x1 x2 ni zs init beg pr iv r.1))))=hJ5 x0 x1 x2 ni zs init beg pr iv r.1:=by simp only[wq.1,seval,aE,V.drop,dd0,dd1,dd2,ddi,ddz,aQ]
 rw[hcl];refine vm ?_;simp only[wq.1,seval,aQ];exact⟨λi hi=>by simp;omega,hr⟩
abbrev jc0(bg:Cl)(pr:List Pq)(iv:V):List V:=[vi 0,.nils,.nils,.nils,.nils,az bg,prs pr,iv,.bool am]
abbrev jc1(m:Mo)(bg:Cl)(pr:List Pq)(iv:V):List V:=[vi (aa m.ins),.ls 4 1 0 (aa bg) (aa bg),az bg,.nils,.nils,az bg,prs pr,iv,.bool am]
def hz8(m:Mo)(bg:Cl)(pr:List Pq)(iv:V)(x1 x2:List V)(b10 b21:Bool):H:=[aw (cCM m),aw x1,aw x2,aw (if b21=ab then jc1 m bg pr iv else jc0 bg pr iv)]++if b10=ab then [aw (aD (aa bg) (vi 0))]else []
def bf(m:Mo)(bg:Cl):List (Nat×Nat×V):=[(0,54,.lp 3 0),(1,55,.lp 0 5),(2,56,ig m.ins),(3,57,vi (aa m.ins)),(4,58,.lp 3 0),(5,59,.lp 3 0),(6,60,.lp 3 0),(7,61,.lp 3 5),(8,62,az bg),(9,63,vi (aa bg)),(10,64,.ls 4 1 0 (aa bg) (aa bg)),(11,65,.lp 3 0),(12,66,.lp 3 0),(13,67,.lp 3 0),(14,68,.lp 3 5),(15,69,az bg),(16,70,az bg),(17,71,.agg [vi (aa m.ins),.ls 4 1 0 (aa bg) (aa bg),az bg,.nils,.nils]),(18,72,.lp 3 0),(19,73,.lp 3 0),(20,74,.lp 3 0)]
def kM(okm:Bool):List (Nat×V):=[(2,.lp 0 0),(3,.lp 1 0),(4,.lp 2 0),(8,.lp 3 0),(9,.bool okm)]
theorem YO(m:Mo)(bg:Cl)(okm:Bool)(pr:List Pq)(iv:V)(x1 x2:List V)(hb:aa bg<=8000)(hc:Ev TE 29 [az bg] (az bg)){r:Option Nat}{Q:XE->Fr->H->Prop}{f0:Fr}(g0:GA f0 (kM okm))(d0:f0.d=[])
 (hk:∀f ,GA f (kM okm)->f.d=[]->True->Q .normal f (hz8 m bg pr iv x1 x2 ab ab)) :
 awp TE 236 r (.region 8 (LP Tryz.f12 8) ab) Q f0 (hz8 m bg pr iv x1 x2 am am):=by
 simp only[LP,Tryz.f12,AL,List.nil_append,zqp,List.headD_cons,Nat.reduceBEq,zrm,if_false,if_true,List.cons_append];obtain⟨I,hI⟩:∃I:Array Bool->Fr->H->Prop,∀L f h,I L f h↔(h=hz8 m bg pr iv x1 x2 (L.getD 10 am) (L.getD 21 am)/\FA L f (bf m bg)/\GA f (kM okm)/\f.d=[]):=⟨_,λ_ _ _=>Iff.rfl⟩;refine Dh dV I (by decide +kernel) ?_ ?_ ?_
 ·exact(hI _ _ _).2 ⟨rfl,FA.none,g0,d0⟩
 ·intro L f h i hcl hII hi;obtain⟨rfl,hfa,hg,hd⟩:=(hI _ _ _).1 hII;have t2:f.t 2= .lp 0 0:=hg (2,.lp 0 0) (by simp[kM]);have t3:f.t 3= .lp 1 0:=hg (3,.lp 1 0) (by simp[kM]);have t4:f.t 4= .lp 2 0:=hg (4,.lp 2 0) (by simp[kM]);have t8:f.t 8= .lp 3 0:=hg (8,.lp 3 0) (by simp[kM]);have t9:f.t 9= .bool okm:=hg (9,.bool okm) (by simp[kM]);have b0:(hz8 m bg pr iv x1 x2 (L.getD 10 am) (L.getD 21 am):H)[0]? =ar (aw (cCM m)):=rfl;have hlt:i<22:=Df hi;have pu:∀(d:Nat)(v:V),(∀x∈(bf m bg),x.1=i->x.2.1=d/\x.2.2=v)->(∀x∈(bf m bg),x.2.1=d->x.1=i)->(aM (d∉([2,3,4,8,9]:List Nat))&&aM (i∉([10,21]:List Nat)))=ab->I (L.setIfInBounds i ab) (f.put (ar d) v) (hz8 m bg pr iv x1 x2 (L.getD 10 am) (L.getD 21 am)):=by
   intro d v h1 h2 h3;rw[zqf,zqb,zqb]at h3;simp only[zrj,zrp,or_false,not_or,not_false_eq_true,and_true,true_and]at h3;refine(hI _ _ _).2 ⟨by rw[getD_set_ne am (by omega),getD_set_ne am (by omega)],hfa.put h1 h2,hg.put (by simp[kM];omega),hd⟩
  match i,hlt with
  |0,_=>have pu:=pu 54 (.lp 3 0) (by simp[bf]) (by simp[bf]) (by decide);simp only[wq.1,Nat.reduceLT,t8];exact pu
  |1,_=>have pu:=pu 55 (.lp 0 5) (by simp[bf]) (by simp[bf]) (by decide);simp only[wq.1,Nat.reduceLT,t2];exact pu
  |2,_=>have dp:=aT hi (l:=[1]) (by decide +kernel);have e55:=FAz hfa 1 55 (.lp 0 5) (by simp[bf]) (dp 1 (by simp));have pu:=pu 56 (ig m.ins) (by simp[bf]) (by simp[bf]) (by decide);simp only[wq.1,seval,b0,e55];exact pu
  |3,_=>have dp:=aT hi (l:=[2]) (by decide +kernel);have e56:=FAz hfa 2 56 (ig m.ins) (by simp[bf]) (dp 2 (by simp));have pu:=pu 57 (vi (aa m.ins)) (by simp[bf]) (by simp[bf]) (by decide);simp only[wq.1,Nat.reduceLT,e56];exact pu
  |4,_=>have pu:=pu 58 (.lp 3 0) (by simp[bf]) (by simp[bf]) (by decide);simp only[wq.1,Nat.reduceLT,t8];exact pu
  |5,_=>have dp:=aT hi (l:=[4]) (by decide +kernel);have e58:=FAz hfa 4 58 (.lp 3 0) (by simp[bf]) (dp 4 (by simp));have pu:=pu 59 (.lp 3 0) (by simp[bf]) (by simp[bf]) (by decide);simp only[wq.1,Nat.reduceLT,e58];exact pu
  |6,_=>have dp:=aT hi (l:=[5]) (by decide +kernel);have e59:=FAz hfa 5 59 (.lp 3 0) (by simp[bf]) (dp 5 (by simp));have pu:=pu 60 (.lp 3 0) (by simp[bf]) (by simp[bf]) (by decide);simp only[wq.1,Nat.reduceLT,e59];exact pu
  |7,_=>have dp:=aT hi (l:=[6]) (by decide +kernel);have e60:=FAz hfa 6 60 (.lp 3 0) (by simp[bf]) (dp 6 (by simp));have pu:=pu 61 (.lp 3 5) (by simp[bf]) (by simp[bf]) (by decide);simp only[wq.1,Nat.reduceLT,e60];exact pu
  |8,_ =>
   have dp:=aT hi (l:=[7]) (by decide +kernel);have e61:=FAz hfa 7 61 (.lp 3 5) (by simp[bf]) (dp 7 (by simp));have pu:=pu 62 (az bg) (by simp[bf]) (by simp[bf]) (by decide);have no:=jG hi;have n9:=fE hcl no (i:=9) (by decide +kernel);have n10:=fE hcl n9 (i:=10) (by decide +kernel);have n17:=fE hcl n10 (i:=17) (by decide +kernel);have n21:=fE hcl n17 (i:=21) (by decide +kernel);have b3:(hz8 m bg pr iv x1 x2 (L.getD 10 am) (L.getD 21 am):H)[3]? =ar (aw (jc0 bg pr iv)):=by rw[n21];rfl
   simp only[wq.1,seval,e61,b3];exact pu
  |9,_=>have dp:=aT hi (l:=[8]) (by decide +kernel);have e62:=FAz hfa 8 62 (az bg) (by simp[bf]) (dp 8 (by simp));have pu:=pu 63 (vi (aa bg)) (by simp[bf]) (by simp[bf]) (by decide);simp only[wq.1,Nat.reduceLT,e62];exact pu
  |10,_=>have dp:=aT hi (l:=[9]) (by decide +kernel);have e63:=FAz hfa 9 63 (vi (aa bg)) (by simp[bf]) (dp 9 (by simp));have no:=jG hi;have n17:=fE hcl no (i:=17) (by decide +kernel);have n21:=fE hcl n17 (i:=21) (by decide +kernel);rw[no,n21];simp only[wq.1,seval,e63];refine⟨⟨by omega,by omega⟩,?_⟩;show I _ (f.put (ar 64) (.ls 4 1 0 (aa bg) (aa bg))) _;refine(hI _ _ _).2 ⟨?_,hfa.put (by simp[bf]) (by simp[bf]),hg.put (by simp[kM]),hd⟩;rw[kQ (kV hi),getD_set_ne am (by decide),n21];rfl
  |11,_=>have pu:=pu 65 (.lp 3 0) (by simp[bf]) (by simp[bf]) (by decide);simp only[wq.1,Nat.reduceLT,t8];exact pu
  |12,_=>have dp:=aT hi (l:=[11]) (by decide +kernel);have e65:=FAz hfa 11 65 (.lp 3 0) (by simp[bf]) (dp 11 (by simp));have pu:=pu 66 (.lp 3 0) (by simp[bf]) (by simp[bf]) (by decide);simp only[wq.1,Nat.reduceLT,e65];exact pu
  |13,_=>have dp:=aT hi (l:=[12]) (by decide +kernel);have e66:=FAz hfa 12 66 (.lp 3 0) (by simp[bf]) (dp 12 (by simp));have pu:=pu 67 (.lp 3 0) (by simp[bf]) (by simp[bf]) (by decide);simp only[wq.1,Nat.reduceLT,e66];exact pu
  |14,_=>have dp:=aT hi (l:=[13]) (by decide +kernel);have e67:=FAz hfa 13 67 (.lp 3 0) (by simp[bf]) (dp 13 (by simp));have pu:=pu 68 (.lp 3 5) (by simp[bf]) (by simp[bf]) (by decide);simp only[wq.1,Nat.reduceLT,e67];exact pu
  |15,_ =>
   have dp:=aT hi (l:=[14]) (by decide +kernel);have e68:=FAz hfa 14 68 (.lp 3 5) (by simp[bf]) (dp 14 (by simp));have pu:=pu 69 (az bg) (by simp[bf]) (by simp[bf]) (by decide);have no:=jG hi;have n16:=fE hcl no (i:=16) (by decide +kernel);have n17:=fE hcl n16 (i:=17) (by decide +kernel);have n21:=fE hcl n17 (i:=21) (by decide +kernel);have b3:(hz8 m bg pr iv x1 x2 (L.getD 10 am) (L.getD 21 am):H)[3]? =ar (aw (jc0 bg pr iv)):=by rw[n21];rfl
   simp only[wq.1,seval,e68,b3];exact pu
  |16,_=>have dp:=aT hi (l:=[15]) (by decide +kernel);have e69:=FAz hfa 15 69 (az bg) (by simp[bf]) (dp 15 (by simp));have pu:=pu 70 (az bg) (by simp[bf]) (by simp[bf]) (by decide);simp only[wq.1,Nat.reduceLT,e69];refine ag.ev (hc) (by simp only[a7,a6,zre]) ?_;simp only[wq.1];exact pu
  |17,_=>have dp:=aT hi (l:=[3,10,16]) (by decide +kernel);have e57:=FAz hfa 3 57 (vi (aa m.ins)) (by simp[bf]) (dp 3 (by simp));have e64:=FAz hfa 10 64 (.ls 4 1 0 (aa bg) (aa bg)) (by simp[bf]) (dp 10 (by simp));have e70:=FAz hfa 16 70 (az bg) (by simp[bf]) (dp 16 (by simp));have pu:=pu 71 (.agg [vi (aa m.ins),.ls 4 1 0 (aa bg) (aa bg),az bg,.nils,.nils]) (by simp[bf]) (by simp[bf]) (by decide);simp only[wq.1,seval,e57,e64,e70];exact pu
  |18,_=>have dp:=aT hi (l:=[0]) (by decide +kernel);have e54:=FAz hfa 0 54 (.lp 3 0) (by simp[bf]) (dp 0 (by simp));have pu:=pu 72 (.lp 3 0) (by simp[bf]) (by simp[bf]) (by decide);simp only[wq.1,Nat.reduceLT,e54];exact pu
  |19,_=>have dp:=aT hi (l:=[18]) (by decide +kernel);have e72:=FAz hfa 18 72 (.lp 3 0) (by simp[bf]) (dp 18 (by simp));have pu:=pu 73 (.lp 3 0) (by simp[bf]) (by simp[bf]) (by decide);simp only[wq.1,Nat.reduceLT,e72];exact pu
  |20,_=>have dp:=aT hi (l:=[19]) (by decide +kernel);have e73:=FAz hfa 19 73 (.lp 3 0) (by simp[bf]) (dp 19 (by simp));have pu:=pu 74 (.lp 3 0) (by simp[bf]) (by simp[bf]) (by decide);simp only[wq.1,Nat.reduceLT,e73];exact pu
  |21,_=>have dp:=aT hi (l:=[20,17]) (by decide +kernel);have e74:=FAz hfa 20 74 (.lp 3 0) (by simp[bf]) (dp 20 (by simp));have e71:=FAz hfa 17 71 (.agg [vi (aa m.ins),.ls 4 1 0 (aa bg) (aa bg),az bg,.nils,.nils]) (by simp[bf]) (dp 17 (by simp));have dp:=aT hi (l:=[17,20]) (by decide +kernel);have e71:=FAz hfa 17 71 (.agg [vi (aa m.ins),.ls 4 1 0 (aa bg) (aa bg),az bg,.nils,.nils]) (by simp[bf]) (dp 17 (by simp));have e74:=FAz hfa 20 74 (.lp 3 0) (by simp[bf]) (dp 20 (by simp));have no:=jG hi;have d17:L.getD 10 am=ab:=ER hcl (dp 17 (by simp)) (l:=[10]) (by decide +kernel) 10 (by simp);have hz3:(hz8 m bg pr iv x1 x2 ab am)[3]? =ar (aw (jc0 bg pr iv)):=rfl;rw[no,d17];simp only[wq.1,seval,e71,e74,hz3];refine(hI _ _ _).2 ⟨?_,hfa.skip (by simp[bf]),hg,hd⟩;rw[kQ (kV hi),getD_set_ne am (by decide),d17];rfl
  |n+22,h=>exact absurd h (by omega)
 ·intro L f h hall hII;obtain⟨rfl,hfa,hg,hd⟩:=(hI _ _ _).1 hII;have h10:=hall 10 (by decide +kernel);have h21:=hall 21 (by decide +kernel);rw[h10,h21];exact hk f hg hd trivial
end Go.Proofs.YthdidjjecjhenaaGreat
