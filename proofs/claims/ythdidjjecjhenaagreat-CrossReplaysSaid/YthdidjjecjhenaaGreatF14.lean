/- Lemmas for this claim, part F14: each holds under what it names. -/
import Derived.Test.YthdidjjecjhenaaGreatF13
import Derived.Test.YthdidjjecjhenaaGreatA9
set_option linter.unusedVariables false
set_option linter.unusedSimpArgs false
set_option linter.unnecessarySimpa false
set_option maxRecDepth 20000
set_option maxHeartbeats 8000000
namespace Go.Proofs.YthdidjjecjhenaaGreat
open Go Go.Proofs Go.Abs
theorem qK(to:Cl)(a:Int)(h0:0<=a)(h1:a/2<to.length)(h2:a<=1000000)(ht:∀x∈to,0<=x/\x<=1000000):Ev TE 57 [vi a,.ip (ay to)] (vi (mvX to a)):=by
 obtain⟨k,hk⟩:∃k:Nat,a/2=k:=⟨(a/2).toNat,by omega⟩;have hkl:k<to.length:=by omega
 have hg:(to.map vi).getD k .any=vi to[k]:=wU hkl _;have hb:=ht _ (zqu hkl);have w1:IntKind.i64.wrap (2*to[k])=2*to[k]:=aU (by omega) (by omega);have w2:IntKind.i64.wrap (2*to[k]+a%2)=2*to[k]+a%2:=aU (by omega) (by omega);have e:mvX to a=2*to[k]+a%2:=by unfold mvX;rw[hk,zsg,aS hkl]
 refine aF Tryz.func57 rfl (by simp[nts]) (vm ?_);simp only[wq.1,seval,Tryz.results57,Vs,We h0 (show a<=1000000000 by omega),hk,hg,w1,w2];refine⟨⟨by omega,by omega⟩,?_⟩;exact aH.eq rfl (by rw[e])
abbrev jcV(ni:Int)(n:Nat)(init beg:Cl)(pr:List Pq)(iv:V)(A:List Pq):List V:=[vi ni,.ls 4 1 0 n n,ay init,.ls 5 2 0 A.length A.length,.nils,ay beg,prs pr,iv,.bool false]
abbrev hAd(x0 x1 x2:List V)(ni:Int)(zs init beg:Cl)(pr:List Pq)(iv:V)(A:List Pq):H:=[.cells x0,.cells x1,.cells x2,.cells (jcV ni zs.length init beg pr iv A),.cells (zs.map vi),.cells (fl A)]
abbrev hA9(x0 x1 x2:List V)(ni:Int)(zs init beg:Cl)(pr:List Pq)(iv:V)(m:Mo)(A:List Pq)(to:Cl):H:=[.cells x0,.cells x1,.cells x2,.cells (jcV ni zs.length init beg pr iv A),.cells (zs.map vi),.cells (fl A),.cells (cCM m),.cells (to.map vi),.cells [.ls 7 1 0 to.length to.length]]
def tA(l:List S)(m:Mo)(i:Nat):Cl:=0::((m.ins.take i).map fun s=>1+(atI l s:Int))
def tB(l:List S)(m:Mo)(f:Int)(i:Nat):Cl:=0::(m.ins.map (fun s=>1+(atI l s:Int))++(List.range i).map fun i:Nat=>f+(i:Int))
variable{l:List S}{m:Mo}{i:Nat}
theorem VK(h:i<m.ins.length):tA l m (i+1)=tA l m i++[1+(atI l m.ins[i]:Int)]:=by unfold tA;rw[zrg,zqk h,zql];rfl
theorem XD(h:i<=m.ins.length):(tA l m i).length=i+1:=by unfold tA;simp;omega
variable{f:Int}
theorem XF:tA l m m.ins.length=tB l m f 0:=by unfold tA tB;simp
theorem VL:tB l m f (i+1)=tB l m f i++[f+(i:Int)]:=by unfold tB;rw[List.range_succ,zql];simp
theorem UC:(tB l m f i).length=m.ins.length+i+1:=by unfold tB;simp
theorem VM(hin:∀s∈m.ins,(at? l s).isSome=true)(hll:l.length<=4000)(hf0:0<=f)(hf1:f<=100000)(hml:m.lat.length<=4000):∀x∈to0 l m f,0<=x/\x<=200000:=fun x hx=>by
 unfold to0 at hx;rcases zrj.1 hx with rfl|hx
 ·omega
 ·rcases zrf.1 hx with hx|hx
  ·obtain⟨s,hs,rfl⟩:=zrh.1 hx;have:=Jw (hin s hs);omega
  ·obtain⟨i,hi,rfl⟩:=zrh.1 hx;have:=List.mem_range.1 hi;omega
variable{A:List Pq}
theorem P7{s:List Pq×Cl}{p:Pq}:vK f s (A++[p])=FK f (vK f s A) p:=by unfold vK;rw[List.foldl_append];rfl
theorem AX{f:Int}(hf0:0<=f)(hf1:f<=20000):∀ {A:List Pq} {s:List Pq×Cl},s.1.length+A.length<=12000->(∀x∈s.2,0<=x/\x<=200000) ->
 (vK f s A).1.length=s.1.length+A.length/\(vK f s A).2.length=s.2.length+A.length/\∀x∈(vK f s A).2,0<=x/\x<=200000
 |[],s,_,hT=>⟨rfl,rfl,hT⟩
 |p::A,s,hl,hT=>by
  rw[zrt]at hl;obtain⟨h1,h2,h3⟩:=AX hf0 hf1 (A:=A) (s:=FK f s p) (by simp[FK];omega) (fun x hx=>by
   rcases zrf.1 hx with hx|hx
   ·exact hT x hx
   ·rw[zrc.1 hx];omega)
  have e1:(FK f s p).1.length=s.1.length+1:=by simp[FK]
  have e2:(FK f s p).2.length=s.2.length+1:=by simp[FK]
  show(vK f (FK f s p) A).1.length=_/\(vK f (FK f s p) A).2.length=_/\_;rw[zrt];exact⟨by omega,by omega,h3⟩
variable{x0 x1 x2:List V}{ni:Int}{zs init beg:Cl}{pr A0:List Pq}
theorem AY{first:Int}(d0:V.dats x0=true)(d1:V.dats x1=true)(d2:V.dats x2=true)
 (hin:∀s∈m.ins,(at? l s).isSome=true) (hll:l.length<=4000) (n0:0<=ni) (n1:ni<=4000) (hz:zs.length<=8000) (hf0:0<=first) (hf1:first<=100000) (hA0:A0.length<=8000) (hma:m.g.ands.length<=4000) (hmi:m.ins.length<=4000) (hml:m.lat.length<=4000)
 (hok:OkA (1+(m.ins.length:Int)+(m.lat.length:Int)) m.g.ands) {R:AEnd->H->(Nat->Bool)->Prop}
 (hr:R (.ret (.fn (.func 57) [] [.ip (ay (vK (1+ni+(zs.length:Int)) (A0,to0 l m first) m.g.ands).2)])) (hAd x0 x1 x2 ni zs init beg pr (plV l) (vK (1+ni+(zs.length:Int)) (A0,to0 l m first) m.g.ands).1) (fun i=>i==5||decide (6<=i))) :
 ag TE 30 [.lp 3 0,.agg (cCM m),vi first] (hAd x0 x1 x2 ni zs init beg pr (plV l) A0) R:=by
 have hM:=mLx;have dd0:∀p,V.drops p x0=x0:=fun p=>bi.dats_drops _ d0;have dd1:∀p,V.drops p x1=x1:=fun p=>bi.dats_drops _ d1;have dd2:∀p,V.drops p x2=x2:=fun p=>bi.dats_drops _ d2;have ddz:∀p,V.drops p (zs.map vi)=zs.map vi:=fun p=>aI _;refine ag.kp (fun i=>i==5||decide (6<=i)) ?_;refine ah Tryz.func30 rfl (by simp[nts]) ?_;refine vn ?_;simp only[wq.1,seval,Tryz.results30];refine ak ?_;refine IL rfl (by decide) ?_;refine uN (x:= .const (.int .i64 0)) (t:=22) rfl (q:={kind:= .slice 3,size:=1,bytes:=24,zero:= .nils}) (by simp only[wq.1]) (el:=3) rfl (re:={kind:= .int .i64,size:=1,bytes:=8,zero:= .int .i64 0}) (by simp only[wq.1]) rfl (by simp only[wq.1]) (kk:= .i64) (m:=0) (by simp only[wq.1]) ?_;simp only[wq.1,seval];refine ak ?_;refine vn ?_;simp only[wq.1,seval];refine aB ?_;refine aC (fun q f h=>∃i,q+i=m.ins.length/\f.t 0= .lp 3 0/\f.t 2=vi first/\f.t 4= .lp 6 0/\f.t 7= .lp 8 0/\f.t 16=jq m.ins/\f.t 17=vi m.ins.length/\f.t 18=vi i/\f.d=[]/\h=hA9 x0 x1 x2 ni zs init beg pr (plV l) m A0 (tA l m i)/\∀j,f.k j=true->(j==5||decide (6<=j))=true) m.ins.length ⟨0,by omega,rfl,rfl,rfl,rfl,rfl,rfl,rfl,rfl,rfl,fun j hj=>by cases hj⟩ ?_;rintro q f h ⟨i,hq,t0,t2,t4,t7,t16,t17,t18,hd,rfl,hk⟩;have htl:=XD (l:=l) (m:=m) (i:=i) (by omega);have dA0:∀p,V.drops p (fl A0)=fl A0:=fun p=>y9 _;have dto:∀p,V.drops p ((tA l m i).map vi)=(tA l m i).map vi:=fun p=>aI _;have hel:((tA l m i).map vi).length=(tA l m i).length*1:=by rw[zra];omega
 refine vn ?_;simp only[wq.1,Nat.reduceLT,t17,t18];refine ak (aV (b:=decide ((i:Int)<m.ins.length)) (by simp only[wq.1,↓reduceIte]) (by simp only[wq.1,↓reduceIte]) (fun hlt=> ?_) (fun hlt=> ?_))
 ·simp only[zqb,zqi]at hlt;have hw:=aA (show i<maxLen by omega);obtain⟨k,hat⟩:=Option.isSome_iff_exists.1 (hin _ (zqu hlt));have hkl:=(lH hat).1;have hgk:(JH l.length).getD k .any=vi k:=uy hkl _;have hai:atI l m.ins[i]=k:=by unfold atI;rw[hat];rfl
  have w1:IntKind.i64.wrap (1+(k:Int))=1+(k:Int):=aU (by omega) (by omega);refine vm ?_;simp only[wq.1];refine ak (aB ?_);refine vn ?_;simp only[wq.1,↓reduceIte,Nat.reduceEqDiff,Nat.reduceLT,t16,t18,Gq hlt];refine⟨⟨by omega,by omega⟩,?_⟩;refine ny dV 9 (.one 9<| .one 10<| .fin) (fun f' h'=>f'.t 0= .lp 3 0/\f'.t 2=vi first/\f'.t 4= .lp 6 0/\f'.t 7= .lp 8 0/\f'.t 16=jq m.ins/\f'.t 17=vi m.ins.length/\f'.t 18=vi i/\f'.d=[]/\(∀j,f'.k j=true->(j==5||decide (6<=j))=true)/\h'=hA9 x0 x1 x2 ni zs init beg pr (plV l) m A0 (tA l m (i+1))) (by decide +kernel) ?_ ?_
  ·intro K hK;simp only[List.take_succ_cons,List.take_zero];simp only[wq.1,↓reduceIte,Nat.reduceEqDiff,Nat.reduceLT,Nat.reduceLeDiff,Nat.reduceAdd,reduceCtorEq,Nat.reduceMul,t0,t7,qp,dR,Abs.K.keyOk,hat,hgk,w1];refine⟨⟨rfl,by decide⟩,hK _ ?_⟩;simp only[wq.1,seval,t0,t2,t4,t7,t16,t17,t18,hd,dd0,dd1,dd2,ddz,dA0,dto];refine⟨⟨by omega,by omega,by omega⟩,fun j hj=> ?_,?_⟩
   ·rcases zsi hj with hj|hj
    ·exact hk j hj
    ·rw[beq_iff_eq]at hj;subst hj;rfl
   ·rw[VK hlt,hai];simp only[hA9,zql,zqa,zrk];rfl
  ·rintro f h ⟨t0,t2,t4,t7,t16,t17,t18,hd,hk,rfl⟩;show awp _ _ _ _ _ _ _;refine vm ?_;simp only[wq.1,seval,t18,hw];exact .inl ⟨q-1,by omega,i+1,by omega,t0,t2,t4,t7,t16,t17,rfl,hd,rfl,fun j hj=>by(simp only[wq.1]at hj);exact hk j hj⟩
 ·simp only[zqd,zqi]at hlt;have:i=m.ins.length:=by omega
  subst this;refine vm ?_;simp only[wq.1];show awp _ _ _ _ _ _ _;refine ak ?_;refine vn ?_;simp only[wq.1,seval,t4];refine aB ?_;rw[XF (f:=first)];refine aC (fun q f h=>∃i,q+i=m.lat.length/\f.t 0= .lp 3 0/\f.t 2=vi first/\f.t 4= .lp 6 0/\f.t 7= .lp 8 0/\f.t 35=vi m.lat.length/\f.t 36=vi i/\f.d=[]/\h=hA9 x0 x1 x2 ni zs init beg pr (plV l) m A0 (tB l m first i)/\∀j,f.k j=true->(j==5||decide (6<=j))=true) m.lat.length ⟨0,by omega,t0,t2,t4,t7,rfl,rfl,hd,rfl,fun j hj=>hk j hj⟩ ?_;clear t0 t2 t4 t7 t16 t17 t18 hd hk f dto hel htl hq q hlt;rintro q f h ⟨i,hq,t0,t2,t4,t7,t35,t36,hd,rfl,hk⟩;have htl:=UC (l:=l) (m:=m) (f:=first) (i:=i);have dto:∀p,V.drops p ((tB l m first i).map vi)=(tB l m first i).map vi:=fun p=>aI _;have hel:((tB l m first i).map vi).length=(tB l m first i).length*1:=by rw[zra];omega
  refine vn ?_;simp only[wq.1,Nat.reduceLT,t35,t36];refine ak (aV (b:=decide ((i:Int)<m.lat.length)) (by simp only[wq.1,↓reduceIte]) (by simp only[wq.1,↓reduceIte]) (fun hlt=> ?_) (fun hlt=> ?_))
  ·simp only[zqb,zqi]at hlt;have hw:=aA (show i<maxLen by omega);have w1:IntKind.i64.wrap (first+(i:Int))=first+(i:Int):=aU (by omega) (by omega)
   refine vm ?_;simp only[wq.1];refine ak (aB ?_);refine vm ?_;simp only[wq.1,↓reduceIte,Nat.reduceEqDiff,Nat.reduceLT,Nat.reduceBEq,reduceCtorEq,Nat.reduceMul,t2,t7,t36,hd,w1,dd0,dd1,dd2,ddz,dA0,dto];refine⟨⟨rfl,by decide⟩,⟨by omega,by omega,by omega⟩,?_⟩;refine vm ?_;simp only[wq.1,seval,t36,hw];refine .inl ⟨q-1,by omega,i+1,by omega,by simp only[wq.1,seval,t0],by simp only[wq.1,seval,t2],by simp only[wq.1,seval,t4],by simp only[wq.1,seval,t7],by simp only[wq.1,seval,t35],rfl,hd,?_,fun j hj=> ?_⟩
   ·rw[VL];simp only[hA9,zql,zqa,zrk];rfl
   ·rcases zsi hj with hj|hj
    ·exact hk j hj
    ·rw[beq_iff_eq]at hj;subst hj;rfl
  ·simp only[zqd,zqi]at hlt;have:i=m.lat.length:=by omega
   subst this;refine vm ?_;simp only[wq.1];show awp _ _ _ _ _ _ _;refine vn ?_;simp only[wq.1,seval,t7];refine ak ?_;refine vn ?_;simp only[wq.1,seval,t4];refine aB ?_;obtain⟨F,hF⟩:∃F,F=1+ni+(zs.length:Int):=⟨_,rfl⟩;rw[<-hF]at hr;have hT0:=VM hin hll hf0 hf1 hml;have hTl:(to0 l m first).length=m.ins.length+m.lat.length+1:=UC;refine aC (fun q f h=>∃(i:Nat)(X:H),q+i=m.g.ands.length/\f.t 0= .lp 3 0/\f.t 7= .lp 8 0/\f.t 11= .fn (.func 57) [] [.lp 8 0]/\f.t 49=prs m.g.ands/\f.t 50=vi m.g.ands.length/\f.t 51=vi i/\f.d=[]/\h=hA9 x0 x1 x2 ni zs init beg pr (plV l) m (vK F (A0,to0 l m first) (m.g.ands.take i)).1 (vK F (A0,to0 l m first) (m.g.ands.take i)).2++X/\∀j,f.k j=true->(j==5||decide (6<=j))=true) m.g.ands.length ⟨0,[],by omega,t0,t7,rfl,rfl,rfl,rfl,hd,by rw[zqp];rfl,fun j hj=>hk j hj⟩ ?_;clear t0 t2 t4 t7 t35 t36 hd hk f dto hel htl hq q hlt;rintro q f h ⟨i,X,hq,t0,t7,t11,t49,t50,t51,hd,rfl,hk⟩;obtain⟨k1,k2,k3⟩:=AX (f:=F) (by omega) (by omega) (s:=(A0,to0 l m first)) (A:=m.g.ands.take i) (by simp;omega) hT0;have hsu:∀(h:i<m.g.ands.length),vK F (A0,to0 l m first) (m.g.ands.take (i+1))=FK F (vK F (A0,to0 l m first) (m.g.ands.take i)) m.g.ands[i]:=fun h=>by
    rw[zrg,zqk h];exact P7
   rw[zrl]at k1 k2;obtain⟨A,T,hAT⟩:∃A T,vK F (A0,to0 l m first) (m.g.ands.take i)=(A,T):=⟨_,_,rfl⟩;rw[hAT]at k1 k2 k3 hsu ⊢;dsimp only at k1 k2 k3 hsu ⊢;have dA:∀p,V.drops p (fl A)=fl A:=fun p=>y9 _;have dT:∀p,V.drops p (T.map vi)=T.map vi:=fun p=>aI _;have hcl:(hA9 x0 x1 x2 ni zs init beg pr (plV l) m A T).map (O.drop (aJ (hA9 x0 x1 x2 ni zs init beg pr (plV l) m A T).length))=hA9 x0 x1 x2 ni zs init beg pr (plV l) m A T:=by
    simp only[wq.1,seval,hA9,V.drops,V.drop,dd0,dd1,dd2,ddz,dA,dT,aJ]
   refine gp (by rw[hd];simp) ?_;rw[hcl];have u0:(f.drop (aJ (hA9 x0 x1 x2 ni zs init beg pr (plV l) m A T).length)).t 0= .lp 3 0:=by simp only[wq.1,seval,t0,aJ]
   have u7:(f.drop (aJ (hA9 x0 x1 x2 ni zs init beg pr (plV l) m A T).length)).t 7= .lp 8 0:=by simp only[wq.1,seval,t7,aJ]
   have u11:(f.drop (aJ (hA9 x0 x1 x2 ni zs init beg pr (plV l) m A T).length)).t 11= .fn (.func 57) [] [.lp 8 0]:=by simp only[wq.1,seval,t11,aJ]
   have u49:(f.drop (aJ (hA9 x0 x1 x2 ni zs init beg pr (plV l) m A T).length)).t 49=prs m.g.ands:=by simp only[wq.1,Nat.reduceAdd,t49]
   have u50:(f.drop (aJ (hA9 x0 x1 x2 ni zs init beg pr (plV l) m A T).length)).t 50=vi m.g.ands.length:=by simp only[wq.1,Nat.reduceAdd,t50]
   have u51:(f.drop (aJ (hA9 x0 x1 x2 ni zs init beg pr (plV l) m A T).length)).t 51=vi i:=by simp only[wq.1,Nat.reduceAdd,t51]
   have ud:(f.drop (aJ (hA9 x0 x1 x2 ni zs init beg pr (plV l) m A T).length)).d=[]:=hd;have uk:∀j,(f.drop (aJ (hA9 x0 x1 x2 ni zs init beg pr (plV l) m A T).length)).k j=true->(j==5||decide (6<=j))=true:=fun j hj=>by
    rcases zsi hj with hj|hj
    ·exact hk j hj
    ·have:9<=j:=by simpa [aJ]using hj
     simp;omega
   generalize f.drop (aJ (hA9 x0 x1 x2 ni zs init beg pr (plV l) m A T).length)=f at u0 u7 u11 u49 u50 u51 ud uk ⊢;clear t0 t7 t11 t49 t50 t51 hd hk;refine vn ?_;simp only[wq.1,Nat.reduceLT,u50,u51];refine ak (aV (b:=decide ((i:Int)<m.g.ands.length)) (by simp only[wq.1,↓reduceIte]) (by simp only[wq.1,↓reduceIte]) (fun hlt=> ?_) (fun hlt=> ?_))
   ·simp only[zqb,zqi]at hlt;have hw:=aA (show i<maxLen by omega);obtain⟨p,hp⟩:∃p,p=m.g.ands[i]:=⟨_,rfl⟩;have hgp:(m.g.ands.map prV).getD i .any=prV p:=by rw[hp];exact VB hlt _
    obtain⟨o1,o2,o3,o4⟩:=hok i hlt;have hsu:=hsu hlt;rw[<-hp]at o1 o2 o3 o4 hsu;have e1:=qK T p.1 o1 (by omega) (by omega) (fun x hx=>by have:=k3 x hx;omega);have e2:=qK T p.2 o2 (by omega) (by omega) (fun x hx=>by have:=k3 x hx;omega);have rr:∀(Y:H)(a:Int),aj TE (hA9 x0 x1 x2 ni zs init beg pr (plV l) m A T++Y) [vi a,.lp 8 0] [vi a,.ip (ay T)]:=fun Y a=>aj.cons (aH.dat rfl) (aj.cons (aH.lp rfl (aj.cons (dw rfl rfl) aj.nil) rfl (by simp only[V.dat,jH]) (by simp[V.vc]) rfl) aj.nil);refine vm ?_;simp only[wq.1];refine ak (aB ?_);refine vn ?_;simp only[wq.1,seval,aG,Tryz.results30,u0,u7,u11,u49,u50,u51,ud,hgp];refine⟨⟨by omega,by omega⟩,?_⟩;have hlA:(fl A).length=A.length*2:=AP A;have hlT:(T.map vi).length=T.length*1:=by rw[zra];omega
    have hF2:F+(A.length:Int)=ni+(zs.length:Int)+((A.length+1:Nat):Int):=by omega
    have w1:IntKind.i64.wrap (ni+(zs.length:Int))=ni+(zs.length:Int):=aU (by omega) (by omega);have w2:IntKind.i64.wrap (ni+(zs.length:Int)+((A.length+1:Nat):Int))=F+(A.length:Int):=by rw[aU (by omega) (by omega),hF2]
    obtain⟨A',hA'⟩:∃A',A'=A++[(mvX T p.1,mvX T p.2)]:=⟨_,rfl⟩;have lA':A'.length=A.length+1:=by rw[hA'];simp
    have fA':fl A'=fl A++[vi (mvX T p.1),vi (mvX T p.2)]:=by rw[hA'];simp only[fl,List.flatMap_append,List.flatMap_cons,List.flatMap_nil,zqp]
    have dA':∀p,V.drops p (fl A')=fl A':=fun p=>y9 _;rw[<-lA']at w2;refine ak (pK dV [0] [1,2,3,4,5,6,7,8,9,10,11,12,13,14,15,16] 17 (.one 17<| .take 18<| .take 19<| .take 20<| .take 21<| .one 22<| .fin) (fun f' h'=>f'.t 0= .lp 3 0/\f'.t 7= .lp 8 0/\f'.t 11= .fn (.func 57) [] [.lp 8 0]/\f'.t 49=prs m.g.ands/\f'.t 50=vi m.g.ands.length/\f'.t 51=vi i/\f'.d=[]/\(∀j,f'.k j=true->(j==5||decide (6<=j))=true)/\h'=hA9 x0 x1 x2 ni zs init beg pr (plV l) m A' T++[.cells [vi p.1,vi p.2]]) (by decide +kernel) ?_ ?_)
    ·intro K hK;simp only[rH,List.filterMap_cons,List.filterMap_nil];simp only[wq.1,↓reduceIte,Nat.reduceEqDiff,Nat.reduceLT,Nat.reduceLeDiff,Nat.reduceAdd,Nat.reduceSub,Int.reduceToNat,Nat.reduceDiv,Int.reduceLT,Int.reduceLE,Int.reduceNeg,Int.reduceBEq,Int.reduceBNe,Int.reduceAdd,Int.reduceSub,Nat.reduceBEq,reduceCtorEq,Nat.reduceMul,aG,Tryz.results30,lh,NU,fQ,u0,u7,u11,u49,u50,u51,ud];refine⟨by decide,zV.mk e1 (by decide +kernel) (rr _ _) rfl ?_⟩;simp only[wq.1,↓reduceIte,Nat.reduceEqDiff,Nat.reduceLT,Nat.reduceLeDiff,Nat.reduceAdd,Nat.reduceSub,Int.reduceToNat,Nat.reduceDiv,Int.reduceLT,Int.reduceLE,Int.reduceNeg,Int.reduceBEq,Int.reduceBNe,Int.reduceAdd,Int.reduceSub,Nat.reduceBEq,reduceCtorEq,Nat.reduceMul,aG,Tryz.results30,fQ,u0,u7,u11,u49,u50,u51,ud];refine⟨by decide,zV.mk e2 (by decide +kernel) (rr _ _) rfl ?_⟩;simp only[wq.1,↓reduceIte,Nat.reduceEqDiff,Nat.reduceAdd];refine⟨⟨rfl,by decide⟩,hK _ _ ?_⟩;simp only[wq.1,↓reduceIte,Nat.reduceEqDiff,Nat.reduceLT,Nat.reduceLeDiff,Nat.reduceAdd,Nat.reduceBEq,reduceCtorEq,u0,u7,u11,u49,u50,u51,ud,dd0,dd1,dd2,ddz,dA,dT,hlA];refine⟨rfl,⟨rfl,by omega,by omega⟩,fun j hj=> ?_,?_⟩
     ·rcases zsi hj with hj|hj
      ·exact uk j hj
      ·rw[beq_iff_eq]at hj;subst hj;rfl
     ·unfold jcV;rw[lA',fA'];rfl
    ·rintro f h ⟨u0,u7,u11,u49,u50,u51,ud,uk,rfl⟩;show awp _ _ _ _ _ _ _;refine ny dV 24 (.one 24<| .one 25<| .fin) (fun f' h'=>f'.t 0= .lp 3 0/\f'.t 7= .lp 8 0/\f'.t 11= .fn (.func 57) [] [.lp 8 0]/\f'.t 49=prs m.g.ands/\f'.t 50=vi m.g.ands.length/\f'.t 51=vi i/\f'.d=[]/\(∀j,f'.k j=true->(j==5||decide (6<=j))=true)/\h'=hA9 x0 x1 x2 ni zs init beg pr (plV l) m A' (T++[F+(A.length:Int)])++[.cells [vi p.1,vi p.2]]) (by decide +kernel) ?_ ?_
     ·intro K hK;simp only[List.take_succ_cons,List.take_zero];simp only[wq.1,↓reduceIte,Nat.reduceEqDiff,Nat.reduceLT,Nat.reduceLeDiff,Nat.reduceAdd,reduceCtorEq,Nat.reduceMul,u0,u7,w1,w2];refine⟨⟨rfl,by decide⟩,hK _ ?_⟩;simp only[wq.1,seval,u0,u7,u11,u49,u50,u51,ud,dd0,dd1,dd2,ddz,dT,dA'];refine⟨⟨by omega,by omega,by omega⟩,fun j hj=> ?_⟩;rcases zsi hj with hj|hj
      ·exact uk j hj
      ·rw[beq_iff_eq]at hj;subst hj;rfl
     ·rintro f h ⟨u0,u7,u11,u49,u50,u51,ud,uk,rfl⟩;show awp _ _ _ _ _ _ _;have hst:vK F (A0,to0 l m first) (m.g.ands.take (i+1))=(A',T++[F+(A.length:Int)]):=by rw[hsu,hA'];rfl
      refine vm ?_;simp only[wq.1,seval,u51,hw];refine .inl ⟨q-1,by omega,i+1,[.cells [vi p.1,vi p.2]],by omega,u0,u7,u11,u49,u50,rfl,ud,?_,fun j hj=>uk j hj⟩;rw[hst];simp only[zql,zqa,zrk];rfl
   ·simp only[zqd,zqi]at hlt;have:i=m.g.ands.length:=by omega
    subst this;rw[zrx]at hAT;rw[hAT]at hr;refine vm ?_;simp only[wq.1];show awp _ _ _ _ _ _ _;refine vn ?_;simp only[wq.1,seval,u11];refine Em (h0:=hAd x0 x1 x2 ni zs init beg pr (plV l) A) (Y:=[.cells (cCM m),.cells (T.map vi),.cells [.ls 7 1 0 T.length T.length]]) 6 (.fn (.func 57) [] [.ip (ay T)]) (fun j hj=>by have hj:j∈f.d:=hj;rw[ud]at hj;cases hj) ?_ ?_ ?_
    ·rfl
    ·refine aH.fn aj.nil (aj.cons (aH.lp (cs:=[.ls 7 1 0 T.length T.length]) rfl (aj.cons (dw ?_ rfl) aj.nil) rfl (by simp only[V.dat,jH]) (by simp[V.vc]) rfl) aj.nil);show some (O.cells (V.drops _ _))=_;rw[aI]
    ·have hcl6:(hAd x0 x1 x2 ni zs init beg pr (plV l) A).map (O.drop (aJ (hAd x0 x1 x2 ni zs init beg pr (plV l) A).length))=hAd x0 x1 x2 ni zs init beg pr (plV l) A:=by simp only[wq.1,seval,hAd,V.drops,V.drop,dd0,dd1,dd2,ddz,dA,aJ]
     rw[hcl6,hcl6];refine vm ?_;simp only[wq.1,seval,ud];refine⟨fun j hj=> ?_,hr⟩;rcases zsi hj with hj|hj
     ·rcases zsi hj with hj|hj
      ·exact uk j hj
      ·have:6<=j:=by simpa [aJ]using hj
       simp;omega
     ·have:6<=j:=by simpa [aJ]using hj
      simp;omega
def ddN(f:Int)(A:List Pq):Nat->List Pq×Cl
 |0=>([],[])
 |i+1=>if((ddN f A i).1.findIdx? (·==A.getD i (0,0))).isSome then ddN f A i else((ddN f A i).1++[A.getD i (0,0)],(ddN f A i).2++[2*(f+(i:Int))])
theorem P8{f:Int}{A:List Pq}:∀i,(ddN f A i).2.length=(ddN f A i).1.length/\(ddN f A i).1.length<=i
 |0=>⟨rfl,zrb _⟩
 |i+1=>by
  obtain⟨h1,h2⟩:=P8 (f:=f) (A:=A) i;unfold ddN;split
  ·exact⟨h1,by omega⟩
  ·simp only[zqa,zrk];omega
theorem P9{f:Int}{A:List Pq}:∀i,i<=A.length->∀key:Pq,((ddN f A i).1.findIdx? (·==key)).map (fun j=>(ddN f A i).2.getD j 0)=((A.take i).findIdx? (·==key)).map fun j:Nat=>2*(f+(j:Int))
 |0,_,key=>by simp[ddN]
 |i+1,hi,key=>by
  have ih:=P9 (f:=f) (A:=A) i (by omega);obtain⟨h1,h2⟩:=P8 (f:=f) (A:=A) i;have hil:i<A.length:=by omega
  have htk:A.take (i+1)=A.take i++[A[i]]:=by rw[zrg,zqk hil];rfl
  have hgd:A.getD i (0,0)=A[i]:=aS hil;have hlt:(A.take i).length=i:=by simp;omega
  rw[htk,List.findIdx?_append];show Option.map (fun j=>(ddN f A (i+1)).2.getD j 0) ((ddN f A (i+1)).1.findIdx? (·==key))=_;unfold ddN;rw[hgd];have ihp:=ih A[i];have ihk:=ih key;split
  ·rename_i hs;rw[ihk];cases hk:(A.take i).findIdx? (·==key)with
   |some j=>rfl
   |none =>
    have hne:(A[i]==key)=false:=by
     cases he:A[i]==key with
     |false=>rfl
     |true=>have he:=beq_iff_eq.1 he;rw[<-he]at hk;rw[hk,Option.map_none]at ihp;rw[Option.isSome_iff_exists]at hs;obtain⟨j,hj⟩:=hs;rw[hj]at ihp;cases ihp
    simp[List.findIdx?_cons,hne]
  ·rename_i hs;rw[List.findIdx?_append];cases hk:(ddN f A i).1.findIdx? (·==key)with
   |some j =>
    rw[hk]at ihk;obtain⟨hj,_⟩:=List.findIdx?_eq_some_iff_getElem.1 hk;cases hk2:(A.take i).findIdx? (·==key)with
    |none=>rw[hk2]at ihk;cases ihk
    |some j2=>rw[hk2]at ihk;have ihk:=Option.some.inj ihk;show some (List.getD (_++_) j 0)=some _;rw[<-ihk,zqg,zqj (by omega),<-zqg]
   |none =>
    rw[hk]at ihk;cases hk2:(A.take i).findIdx? (·==key)with
    |some j2=>rw[hk2]at ihk;cases ihk
    |none =>
     cases he:A[i]==key with
     |false=>simp[List.findIdx?_cons,he]
     |true=>simp only[List.findIdx?_cons,he,List.findIdx?_nil,zrw,Option.none_or,Option.or_none,cond_true,if_true,Nat.zero_add,hlt];rw[zqg,zsb (by omega),h1,Nat.sub_self];rfl
abbrev jcJ(ni:Int)(n:Nat)(init beg:Cl)(pr:List Pq)(iv:V)(A:List Pq):List V:=[vi ni,.ls 4 1 0 n n,ay init,prs A,.nils,ay beg,prs pr,iv,.bool false]
abbrev gC(ni:Int)(n:Nat)(init:Cl)(A:List Pq):List V:=[vi ni,.ls 4 1 0 n n,ay init,prs A,.nils]
abbrev hB(x0 x1 x2:List V)(ni:Int)(zs init beg:Cl)(pr:List Pq)(iv:V)(A:List Pq):H:=[.cells x0,.cells x1,.cells x2,.cells (jcJ ni zs.length init beg pr iv A),.cells (zs.map vi),.cells (gC ni zs.length init A),.cells [vi 0,.nils,.nils,.nils,.nils]]
abbrev hB2(x0 x1 x2:List V)(ni:Int)(zs init beg:Cl)(pr:List Pq)(iv:V)(A0:List Pq)(M:O)(A:List Pq):H:=[.cells x0,.cells x1,.cells x2,.cells (jcJ ni zs.length init beg pr iv A0),.cells (zs.map vi),.cells (gC ni zs.length init A0),.cells [vi 0,.nils,.nils,.nils,.nils],.cells (gC ni zs.length init A0),M,.cells [vi ni,.ls 4 1 0 zs.length zs.length,ay init,.ls 10 2 0 A.length A.length,.nils,.lm 8,.nils],.cells (fl A)]
abbrev ddO(f:Int)(A:List Pq)(i:Nat):O:= .map ((ddN f A i).1.map prV) ((ddN f A i).2.map vi)
theorem AZ{p:Nat->Bool}(A:List Pq):V.drops p (A.map prV)=A.map prV:=jX
variable{iv:V}{f0:Int}
theorem FY(hf:f0=1+ni+(zs.length:Int))(d0:V.dats x0=true)(d1:V.dats x1=true)(d2:V.dats x2=true)(di:iv.dat=true)(n0:0<=ni)(n1:ni<=4000)(hz:zs.length<=4000)(hA:A.length<=8000){R:AEnd->H->(Nat->Bool)->Prop}
 (hr:R (.ret (.lp 9 0)) (hB2 x0 x1 x2 ni zs init beg pr iv A (ddO f0 A A.length) A) (fun _=>false)) :
 ag TE 85 [.agg (gC ni zs.length init A)] (hB x0 x1 x2 ni zs init beg pr iv A) R:=by
 have hM:=mLx;have dd0:∀p,V.drops p x0=x0:=fun p=>bi.dats_drops _ d0;have dd1:∀p,V.drops p x1=x1:=fun p=>bi.dats_drops _ d1;have dd2:∀p,V.drops p x2=x2:=fun p=>bi.dats_drops _ d2;have ddi:∀p,iv.drop p=iv:=fun p=>bi _ di;have ddz:∀p,V.drops p (zs.map vi)=zs.map vi:=fun p=>aI _;have hcl:=LK A (by omega);have hfst:=jT ⟨ni,zs,init,A,[]⟩ (by show _<=ni;omega) (by show ni<=_;omega) (by show zs.length<=_;omega);rw[show Gr.first ⟨ni,zs,init,A,[]⟩=f0 from hf.symm]at hfst;refine ag.fresh ?_;refine ah Tryz.func85 rfl (by simp[nts]) ?_;refine vn ?_;simp only[wq.1,seval,Tryz.results85];refine vn ?_;simp only[wq.1,seval];refine vn ?_;simp only[wq.1,seval];refine jG hcl (by simp only[V.dats,V.dat,zre]) (Pv _) ?_;simp only[wq.1,seval];refine ak ?_;refine vn ?_;simp only[wq.1,seval];refine aB ?_;refine aC (fun q f h=>∃(i:Nat)(X:H),q+i=A.length/\f.t 1= .lp 7 0/\f.t 3= .lp 9 0/\f.t 20=prs A/\f.t 21=vi A.length/\f.t 22=vi i/\f.d=[]/\h=hB2 x0 x1 x2 ni zs init beg pr iv A (ddO f0 A i) A++X/\∀j,j<7->f.k j=false) A.length ⟨0,[],by omega,rfl,rfl,rfl,rfl,rfl,rfl,rfl,fun j hj=>rfl⟩ ?_;rintro q f h ⟨i,X,hq,t1,t3,t20,t21,t22,hd,rfl,hk⟩;have dA:∀p,V.drops p (fl A)=fl A:=fun p=>y9 _;have dK:∀p,V.drops p ((ddN f0 A i).1.map prV)=(ddN f0 A i).1.map prV:=fun p=>AZ _;have dL:∀p,V.drops p ((ddN f0 A i).2.map vi)=(ddN f0 A i).2.map vi:=fun p=>aI _;have hcl:(hB2 x0 x1 x2 ni zs init beg pr iv A (ddO f0 A i) A).map (O.drop (aJ (hB2 x0 x1 x2 ni zs init beg pr iv A (ddO f0 A i) A).length))=hB2 x0 x1 x2 ni zs init beg pr iv A (ddO f0 A i) A:=by simp only[wq.1,seval,V.drops,V.drop,dd0,dd1,dd2,ddi,ddz,dA,dK,dL,aJ]
 refine gp (by rw[hd];simp) ?_;rw[hcl];have u1:(f.drop (aJ (hB2 x0 x1 x2 ni zs init beg pr iv A (ddO f0 A i) A).length)).t 1= .lp 7 0:=by simp only[wq.1,seval,t1,aJ]
 have u3:(f.drop (aJ (hB2 x0 x1 x2 ni zs init beg pr iv A (ddO f0 A i) A).length)).t 3= .lp 9 0:=by simp only[wq.1,seval,t3,aJ]
 have u20:(f.drop (aJ (hB2 x0 x1 x2 ni zs init beg pr iv A (ddO f0 A i) A).length)).t 20=prs A:=by simp only[wq.1,Nat.reduceAdd,t20]
 have u21:(f.drop (aJ (hB2 x0 x1 x2 ni zs init beg pr iv A (ddO f0 A i) A).length)).t 21=vi A.length:=by simp only[wq.1,Nat.reduceAdd,t21]
 have u22:(f.drop (aJ (hB2 x0 x1 x2 ni zs init beg pr iv A (ddO f0 A i) A).length)).t 22=vi i:=by simp only[wq.1,Nat.reduceAdd,t22]
 have ud:(f.drop (aJ (hB2 x0 x1 x2 ni zs init beg pr iv A (ddO f0 A i) A).length)).d=[]:=hd;have uk:∀j,j<7->(f.drop (aJ (hB2 x0 x1 x2 ni zs init beg pr iv A (ddO f0 A i) A).length)).k j=false:=fun j hj=>by show(f.k j||aJ 11 j)=false;rw[hk j hj];simp[aJ];omega
 generalize f.drop (aJ (hB2 x0 x1 x2 ni zs init beg pr iv A (ddO f0 A i) A).length)=f at u1 u3 u20 u21 u22 ud uk ⊢;clear t1 t3 t20 t21 t22 hd hk hcl;refine vn ?_;simp only[wq.1,Nat.reduceLT,u21,u22];refine ak (aV (b:=decide ((i:Int)<A.length)) (by simp only[wq.1,↓reduceIte]) (by simp only[wq.1,↓reduceIte]) (fun hlt=> ?_) (fun hlt=> ?_))
 ·simp only[zqb,zqi]at hlt;have hw:=aA (show i<maxLen by omega);obtain⟨p,hp⟩:∃p,p=A[i]:=⟨_,rfl⟩;have hgp:(A.map prV).getD i .any=prV p:=by rw[hp];exact VB hlt _
  have hgd:A.getD i (0,0)=p:=by rw[hp];exact aS hlt
  have hfi:=uj p (ddN f0 A i).1;have w1:IntKind.i64.wrap (f0+(i:Int))=f0+i:=aU (by omega) (by omega);have w2:IntKind.i64.wrap (2*(f0+(i:Int)))=2*(f0+i):=aU (by omega) (by omega);refine vm ?_;simp only[wq.1];refine ak (aB ?_);refine vn ?_;simp only[wq.1,seval,u20,u22,hgp];refine⟨⟨by omega,by omega⟩,?_⟩;cases hfx:(ddN f0 A i).1.findIdx? (·==p)with
  |some j =>
   rw[hfx]at hfi;have hst:ddN f0 A (i+1)=ddN f0 A i:=by
    show(if _ then _ else _)=_;rw[hgd,hfx];rfl
   refine vn ?_;simp only[wq.1,seval,u3,qp,hfi,Abs.K.keyOk];refine⟨by decide +kernel,?_⟩;refine vm ?_;simp only[wq.1,seval];refine vm ?_;simp only[wq.1,seval,u22,hw];exact .inl ⟨q-1,by omega,i+1,[.cells [vi p.1,vi p.2]],by omega,u1,u3,u20,u21,rfl,ud,by unfold ddO;rw[hst],uk⟩
  |none =>
   rw[hfx]at hfi;have hst:ddN f0 A (i+1)=((ddN f0 A i).1++[p],(ddN f0 A i).2++[2*(f0+(i:Int))]):=by
    show(if _ then _ else _)=_;rw[hgd,hfx];rfl
   have hge:∀(Y:H),aj TE (hB2 x0 x1 x2 ni zs init beg pr iv A (ddO f0 A i) A++Y) [.agg (gC ni zs.length init A)] [Gr.v ⟨ni,zs,init,A,[]⟩]:=fun Y=>aj.cons (aH.agg (aj.cons (aH.dat rfl) (aj.cons (dw rfl rfl) (aj.cons (aH.dat Wj) (aj.cons (aH.dat (by simp only[V.dat])) (aj.cons aH.nils aj.nil)))))) aj.nil;refine vn ?_;simp only[wq.1,seval,u3,qp,hfi,Abs.K.keyOk];refine⟨by decide +kernel,?_⟩;refine vn ?_;simp only[wq.1,seval];refine aV (b:=true) (by simp only[wq.1,↓reduceIte]) (by simp only[wq.1,↓reduceIte]) (fun _=> ?_) (fun h=>by cases h);refine yA dV 10 (.one 10<| .fin) (fun f' h'=>f'.t 1= .lp 7 0/\f'.t 3= .lp 9 0/\f'.t 20=prs A/\f'.t 21=vi A.length/\f'.t 22=vi i/\f'.d=[]/\(∀j,j<7->f'.k j=false)/\h'=hB2 x0 x1 x2 ni zs init beg pr iv A (ddO f0 A (i+1)) A++[.cells [vi p.1,vi p.2]]) (by decide +kernel) ?_ ?_
   ·intro K hK;simp only[List.take_succ_cons,List.take_zero];simp only[wq.1,seval,fQ,u1,u3];refine zV.mk hfst (by decide +kernel) (hge [.cells [vi p.1,vi p.2]]) rfl ?_;simp only[wq.1,seval,w1,w2];refine hK _ ?_;simp only[wq.1,seval,u1,u3,u20,u21,u22,ud,Iw,hfi,Abs.K.keyOk];exact⟨uk,by unfold ddO;rw[hst,zql,zql];rfl⟩
   ·rintro f h ⟨u1,u3,u20,u21,u22,ud,uk,rfl⟩;show awp _ _ _ _ _ _ _;refine vm ?_;simp only[wq.1,seval,u22,hw];exact .inl ⟨q-1,by omega,i+1,[.cells [vi p.1,vi p.2]],by omega,u1,u3,u20,u21,rfl,ud,rfl,uk⟩
 ·simp only[zqd,zqi]at hlt;have:i=A.length:=by omega
  subst this;refine vm ?_;simp only[wq.1];show awp _ _ _ _ _ _ _;refine vm ?_;simp only[wq.1,seval,u3,ud];exact⟨uk,hr⟩
variable{p q:Int}
theorem L6{vs:Cl}{ks:List Pq}(hf:f0=1+ni+(zs.length:Int))(d0:V.dats x0=true)(d1:V.dats x1=true)(d2:V.dats x2=true)(di:iv.dat=true)(n0:0<=ni)(n1:ni<=4000)(hz:zs.length<=4000)(hA:A.length<=8000)
 (hvl:vs.length=ks.length) (hlk:∀key:Pq,(ks.findIdx? (·==key)).map (fun j=>vs.getD j 0)=(A.findIdx? (·==key)).map fun j:Nat=>2*(f0+(j:Int)))
 (p0:0<=p) (p1:p<=100000) (q0:0<=q) (q1:q<=100000) {R:AEnd->H->(Nat->Bool)->Prop}
 (hr:∀M X,R (.ret (vi (jg f0 A p q).2)) (hB2 x0 x1 x2 ni zs init beg pr iv A0 M (jg f0 A p q).1++X) (fun i=>decide (10<=i))) :
 ag TE 51 [.lp 9 0,vi p,vi q] (hB2 x0 x1 x2 ni zs init beg pr iv A0 (.map (ks.map prV) (vs.map vi)) A) R:=by
 have hM:=mLx;have dd0:∀p,V.drops p x0=x0:=fun p=>bi.dats_drops _ d0;have dd1:∀p,V.drops p x1=x1:=fun p=>bi.dats_drops _ d1;have dd2:∀p,V.drops p x2=x2:=fun p=>bi.dats_drops _ d2;have ddi:∀p,iv.drop p=iv:=fun p=>bi _ di;have ddz:∀p,V.drops p (zs.map vi)=zs.map vi:=fun p=>aI _;have dA:∀p,V.drops p (fl A)=fl A:=fun p=>y9 _;have dK:∀p,V.drops p (ks.map prV)=ks.map prV:=fun p=>AZ _;have dL:∀p,V.drops p (vs.map vi)=vs.map vi:=fun p=>aI _;obtain⟨P,hP⟩:∃P,P=max p q:=⟨_,rfl⟩;obtain⟨Q,hQ⟩:∃Q,Q=min p q:=⟨_,rfl⟩;have bP:0<=P/\P<=100000/\0<=Q/\Q<=100000:=by omega
 have hxo:=pY (a:=P) (by omega) (by omega);have hav:jg f0 A p q=if Q=0\/qF P=Q then(A,0)else if Q=1\/P=Q then(A,P)else match A.findIdx? (·==(P,Q))with
  |some i=>(A,2*(f0+(i:Int)))
  |none=>(A++[(P,Q)],2*(f0+(A.length:Int))):=by rw[hP,hQ];rfl
 obtain⟨r,hrv⟩:∃r,r=jg f0 A p q:=⟨_,rfl⟩;rw[<-hrv]at hr hav;have early:∀v,r=(A,v)->∀X,R (.ret (vi v)) (hB2 x0 x1 x2 ni zs init beg pr iv A0 (.map (ks.map prV) (vs.map vi)) A++X) (fun i=>decide (10<=i)):=fun v hv X=>by have:=hr (.map (ks.map prV) (vs.map vi)) X;rw[hv]at this;exact this
 refine ag.kp (fun i=>decide (10<=i)) ?_;refine ah Tryz.func51 rfl (by simp[nts]) ?_;refine vn ?_;simp only[wq.1,Nat.reduceLT,Tryz.results51];refine vn ?_;simp only[wq.1,seval,mx,mn];rw[<-hP,<-hQ];cases e1:Q==0 with
 |true=>refine vn ?_;simp only[wq.1,seval,e1];have:=early 0 (by rw[hav,if_pos (.inl (by simpa using e1))]) [];rw[zqp]at this;exact this
 |false =>
 cases e2:qF P==Q with
 |true=>refine vn ?_;simp only[wq.1,seval,e1,e2,hxo];have:=early 0 (by rw[hav,if_pos (.inr (by simpa using e2))]) [];rw[zqp]at this;exact this
 |false =>
 have n1':¬(Q=0\/qF P=Q):=by
  simp only[beq_eq_false_iff_ne,ne_eq]at e1 e2;rintro(h|h)
  ·exact e1 h
  ·exact e2 h
 rw[if_neg n1']at hav;cases e3:Q==1 with
 |true=>refine vn ?_;simp only[wq.1,seval,e1,e2,e3,hxo];have:=early P (by rw[hav,if_pos (.inl (by simpa using e3))]) [];rw[zqp]at this;exact this
 |false =>
 cases e4:P==Q with
 |true=>refine vn ?_;simp only[wq.1,seval,e1,e2,e3,e4,hxo];have:=early P (by rw[hav,if_pos (.inr (by simpa using e4))]) [];rw[zqp]at this;exact this
 |false =>
 have n2':¬(Q=1\/P=Q):=by
  simp only[beq_eq_false_iff_ne,ne_eq]at e3 e4;rintro(h|h)
  ·exact e3 h
  ·exact e4 h
 rw[if_neg n2']at hav;have hfi:=uj (P,Q) ks;have hlk:=hlk (P,Q);refine vn ?_;simp only[wq.1,seval,e1,e2,e3,e4,hxo];refine vn ?_;simp only[wq.1,seval];cases hfx:ks.findIdx? (·==(P,Q))with
 |some j =>
  rw[hfx]at hfi hlk;obtain⟨hj,_⟩:=List.findIdx?_eq_some_iff_getElem.1 hfx;cases hfa:A.findIdx? (·==(P,Q))with
  |none=>rw[hfa]at hlk;cases hlk
  |some i =>
   rw[hfa]at hlk hav;have hlk:vs.getD j 0=2*(f0+(i:Int)):=Option.some.inj hlk;have hgv:(vs.map vi).getD j .any=vi (2*(f0+(i:Int))):=by rw[<-hlk,aS (show j<vs.length by omega)];exact wU _ _
   refine vn ?_;simp only[wq.1,seval,qp,hfi,Abs.K.keyOk,hgv];refine⟨by decide +kernel,?_⟩;exact early _ hav [.cells [vi P,vi Q]]
 |none =>
  rw[hfx]at hfi hlk;cases hfa:A.findIdx? (·==(P,Q))with
  |some i=>rw[hfa]at hlk;cases hlk
  |none =>
   rw[hfa]at hav;have hfst:=jT ⟨ni,zs,init,A,[]⟩ (by show _<=ni;omega) (by show ni<=_;omega) (by show zs.length<=_;omega);rw[show Gr.first ⟨ni,zs,init,A,[]⟩=f0 from hf.symm]at hfst;have hge:aj TE (hB2 x0 x1 x2 ni zs init beg pr iv A0 (.map (ks.map prV) (vs.map vi)) A++[.cells [vi P,vi Q]]) [.agg [vi ni,.ls 4 1 0 zs.length zs.length,ay init,.ls 10 2 0 A.length A.length,.nils]] [Gr.v ⟨ni,zs,init,A,[]⟩]:=aj.cons (aH.agg (aj.cons (aH.dat rfl) (aj.cons (dw rfl rfl) (aj.cons (aH.dat Wj) (aj.cons (l7 rfl rfl) (aj.cons aH.nils aj.nil)))))) aj.nil;have w1:IntKind.i64.wrap (f0+(A.length:Int))=f0+A.length:=aU (by omega) (by omega);have w2:IntKind.i64.wrap (2*(f0+(A.length:Int)))=2*(f0+A.length):=aU (by omega) (by omega);have hlA:(fl A).length=A.length*2:=AP A;obtain⟨A',hA'⟩:∃A',A'=A++[(P,Q)]:=⟨_,rfl⟩;have lA':A'.length=A.length+1:=by rw[hA'];simp
   have fA':fl A'=fl A++[vi P,vi Q]:=by rw[hA'];simp only[fl,List.flatMap_append,List.flatMap_cons,List.flatMap_nil,zqp]
   rw[<-hA']at hav;refine vn ?_;simp only[wq.1,seval,qp,hfi,Abs.K.keyOk];refine⟨by decide +kernel,?_⟩;refine ak (yA dV 13 (.one 13<| .fin) (fun f' h'=>f'.t 0= .lp 9 0/\f'.t 7= .lp 11 0/\f'.t 10=vi (2*(f0+A.length))/\f'.d=[]/\(∀j,f'.k j=false)/\h'=hB2 x0 x1 x2 ni zs init beg pr iv A0 (.map (ks.map prV) (vs.map vi)) A++[.cells [vi P,vi Q]]) (by decide +kernel) ?_ ?_)
   ·intro K hK;simp only[List.take_succ_cons,List.take_zero];simp only[wq.1,seval,fQ];refine zV.mk hfst (by decide +kernel) hge rfl ?_;simp only[wq.1,seval,w1,w2];refine hK _ ?_;simp only[wq.1,↓reduceIte,Nat.reduceEqDiff,Nat.reduceLT,reduceCtorEq]
   ·rintro f h ⟨u0,u7,u10,ud,uk,rfl⟩;show awp _ _ _ _ _ _ _;refine ak (pK dV [0] [1,2,3,4,5,6,7] 8 (.one 8<| .take 9<| .take 10<| .take 11<| .one 12<| .fin) (fun f' h'=>f'.t 0= .lp 9 0/\f'.t 7= .lp 11 0/\f'.t 10=vi (2*(f0+A.length))/\f'.d=[]/\(∀j,f'.k j=true->decide (10<=j)=true)/\h'=hB2 x0 x1 x2 ni zs init beg pr iv A0 (.map (ks.map prV) (vs.map vi)) A'++[.cells [vi P,vi Q]]) (by decide +kernel) ?_ ?_)
    ·intro K hK;simp only[rH,List.filterMap_cons,List.filterMap_nil];simp only[wq.1,↓reduceIte,Nat.reduceEqDiff,Nat.reduceLT,Nat.reduceLeDiff,Nat.reduceAdd,reduceCtorEq,Nat.reduceMul,lh,fQ,u0,u7];refine⟨⟨rfl,by decide⟩,hK _ _ ?_⟩;simp only[wq.1,seval,u0,u7,u10,ud,dd0,dd1,dd2,ddi,ddz,dA,dK,dL,hlA];refine⟨rfl,⟨rfl,by omega,by omega⟩,fun j hj=> ?_,?_⟩
     ·rcases zsi hj with hj|hj
      ·rw[uk j]at hj;cases hj
      ·rw[beq_iff_eq]at hj;subst hj;rfl
     ·rw[lA',fA'];rfl
    ·rintro f h ⟨u0,u7,u10,ud,uk,rfl⟩;show awp _ _ _ _ _ _ _;refine ak (ny dV 6 (.one 6<| .fin) (fun f' h'=>f'.t 10=vi (2*(f0+A.length))/\f'.d=[]/\(∀j,f'.k j=true->decide (10<=j)=true)/\h'=hB2 x0 x1 x2 ni zs init beg pr iv A0 (.map (ks.map prV++[prV (P,Q)]) (vs.map vi++[vi (2*(f0+(A.length:Int)))])) A'++[.cells [vi P,vi Q]]) (by decide +kernel) ?_ ?_)
     ·intro K hK;simp only[List.take_succ_cons,List.take_zero];simp only[wq.1,seval,u0,u7,u10];refine hK _ ?_;simp only[wq.1,seval,u10,ud,Iw,hfi,Abs.K.keyOk];exact uk
     ·rintro f h ⟨u10,ud,uk,rfl⟩;show awp _ _ _ _ _ _ _;refine vm ?_;simp only[wq.1,seval,u10,ud];have:=hr (.map (ks.map prV++[prV (P,Q)]) (vs.map vi++[vi (2*(f0+(A.length:Int)))])) [.cells [vi P,vi Q]];rw[hav]at this;exact⟨uk,this⟩
abbrev hJ5(x0 x1 x2:List V)(ni:Int)(zs init beg:Cl)(pr:List Pq)(iv:V)(A:List Pq):H:=[.cells x0,.cells x1,.cells x2,.cells (jcJ ni zs.length init beg pr iv A),.cells (zs.map vi)]
theorem L8(hf:f0=1+ni+(zs.length:Int))(d0:V.dats x0=true)(d1:V.dats x1=true)(d2:V.dats x2=true)(di:iv.dat=true)
 (hg:Gr.chk ⟨ni,zs,init,A,[]⟩=0) (hA1:ni+(zs.length:Int)+(A.length:Int)<4000)
 (p0:0<=p) (p1:p<2*(f0+A.length)) (q0:0<=q) (q1:q<2*(f0+A.length)) {R:AEnd->H->(Nat->Bool)->Prop}
 (hr:R (.ret (.tup [.agg (gC ni zs.length init (jg f0 A p q).1),vi (jg f0 A p q).2,vi 0])) (hJ5 x0 x1 x2 ni zs init beg pr iv A++[.cells (gC ni zs.length init A),.cells (gC ni zs.length init (jg f0 A p q).1)]) (fun _=>false)) :
 ag TE 58 [.agg (gC ni zs.length init A),vi p,vi q] (hJ5 x0 x1 x2 ni zs init beg pr iv A) R:=by
 have hM:=mLx;have dd0:∀p,V.drops p x0=x0:=fun p=>bi.dats_drops _ d0;have dd1:∀p,V.drops p x1=x1:=fun p=>bi.dats_drops _ d1;have dd2:∀p,V.drops p x2=x2:=fun p=>bi.dats_drops _ d2;have ddi:∀p,iv.drop p=iv:=fun p=>bi _ di;have ddz:∀p,V.drops p (zs.map vi)=zs.map vi:=fun p=>aI _;obtain⟨_,i0,i1,i2,i3,i4,i5⟩:=aW hg;have i0:0<=ni:=i0;have i1:ni<=4000:=i1;have i2:ni+(zs.length:Int)+(A.length:Int)<=4000:=i2;have hck:=kR ⟨ni,zs,init,A,[]⟩ ⟨by show zs.length<=_;omega,by show A.length<=_;omega⟩;rw[hg]at hck;have hfst:=jT ⟨ni,zs,init,A,[]⟩ (by show _<=ni;omega) (by show ni<=_;omega) (by show zs.length<=_;omega);rw[show Gr.first ⟨ni,zs,init,A,[]⟩=f0 from hf.symm]at hfst;have hge:∀(Y:H),aj TE (hJ5 x0 x1 x2 ni zs init beg pr iv A++Y) [.agg (gC ni zs.length init A)] [Gr.v ⟨ni,zs,init,A,[]⟩]:=fun Y=>aj.cons (aH.agg (aj.cons (aH.dat rfl) (aj.cons (dw rfl rfl) (aj.cons (aH.dat Wj) (aj.cons (aH.dat (by simp only[V.dat])) (aj.cons aH.nils aj.nil)))))) aj.nil;have w1:IntKind.i64.wrap (f0+(A.length:Int))=f0+A.length:=aU (by omega) (by omega);have w2:IntKind.i64.wrap (2*(f0+(A.length:Int)))=2*(f0+A.length):=aU (by omega) (by omega);have b1:decide (p<0)=false:=by rw[zqd];omega
 have b2:decide (q<0)=false:=by rw[zqd];omega
 have b3:decide (2*(f0+(A.length:Int))<=p)=false:=by rw[zqd];omega
 have b4:decide (2*(f0+(A.length:Int))<=q)=false:=by rw[zqd];omega
 obtain⟨r,hrv⟩:∃r,r=jg f0 A p q:=⟨_,rfl⟩;have hrl:=qf (f0:=f0) (A:=A) (by omega) ⟨p0,p1⟩ ⟨q0,q1⟩;rw[<-hrv]at hr hrl;refine ag.fresh ?_;refine ah Tryz.func58 rfl (by simp[nts]) ?_;refine vn ?_;simp only[wq.1,seval,Tryz.results58];refine vn ?_;simp only[wq.1,seval];refine ag.lend hck (hge _) rfl ?_;simp only[wq.1,seval];refine ak (yA dV 7 (.one 7<| .fin) (fun f' h'=>f'.t 1=vi p/\f'.t 2=vi q/\f'.t 3= .lp 5 0/\f'.t 6= .lp 6 0/\f'.t 9=vi 0/\f'.t 10=vi (2*(f0+A.length))/\f'.d=[]/\(∀j,f'.k j=false)/\h'=hB x0 x1 x2 ni zs init beg pr iv A) (by decide +kernel) ?_ ?_)
 ·intro K hK;simp only[List.take_succ_cons,List.take_zero];simp only[wq.1,seval,fQ];refine zV.mk hfst (by decide +kernel) (hge _) rfl ?_;simp only[wq.1,seval,w1,w2];refine hK _ ?_;simp only[wq.1,seval]
  trace_state
 ·rintro f h ⟨t1,t2,t3,t6,t9,t10,hd,hk,rfl⟩;show awp _ _ _ _ _ _ _;refine vn ?_;simp only[wq.1,seval,t1,t2,t9,t10,b1,b2,b3,b4];have hlk:=P9 (f:=f0) (A:=A) A.length (zrb _);rw[zrx]at hlk;have hck2:=kR ⟨ni,zs,init,r.1,[]⟩ ⟨by show zs.length<=_;omega,by show r.1.length<=_;omega⟩;have hc8:Gr.chk ⟨ni,zs,init,r.1,[]⟩≠8:=by
   have hl:Gr.lim ⟨ni,zs,init,r.1,[]⟩=false:=by show(decide (ni<0)||decide (4000<ni)||decide (4000<ni+(zs.length:Int)+(r.1.length:Int))||decide (4000<(([]:Cl).length:Int)))=false;simp only[zsf,zqd,List.length_nil];omega
   unfold Gr.chk;rw[hl];simp only[zrm,if_false];split
   ·decide
   ·split<;>decide
  have e8:(Gr.chk ⟨ni,zs,init,r.1,[]⟩==8)=false:=by simpa using hc8
  refine vn ?_;simp only[wq.1,seval,t3];refine FY hf d0 d1 d2 di i0 i1 (by omega) (by omega) ?_;simp only[wq.1,seval];refine vn ?_;simp only[wq.1,seval,t1,t2];refine L6 hf d0 d1 d2 di i0 i1 (by omega) (by omega) (P8 _).1 hlk p0 (by omega) q0 (by omega) (fun M X=> ?_);rw[<-hrv];simp only[wq.1,seval,bJ,hd];refine ak ?_;refine vn ?_;simp only[wq.1,seval];have hge2:aj TE (hB2 x0 x1 x2 ni zs init beg pr iv A M r.1++X) [.agg [vi ni,.ls 4 1 0 zs.length zs.length,ay init,.ls 10 2 0 r.1.length r.1.length,.nils]] [Gr.v ⟨ni,zs,init,r.1,[]⟩]:=aj.cons (aH.agg (aj.cons (aH.dat rfl) (aj.cons (dw rfl rfl) (aj.cons (aH.dat Wj) (aj.cons (l7 rfl rfl) (aj.cons aH.nils aj.nil)))))) aj.nil;refine ag.lend hck2 hge2 rfl ?_;simp only[wq.1,seval,e8];refine vm ?_;simp only[wq.1,↓reduceIte];refine vn ?_;simp only[wq.1,seval,t6]
  change awp _ _ _ _ _ _ ((hJ5 x0 x1 x2 ni zs init beg pr iv A++[.cells (gC ni zs.length init A),.cells [vi ni,.ls 4 1 0 zs.length zs.length,ay init,.ls 10 2 0 r.1.length r.1.length,.nils]])++(.cells (gC ni zs.length init A)::M:: .cells [vi ni,.ls 4 1 0 zs.length zs.length,ay init,.ls 10 2 0 r.1.length r.1.length,.nils,.lm 8,.nils]:: .cells (fl r.1)::X))
  refine sZ (h0:=(hJ5 x0 x1 x2 ni zs init beg pr iv A++[.cells (gC ni zs.length init A),.cells [vi ni,.ls 4 1 0 zs.length zs.length,ay init,.ls 10 2 0 r.1.length r.1.length,.nils]])) (Y:=(.cells (gC ni zs.length init A)::M:: .cells [vi ni,.ls 4 1 0 zs.length zs.length,ay init,.ls 10 2 0 r.1.length r.1.length,.nils,.lm 8,.nils]:: .cells (fl r.1)::X)) 6 [vi ni,.ls 4 1 0 zs.length zs.length,ay init,.ls 10 2 0 r.1.length r.1.length,.nils] (gC ni zs.length init r.1) rfl ?_ ?_ ?_ ?_
  ·intro i o ho hne;rcases i with _|_|_|_|_|_|_|i
   ·obtain rfl:=Option.some.inj ho;rw[aZ,dd0]
   ·obtain rfl:=Option.some.inj ho;rw[aZ,dd1]
   ·obtain rfl:=Option.some.inj ho;rw[aZ,dd2]
   ·obtain rfl:=Option.some.inj ho;simp only[wq.1,seval,V.drops,V.drop,ddi,aJ]
   ·obtain rfl:=Option.some.inj ho;rw[aZ,ddz]
   ·obtain rfl:=Option.some.inj ho;simp only[wq.1,seval,V.drops,V.drop,aJ]
   ·exact absurd rfl hne
   ·simp at ho
  ·refine⟨.inl rfl,.inl rfl,.inl rfl,.inr ⟨rfl,l7 ?_ rfl⟩,.inl rfl,trivial⟩;show some (O.cells (V.drops _ _))=_;rw[y9]
  ·intro i hi;have hi:i∈f.d:=hi;rw[hd]at hi;cases hi
  ·refine vm ?_;simp only[wq.1,seval,t6,hd,aJ];refine⟨fun i hi=> ?_,hr⟩;rw[hk i];simp;omega
theorem L9(hf:f0=1+ni+(zs.length:Int))(d0:V.dats x0=true)(d1:V.dats x1=true)(d2:V.dats x2=true)(di:iv.dat=true)
 (hg:Gr.chk ⟨ni,zs,init,A,[]⟩=0) (hA1:ni+(zs.length:Int)+(A.length:Int)<4000)
 (p0:0<=p) (p1:p<2*(f0+A.length)) (q0:0<=q) (q1:q<2*(f0+A.length)) {R:AEnd->H->(Nat->Bool)->Prop}
 (hr:R (.ret (vi (jg f0 A p q).2)) (hJ5 x0 x1 x2 ni zs init beg pr iv (jg f0 A p q).1) (fun _=>false)) :
 ag TE 31 [.lp 3 0,vi p,vi q] (hJ5 x0 x1 x2 ni zs init beg pr iv A) R:=by
 have hM:=mLx;have dd0:∀p,V.drops p x0=x0:=fun p=>bi.dats_drops _ d0;have dd1:∀p,V.drops p x1=x1:=fun p=>bi.dats_drops _ d1;have dd2:∀p,V.drops p x2=x2:=fun p=>bi.dats_drops _ d2;have ddi:∀p,iv.drop p=iv:=fun p=>bi _ di;have ddz:∀p,V.drops p (zs.map vi)=zs.map vi:=fun p=>aI _;obtain⟨r,hrv⟩:∃r,r=jg f0 A p q:=⟨_,rfl⟩;rw[<-hrv]at hr;refine ag.fresh ?_;refine ah Tryz.func31 rfl (by simp[nts]) ?_;refine vn ?_;simp only[wq.1,seval,Tryz.results31];refine vn ?_;simp only[wq.1,seval];refine L8 hf d0 d1 d2 di hg hA1 p0 p1 q0 q1 ?_;rw[<-hrv];simp only[wq.1,seval];refine ak ?_;refine vn ?_;simp only[wq.1,seval];refine vm ?_;simp only[wq.1,↓reduceIte];refine vn ?_;simp only[wq.1,seval];refine vn ?_;simp only[wq.1,seval];refine gp (h0:=hJ5 x0 x1 x2 ni zs init beg pr iv r.1) (Y:=[.cells (gC ni zs.length init A),.cells (gC ni zs.length init r.1),.cells (gC ni zs.length init r.1)]) (fun j hj=>by cases hj) ?_;have hcl:(hJ5 x0 x1 x2 ni zs init beg pr iv r.1).map (O.drop (aJ (hJ5 x0 x1 x2 ni zs init beg pr iv r.1).length))=hJ5 x0 x1 x2 ni zs init beg pr iv r.1:=by simp only[wq.1,seval,V.drops,V.drop,dd0,dd1,dd2,ddi,ddz,aJ]
 rw[hcl];refine vm ?_;simp only[wq.1,seval,aJ];exact⟨fun i hi=>by simp;omega,hr⟩
abbrev jc0(bg:Cl)(pr:List Pq)(iv:V):List V:=[vi 0,.nils,.nils,.nils,.nils,ay bg,prs pr,iv,.bool false]
abbrev jc1(m:Mo)(bg:Cl)(pr:List Pq)(iv:V):List V:=[vi m.ins.length,.ls 4 1 0 bg.length bg.length,ay bg,.nils,.nils,ay bg,prs pr,iv,.bool false]
def hz8(m:Mo)(bg:Cl)(pr:List Pq)(iv:V)(x1 x2:List V)(b10 b21:Bool):H:=[.cells (cCM m),.cells x1,.cells x2,.cells (if b21=true then jc1 m bg pr iv else jc0 bg pr iv)]++if b10=true then [.cells (List.replicate bg.length (vi 0))]else []
def bf(m:Mo)(bg:Cl):List (Nat×Nat×V):=[(0,54,.lp 3 0),(1,55,.lp 0 5),(2,56,jq m.ins),(3,57,vi m.ins.length),(4,58,.lp 3 0),(5,59,.lp 3 0),(6,60,.lp 3 0),(7,61,.lp 3 5),(8,62,ay bg),(9,63,vi bg.length),(10,64,.ls 4 1 0 bg.length bg.length),(11,65,.lp 3 0),(12,66,.lp 3 0),(13,67,.lp 3 0),(14,68,.lp 3 5),(15,69,ay bg),(16,70,ay bg),(17,71,.agg [vi m.ins.length,.ls 4 1 0 bg.length bg.length,ay bg,.nils,.nils]),(18,72,.lp 3 0),(19,73,.lp 3 0),(20,74,.lp 3 0)]
def kE(okm:Bool):List (Nat×V):=[(2,.lp 0 0),(3,.lp 1 0),(4,.lp 2 0),(8,.lp 3 0),(9,.bool okm)]
theorem Yj(m:Mo)(bg:Cl)(okm:Bool)(pr:List Pq)(iv:V)(x1 x2:List V)(hb:bg.length<=8000)(hc:Ev TE 29 [ay bg] (ay bg)){r:Option Nat}{Q:XE->Fr->H->Prop}{f0:Fr}(g0:GA f0 (kE okm))(d0:f0.d=[])
 (hk:∀f ,GA f (kE okm)->f.d=[]->True->Q .normal f (hz8 m bg pr iv x1 x2 true true)) :
 awp TE 236 r (.region 8 (KR Tryz.f12 8) true) Q f0 (hz8 m bg pr iv x1 x2 false false):=by
 simp only[KR,Tryz.f12,zU,List.nil_append,zqp,List.headD_cons,Nat.reduceBEq,zrm,if_false,if_true,List.cons_append];obtain⟨I,hI⟩:∃I:Array Bool->Fr->H->Prop,∀L f h,I L f h↔(h=hz8 m bg pr iv x1 x2 (L.getD 10 false) (L.getD 21 false)/\FA L f (bf m bg)/\GA f (kE okm)/\f.d=[]):=⟨_,fun _ _ _=>Iff.rfl⟩;refine Cc dV I (by decide +kernel) ?_ ?_ ?_
 ·exact(hI _ _ _).2 ⟨rfl,FA.none,g0,d0⟩
 ·intro L f h i hcl hII hi;obtain⟨rfl,hfa,hg,hd⟩:=(hI _ _ _).1 hII;have t2:f.t 2= .lp 0 0:=hg (2,.lp 0 0) (by simp[kE]);have t3:f.t 3= .lp 1 0:=hg (3,.lp 1 0) (by simp[kE]);have t4:f.t 4= .lp 2 0:=hg (4,.lp 2 0) (by simp[kE]);have t8:f.t 8= .lp 3 0:=hg (8,.lp 3 0) (by simp[kE]);have t9:f.t 9= .bool okm:=hg (9,.bool okm) (by simp[kE]);have b0:(hz8 m bg pr iv x1 x2 (L.getD 10 false) (L.getD 21 false):H)[0]? =some (.cells (cCM m)):=rfl;have hlt:i<22:=Cb hi;have pu:∀(d:Nat)(v:V),(∀x∈(bf m bg),x.1=i->x.2.1=d/\x.2.2=v)->(∀x∈(bf m bg),x.2.1=d->x.1=i)->(decide (d∉([2,3,4,8,9]:List Nat))&&decide (i∉([10,21]:List Nat)))=true->I (L.setIfInBounds i true) (f.put (some d) v) (hz8 m bg pr iv x1 x2 (L.getD 10 false) (L.getD 21 false)):=by
   intro d v h1 h2 h3;rw[zqf,zqb,zqb]at h3;simp only[zrj,zrp,or_false,not_or,not_false_eq_true,and_true,true_and]at h3;refine(hI _ _ _).2 ⟨by rw[getD_set_ne false (by omega),getD_set_ne false (by omega)],hfa.put h1 h2,hg.put (by simp[kE];omega),hd⟩
  match i,hlt with
  |0,_=>have pu:=pu 54 (.lp 3 0) (by simp[bf]) (by simp[bf]) (by decide);simp only[wq.1,Nat.reduceLT,t8];exact pu
  |1,_=>have pu:=pu 55 (.lp 0 5) (by simp[bf]) (by simp[bf]) (by decide);simp only[wq.1,Nat.reduceLT,t2];exact pu
  |2,_=>have dp:=aQ hi (l:=[1]) (by decide +kernel);have e55:f.t 55= .lp 0 5:=hfa (1,55,.lp 0 5) (by simp[bf]) (dp 1 (by simp));have pu:=pu 56 (jq m.ins) (by simp[bf]) (by simp[bf]) (by decide);simp only[wq.1,seval,b0,e55];exact pu
  |3,_=>have dp:=aQ hi (l:=[2]) (by decide +kernel);have e56:f.t 56=jq m.ins:=hfa (2,56,jq m.ins) (by simp[bf]) (dp 2 (by simp));have pu:=pu 57 (vi m.ins.length) (by simp[bf]) (by simp[bf]) (by decide);simp only[wq.1,Nat.reduceLT,e56];exact pu
  |4,_=>have pu:=pu 58 (.lp 3 0) (by simp[bf]) (by simp[bf]) (by decide);simp only[wq.1,Nat.reduceLT,t8];exact pu
  |5,_=>have dp:=aQ hi (l:=[4]) (by decide +kernel);have e58:f.t 58= .lp 3 0:=hfa (4,58,.lp 3 0) (by simp[bf]) (dp 4 (by simp));have pu:=pu 59 (.lp 3 0) (by simp[bf]) (by simp[bf]) (by decide);simp only[wq.1,Nat.reduceLT,e58];exact pu
  |6,_=>have dp:=aQ hi (l:=[5]) (by decide +kernel);have e59:f.t 59= .lp 3 0:=hfa (5,59,.lp 3 0) (by simp[bf]) (dp 5 (by simp));have pu:=pu 60 (.lp 3 0) (by simp[bf]) (by simp[bf]) (by decide);simp only[wq.1,Nat.reduceLT,e59];exact pu
  |7,_=>have dp:=aQ hi (l:=[6]) (by decide +kernel);have e60:f.t 60= .lp 3 0:=hfa (6,60,.lp 3 0) (by simp[bf]) (dp 6 (by simp));have pu:=pu 61 (.lp 3 5) (by simp[bf]) (by simp[bf]) (by decide);simp only[wq.1,Nat.reduceLT,e60];exact pu
  |8,_ =>
   have dp:=aQ hi (l:=[7]) (by decide +kernel);have e61:f.t 61= .lp 3 5:=hfa (7,61,.lp 3 5) (by simp[bf]) (dp 7 (by simp));have pu:=pu 62 (ay bg) (by simp[bf]) (by simp[bf]) (by decide);have no:=jk hi;have n9:=eG hcl no (i:=9) (by decide +kernel);have n10:=eG hcl n9 (i:=10) (by decide +kernel);have n17:=eG hcl n10 (i:=17) (by decide +kernel);have n21:=eG hcl n17 (i:=21) (by decide +kernel);have b3:(hz8 m bg pr iv x1 x2 (L.getD 10 false) (L.getD 21 false):H)[3]? =some (.cells (jc0 bg pr iv)):=by rw[n21];rfl
   simp only[wq.1,seval,e61,b3];exact pu
  |9,_=>have dp:=aQ hi (l:=[8]) (by decide +kernel);have e62:f.t 62=ay bg:=hfa (8,62,ay bg) (by simp[bf]) (dp 8 (by simp));have pu:=pu 63 (vi bg.length) (by simp[bf]) (by simp[bf]) (by decide);simp only[wq.1,Nat.reduceLT,e62];exact pu
  |10,_=>have dp:=aQ hi (l:=[9]) (by decide +kernel);have e63:f.t 63=vi bg.length:=hfa (9,63,vi bg.length) (by simp[bf]) (dp 9 (by simp));have no:=jk hi;have n17:=eG hcl no (i:=17) (by decide +kernel);have n21:=eG hcl n17 (i:=21) (by decide +kernel);rw[no,n21];simp only[wq.1,seval,e63];refine⟨⟨by omega,by omega⟩,?_⟩;show I _ (f.put (some 64) (.ls 4 1 0 bg.length bg.length)) _;refine(hI _ _ _).2 ⟨?_,hfa.put (by simp[bf]) (by simp[bf]),hg.put (by simp[kE]),hd⟩;rw[kJ (kP hi),getD_set_ne false (by decide),n21];rfl
  |11,_=>have pu:=pu 65 (.lp 3 0) (by simp[bf]) (by simp[bf]) (by decide);simp only[wq.1,Nat.reduceLT,t8];exact pu
  |12,_=>have dp:=aQ hi (l:=[11]) (by decide +kernel);have e65:f.t 65= .lp 3 0:=hfa (11,65,.lp 3 0) (by simp[bf]) (dp 11 (by simp));have pu:=pu 66 (.lp 3 0) (by simp[bf]) (by simp[bf]) (by decide);simp only[wq.1,Nat.reduceLT,e65];exact pu
  |13,_=>have dp:=aQ hi (l:=[12]) (by decide +kernel);have e66:f.t 66= .lp 3 0:=hfa (12,66,.lp 3 0) (by simp[bf]) (dp 12 (by simp));have pu:=pu 67 (.lp 3 0) (by simp[bf]) (by simp[bf]) (by decide);simp only[wq.1,Nat.reduceLT,e66];exact pu
  |14,_=>have dp:=aQ hi (l:=[13]) (by decide +kernel);have e67:f.t 67= .lp 3 0:=hfa (13,67,.lp 3 0) (by simp[bf]) (dp 13 (by simp));have pu:=pu 68 (.lp 3 5) (by simp[bf]) (by simp[bf]) (by decide);simp only[wq.1,Nat.reduceLT,e67];exact pu
  |15,_ =>
   have dp:=aQ hi (l:=[14]) (by decide +kernel);have e68:f.t 68= .lp 3 5:=hfa (14,68,.lp 3 5) (by simp[bf]) (dp 14 (by simp));have pu:=pu 69 (ay bg) (by simp[bf]) (by simp[bf]) (by decide);have no:=jk hi;have n16:=eG hcl no (i:=16) (by decide +kernel);have n17:=eG hcl n16 (i:=17) (by decide +kernel);have n21:=eG hcl n17 (i:=21) (by decide +kernel);have b3:(hz8 m bg pr iv x1 x2 (L.getD 10 false) (L.getD 21 false):H)[3]? =some (.cells (jc0 bg pr iv)):=by rw[n21];rfl
   simp only[wq.1,seval,e68,b3];exact pu
  |16,_=>have dp:=aQ hi (l:=[15]) (by decide +kernel);have e69:f.t 69=ay bg:=hfa (15,69,ay bg) (by simp[bf]) (dp 15 (by simp));have pu:=pu 70 (ay bg) (by simp[bf]) (by simp[bf]) (by decide);simp only[wq.1,Nat.reduceLT,e69];refine ag.ev (hc) (by simp only[V.dats,V.dat,zre]) ?_;simp only[wq.1];exact pu
  |17,_=>have dp:=aQ hi (l:=[3,10,16]) (by decide +kernel);have e57:f.t 57=vi m.ins.length:=hfa (3,57,vi m.ins.length) (by simp[bf]) (dp 3 (by simp));have e64:f.t 64= .ls 4 1 0 bg.length bg.length:=hfa (10,64,.ls 4 1 0 bg.length bg.length) (by simp[bf]) (dp 10 (by simp));have e70:f.t 70=ay bg:=hfa (16,70,ay bg) (by simp[bf]) (dp 16 (by simp));have pu:=pu 71 (.agg [vi m.ins.length,.ls 4 1 0 bg.length bg.length,ay bg,.nils,.nils]) (by simp[bf]) (by simp[bf]) (by decide);simp only[wq.1,seval,e57,e64,e70];exact pu
  |18,_=>have dp:=aQ hi (l:=[0]) (by decide +kernel);have e54:f.t 54= .lp 3 0:=hfa (0,54,.lp 3 0) (by simp[bf]) (dp 0 (by simp));have pu:=pu 72 (.lp 3 0) (by simp[bf]) (by simp[bf]) (by decide);simp only[wq.1,Nat.reduceLT,e54];exact pu
  |19,_=>have dp:=aQ hi (l:=[18]) (by decide +kernel);have e72:f.t 72= .lp 3 0:=hfa (18,72,.lp 3 0) (by simp[bf]) (dp 18 (by simp));have pu:=pu 73 (.lp 3 0) (by simp[bf]) (by simp[bf]) (by decide);simp only[wq.1,Nat.reduceLT,e72];exact pu
  |20,_=>have dp:=aQ hi (l:=[19]) (by decide +kernel);have e73:f.t 73= .lp 3 0:=hfa (19,73,.lp 3 0) (by simp[bf]) (dp 19 (by simp));have pu:=pu 74 (.lp 3 0) (by simp[bf]) (by simp[bf]) (by decide);simp only[wq.1,Nat.reduceLT,e73];exact pu
  |21,_=>have dp:=aQ hi (l:=[20,17]) (by decide +kernel);have e74:f.t 74= .lp 3 0:=hfa (20,74,.lp 3 0) (by simp[bf]) (dp 20 (by simp));have e71:f.t 71= .agg [vi m.ins.length,.ls 4 1 0 bg.length bg.length,ay bg,.nils,.nils]:=hfa (17,71,.agg [vi m.ins.length,.ls 4 1 0 bg.length bg.length,ay bg,.nils,.nils]) (by simp[bf]) (dp 17 (by simp));have dp:=aQ hi (l:=[17,20]) (by decide +kernel);have e71:f.t 71= .agg [vi m.ins.length,.ls 4 1 0 bg.length bg.length,ay bg,.nils,.nils]:=hfa (17,71,.agg [vi m.ins.length,.ls 4 1 0 bg.length bg.length,ay bg,.nils,.nils]) (by simp[bf]) (dp 17 (by simp));have e74:f.t 74= .lp 3 0:=hfa (20,74,.lp 3 0) (by simp[bf]) (dp 20 (by simp));have no:=jk hi;have d17:L.getD 10 false=true:=Et hcl (dp 17 (by simp)) (l:=[10]) (by decide +kernel) 10 (by simp);have hz3:(hz8 m bg pr iv x1 x2 true false)[3]? =some (.cells (jc0 bg pr iv)):=rfl;rw[no,d17];simp only[wq.1,seval,e71,e74,hz3];refine(hI _ _ _).2 ⟨?_,hfa.skip (by simp[bf]),hg,hd⟩;rw[kJ (kP hi),getD_set_ne false (by decide),d17];rfl
  |n+22,h=>exact absurd h (by omega)
 ·intro L f h hall hII;obtain⟨rfl,hfa,hg,hd⟩:=(hI _ _ _).1 hII;have h10:=hall 10 (by decide +kernel);have h21:=hall 21 (by decide +kernel);rw[h10,h21];exact hk f hg hd trivial
end Go.Proofs.YthdidjjecjhenaaGreat
