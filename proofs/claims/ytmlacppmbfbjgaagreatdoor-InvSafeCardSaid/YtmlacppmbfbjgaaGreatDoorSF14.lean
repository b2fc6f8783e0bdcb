/- Lemmas for this claim, part F14: each holds under what it names. -/
import Derived.Test.YtmlacppmbfbjgaaGreatDoorSF13
import Derived.Test.YtmlacppmbfbjgaaGreatDoorSA7
import Derived.Shelf.Sort.Plain
import Derived.Shelf.Strings.Count
import Derived.Shelf.Strings.LastIndex
import Derived.Shelf.Small.Strs
import Derived.Shelf.Strings.OnBuilder
import Derived.Shelf.Strings.Search1
set_option linter.unusedVariables false
set_option linter.unusedSimpArgs false
set_option linter.unnecessarySimpa false
set_option maxRecDepth 20000
set_option maxHeartbeats 8000000
namespace Go.Proofs.YtmlacppmbfbjgaaGreatDoor
open Go Go.Proofs Go.Abs
def QFn (m:Mo) (q:Qn) (fid:FuncId) (caps:List V) (h:H) (N:Nat):Prop :=
 ∃caps',(∀h2:H,(∀i o,N≤i→h[i]? =some o→h2[i]? =some o)→aj TE (oU (fun i=>decide (N≤i)) 0 h2) caps caps')∧V.drops (fun i=> !decide (N≤i)) caps=caps∧V.dats caps'=true∧ai P fid=true∧(yw m.g q.beg q.steps=0→Ev TE fid (uV (q.n m) (bV m.g q.beg q.steps).cl (eP m.g q.beg q.steps)::caps') (cls q.more))
theorem NP {h:H} {N i:Nat} (hN:N≤i) {c:List Lt} (hi:h[i]? =some (.cells [iL c])):(oU (fun i=>decide (N≤i)) 0 h)[i]? =some (.cells [iL c]):=by rw[oh,hi,zrw,if_pos (by simpa using hN)];rfl
theorem NQ (id N : Nat) (h : H) (m : Mo) (l : List (List Lt)) (bad : Int) (hm : m.chk = 0) (hkl : ∀ c ∈ l,∀ x ∈ c,dF m x.1 = true) (hl : l.length ≤ 200) (hcl : ∀ c ∈ l,c.length ≤ 1000) (b1 : bad < m.g.outs.length)
 (I:Nat→H→(Nat→Bool)→Prop) (Stop:Option Code→H→(Nat→Bool)→Prop)
 (hN:∀j h k,I j h k→N≤h.length)
 (hap:∀j h k o,I j h k→I j (h++[o]) k)
 (h0:I 0 h (fun _=>false))
 (step:∀j h' k q fid caps,(qns m l bad)[j]? =some q→k id=false→I j h' k→QFn m q fid caps h' N →
  Xd TE id [.agg [vi q.part,vi q.clause,aF q.beg,vi q.steps,.fn (.func fid) [] caps]] h' fun jm h'' p=>(jm=none∧I (j+1) h'' (fun i=>k i||p i))∨(jm.isNone=false∧Stop jm h'' (fun i=>k i||p i))) :
 ah TE 77 ([]++[.yd id]++[.ip (.ip (kV m l)),.ip (vi bad)]) h fun ae h' p=>p id=false∧match ae with
  | .ret _=>I (qns m l bad).length h' p∨∃j,Stop j h' p
  | .pan _=>False:=by
 have hM:maxLen=9223372036854775807:=rfl;obtain⟨nv,i0,i1,hlat⟩:=NK hm;have hrp:=Jj 2 m.lat.length (by omega);refine ax Tryz.func77 rfl (by simp[nts]) ?_;refine ag (vm ?_);simp only[wq.1,↓reduceIte,Nat.reduceEqDiff,Nat.reduceLT,Nat.reduceLeDiff,Nat.reduceAdd,reduceCtorEq,Nat.reduceMul,Tryz.results77];refine⟨⟨rfl,by decide⟩,ah.ev (Ev.le (gU.cons bW (gU.refl _)) hrp) rfl ?_⟩;have eany:List.replicate m.lat.length (2:Int)=nN m:=rfl;rw[eany];simp only[wq.1,seval];obtain⟨hg,hi,hle,ho⟩:=iY hm;obtain⟨_,g0,g1,g2,g3,g4,g5⟩:=fE hg;obtain⟨r1,r2,r3,r4⟩:=fM g4;have hgo:∀a∈m.g.outs,a≤1000000:=fun a ha=>by
  have:=r4 a ha;have wf:m.g.first=1+m.g.ins+m.g.next.length:=rfl
  have wa:m.g.all=2*(m.g.first+m.g.ands.length):=rfl;omega
 have u0:UOk m (eP m.g m.g.init 0):=Ag hm (uH hm).1 (uH hm).2 (Nat.zero_le _);have u1:UOk m (eP m.g (nN m) 1):=Ag hm E8 sZ (zrb _);have hcl':∀c∈l,c.length≤1000000:=fun c hc=>by have:=hcl c hc;omega
 have ql:(qns m l bad).length=l.length+(l.length+if 0≤bad then 1 else 0):=by unfold qns;split<;>simp
 have qa:∀i (hi:i<l.length),(qns m l bad)[i]? =some (qn0 m i l[i]):=fun i hi=>by unfold qns;rw[zqj (by simpa using hi),zqo,List.getElem?_range hi];simp[zqg,hi]
 have qb:∀i (hi:i<l.length),(qns m l bad)[l.length+i]? =some (qn1 m l i l[i]):=fun i hi=>by unfold qns;rw[List.getElem?_append_right (by simp),zra,List.length_range,show l.length+i-l.length=i by omega,zqj (by simpa using hi),zqo,List.getElem?_range hi];simp[zqg,hi]
 have qc:0≤bad→(qns m l bad)[l.length+l.length]? =some (qn2 m l bad):=fun hb=>by unfold qns;rw[List.getElem?_append_right (by simp),zra,List.length_range,show l.length+l.length-l.length=l.length by omega,List.getElem?_append_right (by simp),zra,List.length_range,Nat.sub_self,if_pos hb];rfl
 refine ag ?_;refine ag (vm ?_);simp only[wq.1,seval];refine aG ?_;refine aC (fun q f h=>∃i,q+i=l.length∧f.t 0= .yd id∧f.t 1= .ip (.ip (kV m l))∧f.t 2= .ip (vi bad)∧f.t 4=aF (nN m)∧f.t 20=lss l∧f.t 21=vi l.length∧f.t 22=vi i∧f.d=[]∧f.k id=false∧I i h f.k) l.length ⟨0,by omega,by simp only[wq.1,seval],by simp only[wq.1,seval],by simp only[wq.1,seval],by simp only[wq.1,seval],by simp only[wq.1,seval],by simp only[wq.1,seval],by simp only[wq.1,↓reduceIte];rfl,by simp only[wq.1],by simp only[wq.1],by simp only[wq.1];exact h0⟩ ?_;rintro q f h ⟨i,hq,t0,t1,t2,t4,t20,t21,t22,hd,hk,hIk⟩;refine ag (vm ?_);simp only[wq.1,Nat.reduceLT,t21,t22];refine ag (bD (b:=decide ((i:Int)<l.length)) (by simp only[wq.1,↓reduceIte]) (by simp only[wq.1,↓reduceIte]) (fun hlt=> ?_) (fun hlt=> ?_))
 ·simp only [zqb,zqi] at hlt;have hw := aA (show i < maxLen by omega);have hgl := xI hlt .any;have hcm := zqu hlt;have hIn := hap _ _ _ (.cells [iL l[i]]) hIk;have hNh := hN _ _ _ hIk;have hy := step i (h ++ [.cells [iL l[i]]]) f.k _ 79 [.ip (.ip (kV m l)),.lp h.length 0] (qa i hlt) hk hIn
   ⟨[.ip (.ip (kV m l)),.ip (iL l[i])],fun h2 hh=>aj.cons (az.dat rfl) (aj.cons (az.lp (NP (c:=l[i]) hNh (hh _ _ hNh jJ)) (aj.dat (by simp only[V.dats,V.dat,fK,zre])) rfl (by simp only[V.dat,fK]) (by simp[V.vc]) rfl) aj.nil),by simp[V.drops,V.drop,hNh],rfl,rfl,
     fun _=>VQ m l _ _ _ l[i] (hkl _ hcm) u0 (hcl' _ hcm)⟩
  have hlo:∀o:O,(h++[o])[h.length]? =some o:=fun o=>jJ;have hso:∀o o':O,(h++[o]).set h.length o'=h++[o']:=fun o o'=>qL;obtain⟨t,n',ps,asg,body,pend,hL,hsz,hps,hw2⟩:=hy;refine vm ?_;simp only[wq.1];refine ag (aG ?_);refine ag (vm ?_);simp only[wq.1,seval,t20,t22,hgl,hlo,hso];refine⟨⟨by omega,by omega⟩,?_⟩;refine ag (vm ?_);simp only[wq.1,seval,t0,t1,hL];refine⟨⟨by simpa using hsz,hps⟩,vF hw2 ?_⟩;rintro j h' p hp (⟨rfl,hI2⟩ | ⟨hj,hS⟩)
  ·refine⟨by simp[Ei,hd],?_⟩;simp only[wq.1,seval,Option.isNone_none];refine vm ?_;simp only[wq.1,↓reduceIte];refine vm ?_;simp only[wq.1,seval,t22,hw];refine .inl ⟨q-1,by omega,i+1,by omega,by simp only[wq.1,seval,t0,hp],by simp only[wq.1,seval,t1],by simp only[wq.1,seval,t2],by simp only[wq.1,seval,t4],by simp only[wq.1,seval,t20],by simp only[wq.1,seval,t21],by simp only[wq.1,↓reduceIte],hd,by simp only[wq.1,hk,hp],by simp only[wq.1];exact hI2⟩
  ·refine⟨by simp[Ei,hd],?_⟩;simp only[wq.1,seval,hj];refine vm ?_;simp only[wq.1,↓reduceIte,hd,hp,hk];exact .inr ⟨j,hS⟩
 ·simp only [zqd,zqi] at hlt;have : i = l.length := by omega
  subst this;refine vm ?_;simp only[wq.1];show awp _ _ _ _ _ _ _;refine ag ?_;refine ag (vm ?_);simp only[wq.1,seval,t1];refine aG ?_;refine aC (fun q f h=>∃i,q+i=l.length∧f.t 0= .yd id∧f.t 1= .ip (.ip (kV m l))∧f.t 2= .ip (vi bad)∧f.t 4=aF (nN m)∧f.t 43=lss l∧f.t 44=vi l.length∧f.t 45=vi i∧f.d=[]∧f.k id=false∧I (l.length+i) h f.k) l.length ⟨0,by omega,t0,t1,t2,t4,by simp only[wq.1,seval],by simp only[wq.1,seval],by simp only[wq.1,↓reduceIte];rfl,hd,by simp only[wq.1,hk],by simp only[wq.1];exact hIk⟩ ?_;clear t0 t1 t2 t4 t20 t21 t22 hd hk hIk;rintro q f h ⟨i,hq,t0,t1,t2,t4,u43,u44,u45,hd,hk,hIk⟩;refine ag (vm ?_);simp only[wq.1,Nat.reduceLT,u44,u45];refine ag (bD (b:=decide ((i:Int)<l.length)) (by simp only[wq.1,↓reduceIte]) (by simp only[wq.1,↓reduceIte]) (fun hlt=> ?_) (fun hlt=> ?_))
  ·simp only [zqb,zqi] at hlt;have hw := aA (show i < maxLen by omega);have hgl := xI hlt .any;have hcm := zqu hlt;have hIn := hap _ _ _ (.cells [iL l[i]]) hIk;have hNh := hN _ _ _ hIk;have hy := step (l.length + i) (h ++ [.cells [iL l[i]]]) f.k _ 81 [.ip (.ip (kV m l)),.lp h.length 0] (qb i hlt) hk hIn
    ⟨[.ip (.ip (kV m l)),.ip (iL l[i])],fun h2 hh=>aj.cons (az.dat rfl) (aj.cons (az.lp (NP (c:=l[i]) hNh (hh _ _ hNh jJ)) (aj.dat (by simp only[V.dats,V.dat,fK,zre])) rfl (by simp only[V.dat,fK]) (by simp[V.vc]) rfl) aj.nil),by simp[V.drops,V.drop,hNh],rfl,rfl,
      fun _=>VR m l _ _ _ l[i] (hkl _ hcm) hkl u1 (hcl' _ hcm) (by omega) hcl'⟩
   have hlo:∀o:O,(h++[o])[h.length]? =some o:=fun o=>jJ;have hso:∀o o':O,(h++[o]).set h.length o'=h++[o']:=fun o o'=>qL;obtain⟨t,n',ps,asg,body,pend,hL,hsz,hps,hw2⟩:=hy;refine vm ?_;simp only[wq.1];refine ag (aG ?_);refine ag (vm ?_);simp only[wq.1,seval,u43,u45,hgl,hlo,hso];refine⟨⟨by omega,by omega⟩,?_⟩;refine ag (vm ?_);simp only[wq.1,seval,t0,t1,t4,hL];refine⟨⟨by simpa using hsz,hps⟩,vF hw2 ?_⟩;rintro j h' p hp (⟨rfl,hI2⟩ | ⟨hj,hS⟩)
   ·refine⟨by simp[Ei,hd],?_⟩;simp only[wq.1,seval,Option.isNone_none];refine vm ?_;simp only[wq.1,↓reduceIte];refine vm ?_;simp only[wq.1,seval,u45,hw];refine .inl ⟨q-1,by omega,i+1,by omega,by simp only[wq.1,seval,t0,hp],by simp only[wq.1,seval,t1],by simp only[wq.1,seval,t2],by simp only[wq.1,seval,t4],by simp only[wq.1,seval,u43],by simp only[wq.1,seval,u44],by simp only[wq.1,↓reduceIte],hd,by simp only[wq.1,hk,hp],by simp only[wq.1];exact hI2⟩
   ·refine⟨by simp[Ei,hd],?_⟩;simp only[wq.1,seval,hj];refine vm ?_;simp only[wq.1,↓reduceIte,hd,hp,hk];exact .inr ⟨j,hS⟩
  ·simp only [zqd,zqi] at hlt;have : i = l.length := by omega
   subst this;refine vm ?_;simp only[wq.1];show awp _ _ _ _ _ _ _;refine ag (vm ?_);simp only[wq.1,seval,t2];refine bD (b:=decide (0≤bad)) (by simp only[wq.1,↓reduceIte]) (by simp only[wq.1,↓reduceIte]) (fun hb=> ?_) (fun hb=> ?_)
   ·simp only [zqb] at hb;have hy := step (l.length + l.length) h f.k _ 84 [.ip (.ip (kV m l)),.ip (vi bad)] (qc hb) hk hIk
     ⟨[.ip (.ip (kV m l)),.ip (vi bad)],fun _ _=>aj.dat rfl,rfl,rfl,rfl,
       fun _=>V5 m l _ _ _ bad hkl u1 (by omega) hcl' hb b1 hgo⟩
    obtain⟨t,n',ps,asg,body,pend,hL,hsz,hps,hw2⟩:=hy;refine vm ?_;simp only[wq.1,seval,t0,t1,t2,t4,hL];refine⟨⟨by simpa using hsz,hps⟩,vF hw2 ?_⟩;rintro j h' p hp (⟨rfl,hI2⟩ | ⟨hj,hS⟩)
    ·refine⟨by simp[Ei,hd],?_⟩;simp only[wq.1,hd,hp,hk,Option.isNone_none];refine .inl ?_;rw[ql,if_pos hb];exact hI2
    ·refine⟨by simp[Ei,hd],?_⟩;simp only[wq.1,hd,hp,hk,hj];exact .inr ⟨j,hS⟩
   ·simp only[zqd]at hb;refine vm ?_;simp only[wq.1,hd,hk];refine .inl ?_;rw[ql,if_neg hb];exact hIk
theorem Qi {pc:Nat} {bad:Int} {h:H} {R:AEnd→H→(Nat→Bool)→Prop} (hr:R (.ret (.fn (.func 77) [] [.lp h.length 0,.lp (h.length+1) 0])) (h++[.cells [.lp pc 0],.cells [vi bad]]) (fun _=>false)):ah TE 48 [.lp pc 0,vi bad] h R:=by refine ax Tryz.func48 rfl (by simp[nts]) (vm ?_);simp only[wq.1,seval,Tryz.results48];rw[zqc];exact hr
abbrev mC (m:Mo):List V:=[vi m.g.ins,aF m.g.next,aF m.g.init,prs m.g.ands,aF m.g.outs,dE m.ins,dE m.lat,dE m.out]
abbrev kC (m:Mo) (l:List (List Lt)):List V:=[vi m.g.ins,aF m.g.next,aF m.g.init,prs m.g.ands,aF m.g.outs,dE m.ins,dE m.lat,dE m.out,lss l,imV (ru m)]
abbrev hCk (m:Mo) (bud:Int) (v:List V) (e:Int):H:=[.cells (mC m),.cells [vi bud],.cells v,.cells [vi e],.dead,.dead,.dead,.dead]
theorem Qj {qs:List Qn} {j:Nat} {q:Qn} (h:qs[j]? =some q):qs.drop j=q::qs.drop (j+1):=by obtain⟨hj,rfl⟩:=zqe h;exact List.drop_eq_getElem_cons hj
theorem V8 {m:Mo} {l:List (List Lt)} {bad:Int} (hm:m.chk=0) (hl:l.length≤1000000) (hcl:∀c∈l,c.length≤1000):∀q∈qns m l bad,QOk m q:=fun q hq=>by
 have hg:∀i,(l.getD i []).length≤1000:=fun i=>by
  by_cases h:i<l.length
  ·rw[zqg,zqk h];exact hcl _ (zqu h)
  ·rw[zqg,List.getElem?_eq_none (by omega)];simp
 unfold qns at hq;rcases zrf.1 hq with hq | hq
 ·obtain⟨i,_,rfl⟩:=zrh.1 hq;exact Xp hm (hg i)
 ·rcases zrf.1 hq with hq | hq
  ·obtain⟨i,_,rfl⟩:=zrh.1 hq;exact Xq hl hcl (hg i)
  ·split at hq
   ·rw[zrc.1 hq];exact Xr hl hcl
   ·cases hq
theorem rC (m:Mo) (l:List (List Lt)) (bad bud:Int) (hs:m.g.Sm) (hlat:m.lat.length≤1000000) (hl:l.length≤1000000) (hcl:∀c∈l,c.length≤1000) (hb:V4 m bud) :
 EvR TE 20 [m.v,lss l,vi bad,vi bud] (fun r=>∃a,jy m l bad bud a∧r= .tup [a.1.v,vi a.2]):=by
 have hM:maxLen=9223372036854775807:=rfl;have hpl:=yA m hs l hlat hl (fun c hc=>by have:=hcl c hc;omega);unfold Mo.v at hpl ⊢;have dp:V.dats [.agg (mC m),lss l]=true:=by simp only[V.dats,V.dat,(gV l).1,zre]
 refine EvR.of_calls ?_;refine ax Tryz.func20 rfl (by simp[nts]) ?_;refine ag (vm ?_);simp only[wq.1,seval,Tryz.results20];refine ag (vm ?_);simp only[wq.1,seval];refine ah.ev hpl dp ?_;simp only[wq.1,seval];refine ag (aG ?_);by_cases hz:(bY m l).2=0
 ·have ez : ((bY m l).2 != 0) = false := by simpa using hz
  refine ag (vm ?_);simp only[wq.1,seval,ez];obtain⟨hm,hkn,hp1⟩:m.chk=0∧jo m l=true∧(bY m l).1=imV (ru m):=by
   unfold bY at hz ⊢;by_cases h1:m.chk≠0
   ·rw[if_pos h1]at hz;exact absurd hz h1
   ·rw [if_neg h1] at hz ⊢;by_cases h2 : jo m l = true
    ·rw[if_pos h2];exact⟨by omega,h2,rfl⟩
    ·rw[if_neg h2]at hz;cases hz
  rw[hp1,hz];have hkl:∀c∈l,∀x∈c,dF m x.1=true:=fun c hc x hx=>zrs.1 (zrs.1 hkn c hc) x hx;obtain⟨hg,hi,hle,ho⟩:=iY hm;by_cases hbd:bad< -1∨(m.out.length:Int)≤bad∨200<l.length
  ·have hC : jy m l bad bud (Ve.z,1) := by unfold jy;rw [if_neg (by rw [hz];decide),if_pos hbd]
   cases d1:decide (bad< -1)with
   | true=>refine vm ?_;simp only[wq.1,seval,d1];refine⟨_,⟨(Ve.z,1),hC,rfl⟩,?_⟩;exact az.tup (aj.cons (az.agg (aj.cons (az.dat rfl) (aj.cons (az.dat rfl) (aj.cons (az.dat rfl) (aj.cons az.nils aj.nil))))) (aj.cons (az.dat rfl) aj.nil))
   | false =>
    cases d2:decide ((m.out.length:Int)≤bad)with
    | true=>refine vm ?_;simp only[wq.1,seval,d1,d2];refine⟨_,⟨(Ve.z,1),hC,rfl⟩,?_⟩;exact az.tup (aj.cons (az.agg (aj.cons (az.dat rfl) (aj.cons (az.dat rfl) (aj.cons (az.dat rfl) (aj.cons az.nils aj.nil))))) (aj.cons (az.dat rfl) aj.nil))
    | false =>
     have d3:decide ((200:Int)<(l.length:Int))=true:=by simp only[zqd]at d1 d2;rw[zqb];omega
     refine vm ?_;simp only[wq.1,seval,d1,d2,d3];refine⟨_,⟨(Ve.z,1),hC,rfl⟩,?_⟩;exact az.tup (aj.cons (az.agg (aj.cons (az.dat rfl) (aj.cons (az.dat rfl) (aj.cons (az.dat rfl) (aj.cons az.nils aj.nil))))) (aj.cons (az.dat rfl) aj.nil))
  ·have d1 : decide (bad < -1) = false := by rw [zqd];omega
   have d2:decide ((m.out.length:Int)≤bad)=false:=by rw[zqd];omega
   have d3:decide ((200:Int)<(l.length:Int))=false:=by rw[zqd];omega
   refine vm ?_;simp only[wq.1,seval,d1,d2,d3];show awp _ _ _ _ _ _ _;refine ag (vm ?_);simp only[wq.1,seval,imV];refine ag ?_;refine ag (vm ?_);simp only[wq.1,seval];refine Qi ?_;simp only[wq.1,Nat.reduceAdd];have hkd:V.dats (kC m l)=true:=by simp only[kC,imV,V.dats,V.dat,(gV l).1,gG,kH,zre]
   refine mV (fun f => f.t 7 = .lp 1 0 ∧ f.t 8 = .lp 2 0 ∧ f.t 9 = .lp 3 0 ∧ f.t 12 = .lp 5 0 ∧ f.t 50 = .fn (.func 77) [] [.lp 6 0,.lp 7 0] ∧ f.d = []) [.cells (mC m),.cells [vi bud],.cells [vi 0,vi 0,vi 0,.nils],.cells [vi 0],.cells (kC m l),.cells [.lp 4 0],.cells [.lp 4 0],.cells [vi bad]]
    (fun hk=>hk _ ⟨by simp only[wq.1,seval],by simp only[wq.1,seval],by simp only[wq.1,seval],by simp only[wq.1,seval],by simp only[wq.1,↓reduceIte],by simp only[wq.1]⟩) ?_
   rintro f ⟨t7,t8,t9,t12,t50,hd⟩;have hkr:∀id:Nat,(oU (fun i=>decide (4≤i)) 0 ([.cells (mC m),.cells [vi bud],.cells [vi 0,vi 0,vi 0,.nils],.cells [vi 0],.cells (kC m l),.cells [.lp 4 0],.cells [.lp 4 0],.cells [vi bad]]:H))[id]? =some (.cells [.lp 4 0])→az TE (oU (fun i=>decide (4≤i)) 0 ([.cells (mC m),.cells [vi bud],.cells [vi 0,vi 0,vi 0,.nils],.cells [vi 0],.cells (kC m l),.cells [.lp 4 0],.cells [.lp 4 0],.cells [vi bad]]:H)) (.lp id 0) (.ip (.ip (kV m l))):=fun id hid=>by
    refine az.lp hid (aj.cons (v':= .ip (kV m l)) ?_ aj.nil) rfl rfl (by simp[V.vc]) rfl;exact az.lp (cs:=kC m l) (by show some (O.cells (V.drops _ (kC m l)))=_;rw[qM.dats_drops _ hkd]) (aj.dat hkd) rfl hkd (by simp[V.vc]) rfl
   refine zq (fun i=>decide (4≤i)) (fun i=>if i=12 then .ip (.ip (kV m l))else if i=50 then .fn (.func 77) [] [.ip (.ip (kV m l)),.ip (vi bad)]else V.drop (fun i=>decide (4≤i)) (f.t i)) (fun i=> ?_) (by rw[hd];simp) ?_
   ·by_cases h12 : i = 12
    ·subst h12;right;rw[if_pos rfl,t12];exact⟨rfl,hkr 5 rfl⟩
    ·by_cases h50 : i = 50
     ·subst h50;right;rw[if_neg (by decide),if_pos rfl,t50];exact⟨rfl,az.fn aj.nil (aj.cons (hkr 6 rfl) (aj.cons (az.lp (id:=7) (cs:=[vi bad]) rfl (aj.dat rfl) rfl rfl (by simp[V.vc]) rfl) aj.nil))⟩
     ·left;rw[if_neg h12,if_neg h50]
   have e0 : iO (fun i => decide (4 ≤ i)) 0 ([.cells (mC m),.cells [vi bud],.cells [vi 0,vi 0,vi 0,.nils],.cells [vi 0],.cells (kC m l),.cells [.lp 4 0],.cells [.lp 4 0],.cells [vi bad]] : H) = hCk m bud [vi 0,vi 0,vi 0,.nils] 0 := rfl;rw [e0];refine mV (fun f => f.t 7 = .lp 1 0 ∧ f.t 8 = .lp 2 0 ∧ f.t 9 = .lp 3 0 ∧ f.t 12 = .ip (.ip (kV m l)) ∧ f.t 50 = .fn (.func 77) [] [.ip (.ip (kV m l)),.ip (vi bad)] ∧ f.d = []) _
    (fun hk=>hk _ ⟨by show V.drop _ (f.t 7)=_;rw[t7];rfl,by show V.drop _ (f.t 8)=_;rw[t8];rfl,by show V.drop _ (f.t 9)=_;rw[t9];rfl,rfl,rfl,hd⟩) ?_
   clear t7 t8 t9 t12 t50 hd e0 hkr f;rintro f ⟨t7,t8,t9,t12,t50,hd⟩;refine aG ?_;refine Io (n:=74) (q:=77) (first:=[]) (captured:=[.ip (.ip (kV m l)),.ip (vi bad)]) (by simp only[wq.1,t50]) (by simp only[wq.1,t50]) rfl (by decide) ?_;intro L hLd gets;have hnr:jy m l bad bud=DZ m bud (qns m l bad):=by
    funext r
    unfold jy;rw[if_neg (by rw[hz];decide),if_neg hbd]
   have hrfin:∀a:Ve×Int,DZ m bud (qns m l bad) a→jy m l bad bud a:=fun a h=>by rw[hnr];exact h
   refine ah.mono (NQ 9 10 _ m l bad hm hkl (by omega) hcl (by omega)
    (fun j h k=>(∀i,i<10→k i=false)∧∃t X,t 7= .lp 1 0∧t 8= .lp 2 0∧t 9= .lp 3 0∧t 12= .ip (.ip (kV m l))∧h=hCk m bud [vi 0,vi 0,vi 0,.nils] 0++[.misc .dfd,L t .ready none]++X∧∀r,DZ m bud ((qns m l bad).drop j) r→DZ m bud (qns m l bad) r)
    (fun j h k=>(∀i,i<10→k i=false)∧j=some .ret∧∃t X a,DZ m bud (qns m l bad) a∧h=hCk m bud [vi a.1.res,vi a.1.part,vi a.1.clause,aY a.1.state] a.2++[.misc .dfd,L t .done (some .ret)]++X)
    ?_ ?_ ?_ ?_) ?_
   ·rintro j h k ⟨_,t,X,_,_,_,_,rfl,_⟩;simp
   ·rintro j h k o ⟨hk,t,X,a1,a2,a3,a4,rfl,a5⟩;exact⟨hk,t,X++[o],a1,a2,a3,a4,by rw[zqc],a5⟩
   ·exact⟨fun _ _=>rfl,f.t,[],t7,t8,t9,t12,rfl,fun r h=>h⟩
   ·rintro j h' k q fid caps hq hk ⟨hk10,t,X,t7,t8,t9,t12,eh,hrun⟩ ⟨caps',hcr,hcd,hcdat,hent,hmore⟩;have g9 : h'[9]? = some (L t .ready none) := by rw [eh];rfl
    have hlen:10≤h'.length:=by rw[eh];simp
    refine gets _ _ _ t g9 rfl (fun lb=> ?_);have hlo:∀o:O,(h'++[o])[h'.length]? =some o:=fun o=>jJ;have hso:∀o o':O,(h'++[o]).set h'.length o'=h'++[o']:=fun o o'=>qL;refine vm ?_;simp only[wq.1,seval,QM,hlo,hso];refine⟨t,by rw[zqj (by omega)];exact g9,?_⟩;have hqok:=V8 (bad:=bad) hm (by omega) hcl q (List.mem_of_getElem? hq);have hdr:=Qj hq;obtain⟨n0,hn0⟩:∃n0,n0=h'.length:=⟨_,rfl⟩;rw[←hn0];obtain⟨H1,eH1⟩:∃H1,H1=(h'++[O.cells [vi q.part,vi q.clause,aF q.beg,vi q.steps,.fn (.func fid) [] caps]]).set 9 (L t .busy none):=⟨_,rfl⟩;rw[←eH1];have x1:H1=hCk m bud [vi 0,vi 0,vi 0,.nils] 0++[.misc .dfd,L t .busy none]++(X++[.cells [vi q.part,vi q.clause,aF q.beg,vi q.steps,.fn (.func fid) [] caps]]):=by rw[eH1,eh];rfl
    have y1:H1[1]? =some (.cells [vi bud]):=by rw[x1];rfl
    have yq:H1[n0]? =some (.cells [vi q.part,vi q.clause,aF q.beg,vi q.steps,.fn (.func fid) [] caps]):=by rw[eH1,hn0,zqn (by omega),jJ]
    refine aG ?_;refine ag (vm ?_);simp only[wq.1,seval,t7,t12,y1,yq];refine Bf (fun i=>decide (10≤i)) (V7 m l q bud fid caps' hm hs hqok hb hent hcdat hmore) (by simp only[V.drops,V.drop,hcd]) ?_ ?_
    ·refine aj.cons (az.dat hkd) (aj.cons (az.agg (aj.cons (az.dat rfl) (aj.cons (az.dat rfl) (aj.cons (az.dat rfl) (aj.cons (az.dat rfl) (aj.cons (az.fn aj.nil (hcr H1 (fun i o hi ho=> ?_))) aj.nil)))))) (aj.cons (az.dat rfl) aj.nil));rw[eH1,zqn (by omega),zqj (zqe ho).1];exact ho
    ·rintro r ⟨a,ha,rfl⟩;obtain⟨t',et'⟩:∃t':Nat→V,t'=fun i=>(t i).drop (fun i=>decide (10≤i)):=⟨_,rfl⟩;obtain⟨Y,eY⟩:∃Y,Y=iO (fun i=>decide (10≤i)) 10 (X++[O.cells [vi q.part,vi q.clause,aF q.beg,vi q.steps,.fn (.func fid) [] caps]]):=⟨_,rfl⟩;obtain⟨H2,eH2⟩:∃H2,H2=iO (fun i=>decide (10≤i)) 0 H1:=⟨_,rfl⟩;rw[←eH2];have x2:H2=hCk m bud [vi 0,vi 0,vi 0,.nils] 0++[.misc .dfd,L t' .busy none]++Y:=by
      rw[eH2,x1,eY,et',←hLd];rfl
     have z2:H2[2]? =some (.cells [vi 0,vi 0,vi 0,.nils]):=by rw[x2];rfl
     have z3:H2[3]? =some (.cells [vi 0]):=by rw[x2];rfl
     have hl2:10≤H2.length:=by rw[x2];simp
     have hlo2:∀o:O,(H2++[o])[H2.length]? =some o:=fun o=>jJ;have hso2:∀o o':O,(H2++[o]).set H2.length o'=H2++[o']:=fun o o'=>qL;have u7:t' 7= .lp 1 0:=by rw[et'];show V.drop _ (t 7)=_;rw[t7];rfl
     have u8:t' 8= .lp 2 0:=by rw[et'];show V.drop _ (t 8)=_;rw[t8];rfl
     have u9:t' 9= .lp 3 0:=by rw[et'];show V.drop _ (t 9)=_;rw[t9];rfl
     have u12:t' 12= .ip (.ip (kV m l)):=by rw[et'];show V.drop _ (t 12)=_;rw[t12];rfl
     simp only[wq.1,seval,aW,hlo2,hso2];have hk':∀i,i<10→(k i||decide (10≤i))=false:=fun i hi=>by rw[hk10 i hi,Bool.false_or,zqd];omega
     have yA2:∀o:O,(H2++[o])[2]? =some (.cells [vi 0,vi 0,vi 0,.nils]):=fun o=>by rw[zqj (by omega)];exact z2
     cases d1:(a.2 != 0)with
     | true=>refine ag (vm ?_);simp only[wq.1,seval,d1,hlo2];refine vm ?_;simp only[wq.1,seval,t8,t9,hlo2,yA2,xU,XE.jump];rw[x2];show 1≤([vi 0]:List V).length∧∃t st,_=some (L t st none)∧_;exact⟨by decide,t',.busy,rfl,.inr ⟨rfl,hk',t',Y++[.cells [vi a.1.res,vi a.1.part,vi a.1.clause,aY a.1.state]],a,hrun a (by rw[hdr];exact⟨a,ha,.inl ⟨.inl (by simpa using d1),rfl⟩⟩),rfl⟩⟩
     | false =>
      cases d2:(a.1.res==1)with
      | true=>refine ag (vm ?_);simp only[wq.1,seval,d1,d2,hlo2];refine vm ?_;simp only[wq.1,seval,t8,t9,hlo2,yA2,xU,XE.jump];rw[x2];show 1≤([vi 0]:List V).length∧∃t st,_=some (L t st none)∧_;exact⟨by decide,t',.busy,rfl,.inr ⟨rfl,hk',t',Y++[.cells [vi a.1.res,vi a.1.part,vi a.1.clause,aY a.1.state]],a,hrun a (by rw[hdr];exact⟨a,ha,.inl ⟨.inr (.inl (by simpa using d2)),rfl⟩⟩),rfl⟩⟩
      | false =>
       cases d3:(a.1.res==2)with
       | true=>refine ag (vm ?_);simp only[wq.1,seval,d1,d2,d3,hlo2];refine vm ?_;simp only[wq.1,seval,t8,t9,hlo2,yA2,xU,XE.jump];rw[x2];show 1≤([vi 0]:List V).length∧∃t st,_=some (L t st none)∧_;exact⟨by decide,t',.busy,rfl,.inr ⟨rfl,hk',t',Y++[.cells [vi a.1.res,vi a.1.part,vi a.1.clause,aY a.1.state]],a,hrun a (by rw[hdr];exact⟨a,ha,.inl ⟨.inr (.inr (by simpa using d3)),rfl⟩⟩),rfl⟩⟩
       | false =>
        have hns:¬Nw a:=by
         rintro(h | h | h)
         ·rw[bne_iff_ne.2 h]at d1;cases d1
         ·rw[h]at d2;cases d2
         ·rw[h]at d3;cases d3
        refine ag (vm ?_);simp only[wq.1,seval,d1,d2,d3,hlo2];refine vm ?_;simp only[wq.1,seval,xU,XE.jump];rw[x2];exact⟨t',.busy,rfl,.inl ⟨hk',t',Y++[.cells [vi a.1.res,vi a.1.part,vi a.1.clause,aY a.1.state]],u7,u8,u9,u12,rfl,fun r hr=>hrun r (by rw[hdr];exact⟨a,ha,.inr ⟨hns,hr⟩⟩)⟩⟩
   ·rintro ae h' p ⟨hp,hr⟩;have e8 : ∀ i ∈ ({ f with d := (hCk m bud [vi 0,vi 0,vi 0,.nils] 0).length :: f.d } : Fr).d,i = 8 := fun i hi => by simpa [hd] using hi
    cases ae with
    | pan v=>exact hr.elim
    | ret v =>
     rcases hr with⟨hk10,t,X,_,_,_,_,rfl,hrun⟩ | ⟨j,hk10,rfl,t,X,a,hrun,rfl⟩
     ·refine⟨fun i hi=>by rw[e8 i hi];exact hk10 8 (by omega),hp,t,.ready,none,(by decide),rfl,?_⟩;have k2:=hk10 2 (by omega);have k3:=hk10 3 (by omega);have k8:=hk10 8 (by omega);have hend:=hrfin (Ve.z,0) (hrun (Ve.z,0) (by rw[List.drop_of_length_le (zrb _)];rfl));simp only[wq.1,Nat.reduceAdd,hd,OI];refine vm ?_;simp only[wq.1,seval,t8,t9,k2,k3];refine⟨_,⟨_,hend,rfl⟩,?_⟩;exact az.tup (aj.cons (az.agg (aj.cons (az.dat rfl) (aj.cons (az.dat rfl) (aj.cons (az.dat rfl) (aj.cons az.nils aj.nil))))) (aj.cons (az.dat rfl) aj.nil))
     ·refine⟨fun i hi=>by rw[e8 i hi];exact hk10 8 (by omega),hp,t,.done,some .ret,(by decide),rfl,?_⟩;have k2:=hk10 2 (by omega);have k3:=hk10 3 (by omega);have k8:=hk10 8 (by omega);have hend:=hrfin a hrun;simp only[wq.1,seval,t8,t9,hd,OI,k2,k3];exact⟨_,⟨a,hend,rfl⟩,az.dat rfl⟩
 ·have ez : ((bY m l).2 != 0) = true := by simpa using hz
  refine ag (vm ?_);simp only[wq.1,seval,ez];refine vm ?_;simp only[wq.1,seval];refine⟨_,⟨(Ve.z,(bY m l).2),by unfold jy;rw[if_pos hz],rfl⟩,?_⟩;exact az.tup (aj.cons (az.agg (aj.cons (az.dat rfl) (aj.cons (az.dat rfl) (aj.cons (az.dat rfl) (aj.cons az.nils aj.nil))))) (aj.cons (az.dat rfl) aj.nil))
open Go.RowKit
theorem Jk {P:Program} {w:World} {e:TypeId} (he:P.underlying e=some .string) (n:Nat) (a b:ByteArray):(Op.equalIn (n+1) e (.string a) (.string b)).run P w= .ok (a==b) w:=by rw[Op.equalIn];simp[run_underlying he,Result.andThen]
theorem Fa {P:Program} {w:World} {e:TypeId} (he:P.underlying e=some .bool) (n:Nat) (a b:Bool):(Op.equalIn (n+1) e (.bool a) (.bool b)).run P w= .ok (a==b) w:=by rw[Op.equalIn];simp[run_underlying he,Result.andThen]
theorem Ri:JJ P 68:=by
 refine⟨by kernel_rfl,fun w a b p q=> ?_⟩;have p0:∀(x y:Value),(part 9 #[x,y] 0).run P w= .ok x w:=fun x y=>run_part_plain w (by simp[Program.plainKey,Tryz.underlying9]) (by simp);have p1:∀(x y:Value),(part 4 #[x,y] 1).run P w= .ok y w:=fun x y=>run_part_plain w (by simp[Program.plainKey,Tryz.underlying4]) (by simp);have hso:P.stoodInHeld 68=false:=by kernel_rfl
 show(Op.equalIn 10000 68 (.agg #[.string a,.bool p]) (.agg #[.string b,.bool q])).run P w= .ok (a==b&&p==q) w;rw[Op.equalIn];have e1:=Jk (P:=P) (w:=w) Tryz.underlying9 9998;have e2:=Fa (P:=P) (w:=w) Tryz.underlying4 9998;simp only[Sem.run_bind,run_underlying Tryz.underlying68,Result.andThen];cases h1:(a==b)<;>cases h2:(p==q)<;>simp[hso,p0,p1,e1,e2,Sem.run_bind,Result.andThen,h1,h2]
theorem Hg {α:Type} [BEq α] [LawfulBEq α] {c d:List α} (hl:c.length=d.length) {i:Nat} (hi:i<c.length) (hne:c[i]≠d[i]):(c==d)=false:=by rw[beq_eq_false_iff_ne];rintro rfl;exact hne rfl
theorem Ue (c d:List Lt):Ev TE 47 [iL c,iL d] (.bool (c==d)):=by
 have hM:maxLen=9223372036854775807:=rfl;refine Ev.bnd fun hb=> ?_;have hlen:=GX hb;refine ak Tryz.func47 rfl (by simp[nts]) (vm ?_);by_cases hl:c.length=d.length
 ·have e1 : (((c.length : Int) != (d.length : Int))) = false := by simp [hl]
  simp only[wq.1,seval,Tryz.results47,e1];refine aC (fun m f h=>∃i,m+i=c.length∧f.t 0=iL c∧f.t 1=iL d∧f.t 12=vi c.length∧f.t 13=vi i∧f.d=[]∧c.take i=d.take i) c.length ⟨0,by simp,rfl,rfl,rfl,rfl,rfl,rfl⟩ ?_;rintro m f h ⟨i,hm,h0,h1,h12,h13,hdd,hall⟩;refine vm ?_;simp only[wq.1,seval,h12,h13];refine vcB.mk (fun hc=> ?_) (fun hc=> ?_)
  ·simp only [zqb,zqi] at hc;have hc2 : i < d.length := by omega
   have ha:=Ac hc .any;have hb:=Ac hc2 .any;simp only[wq.1,seval,h0,h1,h13,ha,hb,uU,JK];have hbe:(c[i].1==d[i].1&&c[i].2==d[i].2)=(c[i]==d[i]):=rfl;rw[hbe];refine⟨by decide +kernel,⟨by omega,by omega⟩,⟨by omega,by omega⟩,Ri,vcB.mk (fun hb=> ?_) (fun hb=> ?_)⟩
   ·have hne : c[i] ≠ d[i] := by simpa using hb
    rw[Hg hl hc hne];simp only[wq.1,seval,hdd];exact az.dat rfl
   ·have he : c[i] = d[i] := by simpa using hb
    simp only[wq.1,seval,h13,aA (show i<maxLen by omega)];exact .inl ⟨m-1,by omega,i+1,by omega,h0,h1,h12,rfl,hdd,by rw[zrg,zrg,hall,zqk hc,zqk hc2,he]⟩
  ·simp only[zqd,zqi]at hc;rw[zqh (by omega),zqh (by omega)]at hall;simp only[wq.1,seval,hdd];exact aQ rfl (by rw[hall];simp)
 ·have e1 : (((c.length : Int) != (d.length : Int))) = true := by simpa using fun h : (c.length : Int) = d.length => hl (by omega)
  have e2:(c==d)=false:=by rw[beq_eq_false_iff_ne];rintro rfl;exact hl rfl
  simp only[wq.1,seval,Tryz.results47,e1,e2];exact az.dat rfl
theorem V9 (l o:List (List Lt)):Ev TE 46 [lss l,lss o,.fn (.func 47) [] []] (.bool (l==o)):=by
 have hM:maxLen=9223372036854775807:=rfl;refine Ev.bnd fun hb=> ?_;have hlen:=Nr hb;refine ak Tryz.func46 rfl (by simp[nts]) (vm ?_);by_cases hl:l.length=o.length
 ·have e1 : (((l.length : Int) != (o.length : Int))) = false := by simp [hl]
  simp only[wq.1,seval,Tryz.results46,e1];refine aC (fun m f h=>∃i,m+i=l.length∧f.t 0=lss l∧f.t 1=lss o∧f.t 2= .fn (.func 47) [] []∧f.t 15=lss l∧f.t 16=vi l.length∧f.t 17=vi i∧f.d=[]∧l.take i=o.take i) l.length ⟨0,by simp,rfl,rfl,rfl,rfl,rfl,rfl,rfl,rfl⟩ ?_;rintro m f h ⟨i,hm,h0,h1,h2,h15,h16,h17,hdd,hall⟩;refine vm ?_;simp only[wq.1,seval,h16,h17];refine vcB.mk (fun hc=> ?_) (fun hc=> ?_)
  ·simp only [zqb,zqi] at hc;have hc2 : i < o.length := by omega
   have ha:=xI hc .any;have hb:=xI hc2 .any;have hev:=Ue l[i] o[i];simp only[wq.1,seval,h1,h2,h15,h17,ha,hb];refine⟨⟨by omega,by omega⟩,⟨by omega,by omega⟩,ah.ev hev (by simp only[V.dats,V.dat,fK,zre]) ?_⟩;simp only[wq.1,seval];refine vcB.mk (fun hb=> ?_) (fun hb=> ?_)
   ·have hne : l[i] ≠ o[i] := by simpa using hb
    rw[Hg hl hc hne];simp only[wq.1,seval,hdd];exact az.dat rfl
   ·have he : l[i] = o[i] := by simpa using hb
    simp only[wq.1,seval,h17,aA (show i<maxLen by omega)];exact .inl ⟨m-1,by omega,i+1,by omega,h0,h1,h2,h15,h16,rfl,hdd,by rw[zrg,zrg,hall,zqk hc,zqk hc2,he]⟩
  ·simp only[zqd,zqi]at hc;rw[zqh (by omega),zqh (by omega)]at hall;simp only[wq.1,seval,hdd];exact aQ rfl (by rw[hall];simp)
 ·have e1 : (((l.length : Int) != (o.length : Int))) = true := by simpa using fun h : (l.length : Int) = o.length => hl (by omega)
  have e2:(l==o)=false:=by rw[beq_eq_false_iff_ne];rintro rfl;exact hl rfl
  simp only[wq.1,seval,Tryz.results46,e1,e2];exact az.dat rfl
theorem Hl (l o:List (List Lt)):Ev TE 17 [lss l,lss o] (.bool (l==o)):=by refine ak Tryz.func17 rfl (by simp[nts]) (vm ?_);simp only[wq.1,seval,Tryz.results17];refine ah.ev (V9 l o) (by simp only[V.dats,V.dat,(gV l).1,(gV o).1,zre]) ?_;simp only[wq.1,seval];exact az.dat rfl
open Go.Shelf
open Go.Lib
open Go.Sort
def Uf:Go.Shelf.Ren:=⟨fun | 217=>161 | 266=>177 | n=>n,fun | 9=>9 | 5=>5 | 3=>3 | n=>n,fun | n=>n⟩
theorem W9 : Go.Proofs.Lays.n217 Tryz.prog Uf where
 mixed:=by kernel_rfl
 f217:=Tryz.func161.trans (congrArg some (by kernel_rfl))
 f266:=Tryz.func177.trans (congrArg some (by kernel_rfl))
 t3:=Tryz.underlying3
 a3:=Tryz.isAgg3
 z3:=Tryz.sizeOf3
 v3:=Tryz.zeroValue3
 t5:=Tryz.underlying5
 a5:=Tryz.isAgg5
 z5:=Tryz.sizeOf5
 v5:=Tryz.zeroValue5
 t9:=Tryz.underlying9
 a9:=Tryz.isAgg9
 z9:=Tryz.sizeOf9
 v9:=Tryz.zeroValue9
def Qk:Go.Shelf.Ren:=⟨fun | 138=>109 | 195=>136 | 218=>138 | 143=>110 | 219=>139 | 217=>161 | 225=>162 | 224=>163 | 267=>164 | 266=>177 | 314=>178 | n=>n,fun | 9=>9 | 3=>3 | 4=>4 | 5=>5 | 0=>0 | 46=>161 | 146=>219 | 51=>218 | n=>n,fun | 1=>1 | n=>n⟩
theorem We : Go.Proofs.Lays.n138 Tryz.prog Qk where
 mixed:=by kernel_rfl
 f138:=Tryz.func109.trans (congrArg some (by kernel_rfl))
 f143:=Tryz.func110.trans (congrArg some (by kernel_rfl))
 f195:=Tryz.func136.trans (congrArg some (by kernel_rfl))
 f217:=Tryz.func161.trans (congrArg some (by kernel_rfl))
 f218:=Tryz.func138.trans (congrArg some (by kernel_rfl))
 f219:=Tryz.func139.trans (congrArg some (by kernel_rfl))
 f224:=Tryz.func163.trans (congrArg some (by kernel_rfl))
 f225:=Tryz.func162.trans (congrArg some (by kernel_rfl))
 f266:=Tryz.func177.trans (congrArg some (by kernel_rfl))
 f267:=Tryz.func164.trans (congrArg some (by kernel_rfl))
 f314:=Tryz.func178.trans (congrArg some (by kernel_rfl))
 t0:=Tryz.underlying0
 a0:=Tryz.isAgg0
 z0:=Tryz.sizeOf0
 v0:=Tryz.zeroValue0
 t3:=Tryz.underlying3
 a3:=Tryz.isAgg3
 z3:=Tryz.sizeOf3
 v3:=Tryz.zeroValue3
 t4:=Tryz.underlying4
 a4:=Tryz.isAgg4
 z4:=Tryz.sizeOf4
 v4:=Tryz.zeroValue4
 t5:=Tryz.underlying5
 a5:=Tryz.isAgg5
 z5:=Tryz.sizeOf5
 v5:=Tryz.zeroValue5
 t9:=Tryz.underlying9
 a9:=Tryz.isAgg9
 z9:=Tryz.sizeOf9
 v9:=Tryz.zeroValue9
 t46:=Tryz.underlying161
 a46:=Tryz.isAgg161
 z46:=Tryz.sizeOf161
 v46:=Tryz.zeroValue161
 t51:=Tryz.underlying218
 a51:=Tryz.isAgg218
 z51:=Tryz.sizeOf218
 v51:=Tryz.zeroValue218
 t146:=Tryz.underlying219
 a146:=Tryz.isAgg219
 z146:=Tryz.sizeOf219
 v146:=Tryz.zeroValue219
 g1:=by kernel_rfl
def Dw:Go.Shelf.Ren:=⟨fun | 148=>135 | 222=>158 | 223=>159 | 269=>176 | n=>n,fun | 9=>9 | 3=>3 | 4=>4 | 5=>5 | 146=>219 | 51=>218 | 46=>161 | n=>n,fun | n=>n⟩
theorem Jl : Go.Proofs.Lays.n148 Tryz.prog Dw where
 mixed:=by kernel_rfl
 f148:=Tryz.func135.trans (congrArg some (by kernel_rfl))
 f222:=Tryz.func158.trans (congrArg some (by kernel_rfl))
 f223:=Tryz.func159.trans (congrArg some (by kernel_rfl))
 f269:=Tryz.func176.trans (congrArg some (by kernel_rfl))
 t3:=Tryz.underlying3
 a3:=Tryz.isAgg3
 z3:=Tryz.sizeOf3
 v3:=Tryz.zeroValue3
 t4:=Tryz.underlying4
 a4:=Tryz.isAgg4
 z4:=Tryz.sizeOf4
 v4:=Tryz.zeroValue4
 t5:=Tryz.underlying5
 a5:=Tryz.isAgg5
 z5:=Tryz.sizeOf5
 v5:=Tryz.zeroValue5
 t9:=Tryz.underlying9
 a9:=Tryz.isAgg9
 z9:=Tryz.sizeOf9
 v9:=Tryz.zeroValue9
 t46:=Tryz.underlying161
 a46:=Tryz.isAgg161
 z46:=Tryz.sizeOf161
 v46:=Tryz.zeroValue161
 t51:=Tryz.underlying218
 a51:=Tryz.isAgg218
 z51:=Tryz.sizeOf218
 v51:=Tryz.zeroValue218
 t146:=Tryz.underlying219
 a146:=Tryz.isAgg219
 z146:=Tryz.sizeOf219
 v146:=Tryz.zeroValue219
def NR:Go.Shelf.Ren:=⟨fun | 156=>40 | 165=>71 | 166=>39 | 169=>41 | 240=>70 | 241=>106 | 276=>105 | 277=>134 | n=>n,fun | 31=>26 | 9=>9 | 3=>3 | 4=>4 | 0=>0 | 20=>20 | 72=>94 | 76=>99 | 70=>91 | 37=>92 | 75=>98 | 127=>138 | 164=>170 | 5=>5 | 80=>96 | n=>n,fun | n=>n⟩
theorem Wh : Go.Proofs.Lays.n156 Tryz.prog NR where
 mixed:=by kernel_rfl
 f156:=Tryz.func40.trans (congrArg some (by kernel_rfl))
 f165:=Tryz.func71.trans (congrArg some (by kernel_rfl))
 f166:=Tryz.func39.trans (congrArg some (by kernel_rfl))
 f169:=Tryz.func41.trans (congrArg some (by kernel_rfl))
 f240:=Tryz.func70.trans (congrArg some (by kernel_rfl))
 f241:=Tryz.func106.trans (congrArg some (by kernel_rfl))
 f276:=Tryz.func105.trans (congrArg some (by kernel_rfl))
 f277:=Tryz.func134.trans (congrArg some (by kernel_rfl))
 t0:=Tryz.underlying0
 a0:=Tryz.isAgg0
 z0:=Tryz.sizeOf0
 v0:=Tryz.zeroValue0
 t3:=Tryz.underlying3
 a3:=Tryz.isAgg3
 z3:=Tryz.sizeOf3
 v3:=Tryz.zeroValue3
 t4:=Tryz.underlying4
 a4:=Tryz.isAgg4
 z4:=Tryz.sizeOf4
 v4:=Tryz.zeroValue4
 t9:=Tryz.underlying9
 a9:=Tryz.isAgg9
 z9:=Tryz.sizeOf9
 v9:=Tryz.zeroValue9
 t20:=Tryz.underlying20
 a20:=Tryz.isAgg20
 z20:=Tryz.sizeOf20
 v20:=Tryz.zeroValue20
 t31:=Tryz.underlying26
 a31:=Tryz.isAgg26
 z31:=Tryz.sizeOf26
 v31:=Tryz.zeroValue26
 t37:=Tryz.underlying92
 a37:=Tryz.isAgg92
 z37:=Tryz.sizeOf92
 v37:=Tryz.zeroValue92
 t70:=Tryz.underlying91
 a70:=Tryz.isAgg91
 z70:=Tryz.sizeOf91
 v70:=Tryz.zeroValue91
 t72:=Tryz.underlying94
 a72:=Tryz.isAgg94
 z72:=Tryz.sizeOf94
 v72:=Tryz.zeroValue94
 t75:=Tryz.underlying98
 a75:=Tryz.isAgg98
 z75:=Tryz.sizeOf98
 v75:=Tryz.zeroValue98
 t76:=Tryz.underlying99
 a76:=Tryz.isAgg99
 z76:=Tryz.sizeOf99
 v76:=Tryz.zeroValue99
 t127:=Tryz.underlying138
 a127:=Tryz.isAgg138
 z127:=Tryz.sizeOf138
 v127:=Tryz.zeroValue138
 t164:=Tryz.underlying170
 a164:=Tryz.isAgg170
 z164:=Tryz.sizeOf170
 v164:=Tryz.zeroValue170
theorem yD {c:C} {l:S} {x:Value} (h:VRel c (.str l) x):x= .string ⟨l.toArray⟩:=by
 simp only[VRel]at h;obtain⟨s,rfl,h,_⟩:=h
 congr 1
 rw[←h]
theorem Dx (s:S) (c:UInt8):Ev TE 109 [.str s,.str [c]] (vi (s.count c:Nat)):=by intro ok w vs hs hl;simp only[VList]at hl;obtain⟨y,ys,rfl,h1,y2,ys2,rfl,h2,rfl⟩:=hl;have:=yD h1;subst this;have:=yD h2;subst this;refine Calls.mono (Any.strings_Count_one We ⟨s.toArray⟩ c w) ?_;rintro en w' ⟨rfl,rfl⟩;exact⟨_,rfl,WExt.refl _,by simp only[VRel];rfl⟩
theorem Ql (s:S) (c:UInt8) (hs0:s.length≤1000000000):Ev TE 135 [.str s,.str [c]] (vi (Lib.lastIndexByte ⟨s.toArray⟩ c.toNat)):=by intro ok w vs hs hl;simp only[VList]at hl;obtain⟨y,ys,rfl,h1,y2,ys2,rfl,h2,rfl⟩:=hl;have:=yD h1;subst this;have:=yD h2;subst this;refine Calls.mono (Any.strings_LastIndex_one Jl ⟨s.toArray⟩ ⟨#[c]⟩ rfl (by show s.toArray.size<_;simp;omega) w) ?_;rintro en w' ⟨rfl,rfl⟩;exact⟨_,rfl,WExt.refl _,by simp only[VRel];rfl⟩
theorem Hm {c : C} : ∀ {l : List S} {xs : List Value},VList c (l.map V.str) xs → xs = l.map encStr
 | [],xs,h=>by simpa only[List.map_nil,VList]using h
 | a::l,xs,h=>by simp only[zrd,VList]at h;obtain⟨y,ys,rfl,h1,h2⟩:=h;rw[Hm h2,yD h1];rfl
abbrev vbI (c:UInt8):V:= .int .u8 c.toNat
theorem Qm (s:S) (c:UInt8):Ev TE 161 [.str s,vbI c] (vi (Lib.indexByte s c)):=by intro ok w vs hs hl;simp only[VList,VRel]at hl;obtain⟨y,ys,rfl,⟨b,rfl,hb,_⟩,y2,ys2,rfl,rfl,rfl⟩:=hl;refine Calls.mono (Any.stringslite_IndexByte W9 b c.toNat w) ?_;rintro en w' ⟨rfl,rfl⟩;refine⟨_,rfl,WExt.refl _,?_⟩;simp only[VRel];rw[hb];simp
theorem Fb (s:S) (c:UInt8):Ev TE 139 [.str s,.str [c]] (vi (Lib.indexByte s c)):=by
 have hb:=Qm s c;refine ak Tryz.func139 rfl (by simp[nts]) (vm ?_);by_cases he:([c]==s)=true
 ·have : s = [c] := (eq_of_beq he).symm;subst this;have e0 : Lib.indexByte [c] c = 0 := by simp [Lib.indexByte]
  simp only[wq.1,seval,-Int.reduceNatCast,-Int.reduceNatCast',Tryz.results139,e0];exact az.dat rfl
 ·have he : ([c] == s) = false := by simpa using he
  have e1:(((1:Nat):Int)==0)=false:=by decide
  have e2:(((1:Nat):Int)==1)=true:=by decide
  simp only[wq.1,seval,-Int.reduceNatCast,-Int.reduceNatCast',au,Tryz.results139,he,e1,e2];refine⟨by decide,ah.ev hb rfl ?_⟩;simp only[wq.1,↓reduceIte,Nat.reduceLT,Int.reduceNeg];exact az.dat rfl
theorem Jm (s:S) (c:UInt8):Ev TE 110 [.str s,.str [c]] (vi (Lib.indexByte s c)):=by refine ak Tryz.func110 rfl (by simp[nts]) (vm ?_);simp only[wq.1,seval,Tryz.results110];refine ah.ev (Fb s c) rfl ?_;simp only[wq.1,seval];exact az.dat rfl
theorem NS {c : UInt8} {r : S} : ∀ {w : S},c ∉ w → Lib.indexByte (w ++ c :: r) c = w.length
 | [],_=>by simp[Lib.indexByte]
 | x::w,h=>by
  simp only[zrj,not_or]at h;have h1:(x==c)=false:=by simpa using fun e:x=c=>h.1 e.symm
  rw[List.cons_append];unfold Lib.indexByte;rw[h1,NS h.2];simp
def Ai (k:Nat) (c:UInt8) (s:S):List S:=if k=0 then Aq c s else D5 c s
theorem oC {k:Nat} {c:UInt8} {s:S} (h:c∉s):Ai k c s=[s]:=by
 unfold Ai;split
 ·exact Dq h
 ·exact Dt h
theorem Aj {k:Nat} (hk:k≤1) {c:UInt8} {w r:S} (h:c∉w):Ai k c (w++c::r)=(w++c::r).take (w.length+k)::Ai k c r:=by
 unfold Ai;by_cases e:k=0
 ·subst e;rw[if_pos rfl,if_pos rfl,G8 h];simp
 ·have : k = 1 := by omega
  subst this;rw[if_neg e,if_neg e,G9 h]
  congr 1
  rw[List.take_append,zqh (by omega)];simp
theorem rD {k : Nat} (hk : k ≤ 1) {c : UInt8} : ∀ (n : Nat) (s : S),s.length ≤ n → (Ai k c s).length = s.count c + 1
 | 0,s,h=>by have:s=[]:=List.eq_nil_of_length_eq_zero (by omega);subst this;rw[oC (by simp)];rfl
 | n+1,s,h=>by
  by_cases hc:c∈s
  ·obtain ⟨w,r,rfl,hw⟩ := Ha hc;have hl : r.length ≤ n := by simp at h;omega
   rw[Aj hk hw,zrt,rD hk n r hl,List.count_append,List.count_cons_self,List.count_eq_zero.2 hw];omega
  ·rw[oC hc,List.count_eq_zero.2 hc];rfl
theorem Ug (n:Nat):(List.range n).flatMap (fun _=>[V.str []])=List.replicate n (V.str []):=by
 induction n with
 | zero=>rfl
 | succ n ih=>rw[List.range_succ,List.flatMap_append,ih,List.replicate_succ'];rfl
theorem Dy {done:List S} {n:Nat} {x:S} (h:done.length<n):(done.map V.str++List.replicate (n-done.length) (V.str [])).take (done.length*1)++[V.str x]++(done.map V.str++List.replicate (n-done.length) (V.str [])).drop (done.length*1+1)=(done++[x]).map V.str++List.replicate (n-(done++[x]).length) (V.str []):=by
 obtain⟨d,hd⟩:∃d,n-done.length=d+1:=⟨n-done.length-1,by omega⟩;have e2:n-(done++[x]).length=d:=by simp;omega
 rw[hd,e2,Nat.mul_one,List.take_append_of_le_length (by simp),zqh (by simp),List.replicate_succ];simp[List.drop_append]
theorem Dz (s:S) (c:UInt8) (k:Nat) (hk:k≤1) (hs:s.length≤900000):Ev TE 74 [.str s,.str [c],vi k,vi (-1)] (dE (Ai k c s)):=by
 have hM:maxLen=9223372036854775807:=rfl;have hcnt:s.count c≤s.length:=List.count_le_length;have hpl:=rD hk s.length s (zrb _) (c:=c);obtain⟨n,hn⟩:∃n,n=s.count c:=⟨_,rfl⟩;rw[←hn]at hcnt hpl;have w1:IntKind.i64.wrap ((n:Int)+1)=((n+1:Nat):Int):=by rw[dN (by omega) (by omega)];omega
 have w2:IntKind.i64.wrap ((s.length:Int)+1)=((s.length+1:Nat):Int):=by rw[dN (by omega) (by omega)];omega
 have w3:IntKind.i64.wrap (((n+1:Nat):Int)-1)=(n:Int):=by rw[dN (by omega) (by omega)];omega
 have e1:(([c]:S)==[])=false:=rfl;have hmn:D7 [vi ((n+1:Nat):Int),vi ((s.length+1:Nat):Int)]=(True,vi ((n+1:Nat):Int)):=by
  simp only[D7];split
  ·rw[show((s.length+1:Nat):Int)=((n+1:Nat):Int) by omega]
  ·rfl
 have hsc := Dx s c;rw [← hn] at hsc;refine ak Tryz.func74 rfl (by simp [nts]) ?_;refine ag (vm ?_);simp only [wq.1,seval,Tryz.results74];refine ag (vm ?_);simp only [wq.1,seval];refine ag (vm ?_);simp only [wq.1,seval,e1];refine ag ?_;refine vm ?_;simp only [wq.1,seval];refine ah.ev hsc rfl ?_;simp only [wq.1,seval,w1];refine ag (vm ?_);simp only [wq.1,seval,w2,hmn];refine ag ?_;refine fP ?_;refine aB rfl rfl ?_;simp only [wq.1,seval];refine dG rfl rfl ?_;refine lg (t := 26) rfl (q := { kind := .slice 9,size := 1,bytes := 24,zero := .nils }) (by simp only [wq.1]) (el := 9) rfl (re := { kind := .str,size := 1,bytes := 16,zero := .str [] }) (by simp only [wq.1]) rfl rfl (by decide) (by simp only [wq.1,seval]) (by simp only [wq.1,seval]) (k := .i64) (k' := .i64) (m := ((n + 1 : Nat) : Int)) (by simp only [wq.1,seval]) (by simp only [wq.1,seval]) (by omega) (by omega) (by decide) (by rw [Int.toNat_natCast];show (n + 1) * 1 ≤ _;omega) ?_;rw [Int.toNat_natCast];simp only [wq.1,Int.reduceNeg];refine aB rfl rfl ?_;simp only [wq.1,seval];refine fA ?_;rw [Ug (n + 1)];simp only [wq.1,Int.reduceNeg];refine ag (vm ?_);simp only [wq.1,seval,w3];refine ag (vm ?_);simp only [wq.1,seval];refine ag ?_;refine aG ?_;refine aC (fun q f h => ∃ (done : List S) (rest : S),q + done.length = n ∧ Ai k c s = done ++ Ai k c rest ∧ rest.count c + done.length = n ∧ rest.length ≤ s.length ∧ f.t 0 = .str rest ∧ f.t 1 = .str [c] ∧ f.t 2 = vi k ∧ f.t 3 = vi n ∧ f.t 9 = .ls 0 1 0 (n + 1) (n + 1) ∧ f.t 10 = vi done.length ∧ f.d = [] ∧ h = [.cells (done.map V.str ++ List.replicate (n + 1 - done.length) (V.str []))]) n
  ⟨[],s,by simp,rfl,by simp[hn],zrb _,by simp only[wq.1,seval],by simp only[wq.1,seval],by simp only[wq.1,seval],by simp only[wq.1,seval],by simp only[wq.1,seval],by simp only[wq.1,↓reduceIte,Int.reduceNeg];rfl,by simp only[wq.1,Int.reduceNeg],rfl⟩ ?_
 rintro q f h ⟨done,rest,hq,hp,hrc,hrl,t0,t1,t2,t3,t9,t10,hd,rfl⟩;have hlen:(done.map V.str++List.replicate (n+1-done.length) (V.str [])).length=n+1:=by simp;omega
 refine ag (vm ?_);simp only[wq.1,seval,t3,t10];refine vcB.mk (fun hlt=> ?_) (fun hlt=> ?_)
 ·simp only [zqb,zqi] at hlt;have hc : c ∈ rest := List.count_pos_iff.1 (by omega);obtain ⟨w,r,rfl,hw⟩ := Ha hc;have hix := Jm (w ++ c :: r) c;rw [NS hw] at hix;have hll : (w ++ c :: r).length = w.length + (r.length + 1) := by simp
  have hpc:=Aj hk hw (r:=r);have hrc2:(w++c::r).count c=r.count c+1:=by rw[List.count_append,List.count_cons_self,List.count_eq_zero.2 hw];omega
  have hneg:decide ((w.length:Int)<0)=false:=by rw[zqd];omega
  have v1:IntKind.i64.wrap ((w.length:Int)+(k:Int))=((w.length+k:Nat):Int):=by rw[dN (by omega) (by omega)];omega
  have v2:IntKind.i64.wrap ((w.length:Int)+((1:Nat):Int))=((w.length+1:Nat):Int):=by rw[dN (by omega) (by omega)];omega
  have v3:=aA (show done.length<maxLen by omega);have hdr:(w++c::r).drop (w.length+1)=r:=by simp[List.drop_append]
  obtain⟨u,hu⟩:∃u,u=w++c::r:=⟨_,rfl⟩;rw[←hu]at t0 hix hll hpc hrc2 hdr hrc hrl hp;simp only[wq.1];refine aG ?_;refine ag (vm ?_);simp only[wq.1,seval,t0,t1];refine ah.ev hix rfl ?_;simp only[wq.1,seval];refine ag ?_;refine vm ?_;simp only[wq.1,seval,hneg];refine ag (vm ?_);simp only[wq.1,seval,-Int.reduceNatCast,-Int.reduceNatCast',au,Tryz.results74,t0,t1,t2,t3,t9,t10,hd,v1];have hdn:done.length<n+1:=by omega
  refine⟨⟨by omega,by omega⟩,⟨by omega,by omega⟩,by simp;omega,?_⟩;rw[Dy hdn];refine ag (vm ?_);simp only[wq.1,seval,-Int.reduceNatCast,-Int.reduceNatCast',au,Tryz.results74,t0,t1,t2,t3,t9,t10,hd,v2];refine⟨⟨by omega,by omega⟩,?_⟩;rw[hdr];refine vm ?_;simp only[wq.1,seval,t10,v3];refine .inl ⟨q-1,by omega,done++[u.take (w.length+k)],r,by simp;omega,by rw[hp,hpc];simp,by simp;omega,by omega,by simp only[wq.1,seval],by simp only[wq.1,seval,t1],by simp only[wq.1,seval,t2],by simp only[wq.1,seval,t3],by simp only[wq.1,seval,t9],by simp only[wq.1,↓reduceIte],by simp only[wq.1,hd],by simp⟩
 ·simp only [zqd,zqi] at hlt;simp only [wq.1];have hie : done.length = n := by omega
  have hnr:c∉rest:=fun h=>by have:=List.count_pos_iff.2 h;omega
  rw[oC hnr]at hp;have v3:=aA (show done.length<maxLen by omega);show awp _ _ _ _ _ _ _;refine ag (vm ?_);simp only[wq.1,seval,t0,t9,t10];refine⟨⟨by omega,by omega⟩,by simp;omega,?_⟩;rw[Dy (by omega)];have e3:n+1-(done++[rest]).length=0:=by simp;omega
  rw[e3,List.replicate_zero,zqp,←hp];have e4:(Ai k c s).length=n+1:=by rw[hp];simp;omega
  obtain⟨ps,hps⟩:∃ps,ps=Ai k c s:=⟨_,rfl⟩;rw[←hps]at e4 ⊢;refine ag (vm ?_);simp only[wq.1,seval,t9,t10,v3];refine⟨⟨by omega,by omega⟩,?_⟩;refine vm ?_;simp only[wq.1,↓reduceIte,hd];exact kL rfl (by omega)
theorem NT (s:S) (c:UInt8) (hs:s.length≤900000):Ev TE 75 [.str s,.str [c]] (dE (Aq c s)):=by have h:=Dz s c 0 (by decide) hs;rw[show Ai 0 c s=Aq c s from if_pos rfl]at h;refine ak Tryz.func75 rfl (by simp[nts]) (vm ?_);simp only[wq.1,seval,Tryz.results75];refine ah.ev h rfl ?_;simp only[wq.1,seval];exact az.dat (by simp only[V.dat,gG])
theorem Jn (s:S) (c:UInt8) (hs:s.length≤900000):Ev TE 44 [.str s,.str [c]] (dE (D5 c s)):=by have h:=Dz s c 1 (by decide) hs;rw[show Ai 1 c s=D5 c s from if_neg (by decide)]at h;refine ak Tryz.func44 rfl (by simp[nts]) (vm ?_);simp only[wq.1,seval,Tryz.results44];refine ah.ev h rfl ?_;simp only[wq.1,seval];exact az.dat (by simp only[V.dat,gG])
theorem rE {k : Nat} (hk : k ≤ 1) {c : UInt8} : ∀ (n : Nat) (s : S),s.length ≤ n → ∀ w ∈ Ai k c s,w.length ≤ s.length
 | 0,s,h,w,hw=>by have:s=[]:=List.eq_nil_of_length_eq_zero (by omega);subst this;rw[oC (by simp)]at hw;rw[zrc.1 hw];exact zrb _
 | n+1,s,h,w,hw=>by
  by_cases hc:c∈s
  ·obtain ⟨u,r,rfl,hu⟩ := Ha hc;have hl : r.length ≤ n := by simp at h;omega
   rw[Aj hk hu]at hw;rcases zrj.1 hw with rfl | hw
   ·rw[zrl];omega
   ·have:=rE hk n r hl w hw;simp;omega
  ·rw[oC hc]at hw;rw[zrc.1 hw];exact zrb _
theorem NU {w:S} {b:UInt8} (hb:b≠0):UF w [b]=(w.headD 0==b):=by
 cases w with
 | nil=>simp[UF,Ne.symm hb]
 | cons x w=>simp[UF]
theorem Qo (s:S) (hs:s.length≤20000):Ev TE 45 [.str s] (.tup [iL (tq s).1,vi (tq s).2.1,vi (tq s).2.2]):=by
 have hM:maxLen=9223372036854775807:=rfl;refine ak Tryz.func45 rfl (by simp[nts]) ?_;refine ag (vm ?_);simp only[wq.1,Nat.reduceLT,Tryz.results45];refine ag ?_;refine ag (vm ?_);simp only[wq.1,seval];by_cases he:s=[]
 ·subst he;refine vm ?_;simp only[wq.1,seval];exact az.tup (aj.cons az.nils (aj.cons (az.dat rfl) (aj.cons (az.dat rfl) aj.nil)))
 have e0:(s==[])=false:=by simpa using he
 have hlv:tq s=o8 (Aq 32 s) 0 []:=by unfold tq;rw[if_neg he]
 have hsp:=NT s 32 (by omega);have hwl:∀w∈Aq 32 s,w.length≤s.length:=fun w hw=>rE (k:=0) (by decide) s.length s (zrb _) w hw;have hpl:(Aq 32 s).length≤s.length+1:=by have:=rD (k:=0) (by decide) (c:=32) s.length s (zrb _);have h2:s.count 32≤s.length:=List.count_le_length;have h3:Ai 0 32 s=Aq 32 s:=if_pos rfl;rw[h3]at this;omega
 rw[hlv];obtain⟨ws,hws⟩:∃ws,ws=Aq 32 s:=⟨_,rfl⟩;rw[←hws]at hsp hwl hpl ⊢;refine vm ?_;simp only[wq.1,↓reduceIte,e0];show awp _ _ _ _ _ _ _;refine ag (vm ?_);simp only[wq.1,Nat.reduceLT];refine fH 5 2 (by simp only[wq.1,↓reduceIte]) ?_;refine ag (vm ?_);simp only[wq.1,Nat.reduceLT];refine ag ?_;refine ag (vm ?_);simp only[wq.1,seval];refine ah.ev hsp rfl ?_;simp only[wq.1,seval];refine aG ?_;refine aC (fun q f h=>∃(i:Nat) (a:Int) (c:List Lt),q+i=ws.length∧c.length≤i∧0≤a∧a≤i*20001∧o8 ws 0 []=o8 (ws.drop i) a c∧f.t 5= .ls 0 2 0 c.length c.length∧f.t 6=vi a∧f.t 12=dE ws∧f.t 13=vi ws.length∧f.t 14=vi i∧f.d=[]∧h=[.cells (lfl c)]) ws.length ⟨0,0,[],by omega,zrb _,Int.le_refl _,by omega,rfl,by simp only[wq.1,seval],by simp only[wq.1,seval],by simp only[wq.1,seval],by simp only[wq.1,seval],by simp only[wq.1,↓reduceIte];rfl,by simp only[wq.1],rfl⟩ ?_;rintro q f h ⟨i,a,c,hq,hci,ha0,ha1,hgo,t5,t6,t12,t13,t14,hd,rfl⟩;refine ag (vm ?_);simp only[wq.1,Nat.reduceLT,t13,t14];refine ag (bD (b:=decide ((i:Int)<ws.length)) (by simp only[wq.1,↓reduceIte]) (by simp only[wq.1,↓reduceIte]) (fun hlt=> ?_) (fun hlt=> ?_))
 ·simp only [zqb,zqi] at hlt;have hw := aA (show i < maxLen by omega);have hgs : (ws.map V.str).getD i .any = .str ws[i] := IW hlt _;have hwm := hwl _ (zqu hlt);have hdr : ws.drop i = ws[i] :: ws.drop (i + 1) := List.drop_eq_getElem_cons hlt;obtain ⟨w,hwe⟩ : ∃ w,w = ws[i] := ⟨_,rfl⟩;rw [← hwe] at hgs hwm hdr;rw [hdr] at hgo;have hp1 := GZ w [43];have hp2 := GZ w [45];rw [NU (by decide)] at hp1 hp2;refine vm ?_;simp only [wq.1];refine ag (aG ?_);refine ag (vm ?_);simp only [wq.1,seval,t12,t14,hgs];refine ⟨⟨by omega,by omega⟩,?_⟩;by_cases hA : w.headD 0 ≠ 43 ∧ w.headD 0 ≠ 45
  ·have q1 : (w.headD 0 == 43) = false := by simpa using hA.1
   have q2:(w.headD 0==45)=false:=by simpa using hA.2
   rw[o8,if_pos hA]at hgo;rw[q1]at hp1;rw[q2]at hp2;refine ag ?_;refine ag (vm ?_);simp only[wq.1,seval];refine ah.ev hp1 rfl ?_;simp only[wq.1,seval];refine ah.ev hp2 rfl ?_;simp only[wq.1,seval];refine vm ?_;simp only[wq.1,seval,t6,hd];rw[hgo];exact az.tup (aj.cons az.nils (aj.cons (az.dat rfl) (aj.cons (az.dat rfl) aj.nil)))
  obtain⟨b,t,hbt⟩:∃b t,w=b::t:=by
   cases w with
   | nil=>exact absurd ⟨by decide,by decide⟩ hA
   | cons b t=>exact⟨b,t,rfl⟩
  have hwl1:1≤w.length:=by rw[hbt];simp
  have hdrop:w.drop 1=w.tail:=by rw[hbt];rfl
  have hin:=uC w.tail;rw[o8,if_neg hA]at hgo;have hgo2:∃q1 q2,(w.headD 0==43)=q1∧(w.headD 0==45)=q2∧(q1||q2)=true:=by
   refine⟨_,_,rfl,rfl,?_⟩;rw[Bool.or_eq_true,beq_iff_eq,beq_iff_eq];by_cases h:w.headD 0=43
   ·exact .inl h
   ·exact .inr (Decidable.byContradiction fun h2=>hA ⟨h,h2⟩)
  obtain⟨q1,q2,e1,e2,e12⟩:=hgo2;have e3:(!q1&& !q2)=false:=by cases q1<;>cases q2<;>first | rfl | cases e12
  rw[e1]at hp1;rw[e2]at hp2;refine ag ?_;refine ag (vm ?_);simp only[wq.1,seval];refine ah.ev hp1 rfl ?_;simp only[wq.1,seval];refine DN.ev (q:=76) (vs:=[.str w,.str [45]]) (by simp only[wq.1,seval]) (by simp only[wq.1,seval]) rfl (fun _=>hp2) (fun _=>rfl) ?_;simp only[wq.1,seval,e3];refine vm ?_;simp only[wq.1,↓reduceIte];show awp _ _ _ _ _ _ _;refine ag ?_;refine ag (vm ?_);simp only[wq.1,seval,hdrop];refine⟨by omega,ah.ev hin rfl ?_⟩;simp only[wq.1,seval];have v1:IntKind.i64.wrap (a+1)=a+1:=dN (by omega) (by omega);cases hok:bK w.tail with
  | false=>rw[if_pos hok]at hgo;refine vm ?_;simp only[wq.1,seval,t6,hd,v1];rw[hgo];exact az.tup (aj.cons az.nils (aj.cons (az.dat rfl) (aj.cons (az.dat rfl) aj.nil)))
  | true =>
   rw[if_neg (by rw[hok];decide)]at hgo;have e45:(((w.getD 0 0).toNat:Int)==45)=(w.headD 0==45):=by
    rw[hbt,Bool.eq_iff_iff,beq_iff_eq,beq_iff_eq];show((b.toNat:Int)=45)↔b=45;constructor
    ·intro h;exact UInt8.toNat_inj.1 (by show b.toNat=45;omega)
    ·rintro rfl;rfl
   have hel:(lfl c).length=c.length*2:=EW c;have dcs:∀p,V.drops p (lfl c)=lfl c:=fun p=>mf _;refine vm ?_;simp only[wq.1,↓reduceIte];show awp _ _ _ _ _ _ _;refine ag ?_;refine Bz mixed 8 (.one 8<| .take 9<| .fin) (fun f' h'=>f'.t 5= .ls 0 2 0 (c.length+1) (c.length+1)∧f'.t 6=vi a∧f'.t 8= .str w∧f'.t 12=dE ws∧f'.t 13=vi ws.length∧f'.t 14=vi i∧f'.d=[]∧h'=[.cells (lfl (c++[(w.tail,w.headD 0==45)]))]) (by decide +kernel) ?_ ?_
   ·intro K hK;simp only[List.take_succ_cons,List.take_zero];simp only[wq.1,↓reduceIte,Nat.reduceEqDiff,Nat.reduceLT,Nat.reduceLeDiff,Nat.reduceAdd,Int.reduceToNat,Int.reduceLE,reduceCtorEq,Nat.reduceMul,t5,hdrop,e45];refine⟨by omega,by omega,⟨rfl,by decide⟩,hK _ ?_⟩;simp only[wq.1,seval,t6,t12,t13,t14,hd,hel,dcs];rw[Nj];exact⟨rfl,⟨rfl,by omega,by omega⟩,rfl⟩
   ·rintro f h ⟨t5,t6,t8,t12,t13,t14,hd,rfl⟩;have v2:IntKind.i64.wrap ((w.length:Int)+1)=(w.length:Int)+1:=dN (by omega) (by omega);have v3:IntKind.i64.wrap (a+((w.length:Int)+1))=a+((w.length:Int)+1):=dN (by omega) (by omega);show awp _ _ _ _ _ _ _;refine vm ?_;simp only[wq.1,seval,t6,t8,v2,v3];refine vm ?_;simp only[wq.1,seval,t14,hw];refine .inl ⟨q-1,by omega,i+1,a+((w.length:Int)+1),c++[(w.tail,w.headD 0==45)],by omega,by simp;omega,by omega,by omega,by rw[hgo];congr 1;omega,by simp only[wq.1,seval,t5],by simp only[wq.1,seval],by simp only[wq.1,seval,t12],by simp only[wq.1,seval,t13],by simp only[wq.1,↓reduceIte],by simp only[wq.1,hd],rfl⟩
 ·simp only[zqd,zqi]at hlt;rw[List.drop_of_length_le (by omega)]at hgo;refine vm ?_;simp only[wq.1];refine vm ?_;simp only[wq.1,seval,t5,hd];rw[hgo];exact az.tup (aj.cons (CV rfl rfl) (aj.cons (az.dat rfl) (aj.cons (az.dat rfl) aj.nil)))
theorem wY (s : ByteArray) (c : Int) : ∀ k : Nat,-1 ≤ Lib.lastIdx s c k ∧ Lib.lastIdx s c k < k
 | 0=>by simp[Lib.lastIdx]
 | k+1=>by have:=wY s c k;unfold Lib.lastIdx;split<;>omega
def DC (a b:Int) (s:S):Int×Int:=if s.count 10=0 then(a,b+s.length)else(a+(s.count 10:Nat),s.length-Lib.lastIndexByte ⟨s.toArray⟩ 10)
def Rj:Plan:= .take 0<| .take 2<| .take 4<| .take 6<| .alt 1 (.alt 3 (.alt 5 (.one 7<| .one 8<| .one 9<| .one 10<| .fin) (.one 7 (.one 5<| .one 8<| .one 9<| .one 10<| .fin))) (.alt 5 (.alt 3 (.one 7<| .one 8<| .one 9<| .one 10<| .fin) (.one 7 (.alt 3 (.one 8<| .one 9<| .one 10<| .fin) (.one 8 (.one 3<| .one 9<| .one 10<| .fin))))) (.one 7 (.alt 3 (.one 5<| .one 8<| .one 9<| .one 10<| .fin) (.one 5 (.alt 3 (.one 8<| .one 9<| .one 10<| .fin) (.one 8 (.one 3<| .one 9<| .one 10<| .fin)))))))) (.alt 5 (.alt 1 (.alt 3 (.one 7<| .one 8<| .one 9<| .one 10<| .fin) (.one 7 (.alt 3 (.one 8<| .one 9<| .one 10<| .fin) (.one 8 (.one 3<| .one 9<| .one 10<| .fin))))) (.one 7 (.alt 1 (.alt 3 (.one 8<| .one 9<| .one 10<| .fin) (.one 8 (.one 3<| .one 9<| .one 10<| .fin))) (.one 8 (.one 1<| .one 3<| .one 9<| .one 10<| .fin))))) (.one 7 (.alt 1 (.alt 3 (.one 5<| .one 8<| .one 9<| .one 10<| .fin) (.one 5 (.alt 3 (.one 8<| .one 9<| .one 10<| .fin) (.one 8 (.one 3<| .one 9<| .one 10<| .fin))))) (.one 5 (.alt 1 (.alt 3 (.one 8<| .one 9<| .one 10<| .fin) (.one 8 (.one 3<| .one 9<| .one 10<| .fin))) (.one 8 (.one 1<| .one 3<| .one 9<| .one 10<| .fin)))))))
theorem Qp (a b:Int) (s:S) (ha:0≤a∧a≤1000000000) (hb:0≤b∧b≤1000000000) (hs:s.length≤1000000000):Ev TE 107 [.agg [vi a,vi b],.str s] (.agg [vi (DC a b s).1,vi (DC a b s).2]):=by
 have hc:s.count 10≤s.length:=List.count_le_length;have hl:=wY ⟨s.toArray⟩ 10 s.length;have hl':Lib.lastIndexByte ⟨s.toArray⟩ 10=Lib.lastIdx ⟨s.toArray⟩ 10 s.length:=rfl;refine ak Tryz.func107 rfl (by simp[nts]) ?_;refine ag (vm ?_);simp only[wq.1,Nat.reduceLT,Tryz.results107];refine ag (vm ?_);simp only[wq.1,seval];refine ah.ev (Dx s 10) rfl ?_;simp only[wq.1,seval];refine ag (vm ?_);simp only[wq.1,↓reduceIte,Nat.reduceLT];refine vcB.mk (fun h0=> ?_) (fun h0=> ?_)
 ·have h0 : s.count 10 = 0 := by simpa using h0
  have w1:IntKind.i64.wrap (b+(s.length:Int))=b+s.length:=dN (by omega) (by omega);simp only[wq.1,seval,-Int.reduceNatCast,-Int.reduceNatCast',w1];unfold DC;rw[if_pos h0];exact⟨by decide,by decide,az.dat rfl⟩
 ·have h0 : s.count 10 ≠ 0 := by simpa using h0
  have w1:IntKind.i64.wrap (a+((s.count 10:Nat):Int))=a+(s.count 10:Nat):=dN (by omega) (by omega);have w2:IntKind.i64.wrap ((s.length:Int)-Lib.lastIndexByte ⟨s.toArray⟩ 10)=s.length-Lib.lastIndexByte ⟨s.toArray⟩ 10:=dN (by omega) (by omega);simp only[wq.1];refine ag ?_;refine cu mixed Rj (fun f' h'=>f'.t 4= .lp 1 0∧f'.d=[]∧h'=[.cells [vi a,vi b],.cells [vi (a+(s.count 10:Nat)),vi (s.length-Lib.lastIndexByte ⟨s.toArray⟩ 10)]]) (by decide +kernel) (by decide +kernel) ?_ ?_
  ·have hten : ((10 : UInt8).toNat : Int) = 10 := rfl;simp only [wq.1,seval,Rj]
   repeat' apply And.intro
   all_goals try(first | decide | rfl)
   all_goals (refine ah.ev (Ql s 10 hs) rfl ?_)
   all_goals (simp only[wq.1,seval,w1,w2,hten])
   all_goals trace_state
  ·rintro f h ⟨h4,hd,rfl⟩;simp only[wq.1];refine vm ?_;simp only[wq.1,seval,h4,hd];unfold DC;rw[if_neg h0];exact az.dat rfl
theorem mx (a b:Int):uO [vi a,vi b]=(True,vi (max a b)):=by simp only[uO,Int.max_def];split<;>split<;>first | rfl | (congr 2;omega)
theorem mn (a b:Int):D7 [vi a,vi b]=(True,vi (min a b)):=by simp only[D7,Int.min_def];split<;>split<;>first | rfl | (congr 2;omega)
def ji (s:S) (a:Int):Int×Int:=DC 1 1 (s.take (min (max a 0) (s.length:Int)).toNat)
def NV:Plan:= .take 0<| .take 2<| .alt 1 (.take 4<| .one 3<| .take 5<| .fin) (.one 3 (.one 1<| .take 4<| .take 5<| .fin))
def Rk:Plan:= .take 1<| .take 2<| .take 4<| .alt 0 (.alt 3 (.alt 5 (.alt 6 (.take 7<| .alt 8 (.one 9<| .one 10<| .fin) (.one 9 (.one 8<| .one 10<| .fin))) (.one 9 (.one 6<| .take 7<| .one 8<| .one 10<| .fin))) (.one 9 (.one 5<| .one 6<| .take 7<| .one 8<| .one 10<| .fin))) (.alt 5 (.alt 3 (.alt 6 (.take 7<| .alt 8 (.one 9<| .one 10<| .fin) (.one 9 (.one 8<| .one 10<| .fin))) (.one 9 (.one 6<| .take 7<| .one 8<| .one 10<| .fin))) (.one 9 (.one 3<| .one 6<| .take 7<| .one 8<| .one 10<| .fin))) (.one 9 (.alt 3 (.one 5<| .one 6<| .take 7<| .one 8<| .one 10<| .fin) (.one 5 (.one 3<| .one 6<| .take 7<| .one 8<| .one 10<| .fin)))))) (.alt 3 (.alt 0 (.alt 5 (.alt 6 (.take 7<| .alt 8 (.one 9<| .one 10<| .fin) (.one 9 (.one 8<| .one 10<| .fin))) (.one 9 (.one 6<| .take 7<| .one 8<| .one 10<| .fin))) (.one 9 (.one 5<| .one 6<| .take 7<| .one 8<| .one 10<| .fin))) (.alt 5 (.alt 0 (.alt 6 (.take 7<| .alt 8 (.one 9<| .one 10<| .fin) (.one 9 (.one 8<| .one 10<| .fin))) (.one 9 (.one 6<| .take 7<| .one 8<| .one 10<| .fin))) (.alt 6 (.take 7<| .alt 0 (.alt 8 (.one 9<| .one 10<| .fin) (.one 9 (.one 8<| .one 10<| .fin))) (.one 9 (.one 0<| .one 8<| .one 10<| .fin))) (.one 9 (.alt 0 (.one 6<| .take 7<| .one 8<| .one 10<| .fin) (.one 6 (.take 7<| .one 0<| .one 8<| .one 10<| .fin)))))) (.one 9 (.alt 0 (.one 5<| .one 6<| .take 7<| .one 8<| .one 10<| .fin) (.one 5 (.alt 0 (.one 6<| .take 7<| .one 8<| .one 10<| .fin) (.one 6 (.take 7<| .one 0<| .one 8<| .one 10<| .fin)))))))) (.alt 5 (.alt 0 (.alt 3 (.alt 6 (.take 7<| .alt 8 (.one 9<| .one 10<| .fin) (.one 9 (.one 8<| .one 10<| .fin))) (.one 9 (.one 6<| .take 7<| .one 8<| .one 10<| .fin))) (.one 9 (.one 3<| .one 6<| .take 7<| .one 8<| .one 10<| .fin))) (.alt 3 (.alt 0 (.alt 6 (.take 7<| .alt 8 (.one 9<| .one 10<| .fin) (.one 9 (.one 8<| .one 10<| .fin))) (.one 9 (.one 6<| .take 7<| .one 8<| .one 10<| .fin))) (.alt 6 (.take 7<| .alt 0 (.alt 8 (.one 9<| .one 10<| .fin) (.one 9 (.one 8<| .one 10<| .fin))) (.one 9 (.one 0<| .one 8<| .one 10<| .fin))) (.one 9 (.alt 0 (.one 6<| .take 7<| .one 8<| .one 10<| .fin) (.one 6 (.take 7<| .one 0<| .one 8<| .one 10<| .fin)))))) (.one 9 (.alt 0 (.one 3<| .one 6<| .take 7<| .one 8<| .one 10<| .fin) (.one 3 (.alt 0 (.one 6<| .take 7<| .one 8<| .one 10<| .fin) (.one 6 (.take 7<| .one 0<| .one 8<| .one 10<| .fin)))))))) (.one 9 (.alt 0 (.alt 3 (.one 5<| .one 6<| .take 7<| .one 8<| .one 10<| .fin) (.one 5 (.one 3<| .one 6<| .take 7<| .one 8<| .one 10<| .fin))) (.alt 3 (.alt 0 (.one 5<| .one 6<| .take 7<| .one 8<| .one 10<| .fin) (.one 5 (.alt 0 (.one 6<| .take 7<| .one 8<| .one 10<| .fin) (.one 6 (.take 7<| .one 0<| .one 8<| .one 10<| .fin))))) (.one 5 (.alt 0 (.one 3<| .one 6<| .take 7<| .one 8<| .one 10<| .fin) (.one 3 (.alt 0 (.one 6<| .take 7<| .one 8<| .one 10<| .fin) (.one 6 (.take 7<| .one 0<| .one 8<| .one 10<| .fin)))))))))))
theorem NW (s:S) (a:Int) (hs:s.length≤1000000000):Ev TE 73 [.str s,vi a] (.tup [vi (ji s a).1,vi (ji s a).2]):=by
 refine ak Tryz.func73 rfl (by simp[nts]) ?_;refine ag (vm ?_);simp only[wq.1,Nat.reduceLT,Tryz.results73];refine ag (vm ?_);refine cu mixed Rk (fun f' h'=>f'.t 6= .lp 0 0∧f'.d=[]∧h'=[.cells [vi (ji s a).1,vi (ji s a).2]]) (by decide +kernel) (by decide +kernel) ?_ ?_
 ·have hm : 0 ≤ min (max a 0) (s.length : Int) ∧ min (max a 0) (s.length : Int) ≤ s.length := by omega
  have hov:=Qp 1 1 (s.take (min (max a 0) (s.length:Int)).toNat) (by decide) (by decide) (by rw[zrl];omega);simp only[wq.1,seval,Rk,gl0,KF,mx,mn]
  repeat' apply And.intro
  all_goals try omega
  all_goals (refine ah.ev hov rfl ?_)
  all_goals (simp only[wq.1,↓reduceIte,Nat.reduceEqDiff,Nat.reduceLT,Nat.reduceAdd])
  all_goals rfl
 ·rintro f h ⟨h6,hd,rfl⟩;refine ag ?_;refine cu mixed NV (fun f' h' => f'.t 4 = vi (ji s a).1 ∧ f'.t 5 = vi (ji s a).2 ∧ f'.d = []) (by decide +kernel) (by decide +kernel) ?_ ?_
  ·simp only[wq.1,seval,-Int.reduceNatCast,-Int.reduceNatCast',NV,h6,hd];exact⟨by decide,by decide⟩
  ·rintro f h ⟨h4,h5,hd⟩;simp only[wq.1];refine vm ?_;simp only[wq.1,h4,h5,hd];exact az.dat rfl
def o9 (s:S) (a e:Int):V:=if e=0 then .agg [vi 0,vi 0,vi 0]else .agg [vi e,vi (ji s a).1,vi (ji s a).2]
theorem Qq (s:S) (a e:Int) (hs:s.length≤1000000000):Ev TE 43 [.str s,vi a,vi e] (o9 s a e):=by
 unfold o9;refine ak Tryz.func43 rfl (by simp[nts]) (vm ?_);simp only[wq.1,seval,Tryz.results43];refine vcB.mk (fun hc=> ?_) (fun hc=> ?_)
 ·have hc : e = 0 := by simpa using hc
  simp only[wq.1,seval];rw[if_pos hc];exact az.dat rfl
 ·have hc : e ≠ 0 := by simpa using hc
  simp only[wq.1,seval];refine ah.ev (NW s a hs) rfl ?_;simp only[wq.1,seval];rw[if_neg hc];exact az.dat rfl
theorem Uh:JI P 52 [.i64,.i64,.i64]:=by
 refine⟨by kernel_rfl,fun w xs ys hx hy=> ?_⟩
 match xs,hx with
 | [a,b,c],_ =>
 match ys,hy with
 | [a',b',c'],_ =>
 have p0:∀(x y z:Value),(part 36 #[x,y,z] 0).run P w= .ok x w:=fun x y z=>jG Tryz.underlying36 (by simp);have p1:∀(x y z:Value),(part 3 #[x,y,z] 1).run P w= .ok y w:=fun x y z=>jG Tryz.underlying3 (by simp);have p2:∀(x y z:Value),(part 3 #[x,y,z] 2).run P w= .ok z w:=fun x y z=>jG Tryz.underlying3 (by simp);have hso:P.stoodInHeld 52=false:=by kernel_rfl
 show(Op.equalIn 10000 52 (.agg #[.int .i64 a,.int .i64 b,.int .i64 c]) (.agg #[.int .i64 a',.int .i64 b',.int .i64 c'])).run P w= .ok ([a,b,c]==[a',b',c']) w;rw[Op.equalIn];have e31:=nP (P:=P) (w:=w) Tryz.underlying36 9998;have e3:=nP (P:=P) (w:=w) Tryz.underlying3 9998;simp only[Sem.run_bind,run_underlying Tryz.underlying52,Result.andThen];by_cases ha:a=a'
 ·subst ha;by_cases hb : b = b'
  ·subst hb;by_cases hc : c = c'
   ·subst hc;simp[hso,p0,p1,p2,e31,e3,Sem.run_bind,Result.andThen]
   ·have hc' : (c == c') = false := by simpa using hc
    simp[hso,p0,p1,p2,e31,e3,Sem.run_bind,Result.andThen,hc',hc]
  ·have hb' : (b == b') = false := by simpa using hb
   simp[hso,p0,p1,p2,e31,e3,Sem.run_bind,Result.andThen,hb',hb]
 ·have ha' : (a == a') = false := by simpa using ha
  simp[hso,p0,p1,p2,e31,e3,Sem.run_bind,Result.andThen,ha',ha]
end Go.Proofs.YtmlacppmbfbjgaaGreatDoor
