/- Lemmas for this claim, part F17: each holds under what it names. -/
import Derived.Test.YthdidjjecjhenaaGreatAF16
import Derived.Test.YthdidjjecjhenaaGreatAA7
set_option linter.all false
set_option maxRecDepth 20000
set_option maxHeartbeats 8000000
namespace Go.Proofs.YthdidjjecjhenaaGreat
open Go Go.Proofs Go.Abs
open List renaming length → aa, replicate → aD
open Bool renaming true → ab, false → am
open Option renaming some → ar, none → aL
open Decidable renaming decide → aM
open Go.IntKind renaming wrap → a5
open Go.Result renaming andThen → a8
open Go.Abs.O renaming cells → aw
open Go.Abs.V renaming drops → aE, dat → a6, dats → a7
def An.z:An:=⟨0,0,[],[],[],0⟩
def YB(G:Gr)(beg:Cl)(pr:List Pq)(s:Nat)(left e:Int):Prop :=
 (zH G beg s≠0/\e=zH G beg s)\/(zH G beg s=0/\∃res vals nn ln,QN (A7 G beg pr s) (cO G beg s).n left res vals nn ln e)
variable{i:Nat}
theorem Kv{h:H}{o:O}(hi:h[i]? =ar o):h.set i o=h:=by
 refine List.ext_getElem? λj=> ?_;rw[List.getElem?_set];split
 ·rename_i e;subst e;rw[if_pos (zqe hi).1,hi]
 ·rfl
theorem QO{pc:Nat}{k:Int}{E:Nat}{h:H}{R:AEnd->H->(Nat->Bool)->Prop}(hr:R (.ret (.fn (.func 34) [] [.lp (aa h+1) 0,.lp (aa h) 0,.lp (aa h+1+1) 0])) (h++[aw [.lp pc 0]]++[aw [vi k]]++[aw [.lp E 0]]) (λ_=>am)):ag TE 16 [.lp pc 0,vi k,.lp E 0] h R:=by refine ah Tryz.func16 rfl (by simp[nts]) (vm ?_);simp only[wq.1,seval,Tryz.results16];exact hr
theorem Nl(id E:Nat)(h:H)(G:Gr)(beg:Cl)(pr:List Pq)(k:Nat)(left0:Int)(hk40:k<=40)(hid:10<id)
 (I:Nat->Int->H->(Nat->Bool)->Prop) (Stop:Option Code->H->(Nat->Bool)->Prop) (Err:Int->H->(Nat->Bool)->Prop)
 (hI:∀j left h kk,I j left h kk->(h[8]? =ar (aw [.lp 5 0])/\h[9]? =ar (aw [vi k])/\h[10]? =ar (aw [.lp E 0]))/\h[5]? =ar (aw (aqC G beg pr left))/\h[E]? =ar (aw [vi 0])/\kk 8=am/\kk 9=am/\kk 10=am)
 (hap:∀j left h kk o,I j left h kk->I j left (h++[o]) kk)
 (h0:I 0 left0 h (λ_=>am))
 (herr:∀j left h kk e,I j left h kk->j<k->e≠0->YB G beg pr (j+1) left e->Err e (h.set E (aw [vi e])) kk)
 (hu:∀s:Nat,Ev TE 35 [.agg [vi G.ins,az G.next,az G.init,prs G.ands,az G.outs],az beg,vi s] (.tup [sH G beg s,vi (zH G beg s)]))
 (hq:∀j left h kk,I j left h kk->j<k->zH G beg ((j+1:Nat):Int)=0->(ag TE 37 [.lp 0 0,uV (cO G beg (j+1)).n (cO G beg (j+1)).cl (iy G beg (j+1)),vi ((j+1:Nat):Int)] [aw (aqC G beg pr left)] λae h' p=>ae= .ret (cls (A7 G beg pr (j+1)))/\h'[0]? =ar (aw (aqC G beg pr left))/\p 0=am) /\
  EvR TE 36 [cls (A7 G beg pr (j+1)),vi (cO G beg (j+1)).n,vi left] (zy (A7 G beg pr (j+1)) (cO G beg (j+1)).n left)/\-2000000000000<=left/\left<=2000000000000)
 (step:∀j left h' kk res vals nn ln,I j left h' kk->kk id=am->j<k->zH G beg ((j+1:Nat):Int)=0->QN (A7 G beg pr (j+1)) (cO G beg (j+1)).n left res vals nn ln 0 ->
  Xl TE id [uV (cO G beg (j+1)).n (cO G beg (j+1)).cl (iy G beg (j+1)),.agg [vi res,aI vals,vi nn,cls ln]] (h'.set 5 (aw (aqC G beg pr (left-nn)))) λjm h'' p=>(jm=aL/\I (j+1) (left-nn) h'' (λi=>kk i||p i))\/(jm.isNone=am/\Stop jm h'' (λi=>kk i||p i))) :
 ag TE 34 ([]++[.yd id]++[.lp 9 0,.lp 8 0,.lp 10 0]) h λae h' p=>p id=am/\match ae with
  | .ret _=>(∃left,I k left h' p)\/(∃j,Stop j h' p)\/∃e,Err e h' p
  | .pan _=>False:=by
 have hM:=mLx;refine ah Tryz.func34 rfl (by simp[nts]) ?_;refine vn ?_;simp only[wq.1,Nat.reduceLT,Tryz.results34];refine aB ?_;refine aA (λq f h=>∃j left,q+j=k/\f.t 0= .yd id/\f.t 1= .lp 9 0/\f.t 2= .lp 8 0/\f.t 3= .lp 10 0/\f.t 5=vi ((j+1:Nat):Int)/\f.d=[]/\f.k id=am/\I j left h f.k) k ⟨0,left0,by omega,rfl,rfl,rfl,rfl,rfl,rfl,rfl,h0⟩ ?_;rintro q f h ⟨j,left,hq',t0,t1,t2,t3,t5,hd,hk,hIk⟩;obtain⟨⟨b8,b9,b10⟩,b5,bE,_⟩:=hI _ _ _ _ hIk;refine vn ?_;simp only[wq.1,seval,t1,t5,b9];by_cases hjk:j+1<=k
 ·have hdj:aM (((j+1:Nat):Int)<=k)=ab:=by rw[zqb];omega
  rw[hdj];simp only[wq.1];refine ak (aB ?_);refine ak ?_;obtain⟨s,hs⟩:∃s,s=j+1:=⟨_,rfl⟩;obtain⟨n,cl,rows,hun,hok⟩:∃n cl rows,sH G beg ((s:Nat):Int)=uV n cl rows/\(zH G beg ((s:Nat):Int)=0->n=(cO G beg s).n/\cl=(cO G beg s).cl/\rows=iy G beg s):=by
   by_cases h:zH G beg ((s:Nat):Int)=0
   ·refine⟨_,_,_,by unfold sH YW;rw[if_pos h,zsg],λ_=>⟨rfl,rfl,rfl⟩⟩
   ·exact⟨0,[],[],by unfold sH;rw[if_neg h],λh'=>absurd h' h⟩
  have hus:=hu s;rw[hun]at hus;rw[<-hs]at t5 ⊢;refine Y8 G beg pr left s n cl rows _ id b8 b5 hus ?_ ?_ ?_
  ·intro q hq;simp only[sQ,zrj,zrp,or_false]at hq;rcases hq with rfl|rfl|rfl|rfl|rfl<;>simp only[wq.1,seval,t0,t1,t2,t3,t5]
  ·simp only[wq.1,hd]
  clear t0 t1 t2 t3 t5;have hIu:=hap _ _ _ _ (aw [vi n,cls cl,cls rows]) hIk;obtain⟨⟨c8,c9,c10⟩,c5,cE,_⟩:=hI _ _ _ _ hIu;obtain⟨U,hU⟩:∃U,U=aa h:=⟨_,rfl⟩;have cU:(h++[aw [vi n,cls cl,cls rows]])[U]? =ar (aw [vi n,cls cl,cls rows]):=by rw[hU];exact ug
  rw[<-hU];obtain⟨h1,eh1⟩:∃h1,h1=h++[aw [vi n,cls cl,cls rows]]:=⟨_,rfl⟩;rw[<-eh1]at hIu c8 c9 c10 c5 cE cU ⊢;rintro f1 hg hd1 hk1 ⟨t6,t7⟩;show awp _ _ _ _ _ _ _;have t0:f1.t 0= .yd id:=hg (0,_) (by simp[sQ]);have t1:f1.t 1= .lp 9 0:=hg (1,_) (by simp[sQ]);have t2:f1.t 2= .lp 8 0:=hg (2,_) (by simp[sQ]);have t3:f1.t 3= .lp 10 0:=hg (3,_) (by simp[sQ]);have t5:f1.t 5=vi s:=hg (5,_) (by simp[sQ]);have hk1':f1.k=f.k:=hk1;clear hg;refine ak ?_;refine vn ?_;simp only[wq.1,seval,t3,t7,c10,cE];by_cases hz:zH G beg ((s:Nat):Int)=0
  ·obtain⟨rfl,rfl,rfl⟩:=hok hz;rw[hz,Kv cE];refine vm ?_;simp only[wq.1,seval,t7,hz];show awp _ _ _ _ _ _ _;subst hs;obtain⟨hcl,hsv,hl0,hl1⟩:=hq _ _ _ _ hIu (by omega) hz;refine ak ?_;refine Y9 G beg pr left (j+1) _ _ _ (A7 G beg pr (j+1)) U id c8 c5 cU hcl hsv ?_ ?_ ?_
   ·intro q hq;simp only[pq,zrj,zrp,or_false]at hq;rcases hq with rfl|rfl|rfl|rfl|rfl|rfl<;>simp only[wq.1,seval,t0,t1,t2,t3,t5,t6]
   ·simp only[wq.1,hd1]
   rintro f2 res vals nn ln e2 hA hg hd2 hk2 ⟨t8,t7'⟩;have hk2':f2.k=f.k:=by rw[hk2];exact hk1'
   clear t0 t1 t2 t3 t5 t6 t7 hk2;show awp _ _ _ _ _ _ _;have hIv:=hap _ _ _ _ (aw [vi res,aI vals,vi nn,cls ln]) hIu;obtain⟨⟨d8,d9,d10⟩,d5,dE,_⟩:=hI _ _ _ _ hIv;obtain⟨W,hW⟩:∃W,W=aa h1:=⟨_,rfl⟩;have dU:(h1++[aw [vi res,aI vals,vi nn,cls ln]])[U]? =ar (aw [vi (cO G beg (j+1)).n,cls (cO G beg (j+1)).cl,cls (iy G beg (j+1))]):=by rw[zqj (zqe cU).1];exact cU
   have dW:(h1++[aw [vi res,aI vals,vi nn,cls ln]])[W]? =ar (aw [vi res,aI vals,vi nn,cls ln]):=by rw[hW];exact ug
   rw[<-hW]at t8;have hU5:10<U/\U<aa h1:=by
    have h5:=(zqe b5).1;have h6:=(zqe b10).1;have h7:=(zqe cU).1;omega
   have hW5:W≠5:=by omega
   obtain⟨h2,eh2⟩:∃h2,h2=h1++[aw [vi res,aI vals,vi nn,cls ln]]:=⟨_,rfl⟩;rw[<-eh2]at hIv d8 d9 d10 d5 dE dU dW ⊢;have t0:f2.t 0= .yd id:=hg (0,_) (by simp[pq]);have t1:f2.t 1= .lp 9 0:=hg (1,_) (by simp[pq]);have t2:f2.t 2= .lp 8 0:=hg (2,_) (by simp[pq]);have t3:f2.t 3= .lp 10 0:=hg (3,_) (by simp[pq]);have t5:f2.t 5=vi ((j+1:Nat):Int):=hg (5,_) (by simp[pq]);have t6:f2.t 6= .lp U 0:=hg (6,_) (by simp[pq]);clear hg;refine ak ?_;refine vn ?_;simp only[wq.1,seval,t3,t7',d10,dE];by_cases hz2:e2=0
   ·subst hz2;rw[Kv dE];refine vm ?_;simp only[wq.1,seval,t7'];show awp _ _ _ _ _ _ _;have hnn:0<=nn/\nn<=max left 0:=by
     rcases hA with⟨_,_,_,_,rfl⟩|⟨_,_,rfl,ok⟩
     ·omega
     ·have:=ok.1;omega
    have hsub:a5 .i64 (left-nn)=left-nn:=aV (by omega) (by omega);refine ak ?_;refine nI dV 9 (.one 9<| .fin) (λf' h'=>f'.t 0= .yd id/\f'.t 1= .lp 9 0/\f'.t 2= .lp 8 0/\f'.t 3= .lp 10 0/\f'.t 5=vi ((j+1:Nat):Int)/\f'.t 6= .lp U 0/\f'.t 8= .lp W 0/\f'.d=[]/\f'.k=f.k/\h'=h2.set 5 (aw (aqC G beg pr (left-nn)))) (by decide +kernel) ?_ ?_
    ·intro K hK;simp only[List.take_succ_cons,List.take_zero];simp only[wq.1,seval,t2,t8,d8,d5,dW,hsub];refine hK _ ?_;simp only[wq.1,seval,t0,t1,t2,t3,t5,t6,t8,hd2,d5];exact hk2'
    clear t0 t1 t2 t3 t5 t6 t8 hd2;rintro f3 h3 ⟨t0,t1,t2,t3,t5,t6,t8,hd3,hk3,rfl⟩;show awp _ _ _ _ _ _ _;have hst:=step j left h2 f.k res vals nn ln hIv hk (by omega) hz hA;have hw:a5 .i64 (((j+1:Nat):Int)+1)=((j+1+1:Nat):Int):=ax (by omega);have r6:(h2.set 5 (aw (aqC G beg pr (left-nn))))[U]? =ar (aw [vi (cO G beg (j+1)).n,cls (cO G beg (j+1)).cl,cls (iy G beg (j+1))]):=by rw[zqn (by omega)];exact dU
    have r8:(h2.set 5 (aw (aqC G beg pr (left-nn))))[W]? =ar (aw [vi res,aI vals,vi nn,cls ln]):=by rw[zqn (by omega)];exact dW
    obtain⟨t,n',ps,asg,body,pend,hL,hsz,hps,hw2⟩:=hst;refine vn ?_;simp only[wq.1,seval,t0,t6,t8,hL,r6,r8];refine⟨⟨by simpa using hsz,hps⟩,pX hw2 ?_⟩;rintro jm h' p hp (⟨rfl,hJ⟩|⟨hj,hS⟩)
    ·obtain⟨_,_,_,q8,q9,q10⟩:=hI _ _ _ _ hJ;have p8:p 8=am:=(zsf.1 q8).2;have p9:p 9=am:=(zsf.1 q9).2;have p10:p 10=am:=(zsf.1 q10).2;refine⟨by simp[ED,hd3],?_⟩;simp only[wq.1,seval,Option.isNone_none];refine vm ?_;simp only[wq.1,↓reduceIte];refine vm ?_;simp only[wq.1,seval,t5,hw];refine .inl ⟨q-1,by omega,j+1,left-nn,by omega,by simp only[wq.1,seval,t0,hp],by simp only[wq.1,seval,t1,p9],by simp only[wq.1,seval,t2,p8],by simp only[wq.1,seval,t3,p10],rfl,hd3,by simp only[wq.1,hk3,hk,hp],by simp only[wq.1,hk3];exact hJ⟩
    ·refine⟨by simp[ED,hd3],?_⟩;simp only[wq.1,seval,hj];refine vm ?_;simp only[wq.1,↓reduceIte,hd3,hp,hk3,hk];exact .inr (.inl ⟨jm,hS⟩)
   ·have hb2:(e2 != 0)=ab:=by simpa using hz2
    refine vm ?_;simp only[wq.1,seval,hb2,hd2,t7'];refine⟨by rw[hk2'];exact hk,Or.inr (Or.inr ⟨e2,?_⟩)⟩;rw[hk2'];exact herr _ _ _ _ _ hIv (by omega) hz2 (.inr ⟨hz,_,_,_,_,hA⟩)
  ·have hb:(zH G beg ((s:Nat):Int) != 0)=ab:=by simpa using hz
   refine vm ?_;simp only[wq.1,seval,hb,hd1,t7];refine⟨by rw[hk1'];exact hk,Or.inr (Or.inr ⟨zH G beg ((s:Nat):Int),?_⟩)⟩;rw[hk1'];subst hs;exact herr _ _ _ _ _ hIu (by omega) hz (.inl ⟨hz,rfl⟩)
 ·have hdj:aM (((j+1:Nat):Int)<=k)=am:=by rw[zqd];omega
  rw[hdj];simp only[wq.1,hd];have:j=k:=by omega
  subst this;exact⟨hk,.inl ⟨left,hIk⟩⟩
theorem Kw{g:Gr}{u:US}(h:∀c∈u.cl,aa c<=3):∀ {i:Nat},i<=aa g.ands->∀c∈(u.ands g i).cl,aa c<=3
 |0,_=>h
 |i+1,hi=>by
  rw[fF (by omega)];intro c hc;have hc:c∈(u.ands g i).cl++[_,_,_]:=hc;rcases zrf.1 hc with hc|hc
  ·exact Kw h (by omega) c hc
  ·simp only[zrj,zrp,or_false]at hc;rcases hc with rfl|rfl|rfl<;>simp
theorem QQ{g:Gr}{b:Cl}:∀k,∀c∈(cO g b k).cl,aa c<=3
 |0=>λc hc=>by have hc:c=[1]:=zrc.1 hc;subst hc;simp
 |k+1=>Kw (QQ k) (zrb _)
variable{l:List Cl}
theorem Ky{n:Nat}(h:chk l n=0):G5 l:=λc hc b hb=>by obtain⟨h1,h2,h3,h4⟩:=uj h;have:=O1 (h4 c hc b hb);omega
variable{ln:List Cl}
theorem QR(h1:∀m (hm:m<aa ln),Bad (l++ln.take m) (Dn ln[m]))(h2:Bad (l++ln) []):EW l ln=ab:=by rw[Bv (zrb _) λk hk _=>EU (h1 k hk),zrx,List.drop_length];exact EU h2
variable{bud res:Int}{vals:List Bool}
theorem QS{n:Nat}(ok:vP l n bud res vals ln)(hr:res=0)(hl:G5 l)(hn:n<=20000)(vs:List Bool):sat l vs=am:=by
 obtain⟨h1,h2,h3,h4,h5⟩:=ok;rcases h5 with⟨_,_,hb⟩|⟨e,_⟩|⟨e,_⟩
 ·refine yU hl (λc hc a ha=> ?_) (QR h2 hb);have:=(h3 c hc).2.2 a ha;omega
 ·omega
 ·omega
theorem QT{a b:Mo}:∀i,(mN a b i).p.length<=i
 |0=>zrb _
 |i+1=>by
  have ih:=QT (a:=a) (b:=b) i;show(l7 _ _ _ (mN a b i) i _).p.length<=i+1;unfold l7;split
  ·omega
  ·dsimp only;rw[zqa];simp;omega
structure JAsk(a b:Mo):Prop where
 hg:(aF a b).chk=0
 hb:(mV a b).b.length=(aF a b).next.length
 hb2:∀x∈(mV a b).b,0<=x/\x<=2
 sz:(aF a b).ins.toNat+(aF a b).next.length+(aF a b).ands.length<=4000
 fst:(aF a b).first=1+(aa a.ins:Int)+((aa a.lat:Int)+(aa b.lat:Int))
 ol:(aF a b).outs.length=aa a.out
 ou:∀x∈(aF a b).outs,0<=x/\x<(aF a b).all
 al:(aF a b).all<=8002
 pr:∀p∈(mV a b).p,(0<=2*p.1/\2*p.1<(aF a b).all)/\0<=2*p.2/\2*p.2<(aF a b).all
 pl:(mV a b).p.length<=4000
 os:aa a.out<=4000
variable{a b:Mo}
theorem YY(c:CanOk a b)(big:JBig a b):JAsk a b:=by
 have hg:=DU c big;obtain⟨_,i0,i1,i2,i3,i4,i5⟩:=aU hg;obtain⟨r1,r2,r3,r4⟩:=aJ i4;have wf:(aF a b).first=1+(aF a b).ins+(aF a b).next.length:=rfl
 have wa:(aF a b).all=2*((aF a b).first+(aF a b).ands.length):=rfl;obtain⟨j1,j2,j3⟩:=qV c;have hb:=big.n;have ha:=Gj c;have hands:(aF a b).ands=(jO a b (aa a.out)).1:=rfl;have hi:(aF a b).ins=aa a.ins:=rfl;have ho:(aF a b).outs.length=aa a.out:=by show(jO a b (aa a.out)).2.length=_;have h:JIn a b (aD (aa a.lat) am) (aD (aa b.lat) am) (aD (aa a.ins) am):=⟨zsc,zsc,zsc⟩;have he:=congrArg List.length (Gm c h);unfold oV at he;rw[zra,zra,List.length_range]at he;exact he
 have hpl:=QT (a:=a) (b:=b) (aa a.lat);refine⟨hg,j1,j2,by rw[hands,hi];omega,by rw[qU c];rfl,ho,r4,?_,Qw c big,by show(mN a b (aa a.lat)).p.length<=4000;omega,by omega⟩;rw[wa,wf,hands,hi];omega
theorem Yi(J:JAsk a b){s:Nat}(hs:s<=40):(cO (aF a b) (mV a b).b s).n<=170000:=by obtain⟨a1,a2,a3,a4⟩:=zF (mV a b).b (1,[]) J.hb2 (zrb _) (λa ha=>by cases ha);have:(vT (mV a b).b).1<=1+(mV a b).b.length:=a2;have hb:=J.hb;have sz:=J.sz;have e:s*((aF a b).ins.toNat+(aF a b).ands.length)<=40*4000:=Nat.mul_le_mul hs (by omega);rw[We];omega
theorem Kz(J:JAsk a b){s:Nat}(hs:s<=40):RowsOk (iy (aF a b) (mV a b).b s):=by
 have ok:=wW J.hg J.hb J.hb2 s;have hn:=Yi J hs;have hin:∀ {x:Int},inU (cO (aF a b) (mV a b).b s).n x->-1000000<=x/\x<=1000000:=λ{x} hx=>by have:=hx.2;omega
 refine⟨λr hr x hx=> ?_,by rw[zZ];omega⟩;rcases zrf.1 hr with hr|hr
 ·exact hin ((ok.r r hr).1 x hx)
 ·rw[zrc.1 hr]at hx;rcases zrf.1 hx with hx|hx
  ·rcases zrj.1 hx with rfl|hx
   ·omega
   ·rcases zrf.1 hx with hx|hx
    ·rw[List.eq_of_mem_replicate hx];omega
    ·exact hin (ok.lo x hx)
  ·rw[List.eq_of_mem_replicate hx];omega
theorem QU(J:JAsk a b){s:Nat}(hs:s<=40){left:Int} :
 ag TE 37 [.lp 0 0,uV (cO (aF a b) (mV a b).b s).n (cO (aF a b) (mV a b).b s).cl (iy (aF a b) (mV a b).b s),vi s] [aw (aqC (aF a b) (mV a b).b (mV a b).p left)] λae h' p=>ae= .ret (cls (A7 (aF a b) (mV a b).b (mV a b).p s))/\h'[0]? =ar (aw (aqC (aF a b) (mV a b).b (mV a b).p left))/\p 0=am:=by
 have R:=Kz J hs;have al:=J.al;have sz:=J.sz;have ol:=J.ol;refine ag.mono (IL (aF a b) (mV a b).b (mV a b).p left _ (cO (aF a b) (mV a b).b s).cl (iy (aF a b) (mV a b).b s) s R.b R.l (by omega) (λx hx=>by have:=J.ou x hx;omega) ?_ (λp hp=>by have:=J.pr p hp;omega) (by have:=J.pl;omega) ?_) ?_
 ·rw[ol];have:=J.os;omega
 ·rw[P6];have e:s*(aF a b).ands.length<=40*4000:=Nat.mul_le_mul hs (by omega);omega
 ·rintro ae h' p ⟨rfl,rfl,h⟩;exact⟨rfl,rfl,h⟩
theorem QV(J:JAsk a b)(ho:aa a.out<=1000){s:Nat}:∀c∈A7 (aF a b) (mV a b).b (mV a b).p s,aa c<=1000:=λc hc=>by
 unfold A7 at hc;rcases zrf.1 hc with hc|hc
 ·rcases zrf.1 hc with hc|hc
  ·have:=QQ _ c hc;omega
  ·obtain⟨p,_,hp⟩:=List.mem_flatMap.1 hc;unfold Gq at hp;simp only[zrj,zrp,or_false]at hp;rcases hp with rfl|rfl<;>simp
 ·rw[zrc.1 hc,zra,J.ol];exact ho
theorem Yj(J:JAsk a b)(c:CanOk a b)(big:JBig a b){s:Nat}(hs0:0<s)(hs:s<=40){vals:List Bool}(hv:aa vals=(cO (aF a b) (mV a b).b s).n):DF a b (aF a b) (iy (aF a b) (mV a b).b s) vals s:=by
 have hb:=big.n;have fst:=J.fst;have wa:(aF a b).all=2*((aF a b).first+(aF a b).ands.length):=rfl;have al:=J.al;refine⟨Kz J hs,by omega,zZ,by omega,by omega,by omega,λt x ht h0 h1=> ?_,λl hl=>⟨?_,?_⟩,by rw[J.ol];omega⟩
 ·rw[hv];exact(qB J.hg J.hb J.hb2 ht h0 (by omega)).1
 ·rw[hv,show(s:Int)-1=((s-1:Nat):Int) by omega];exact(qB J.hg J.hb J.hb2 (by omega) (J.ou l hl).1 (J.ou l hl).2).1
 ·have:=(J.ou l hl).2;omega
def A8(a b:Mo)(bud:Int):Nat->Nat->Int->An×Int->Prop
 |0,_,left,r=>r=({An.z with conf:=bud-left},0)
 |m+1,s,left,r =>
  (∃e,e≠0/\YB (aF a b) (mV a b).b (mV a b).p s left e/\r=(An.z,e)) \/
  (zH (aF a b) (mV a b).b s=0/\∃res vals nn ln,QN (A7 (aF a b) (mV a b).b (mV a b).p s) (cO (aF a b) (mV a b).b s).n left res vals nn ln 0 /\
   ((res=2/\r=({An.z with res:=2,conf:=bud-(left-nn)},0)) \/
    (res=1/\r=({qC a b (aF a b) (iy (aF a b) (mV a b).b s) vals s with conf:=bud-(left-nn)},0)) \/
    (res≠2/\res≠1/\A8 a b bud m (s+1) (left-nn) r)))
def iQ(a b:Mo)(k bud:Int)(r:An×Int):Prop :=
 if pg a b≠0 then r=(An.z,pg a b)else if k<0\/40<k then r=(An.z,8)else if(mV a b).ok=am then r=(An.z,0)else A8 a b (max bud 0) k.toNat 1 (max bud 0) r
def YP(a b:Mo)(k bud:Int):Prop:=∀(s:Nat)(cl:List Cl)(left:Int),(s:Int)<=k->0<=left->left<=max bud 0->chk cl (cO (aF a b) (mV a b).b s).n=0->∃B,Big (cO (aF a b) (mV a b).b s).n cl left B
def XC(x:An)(A B S:V):Prop:=(A=aI x.A/\B=aI x.B/\S=rwB x.seq)\/(A= .nils/\B= .nils/\S= .nils/\x.A=[]/\x.B=[]/\x.seq=[])
variable{x:An}
theorem XC.zero(ha:x.A=[])(hb:x.B=[])(hs:x.seq=[]):XC x .nils .nils .nils:= .inr ⟨rfl,rfl,rfl,ha,hb,hs⟩
theorem QW:XC x (aI x.A) (aI x.B) (rwB x.seq):= .inl ⟨rfl,rfl,rfl⟩
theorem XC.reif{A B S:V}(h:XC x A B S){h':H}:aH TE h' (.agg [vi x.res,vi x.out,A,B,S,vi x.conf]) x.v:=by
 unfold An.v;rcases h with⟨rfl,rfl,rfl⟩|⟨rfl,rfl,rfl,e1,e2,e3⟩
 ·exact aH.dat (by simp only[a6,a7,rM,zre])
 ·unfold anC;rw[e1,e2,e3];exact aH.agg (aj.cons (aH.dat rfl) (aj.cons (aH.dat rfl) (aj.cons aH.nils (aj.cons aH.nils (aj.cons aH.nils (aj.cons (aH.dat rfl) aj.nil))))))
theorem XC.conf{A B S:V}(h:XC x A B S)(c:Int):XC {x with conf:=c} A B S:=h
variable{left:Int}
theorem Uj{e:Int}{m s:Nat}(he:e≠0)(h:YB (aF a b) (mV a b).b (mV a b).p s left e):A8 a b bud (m+1) s left (An.z,e):= .inl ⟨e,he,h,rfl⟩
variable{nn:Int}
theorem A8.some{bud:Int}{m s:Nat}{r:An×Int}(hc:zH (aF a b) (mV a b).b s=0)(h:QN (A7 (aF a b) (mV a b).b (mV a b).p s) (cO (aF a b) (mV a b).b s).n left res vals nn ln 0)
 (hr:(res=2/\r=({An.z with res:=2,conf:=bud-(left-nn)},0)) \/
  (res=1/\r=({qC a b (aF a b) (iy (aF a b) (mV a b).b s) vals s with conf:=bud-(left-nn)},0)) \/
  (res≠2/\res≠1/\A8 a b bud m (s+1) (left-nn) r)):A8 a b bud (m+1) s left r:= .inr ⟨hc,res,vals,nn,ln,h,hr⟩
def KA:Plan:= .alt 0 (.alt 1 (.one 2<| .take 3<| .fin) (.one 2 (.one 1<| .take 3<| .fin))) (.one 1 (.one 0<| .one 2<| .take 3<| .fin))
abbrev zX:List V:=[vi 0,vi 0,.nils,.nils,.nils,vi 0]
abbrev hX(a b:Mo)(k left e:Int)(xc:List V):H:=[aw (cCM a),aw (cCM b),aw zX,aw [vi (aF a b).ins,az (aF a b).next,az (aF a b).init,prs (aF a b).ands,az (aF a b).outs,az (mV a b).b,prs (mV a b).p],aw [vi e],aw (aqC (aF a b) (mV a b).b (mV a b).p left),aw [.lp 5 0],aw xc,aw [.lp 5 0],aw [vi k],aw [.lp 4 0]]
structure FT(B:Int)(t:Nat->V):Prop where
 t3:t 3=vi B
 t4:t 4= .lp 0 0
 t5:t 5= .lp 1 0
 t8:t 8= .lp 2 0
 t12:t 12= .lp 4 0
 t13:t 13= .lp 6 0
 t14:t 14= .lp 7 0
theorem WC{n e2:Int}(h:QN l n bud res vals nn ln e2):0<=nn/\nn<=max bud 0:=by
 rcases h with⟨_,_,_,_,rfl⟩|⟨_,_,rfl,ok⟩
 ·omega
 ·have:=ok.1;omega
theorem qX(a b:Mo)(k bud:Int)(ha:a.g.Sm)(hb:b.g.Sm)(hbig:pg a b=0->JBig a b)(ho:pg a b=0->aa a.out<=1000)(hB:pg a b=0->YP a b k bud)(hbd:bud<=1200000000000) :
 EvR TE 7 [a.v,b.v,vi k,vi bud] (λr=>∃x,iQ a b k bud x/\r= .tup [x.1.v,vi x.2]):=by
 have hM:=mLx;have hjn:=D5 a b ha hb hbig;unfold Mo.v at hjn ⊢;have dab:a7 [.agg (cCM a),.agg (cCM b)]=ab:=by simp only[a7,a6,zre]
 refine EvR.of_calls ?_;refine ah Tryz.func7 rfl (by simp[nts]) ?_;refine vn ?_;simp only[wq.1,seval,Tryz.results7];by_cases hz:pg a b=0
 ·have ej:DZ a b= .tup [miV (aF a b) (mV a b).b (mV a b).p,.bool (mV a b).ok,vi 0]:=by unfold DZ;rw[if_pos hz]
  rw [ej] at hjn;refine vn ?_;simp only [wq.1,seval];refine ag.ev hjn dab ?_;simp only [wq.1,seval];refine iL (λf => f.t 2 = vi k /\ f.t 3 = vi bud /\ f.t 4 = .lp 0 0 /\ f.t 5 = .lp 1 0 /\ f.t 8 = .lp 2 0 /\ f.t 10 = .lp 3 0 /\ f.t 11 = .bool (mV a b).ok /\ f.t 12 = .lp 4 0 /\ f.d = [] /\ f.k = λ_ => am) [aw (cCM a),aw (cCM b),aw [vi 0,vi 0,.nils,.nils,.nils,vi 0],aw [vi (aF a b).ins,az (aF a b).next,az (aF a b).init,prs (aF a b).ands,az (aF a b).outs,az (mV a b).b,prs (mV a b).p],aw [vi 0]]
   (λhk=>hk _ ⟨rfl,rfl,rfl,rfl,rfl,rfl,rfl,rfl,rfl,rfl⟩) ?_
  rintro f ⟨t2,t3,t4,t5,t8,t10,t11,t12,hd,hk⟩;refine ak (aB ?_);refine vn ?_;simp only[wq.1,seval,t12];by_cases hkk:k<0\/40<k
  ·have hC:iQ a b k bud (An.z,8):=by unfold iQ;rw[if_neg (by rw[hz];decide),if_pos hkk]
   cases d1:aM (k<0)with
   |true=>refine vm ?_;simp only[wq.1,seval,t2,t8,d1,hd];refine⟨_,⟨(An.z,8),hC,rfl⟩,aH.tup (aj.cons (XC.zero (x:=An.z) rfl rfl rfl).reif (aj.cons (aH.dat rfl) aj.nil))⟩
   |false =>
    have d2:aM (40<k)=ab:=by simp only[zqd]at d1;rw[zqb];omega
    refine vm ?_;simp only[wq.1,seval,t2,t8,d1,d2,hd];refine⟨_,⟨(An.z,8),hC,rfl⟩,aH.tup (aj.cons (XC.zero (x:=An.z) rfl rfl rfl).reif (aj.cons (aH.dat rfl) aj.nil))⟩
  ·have d1:aM (k<0)=am:=by rw[zqd];omega
   have d2:aM (40<k)=am:=by rw[zqd];omega
   cases d3:(mV a b).ok with
   |false =>
    have hC:iQ a b k bud (An.z,0):=by unfold iQ;rw[if_neg (by rw[hz];decide),if_neg hkk,if_pos d3]
    rw[d3]at t11;refine vm ?_;simp only[wq.1,seval,t2,t8,t11,d1,d2,hd];refine⟨_,⟨(An.z,0),hC,rfl⟩,aH.tup (aj.cons (XC.zero (x:=An.z) rfl rfl rfl).reif (aj.cons (aH.dat rfl) aj.nil))⟩
   |true =>
    have hC:iQ a b k bud=A8 a b (max bud 0) k.toNat 1 (max bud 0):=by funext r;unfold iQ;rw[if_neg (by rw[hz];decide),if_neg hkk,if_neg (by rw[d3];decide)]
    rw[d3]at t11;refine vm ?_;simp only[wq.1,seval,t2,t11,d1,d2];have hm:max bud 0<=1200000000000/\0<=max bud 0:=by omega
    refine vn ?_;simp only [wq.1,seval,t3,mxI];obtain ⟨B,hBb⟩ : ∃ B,B = max bud 0 := ⟨_,rfl⟩;rw [<- hBb];refine vn ?_;simp only [wq.1,seval,t10];refine vn ?_;simp only [wq.1,seval];refine ak ?_;refine vn ?_;simp only [wq.1,seval,t2,t12];refine QO ?_;simp only [wq.1,Nat.reduceAdd];refine iL (λf => FT B f.t /\ f.t 50 = .fn (.func 34) [] [.lp 9 0,.lp 8 0,.lp 10 0] /\ f.d = [] /\ f.k = λ_ => am) (hX a b k B 0 zX)
     (λhK=>hK _ ⟨⟨rfl,t4,t5,t8,t12,rfl,rfl⟩,rfl,hd,by simp only[wq.1];exact hk⟩) ?_
    clear t2 t3 t4 t5 t8 t10 t11 t12 hd hk f;rintro f ⟨ft,t50,hd,hk⟩;obtain ⟨kn,rfl⟩ : ∃ kn : Nat,k = kn := ⟨k.toNat,by omega⟩;rw [zsg,<- hBb] at hC;have J := YY (o9 hz) (hbig hz);refine aB ?_;refine vk (n := 79) (q := 34) (first := []) (captured := [.lp 9 0,.lp 8 0,.lp 10 0]) (by simp only [wq.1,t50]) (by simp only [wq.1,t50]) rfl (by decide) ?_;intro L hLd gets;refine ag.mono (Nl 12 4 _ (aF a b) (mV a b).b (mV a b).p kn B (by omega) (by omega)
     (λj left h kk=>(∀i,i<13->kk i=am)/\0<=left/\left<=B/\∃t X,FT B t/\h=hX a b kn left 0 zX++[.misc .dfd,L t .ready aL]++X/\∀r,A8 a b B (kn-j) (j+1) left r->A8 a b B kn 1 B r)
     (λjm h kk=>(∀i,i<13->kk i=am)/\jm=ar (.exit 1)/\∃t X left x A' B' S',FT B t/\XC x A' B' S'/\0<=left/\left<=B/\A8 a b B kn 1 B ({x with conf:=B-left},0)/\h=hX a b kn left 0 [vi x.res,vi x.out,A',B',S',vi x.conf]++[.misc .dfd,L t .done (ar (.exit 1))]++X)
     (λe h kk=>(∀i,i<13->kk i=am)/\e≠0/\∃t X left,FT B t/\A8 a b B kn 1 B (An.z,e)/\h=hX a b kn left e zX++[.misc .dfd,L t .ready aL]++X)
     ?_ ?_ ?_ ?_ ?_ ?_ ?_) ?_
    ·rintro j left h kk ⟨hk13,hl0,hl1,t,X,ft,rfl,hrun⟩;exact⟨⟨rfl,rfl,rfl⟩,rfl,rfl,hk13 8 (by omega),hk13 9 (by omega),hk13 10 (by omega)⟩
    ·rintro j left h kk o ⟨hk13,hl0,hl1,t,X,ft,rfl,hrun⟩;exact⟨hk13,hl0,hl1,t,X++[o],ft,by rw[zqc],hrun⟩
    ·exact⟨λ_ _=>rfl,by omega,by omega,f.t,[],ft,rfl,λr h=>h⟩
    ·rintro j left h kk e ⟨hk13,hl0,hl1,t,X,ft,rfl,hrun⟩ hj he hx;refine⟨hk13,he,t,X,left,ft,hrun _ ?_,rfl⟩;rw[show kn-j=kn-(j+1)+1 by omega];exact Uj he hx
    ·intro s;exact P8 (aF a b) (mV a b).b s ⟨by have:=J.sz;omega,by have:=J.sz;omega⟩ (by rw[J.hb];have:=J.sz;omega)
    ·rintro j left h kk ⟨hk13,hl0,hl1,t,X,ft,rfl,hrun⟩ hj hc;refine⟨QU J (by omega),?_,by omega,by omega⟩;refine Tv _ _ _ (QV J (ho hz)) λhck=> ?_;rw[zsg,show max left 0=left by omega];exact hB hz (j+1) _ left (by omega) hl0 (by omega) hck
    ·rintro j left h' kk res vals nn ln ⟨hk13,hl0,hl1,t,X,ft,eh,hrun⟩ hkid hj hc hA;obtain⟨nn0,nn1⟩:=WC hA;have hdr:∀r,((res=2/\r=({An.z with res:=2,conf:=B-(left-nn)},0))\/(res=1/\r=({qC a b (aF a b) (iy (aF a b) (mV a b).b (j+1)) vals (j+1)with conf:=B-(left-nn)},0))\/(res≠2/\res≠1/\A8 a b B (kn-(j+1)) (j+1+1) (left-nn) r))->A8 a b B kn 1 B r:=λr hr=>hrun r (by
      rw[show kn-j=kn-(j+1)+1 by omega];exact A8.some hc hA hr)
     obtain⟨H0,eH0⟩:∃H0,H0=h'.set 5 (aw (aqC (aF a b) (mV a b).b (mV a b).p (left-nn))):=⟨_,rfl⟩;rw[<-eH0];have x0:H0=hX a b kn (left-nn) 0 zX++[.misc .dfd,L t .ready aL]++X:=by rw[eH0,eh];rfl
     have g12:H0[12]? =ar (L t .ready aL):=by rw[x0];rfl
     have hlen:13<=aa H0:=by rw[x0];simp
     refine gets _ _ _ t g12 rfl (λlb=> ?_);have hlo:∀o:O,(H0++[o])[aa H0]? =ar o:=λo=>ug;have hso:∀o o':O,(H0++[o]).set (aa H0) o'=H0++[o']:=λo o'=>Di;obtain⟨uO,euO⟩:∃uO:O,uO=aw [vi (cO (aF a b) (mV a b).b (j+1)).n,cls (cO (aF a b) (mV a b).b (j+1)).cl,cls (iy (aF a b) (mV a b).b (j+1))]:=⟨_,rfl⟩;have hlo1:∀o:O,(H0++[uO]++[o])[aa H0+1]? =ar o:=λo=>by rw[zsb (by simp)];simp
     have hso1:∀o o':O,(H0++[uO]++[o]).set (aa H0+1) o'=H0++[uO]++[o']:=λo o'=>by rw[List.set_append_right _ _ (by simp)];simp
     rw[euO]at hlo1 hso1;refine vm ?_;simp only[wq.1,seval,hlo,hso,hlo1,hso1,Jf];refine⟨t,by rw[zqc,zqj (by omega)];exact g12,?_⟩;rw[<-euO];clear hlo hso hlo1 hso1;obtain⟨aO,eaO⟩:∃aO:O,aO=aw [vi res,aI vals,vi nn,cls ln]:=⟨_,rfl⟩;rw[<-eaO];obtain⟨n0,hn0⟩:∃n0,n0=aa H0:=⟨_,rfl⟩;rw[<-hn0];obtain⟨H1,eH1⟩:∃H1,H1=(H0++[uO]++[aO]).set 12 (L t .busy aL):=⟨_,rfl⟩;rw[<-eH1];have x1:H1=hX a b kn (left-nn) 0 zX++[.misc .dfd,L t .busy aL]++(X++[uO]++[aO]):=by rw[eH1,x0];rfl
     have y0:H1[0]? =ar (aw (cCM a)):=by rw[x1];rfl
     have y1:H1[1]? =ar (aw (cCM b)):=by rw[x1];rfl
     have y5:H1[5]? =ar (aw (aqC (aF a b) (mV a b).b (mV a b).p (left-nn))):=by rw[x1];rfl
     have y6:H1[6]? =ar (aw [.lp 5 0]):=by rw[x1];rfl
     have y7:H1[7]? =ar (aw zX):=by rw[x1];rfl
     have yu:H1[n0]? =ar (aw [vi (cO (aF a b) (mV a b).b (j+1)).n,cls (cO (aF a b) (mV a b).b (j+1)).cl,cls (iy (aF a b) (mV a b).b (j+1))]):=by rw[eH1,zqn (by omega),zqc,zsb (by omega),hn0,Nat.sub_self,euO];rfl
     have ya:H1[n0+1]? =ar (aw [vi res,aI vals,vi nn,cls ln]):=by rw[eH1,zqn (by omega),zqc,zsb (by omega),hn0,show aa H0+1-aa H0=1 by omega,eaO];rfl
     have t4:=ft.t4;have t5:=ft.t5;have t13:=ft.t13;have t14:=ft.t14;have hkk':∀i,i<13->(kk i||false)=am:=λi hi=>by rw[hk13 i hi];rfl
     refine aB ?_;refine vn ?_;simp only[wq.1,seval,ya];cases d2:(res==2)with
     |true=>simp only[wq.1,seval,t14,y7,yJ,XE.jump];rw[x1];refine⟨t,.busy,rfl,Or.inr ⟨rfl,hk13,t,X++[uO]++[aO],left-nn,{An.z with res:=2},.nils,.nils,.nils,ft,XC.zero rfl rfl rfl,by omega,by omega,?_,rfl⟩⟩;exact hdr _ (.inl ⟨by simpa using d2,rfl⟩)
     |false =>
      cases d1:(res==1)with
      |true =>
       have hr1:res=1:=by simpa using d1
       have hvl:aa vals=(cO (aF a b) (mV a b).b (j+1)).n:=by
        rcases hA with⟨h1,h2,_⟩|⟨_,_,_,ok⟩
        ·exact absurd h2.symm h1
        ·rcases ok.2.2.2.2 with⟨h,_⟩|⟨_,h,_⟩|⟨h,_⟩
         ·omega
         ·rw[h,zsg]
         ·omega
       have D:=Yj J (o9 hz) (hbig hz) (s:=j+1) (by omega) (by omega) hvl;simp only[wq.1];refine vn ?_;simp only[wq.1,seval,d1,ya];refine vm ?_;simp only[wq.1,seval,ya,yu,t4,t5,t13,y0,y1,y6];refine ui (k:=5) (Nk (beg:=(mV a b).b) (pr:=(mV a b).p) (left:=left-nn) (n:=(cO (aF a b) (mV a b).b (j+1)).n) (cl:=(cO (aF a b) (mV a b).b (j+1)).cl) D (by omega)) (by simp only[An.v,a6,a7,rM,zre]) rfl y5 ⟨.inr ⟨0,rfl,rfl⟩,.inl ⟨by simp only[a6,a7,zre],rfl⟩,.inl ⟨by simp only[a6,a7,zre],rfl⟩,.inl ⟨by simp only[a6,a7,fZ,zre],rfl⟩,.inl ⟨rfl,rfl⟩,trivial⟩ ?_;simp only[wq.1,seval,An.v,t14,y7,yJ,XE.jump];rw[x1];refine⟨t,.busy,rfl,Or.inr ⟨rfl,hk13,t,X++[uO]++[aO],left-nn,qC a b (aF a b) (iy (aF a b) (mV a b).b (j+1)) vals (j+1),_,_,_,ft,QW,by omega,by omega,?_,rfl⟩⟩;exact hdr _ (.inr (.inl ⟨hr1,rfl⟩))
      |false=>simp only[wq.1];refine vn ?_;simp only[wq.1,seval,d1,ya];refine vm ?_;simp only[wq.1,seval,yJ,XE.jump];rw[x1];refine⟨t,.busy,rfl,Or.inl ⟨hk13,by omega,by omega,t,X++[uO]++[aO],ft,rfl,λr hr=>hdr r (.inr (.inr ⟨by simpa using d2,by simpa using d1,hr⟩))⟩⟩
    ·rintro ae h' p ⟨hp,hr⟩;have e8:∀i∈({f with d:=(hX a b kn B 0 zX).length::f.d}:Fr).d,i=11:=λi hi=>by simpa [hd]using hi
     have t3:=ft.t3;have t8:=ft.t8;have t12:=ft.t12;have t13:=ft.t13;have t14:=ft.t14;cases ae with
     |pan v=>exact hr.elim
     |ret v =>
      rcases hr with⟨left,hk13,hl0,hl1,t,X,_,rfl,hrun⟩|⟨jm,hk13,rfl,t,X,left,x,A',B',S',_,hx,hl0,hl1,hrun,rfl⟩|⟨e,hk13,he,t,X,left,_,hrun,rfl⟩
      ·refine⟨λi hi=>by rw[e8 i hi];exact hk13 11 (by omega),hp,t,.ready,aL,(by decide),rfl,?_⟩;have k2:=hk13 2 (by omega);have k4:=hk13 4 (by omega);have k6:=hk13 6 (by omega);have k7:=hk13 7 (by omega);have k11:=hk13 11 (by omega);have hsub:a5 .i64 (B-left)=B-left:=aV (by omega) (by omega);have hend:=hrun ({An.z with conf:=B-left},0) (by rw[Nat.sub_self];rfl);rw[<-hC]at hend;simp only[wq.1,Nat.reduceAdd,hd,Et];refine vm ?_;simp only[wq.1,seval,t3,t8,t12,t13,t14,k2,k4,k6,k7,hsub];refine⟨_,⟨_,hend,rfl⟩,?_⟩;exact aH.tup (aj.cons (XC.reif (x:={An.z with conf:=B-left}) (XC.zero rfl rfl rfl)) (aj.cons (aH.dat rfl) aj.nil))
      ·refine⟨λi hi=>by rw[e8 i hi];exact hk13 11 (by omega),hp,t,.done,ar (.exit 1),(by decide),rfl,?_⟩;have k2:=hk13 2 (by omega);have k4:=hk13 4 (by omega);have k6:=hk13 6 (by omega);have k7:=hk13 7 (by omega);have k11:=hk13 11 (by omega);have hsub:a5 .i64 (B-left)=B-left:=aV (by omega) (by omega);have hend:=hrun;rw[<-hC]at hend;rcases hx with⟨rfl,rfl,rfl⟩|⟨rfl,rfl,rfl,e1,e2,e3⟩
       ·simp only[wq.1,Nat.reduceAdd,hd,Et];refine vm ?_;simp only[wq.1,seval,t3,t8,t12,t13,t14,k2,k4,k6,k7,hsub];refine⟨_,⟨_,hend,rfl⟩,?_⟩;exact aH.tup (aj.cons (XC.reif (x:={x with conf:=B-left}) QW) (aj.cons (aH.dat rfl) aj.nil))
       ·simp only[wq.1,Nat.reduceAdd,hd,Et];refine vm ?_;simp only[wq.1,seval,t3,t8,t12,t13,t14,k2,k4,k6,k7,hsub];refine⟨_,⟨_,hend,rfl⟩,?_⟩;exact aH.tup (aj.cons (XC.reif (x:={x with conf:=B-left}) (XC.zero e1 e2 e3)) (aj.cons (aH.dat rfl) aj.nil))
      ·refine⟨λi hi=>by rw[e8 i hi];exact hk13 11 (by omega),hp,t,.ready,aL,(by decide),rfl,?_⟩;have k2:=hk13 2 (by omega);have k4:=hk13 4 (by omega);have k6:=hk13 6 (by omega);have k7:=hk13 7 (by omega);have k11:=hk13 11 (by omega);have hend:=hrun;rw[<-hC]at hend;have heb:(e != 0)=ab:=by simpa using he
       simp only[wq.1,Nat.reduceAdd,hd,Et];refine vm ?_;simp only[wq.1,seval,t12,k4,heb];refine bK dV KA (λf' h'=>f'.t 8= .lp 2 0/\f'.t 9=vi e/\f'.d=[11]/\∃X,h'=hX a b kn left e zX++[.misc .dfd]++X) (by decide +kernel) (by decide +kernel) ?_ ?_
       ·simp only[wq.1,seval,KA,t8,t12,k2,k4]
        repeat' apply zsa
        all_goals exact⟨_,rfl⟩
       ·rintro f h ⟨t8,t9,hd,X,rfl⟩;simp only[wq.1,seval,t8,t9,hd];exact⟨_,⟨(An.z,e),hend,rfl⟩,aH.tup (aj.cons (XC.zero (x:=An.z) rfl rfl rfl).reif (aj.cons (aH.dat rfl) aj.nil))⟩
 ·have ej:DZ a b= .tup [miV ⟨0,[],[],[],[]⟩ [] [],.bool am,vi (pg a b)]:=by unfold DZ;rw[if_neg hz]
  rw[ej]at hjn;have hzb:(pg a b != 0)=ab:=by simpa using hz
  refine vn ?_;simp only[wq.1,seval];refine ag.ev hjn dab ?_;simp only[wq.1,seval];refine ak (aB ?_);refine vn ?_;simp only[wq.1,seval,hzb];refine vm ?_;simp only[wq.1,↓reduceIte];refine bK dV KA (λf' h'=>f'.t 8= .lp 2 0/\f'.t 9=vi (pg a b)/\f'.d=[]/\∃X,h'=[aw (cCM a),aw (cCM b),aw zX]++X) (by decide +kernel) (by decide +kernel) ?_ ?_
  ·simp only[wq.1,seval,KA]
   repeat' apply zsa
   all_goals exact⟨_,rfl⟩
  ·rintro f h ⟨t8,t9,hd,X,rfl⟩;simp only[wq.1,seval,t8,t9,hd];exact⟨_,⟨(An.z,pg a b),by unfold iQ;rw[if_pos hz],rfl⟩,aH.tup (aj.cons (XC.zero (x:=An.z) rfl rfl rfl).reif (aj.cons (aH.dat rfl) aj.nil))⟩
def Gr.few(g:Gr):Bool:=(aM (g.ins<=100)||aM (4000<g.ins))&&(aM ((aa g.next:Int)<=40)&&(aM ((aa g.init:Int)<=40)&&(aM ((aa g.ands:Int)<=60)&&aM ((aa g.outs:Int)<=60))))
theorem Uk(g:Gr):Ev TE 14 [g.v] (.bool g.few):=by
 unfold Gr.few Gr.v;refine aC Tryz.func14 rfl (by simp[nts]) (vm ?_);cases h1:aM (g.ins<=100)with
 |true =>
  cases h3:aM ((aa g.next:Int)<=40)with
  |false =>
   simp only[wq.1,seval,Tryz.results14,h1,h3]
   repeat(refine⟨.bool ab,?_⟩;simp only[wq.1,seval,aG,Tryz.results14,h1,h3])
   exact aH.dat rfl
  |true =>
   cases h4:aM ((aa g.init:Int)<=40)with
   |false =>
    simp only[wq.1,seval,Tryz.results14,h1,h3,h4]
    repeat(refine⟨.bool ab,?_⟩;simp only[wq.1,seval,aG,Tryz.results14,h1,h3,h4])
    exact aH.dat rfl
   |true =>
    cases h5:aM ((aa g.ands:Int)<=60)with
    |false =>
     simp only[wq.1,seval,Tryz.results14,h1,h3,h4,h5]
     repeat(refine⟨.bool ab,?_⟩;simp only[wq.1,seval,aG,Tryz.results14,h1,h3,h4,h5])
     exact aH.dat rfl
    |true =>
     cases h6:aM ((aa g.outs:Int)<=60)with
     |false =>
      simp only[wq.1,seval,Tryz.results14,h1,h3,h4,h5,h6]
      repeat(refine⟨.bool ab,?_⟩;simp only[wq.1,seval,aG,Tryz.results14,h1,h3,h4,h5,h6])
      exact aH.dat rfl
     |true =>
      simp only[wq.1,seval,Tryz.results14,h1,h3,h4,h5,h6]
      repeat(refine⟨.bool ab,?_⟩;simp only[wq.1,seval,aG,Tryz.results14,h1,h3,h4,h5,h6])
      exact aH.dat rfl
 |false =>
  cases h2:aM (4000<g.ins)with
  |false =>
   simp only[wq.1,seval,Tryz.results14,h1,h2]
   repeat(refine⟨.bool ab,?_⟩;simp only[wq.1,seval,aG,Tryz.results14,h1,h2])
   exact aH.dat rfl
  |true =>
   cases h3:aM ((aa g.next:Int)<=40)with
   |false =>
    simp only[wq.1,seval,Tryz.results14,h1,h2,h3]
    repeat(refine⟨.bool ab,?_⟩;simp only[wq.1,seval,aG,Tryz.results14,h1,h2,h3])
    exact aH.dat rfl
   |true =>
    cases h4:aM ((aa g.init:Int)<=40)with
    |false =>
     simp only[wq.1,seval,Tryz.results14,h1,h2,h3,h4]
     repeat(refine⟨.bool ab,?_⟩;simp only[wq.1,seval,aG,Tryz.results14,h1,h2,h3,h4])
     exact aH.dat rfl
    |true =>
     cases h5:aM ((aa g.ands:Int)<=60)with
     |false =>
      simp only[wq.1,seval,Tryz.results14,h1,h2,h3,h4,h5]
      repeat(refine⟨.bool ab,?_⟩;simp only[wq.1,seval,aG,Tryz.results14,h1,h2,h3,h4,h5])
      exact aH.dat rfl
     |true =>
      cases h6:aM ((aa g.outs:Int)<=60)with
      |false =>
       simp only[wq.1,seval,Tryz.results14,h1,h2,h3,h4,h5,h6]
       repeat(refine⟨.bool ab,?_⟩;simp only[wq.1,seval,aG,Tryz.results14,h1,h2,h3,h4,h5,h6])
       exact aH.dat rfl
      |true =>
       simp only[wq.1,seval,Tryz.results14,h1,h2,h3,h4,h5,h6]
       repeat(refine⟨.bool ab,?_⟩;simp only[wq.1,seval,aG,Tryz.results14,h1,h2,h3,h4,h5,h6])
       exact aH.dat rfl
def Mo.few(m:Mo):Bool:=m.g.few&&(MB 40 m.ins&&(MB 40 m.lat&&MB 60 m.out))
theorem KC(m:Mo):Ev TE 6 [m.v] (.bool m.few):=by
 have h09:=Uk m.g;unfold Mo.few Mo.v;unfold Gr.v at h09;refine aC Tryz.func6 rfl (by simp[nts]) (vm ?_);simp only[wq.1,seval,Tryz.results6];refine ag.ev h09 rfl ?_;simp only[wq.1,seval];refine ag.ev (zA m.ins 40) rfl ?_;simp only[wq.1,seval];refine ag.ev (zA m.lat 40) rfl ?_;simp only[wq.1,seval];refine ag.ev (zA m.out 60) rfl ?_;cases m.g.few<;>cases MB 40 m.ins<;>cases MB 40 m.lat<;>cases MB 60 m.out
 all_goals
  simp only[wq.1,seval]
  repeat(refine⟨.bool ab,?_⟩;simp only[wq.1,seval,aG,Tryz.results6])
  exact aH.dat rfl
def WE(n:Nat)(l:List (List Bool)):Bool:=aM (aa l<=n)&&l.all λs=>aM (aa s<=60)
theorem Ul(l:List (List Bool))(n:Nat):Ev TE 9 [rwB l,.int .i64 n] (.bool (WE n l)):=by
 refine Ev.bnd λhb=> ?_;have hlen:aa l<=maxLen:=by simp only[V.bnds,V.bnd,zra]at hb;exact hb.1.1
 refine aC Tryz.func9 rfl (by simp[nts]) (vm ?_);simp only[wq.1,Nat.reduceLT,Tryz.results9];refine aA (λm f h=>∃i,m+i=aa l/\f.t 0=rwB l/\f.t 1= .int .i64 n/\f.t 5= .int .i64 (i:Int)/\f.d=[]/\∀s∈l.take i,aa s<=60) (aa l) ⟨0,by simp,rfl,rfl,rfl,rfl,by simp⟩ ?_;rintro m f h ⟨i,hm,h0,h1,h5,hd,hall⟩;refine vm ?_;simp only[wq.1,seval,h0,h1,h5];refine vcB.mk (λhc=> ?_) (λhc=> ?_)
 ·simp only[zqf,zqb,zqi,Int.ofNat_le]at hc;obtain⟨hc1,hc2⟩:=hc;simp only[wq.1,seval,h0,h5,II hc1];refine⟨⟨by omega,by omega⟩,vcB.mk (λhc=> ?_) (λhc=> ?_)⟩
  ·simp only[wq.1,seval,hd];have:WE n l=am:=by
    simp only[zqb]at hc;have hx:∃x∈l,¬aa x<=60:=⟨l[i],zqu _,by omega⟩;simpa [WE]using λ_=>hx
   rw[this];exact aH.dat rfl
  ·simp only[wq.1,seval,h5,ax (show i<maxLen by omega)];refine .inl ⟨m-1,by omega,i+1,by omega,h0,h1,rfl,hd,?_⟩;simp only[zqd]at hc;intro s hs;rw[zrg]at hs;simp only[hc1,zqk,Option.toList_some,zrf,zrc]at hs;rcases hs with hs|rfl
   ·exact hall s hs
   ·omega
 ·simp only[wq.1,seval,h0,h1,hd];have:(aM ((aa l:Int)<=n))=WE n l:=by
   simp only[Bool.and_eq_false_iff,zqd,zqi,Int.ofNat_le]at hc;by_cases hi:i<aa l
   ·have h2:¬aa l<=n:=by omega
    simp[WE,h2]
   ·rw[zqh (by omega)]at hall;have:(l.all λs=>aM (aa s<=60))=ab:=by simpa using hall
    simp[WE,this]
  rw[this];exact aH.dat rfl
theorem uS{α:Type}{l:List α}{p:α->Bool}(h:i<aa l)(hp:p l[i]=ab):l.any p=ab:=List.any_eq_true.2 ⟨_,zqu h,hp⟩
theorem Af{α:Type}{l:List α}{p:α->Bool}(h:¬i<aa l)(hall:∀x∈l.take i,p x=am):l.any p=am:=by rw[zqh (by omega)]at hall;exact List.any_eq_false.2 λx hx=>by rw[hall x hx];decide
theorem Ag(a n:Int)(h0:-1000000<=n)(h1:n<=1000000):Ev TE 126 [vi a,vi n] (.bool (!xx (2*n) a)):=by
 have hw:a5 .i64 (2*n)=2*n:=aV (by omega) (by omega);refine aC Tryz.func126 rfl (by simp[nts]) (vm ?_);cases h1:aM (0<=a)with
 |true =>
  simp only[wq.1,seval,Tryz.results126,h1,hw];refine aH.eq rfl ?_;unfold xx;simp only[zqb]at h1;rw[decide_eq_false (show ¬a<0 by omega)];by_cases h:a<2*n
  ·rw[decide_eq_true h,decide_eq_false (show ¬2*n<=a by omega)];rfl
  ·rw[decide_eq_false h,decide_eq_true (show 2*n<=a by omega)];rfl
 |false=>simp only[wq.1,seval,Tryz.results126,h1];refine aH.eq rfl ?_;unfold xx;simp only[zqd]at h1;simp[show a<0 by omega]
theorem QX(g:Gr)(h0:-1000000000<=g.ins)(h1:g.ins<=1000000000)(h2:aa g.next<=1000000000):Ev TE 125 [g.v] (vi g.first):=by
 unfold Gr.v Gr.first
 refine aC Tryz.func125 rfl (by simp[nts]) (vm ?_);simp only[wq.1,seval,Tryz.results125];rw[fM (n:=1+g.ins) (by omega) (by omega),fM (by omega) (by omega)];exact aH.dat rfl
theorem Yk{l:List Pq}(h:i<aa l)(d:V):(l.map prV).getD i d=prV l[i]:=iO h d
theorem Ah{g:Gr}(hl:g.lim=am)(h:g.oddR=ab):g.chk=1:=by unfold Gr.chk;rw[if_neg (by simp[hl]),if_pos h]
theorem WF{g:Gr}(hl:g.lim=am)(h:g.oddAs (aa g.ands)=ab):g.chk=1:=by
 unfold Gr.chk;rw[if_neg (by simp[hl])];by_cases hr:g.oddR=ab
 ·rw[if_pos hr]
 ·rw[if_neg hr,if_pos h]
theorem Np(g:Gr)(bn:aa g.next<=4000)(bi:aa g.init<=4000)(ba:aa g.ands<=4000)(bo:aa g.outs<=4000):Ev TE 105 [g.v] (vi g.chk):=by
 have hM:=mLx;have hfi:g.lim=am->Ev TE 125 [g.v] (vi g.first):=λh=>by simp only[Gr.lim,zsf,zqd]at h;exact QX g (by omega) (by omega) (by omega)
 unfold Gr.v at *;refine aC Tryz.func105 rfl (by simp[nts]) (vm ?_);cases h1:aM (g.ins<0)with
 |true =>
  simp only[wq.1,seval,Tryz.results105,h1]
  repeat(refine⟨.bool ab,?_⟩;simp only[wq.1,seval,aG,Tryz.results105,h1])
  exact aH.eq rfl (by unfold Gr.chk;rw[if_pos (by unfold Gr.lim;rw[h1];rfl)])
 |false =>
 cases h2:aM (4000<g.ins)with
 |true =>
  simp only[wq.1,seval,Tryz.results105,h1,h2]
  repeat(refine⟨.bool ab,?_⟩;simp only[wq.1,seval,aG,Tryz.results105,h1,h2])
  exact aH.eq rfl (by unfold Gr.chk;rw[if_pos (by unfold Gr.lim;rw[h1,h2];rfl)])
 |false =>
 have g1:0<=g.ins/\g.ins<=4000:=by simp only[zqd]at h1 h2;omega
 have w1:a5 .i64 (g.ins+(aa g.next:Int))=g.ins+aa g.next:=aV (by omega) (by omega)
 have w2:a5 .i64 (g.ins+(aa g.next:Int)+(aa g.ands:Int))=g.ins+aa g.next+aa g.ands:=aV (by omega) (by omega)
 cases h3:aM (4000<g.ins+(aa g.next:Int)+(aa g.ands:Int))with
 |true =>
  simp only[wq.1,seval,Tryz.results105,h1,h2,w1,w2,h3]
  repeat(refine⟨.bool ab,?_⟩;simp only[wq.1,seval,aG,Tryz.results105,h1,h2,w1,w2,h3])
  exact aH.eq rfl (by unfold Gr.chk;rw[if_pos (by unfold Gr.lim;rw[h1,h2,h3];rfl)])
 |false =>
 cases h4:aM (4000<(aa g.outs:Int))with
 |true=>simp only[wq.1,seval,Tryz.results105,h1,h2,w1,w2,h3,h4];exact aH.eq rfl (by unfold Gr.chk;rw[if_pos (by unfold Gr.lim;rw[h1,h2,h3,h4];rfl)])
 |false =>
 have hl:g.lim=am:=by unfold Gr.lim;rw[h1,h2,h3,h4];rfl
 cases h5:(aa g.init:Int) != (aa g.next:Int)with
 |true =>
  simp only[wq.1,seval,Tryz.results105,h1,h2,w1,w2,h3,h4,h5];refine aH.eq rfl ?_;have h5':(aa g.init != aa g.next)=ab:=by simp only[bne_iff_ne,ne_eq,Int.natCast_inj]at h5 ⊢;exact h5
  rw[Ah hl (by unfold Gr.oddR;rw[h5'];rfl)]
 |false =>
 have h5':(aa g.init != aa g.next)=am:=by simp only[bne_eq_false_iff_eq,Int.natCast_inj]at h5 ⊢;exact h5
 have hil:aa g.init=aa g.next:=by simpa using h5'
 have hf:=hfi hl;have wf:g.first=1+g.ins+aa g.next:=rfl
 have wa:g.all=2*(g.first+aa g.ands):=rfl;have w3:a5 .i64 (g.first+(aa g.ands:Int))=g.first+aa g.ands:=aV (by omega) (by omega)
 simp only[wq.1,seval,Tryz.results105,h1,h2,w1,w2,h3,h4,h5];refine⟨by decide +kernel,Aq.mk hf rfl (by simp only[a7,a6,zre]) ?_⟩;simp only[wq.1,seval,w3];have hlit:=λa:Int=>Ag a (g.first+aa g.ands) (by omega) (by omega);rw[<-wa]at hlit;obtain⟨A,hA⟩:∃A:Int,A=g.first+aa g.ands:=⟨_,rfl⟩
 rw[<-hA]at hlit;rw[<-hA];refine aA (λm f h=>∃i,m+i=aa g.next/\f.t 1= .lp 0 0/\f.t 3=vi A/\f.t 4=vi i/\f.d=[]/\h=[aw [vi g.ins,az g.next,az g.init,prs g.ands,az g.outs]]/\(∀x∈g.next.take i,xx g.all x=am)/\∀x∈g.init.take i,xN x=am) (aa g.next) ⟨0,by simp,rfl,rfl,rfl,rfl,rfl,by simp,by simp⟩ ?_
 rintro m f h ⟨i,hm,k1,k3,k4,hd,rfl,hall,hall2⟩;refine vm ?_;simp only[wq.1,seval,k1,k4];refine vcB.mk (λhc=> ?_) (λhc=> ?_)
 ·simp only[zqb,zqi]at hc;have hc2:i<aa g.init:=by omega
  have gi:=sU hc V.any;have gi2:=sU hc2 V.any;have hw:=ax (show i<maxLen by omega);cases e1:aM (g.init[i]<0)with
  |true =>
   simp only[wq.1,seval,k1,k3,k4,gi,gi2,e1]
   repeat(first|refine⟨⟨by omega,by omega⟩,?_⟩|(refine⟨.bool ab,?_⟩;simp only[wq.1,seval,hd]))
   refine aH.eq rfl ?_;rw[Ah hl (by unfold Gr.oddR;rw[uS (p:=xN) hc2 (by unfold xN;rw[e1];rfl)];simp)]
  |false =>
  cases e2:aM (2<g.init[i])with
  |true =>
   simp only[wq.1,seval,k1,k3,k4,gi,gi2,e1,e2]
   repeat(first|refine⟨⟨by omega,by omega⟩,?_⟩|(refine⟨.bool ab,?_⟩;simp only[wq.1,seval,hd]))
   refine aH.eq rfl ?_;rw[Ah hl (by unfold Gr.oddR;rw[uS (p:=xN) hc2 (by unfold xN;rw[e1,e2];rfl)];simp)]
  |false =>
   simp only[wq.1,seval,k1,k3,k4,gi,gi2,e1,e2];refine⟨⟨by omega,by omega⟩,⟨by omega,by omega⟩,⟨by omega,by omega⟩,ag.ev (hlit _) rfl ?_⟩;cases e3:xx g.all g.next[i]with
   |true=>simp only[wq.1,seval,hd];refine aH.eq rfl ?_;rw[Ah hl (by unfold Gr.oddR;rw[uS (p:=xx g.all) hc e3];simp)]
   |false=>simp only[wq.1,seval,k4,hw];exact .inl ⟨m-1,by omega,i+1,by omega,k1,k3,rfl,hd,rfl,dF hc hall e3,dF hc2 hall2 (by unfold xN;rw[e1,e2];rfl)⟩
 ·simp only[zqd,zqi]at hc;have r1:=Af hc hall;have r2:=Af (p:=xN) (by omega) hall2;simp only[wq.1,Nat.reduceLT];refine aA (λm f h=>∃i,m+i=aa g.ands/\f.t 1= .lp 0 0/\f.t 3=vi A/\f.t 5=vi i/\f.d=[]/\h=[aw [vi g.ins,az g.next,az g.init,prs g.ands,az g.outs]]/\g.oddAs i=am) (aa g.ands) ⟨0,by simp,k1,k3,rfl,hd,rfl,rfl⟩ ?_;rintro m f h ⟨i,hm,k1,k3,k5,hd,rfl,hno⟩;refine vm ?_;simp only[wq.1,seval,k1,k5];refine vcB.mk (λhc=> ?_) (λhc=> ?_)
  ·simp only[zqb,zqi]at hc;have gi:=Yk hc V.any;have hw:=ax (show i<maxLen by omega);have w4:a5 .i64 (g.first+(i:Int))=g.first+i:=aV (by omega) (by omega)
   have hlit:=λa:Int=>Ag a (g.first+i) (by omega) (by omega);have hge:g.ands.getD i (0,0)=g.ands[i]:=aP hc;have hext:∀b,Ny (2*(g.first+i)) g.ands[i]=b->g.oddAs (i+1)=b:=λb hb=>by unfold Gr.oddAs at hno ⊢;rw[List.range_succ,List.any_append,hno];simp only[List.any_cons,List.any_nil,Bool.or_false,Bool.false_or,hge,hb]
   have hbad:Ny (2*(g.first+i)) g.ands[i]=ab->g.chk=1:=λhb=>by refine WF hl ?_;have:=hext _ hb;unfold Gr.oddAs at this ⊢;rw[List.any_eq_true]at this ⊢;obtain⟨x,hx,hy⟩:=this;exact⟨x,List.mem_range.2 (by have:=List.mem_range.1 hx;omega),hy⟩
   have hodd:Ny (2*(g.first+i)) g.ands[i]=(xx (2*(g.first+i)) g.ands[i].1||xx (2*(g.first+i)) g.ands[i].2):=by unfold Ny xx;cases aM (g.ands[i].1<0)<;>cases aM (g.ands[i].2<0)<;>cases aM (2*(g.first+(i:Int))<=g.ands[i].1)<;>rfl
   simp only[wq.1,seval,-Int.reduceNatCast,-Int.reduceNatCast',aG,Tryz.results105,k1,k3,k5,hd];refine ag.ev hf (by simp only[a7,a6,zre]) ?_;simp only[wq.1,seval,-Int.reduceNatCast,-Int.reduceNatCast',aG,Tryz.results105,bC,k1,k3,k5,hd,w4,gi];refine⟨⟨by omega,by omega⟩,by decide,ag.ev (hlit _) rfl ?_⟩;cases e3:xx (2*(g.first+i)) g.ands[i].1 with
   |true =>
    simp only[wq.1,seval,-Int.reduceNatCast,-Int.reduceNatCast',aG,Tryz.results105,bC,k1,k3,k5,hd,e3]
    repeat(refine⟨.bool ab,?_⟩;simp only[wq.1,seval,-Int.reduceNatCast,-Int.reduceNatCast',aG,Tryz.results105,k1,k3,k5,hd,e3])
    refine aH.eq rfl ?_;rw[hbad (by rw[hodd,e3];rfl)]
   |false =>
    simp only[wq.1,seval,-Int.reduceNatCast,-Int.reduceNatCast',aG,Tryz.results105,bC,k1,k3,k5,hd,e3,gi];refine⟨⟨by omega,by omega⟩,by decide,ag.ev (hlit _) rfl ?_⟩;cases e4:xx (2*(g.first+i)) g.ands[i].2 with
    |true=>simp only[wq.1,seval,hd];refine aH.eq rfl ?_;rw[hbad (by rw[hodd,e3,e4];rfl)]
    |false=>simp only[wq.1,seval,k5,hw];exact .inl ⟨m-1,by omega,i+1,by omega,k1,k3,rfl,hd,rfl,hext _ (by rw[hodd,e3,e4];rfl)⟩
  ·simp only[zqd,zqi]at hc;have hi:i=aa g.ands:=by omega
   rw[hi]at hno;simp only[wq.1,Nat.reduceLT];refine aA (λm f h=>∃i,m+i=aa g.outs/\f.t 1= .lp 0 0/\f.t 3=vi A/\f.t 7=vi i/\f.d=[]/\h=[aw [vi g.ins,az g.next,az g.init,prs g.ands,az g.outs]]/\(∀x∈g.outs.take i,xx g.all x=am)) (aa g.outs) ⟨0,by simp,k1,k3,rfl,hd,rfl,by simp⟩ ?_;rintro m f h ⟨i,hm,k1,k3,k7,hd,rfl,hall⟩;refine vm ?_;simp only[wq.1,seval,k1,k7];refine vcB.mk (λhc=> ?_) (λhc=> ?_)
   ·simp only[zqb,zqi]at hc;have gi:=sU hc V.any;have hw:=ax (show i<maxLen by omega);simp only[wq.1,seval,k1,k3,k7,gi];refine⟨⟨by omega,by omega⟩,ag.ev (hlit _) rfl ?_⟩;cases e3:xx g.all g.outs[i]with
    |true=>simp only[wq.1,seval,hd];refine aH.eq rfl ?_;rw[Ah hl (by unfold Gr.oddR;rw[uS (p:=xx g.all) hc e3];simp)]
    |false=>simp only[wq.1,seval,k7,hw];exact .inl ⟨m-1,by omega,i+1,by omega,k1,k3,rfl,hd,rfl,dF hc hall e3⟩
   ·simp only[zqd,zqi]at hc;have r3:=Af hc hall;simp only[wq.1,seval,hd];refine aH.eq rfl ?_;unfold Gr.chk;rw[if_neg (by simp[hl]),if_neg (by unfold Gr.oddR;rw[h5',r1,r2,r3];decide),if_neg (by simp[hno])]
end Go.Proofs.YthdidjjecjhenaaGreat
