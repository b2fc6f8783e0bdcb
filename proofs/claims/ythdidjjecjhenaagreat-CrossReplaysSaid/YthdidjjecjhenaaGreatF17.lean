/- Lemmas for this claim, part F17: each holds under what it names. -/
import Derived.Test.YthdidjjecjhenaaGreatF16
import Derived.Test.YthdidjjecjhenaaGreatA7
set_option linter.unusedVariables false
set_option linter.unusedSimpArgs false
set_option linter.unnecessarySimpa false
set_option maxRecDepth 20000
set_option maxHeartbeats 8000000
namespace Go.Proofs.YthdidjjecjhenaaGreat
open Go Go.Proofs Go.Abs
def An.z:An:=⟨0,0,[],[],[],0⟩
def X6(G:Gr)(beg:Cl)(pr:List Pq)(s:Nat)(left e:Int):Prop :=
 (yZ G beg s≠0/\e=yZ G beg s)\/(yZ G beg s=0/\∃res vals nn ln,Qp (Ae G beg pr s) (bY G beg s).n left res vals nn ln e)
variable{h:H}
theorem JR{i:Nat}{o:O}(hi:h[i]? =some o):h.set i o=h:=by
 refine List.ext_getElem? fun j=> ?_;rw[List.getElem?_set];split
 ·rename_i e;subst e;rw[if_pos (zqe hi).1,hi]
 ·rfl
variable{k:Int}
theorem Qq{pc:Nat}{E:Nat}{R:AEnd->H->(Nat->Bool)->Prop}(hr:R (.ret (.fn (.func 34) [] [.lp (h.length+1) 0,.lp h.length 0,.lp (h.length+1+1) 0])) (h++[.cells [.lp pc 0]]++[.cells [vi k]]++[.cells [.lp E 0]]) (fun _=>false)):ag TE 16 [.lp pc 0,vi k,.lp E 0] h R:=by refine ah Tryz.func16 rfl (by simp[nts]) (vm ?_);simp only[wq.1,seval,Tryz.results16];exact hr
theorem MC(id E:Nat)(h:H)(G:Gr)(beg:Cl)(pr:List Pq)(k:Nat)(left0:Int)(hk40:k<=40)(hid:10<id)
 (I:Nat->Int->H->(Nat->Bool)->Prop) (Stop:Option Code->H->(Nat->Bool)->Prop) (Err:Int->H->(Nat->Bool)->Prop)
 (hI:∀j left h kk,I j left h kk->(h[8]? =some (.cells [.lp 5 0])/\h[9]? =some (.cells [vi k])/\h[10]? =some (.cells [.lp E 0]))/\h[5]? =some (.cells (aqC G beg pr left))/\h[E]? =some (.cells [vi 0])/\kk 8=false/\kk 9=false/\kk 10=false)
 (hap:∀j left h kk o,I j left h kk->I j left (h++[o]) kk)
 (h0:I 0 left0 h (fun _=>false))
 (herr:∀j left h kk e,I j left h kk->j<k->e≠0->X6 G beg pr (j+1) left e->Err e (h.set E (.cells [vi e])) kk)
 (hu:∀s:Nat,Ev TE 35 [.agg [vi G.ins,ay G.next,ay G.init,prs G.ands,ay G.outs],ay beg,vi s] (.tup [rQ G beg s,vi (yZ G beg s)]))
 (hq:∀j left h kk,I j left h kk->j<k->yZ G beg ((j+1:Nat):Int)=0->(ag TE 37 [.lp 0 0,uV (bY G beg (j+1)).n (bY G beg (j+1)).cl (gQ G beg (j+1)),vi ((j+1:Nat):Int)] [.cells (aqC G beg pr left)] fun ae h' p=>ae= .ret (cls (Ae G beg pr (j+1)))/\h'[0]? =some (.cells (aqC G beg pr left))/\p 0=false) /\
  EvR TE 36 [cls (Ae G beg pr (j+1)),vi (bY G beg (j+1)).n,vi left] (yR (Ae G beg pr (j+1)) (bY G beg (j+1)).n left)/\-2000000000000<=left/\left<=2000000000000)
 (step:∀j left h' kk res vals nn ln,I j left h' kk->kk id=false->j<k->yZ G beg ((j+1:Nat):Int)=0->Qp (Ae G beg pr (j+1)) (bY G beg (j+1)).n left res vals nn ln 0 ->
  WI TE id [uV (bY G beg (j+1)).n (bY G beg (j+1)).cl (gQ G beg (j+1)),.agg [vi res,aX vals,vi nn,cls ln]] (h'.set 5 (.cells (aqC G beg pr (left-nn)))) fun jm h'' p=>(jm=none/\I (j+1) (left-nn) h'' (fun i=>kk i||p i))\/(jm.isNone=false/\Stop jm h'' (fun i=>kk i||p i))) :
 ag TE 34 ([]++[.yd id]++[.lp 9 0,.lp 8 0,.lp 10 0]) h fun ae h' p=>p id=false/\match ae with
  | .ret _=>(∃left,I k left h' p)\/(∃j,Stop j h' p)\/∃e,Err e h' p
  | .pan _=>False:=by
 have hM:=mLx;refine ah Tryz.func34 rfl (by simp[nts]) ?_;refine vn ?_;simp only[wq.1,Nat.reduceLT,Tryz.results34];refine aB ?_;refine aC (fun q f h=>∃j left,q+j=k/\f.t 0= .yd id/\f.t 1= .lp 9 0/\f.t 2= .lp 8 0/\f.t 3= .lp 10 0/\f.t 5=vi ((j+1:Nat):Int)/\f.d=[]/\f.k id=false/\I j left h f.k) k ⟨0,left0,by omega,rfl,rfl,rfl,rfl,rfl,rfl,rfl,h0⟩ ?_;rintro q f h ⟨j,left,hq',t0,t1,t2,t3,t5,hd,hk,hIk⟩;obtain⟨⟨b8,b9,b10⟩,b5,bE,_⟩:=hI _ _ _ _ hIk;refine vn ?_;simp only[wq.1,seval,t1,t5,b9];by_cases hjk:j+1<=k
 ·have hdj:decide (((j+1:Nat):Int)<=k)=true:=by rw[zqb];omega
  rw[hdj];simp only[wq.1];refine ak (aB ?_);refine ak ?_;obtain⟨s,hs⟩:∃s,s=j+1:=⟨_,rfl⟩;obtain⟨n,cl,rows,hun,hok⟩:∃n cl rows,rQ G beg ((s:Nat):Int)=uV n cl rows/\(yZ G beg ((s:Nat):Int)=0->n=(bY G beg s).n/\cl=(bY G beg s).cl/\rows=gQ G beg s):=by
   by_cases h:yZ G beg ((s:Nat):Int)=0
   ·refine⟨_,_,_,by unfold rQ Yr;rw[if_pos h,zsg],fun _=>⟨rfl,rfl,rfl⟩⟩
   ·exact⟨0,[],[],by unfold rQ;rw[if_neg h],fun h'=>absurd h' h⟩
  have hus:=hu s;rw[hun]at hus;rw[<-hs]at t5 ⊢;refine YE G beg pr left s n cl rows _ id b8 b5 hus ?_ ?_ ?_
  ·intro q hq;simp only[rW,zrj,zrp,or_false]at hq;rcases hq with rfl|rfl|rfl|rfl|rfl<;>simp only[wq.1,seval,t0,t1,t2,t3,t5]
  ·simp only[wq.1,hd]
  clear t0 t1 t2 t3 t5;have hIu:=hap _ _ _ _ (.cells [vi n,cls cl,cls rows]) hIk;obtain⟨⟨c8,c9,c10⟩,c5,cE,_⟩:=hI _ _ _ _ hIu;obtain⟨U,hU⟩:∃U,U=h.length:=⟨_,rfl⟩;have cU:(h++[.cells [vi n,cls cl,cls rows]])[U]? =some (.cells [vi n,cls cl,cls rows]):=by rw[hU];exact sW
  rw[<-hU];obtain⟨h1,eh1⟩:∃h1,h1=h++[O.cells [vi n,cls cl,cls rows]]:=⟨_,rfl⟩;rw[<-eh1]at hIu c8 c9 c10 c5 cE cU ⊢;rintro f1 hg hd1 hk1 ⟨t6,t7⟩;show awp _ _ _ _ _ _ _;have t0:f1.t 0= .yd id:=hg (0,_) (by simp[rW]);have t1:f1.t 1= .lp 9 0:=hg (1,_) (by simp[rW]);have t2:f1.t 2= .lp 8 0:=hg (2,_) (by simp[rW]);have t3:f1.t 3= .lp 10 0:=hg (3,_) (by simp[rW]);have t5:f1.t 5=vi s:=hg (5,_) (by simp[rW]);have hk1':f1.k=f.k:=hk1;clear hg;refine ak ?_;refine vn ?_;simp only[wq.1,seval,t3,t7,c10,cE];by_cases hz:yZ G beg ((s:Nat):Int)=0
  ·obtain⟨rfl,rfl,rfl⟩:=hok hz;rw[hz,JR cE];refine vm ?_;simp only[wq.1,seval,t7,hz];show awp _ _ _ _ _ _ _;subst hs;obtain⟨hcl,hsv,hl0,hl1⟩:=hq _ _ _ _ hIu (by omega) hz;refine ak ?_;refine YF G beg pr left (j+1) _ _ _ (Ae G beg pr (j+1)) U id c8 c5 cU hcl hsv ?_ ?_ ?_
   ·intro q hq;simp only[o5,zrj,zrp,or_false]at hq;rcases hq with rfl|rfl|rfl|rfl|rfl|rfl<;>simp only[wq.1,seval,t0,t1,t2,t3,t5,t6]
   ·simp only[wq.1,hd1]
   rintro f2 res vals nn ln e2 hA hg hd2 hk2 ⟨t8,t7'⟩;have hk2':f2.k=f.k:=by rw[hk2];exact hk1'
   clear t0 t1 t2 t3 t5 t6 t7 hk2;show awp _ _ _ _ _ _ _;have hIv:=hap _ _ _ _ (.cells [vi res,aX vals,vi nn,cls ln]) hIu;obtain⟨⟨d8,d9,d10⟩,d5,dE,_⟩:=hI _ _ _ _ hIv;obtain⟨W,hW⟩:∃W,W=h1.length:=⟨_,rfl⟩;have dU:(h1++[.cells [vi res,aX vals,vi nn,cls ln]])[U]? =some (.cells [vi (bY G beg (j+1)).n,cls (bY G beg (j+1)).cl,cls (gQ G beg (j+1))]):=by rw[zqj (zqe cU).1];exact cU
   have dW:(h1++[.cells [vi res,aX vals,vi nn,cls ln]])[W]? =some (.cells [vi res,aX vals,vi nn,cls ln]):=by rw[hW];exact sW
   rw[<-hW]at t8;have hU5:10<U/\U<h1.length:=by
    have h5:=(zqe b5).1;have h6:=(zqe b10).1;have h7:=(zqe cU).1;omega
   have hW5:W≠5:=by omega
   obtain⟨h2,eh2⟩:∃h2,h2=h1++[O.cells [vi res,aX vals,vi nn,cls ln]]:=⟨_,rfl⟩;rw[<-eh2]at hIv d8 d9 d10 d5 dE dU dW ⊢;have t0:f2.t 0= .yd id:=hg (0,_) (by simp[o5]);have t1:f2.t 1= .lp 9 0:=hg (1,_) (by simp[o5]);have t2:f2.t 2= .lp 8 0:=hg (2,_) (by simp[o5]);have t3:f2.t 3= .lp 10 0:=hg (3,_) (by simp[o5]);have t5:f2.t 5=vi ((j+1:Nat):Int):=hg (5,_) (by simp[o5]);have t6:f2.t 6= .lp U 0:=hg (6,_) (by simp[o5]);clear hg;refine ak ?_;refine vn ?_;simp only[wq.1,seval,t3,t7',d10,dE];by_cases hz2:e2=0
   ·subst hz2;rw[JR dE];refine vm ?_;simp only[wq.1,seval,t7'];show awp _ _ _ _ _ _ _;have hnn:0<=nn/\nn<=max left 0:=by
     rcases hA with⟨_,_,_,_,rfl⟩|⟨_,_,rfl,ok⟩
     ·omega
     ·have:=ok.1;omega
    have hsub:IntKind.i64.wrap (left-nn)=left-nn:=aU (by omega) (by omega);refine ak ?_;refine ny dV 9 (.one 9<| .fin) (fun f' h'=>f'.t 0= .yd id/\f'.t 1= .lp 9 0/\f'.t 2= .lp 8 0/\f'.t 3= .lp 10 0/\f'.t 5=vi ((j+1:Nat):Int)/\f'.t 6= .lp U 0/\f'.t 8= .lp W 0/\f'.d=[]/\f'.k=f.k/\h'=h2.set 5 (.cells (aqC G beg pr (left-nn)))) (by decide +kernel) ?_ ?_
    ·intro K hK;simp only[List.take_succ_cons,List.take_zero];simp only[wq.1,seval,t2,t8,d8,d5,dW,hsub];refine hK _ ?_;simp only[wq.1,seval,t0,t1,t2,t3,t5,t6,t8,hd2,d5];exact hk2'
    clear t0 t1 t2 t3 t5 t6 t8 hd2;rintro f3 h3 ⟨t0,t1,t2,t3,t5,t6,t8,hd3,hk3,rfl⟩;show awp _ _ _ _ _ _ _;have hst:=step j left h2 f.k res vals nn ln hIv hk (by omega) hz hA;have hw:IntKind.i64.wrap (((j+1:Nat):Int)+1)=((j+1+1:Nat):Int):=aA (by omega);have r6:(h2.set 5 (.cells (aqC G beg pr (left-nn))))[U]? =some (.cells [vi (bY G beg (j+1)).n,cls (bY G beg (j+1)).cl,cls (gQ G beg (j+1))]):=by rw[zqn (by omega)];exact dU
    have r8:(h2.set 5 (.cells (aqC G beg pr (left-nn))))[W]? =some (.cells [vi res,aX vals,vi nn,cls ln]):=by rw[zqn (by omega)];exact dW
    obtain⟨t,n',ps,asg,body,pend,hL,hsz,hps,hw2⟩:=hst;refine vn ?_;simp only[wq.1,seval,t0,t6,t8,hL,r6,r8];refine⟨⟨by simpa using hsz,hps⟩,pI hw2 ?_⟩;rintro jm h' p hp (⟨rfl,hJ⟩|⟨hj,hS⟩)
    ·obtain⟨_,_,_,q8,q9,q10⟩:=hI _ _ _ _ hJ;have p8:p 8=false:=(zsf.1 q8).2;have p9:p 9=false:=(zsf.1 q9).2;have p10:p 10=false:=(zsf.1 q10).2;refine⟨by simp[Eb,hd3],?_⟩;simp only[wq.1,seval,Option.isNone_none];refine vm ?_;simp only[wq.1,↓reduceIte];refine vm ?_;simp only[wq.1,seval,t5,hw];refine .inl ⟨q-1,by omega,j+1,left-nn,by omega,by simp only[wq.1,seval,t0,hp],by simp only[wq.1,seval,t1,p9],by simp only[wq.1,seval,t2,p8],by simp only[wq.1,seval,t3,p10],rfl,hd3,by simp only[wq.1,hk3,hk,hp],by simp only[wq.1,hk3];exact hJ⟩
    ·refine⟨by simp[Eb,hd3],?_⟩;simp only[wq.1,seval,hj];refine vm ?_;simp only[wq.1,↓reduceIte,hd3,hp,hk3,hk];exact .inr (.inl ⟨jm,hS⟩)
   ·have hb2:(e2 != 0)=true:=by simpa using hz2
    refine vm ?_;simp only[wq.1,seval,hb2,hd2,t7'];refine⟨by rw[hk2'];exact hk,Or.inr (Or.inr ⟨e2,?_⟩)⟩;rw[hk2'];exact herr _ _ _ _ _ hIv (by omega) hz2 (.inr ⟨hz,_,_,_,_,hA⟩)
  ·have hb:(yZ G beg ((s:Nat):Int) != 0)=true:=by simpa using hz
   refine vm ?_;simp only[wq.1,seval,hb,hd1,t7];refine⟨by rw[hk1'];exact hk,Or.inr (Or.inr ⟨yZ G beg ((s:Nat):Int),?_⟩)⟩;rw[hk1'];subst hs;exact herr _ _ _ _ _ hIu (by omega) hz (.inl ⟨hz,rfl⟩)
 ·have hdj:decide (((j+1:Nat):Int)<=k)=false:=by rw[zqd];omega
  rw[hdj];simp only[wq.1,hd];have:j=k:=by omega
  subst this;exact⟨hk,.inl ⟨left,hIk⟩⟩
theorem JS{g:Gr}{u:US}(h:∀c∈u.cl,c.length<=3):∀ {i:Nat},i<=g.ands.length->∀c∈(u.ands g i).cl,c.length<=3
 |0,_=>h
 |i+1,hi=>by
  rw[eP (by omega)];intro c hc;have hc:c∈(u.ands g i).cl++[_,_,_]:=hc;rcases zrf.1 hc with hc|hc
  ·exact JS h (by omega) c hc
  ·simp only[zrj,zrp,or_false]at hc;rcases hc with rfl|rfl|rfl<;>simp
theorem Qr{g:Gr}{b:Cl}:∀k,∀c∈(bY g b k).cl,c.length<=3
 |0=>fun c hc=>by have hc:c=[1]:=zrc.1 hc;subst hc;simp
 |k+1=>JS (Qr k) (zrb _)
variable{l:List Cl}{n:Nat}
theorem JU(h:chk l n=0):Gm l:=fun c hc b hb=>by obtain⟨h1,h2,h3,h4⟩:=tu h;have:=Ot (h4 c hc b hb);omega
variable{ln:List Cl}
theorem Qs(h1:∀m (hm:m<ln.length),Bad (l++ln.take m) (Cm ln[m]))(h2:Bad (l++ln) []):Ez l ln=true:=by rw[Az (zrb _) fun k hk _=>Ey (h1 k hk),zrx,List.drop_length];exact Ey h2
variable{bud res:Int}{vals:List Bool}
theorem Qu(ok:vg l n bud res vals ln)(hr:res=0)(hl:Gm l)(hn:n<=20000)(vs:List Bool):sat l vs=false:=by
 obtain⟨h1,h2,h3,h4,h5⟩:=ok;rcases h5 with⟨_,_,hb⟩|⟨e,_⟩|⟨e,_⟩
 ·refine yD hl (fun c hc a ha=> ?_) (Qs h2 hb);have:=(h3 c hc).2.2 a ha;omega
 ·omega
 ·omega
theorem Qv{a b:Mo}:∀i,(mN a b i).p.length<=i
 |0=>zrb _
 |i+1=>by
  have ih:=Qv (a:=a) (b:=b) i;show(lS _ _ _ (mN a b i) i _).p.length<=i+1;unfold lS;split
  ·omega
  ·dsimp only;rw[zqa];simp;omega
structure JAsk(a b:Mo):Prop where
 hg:(az a b).chk=0
 hb:(mV a b).b.length=(az a b).next.length
 hb2:∀x∈(mV a b).b,0<=x/\x<=2
 sz:(az a b).ins.toNat+(az a b).next.length+(az a b).ands.length<=4000
 fst:(az a b).first=1+(a.ins.length:Int)+((a.lat.length:Int)+(b.lat.length:Int))
 ol:(az a b).outs.length=a.out.length
 ou:∀x∈(az a b).outs,0<=x/\x<(az a b).all
 al:(az a b).all<=8002
 pr:∀p∈(mV a b).p,(0<=2*p.1/\2*p.1<(az a b).all)/\0<=2*p.2/\2*p.2<(az a b).all
 pl:(mV a b).p.length<=4000
 os:a.out.length<=4000
variable{a b:Mo}
theorem Yu(c:CanOk a b)(big:JBig a b):JAsk a b:=by
 have hg:=Dj c big;obtain⟨_,i0,i1,i2,i3,i4,i5⟩:=aW hg;obtain⟨r1,r2,r3,r4⟩:=aN i4;have wf:(az a b).first=1+(az a b).ins+(az a b).next.length:=rfl
 have wa:(az a b).all=2*((az a b).first+(az a b).ands.length):=rfl;obtain⟨j1,j2,j3⟩:=qJ c;have hb:=big.n;have ha:=FN c;have hands:(az a b).ands=(jO a b a.out.length).1:=rfl;have hi:(az a b).ins=a.ins.length:=rfl;have ho:(az a b).outs.length=a.out.length:=by show(jO a b a.out.length).2.length=_;have h:JIn a b (List.replicate a.lat.length false) (List.replicate b.lat.length false) (List.replicate a.ins.length false):=⟨zsc,zsc,zsc⟩;have he:=congrArg List.length (FP c h);unfold oV at he;rw[zra,zra,List.length_range]at he;exact he
 have hpl:=Qv (a:=a) (b:=b) a.lat.length;refine⟨hg,j1,j2,by rw[hands,hi];omega,by rw[qI c];rfl,ho,r4,?_,PY c big,by show(mN a b a.lat.length).p.length<=4000;omega,by omega⟩;rw[wa,wf,hands,hi];omega
theorem XL(J:JAsk a b){s:Nat}(hs:s<=40):(bY (az a b) (mV a b).b s).n<=170000:=by obtain⟨a1,a2,a3,a4⟩:=yX (mV a b).b (1,[]) J.hb2 (zrb _) (fun a ha=>by cases ha);have:(vk (mV a b).b).1<=1+(mV a b).b.length:=a2;have hb:=J.hb;have sz:=J.sz;have e:s*((az a b).ins.toNat+(az a b).ands.length)<=40*4000:=Nat.mul_le_mul hs (by omega);rw[VE];omega
theorem JV(J:JAsk a b){s:Nat}(hs:s<=40):RowsOk (gQ (az a b) (mV a b).b s):=by
 have ok:=wC J.hg J.hb J.hb2 s;have hn:=XL J hs;have hin:∀ {x:Int},inU (bY (az a b) (mV a b).b s).n x->-1000000<=x/\x<=1000000:=fun {x} hx=>by have:=hx.2;omega
 refine⟨fun r hr x hx=> ?_,by rw[zF];omega⟩;rcases zrf.1 hr with hr|hr
 ·exact hin ((ok.r r hr).1 x hx)
 ·rw[zrc.1 hr]at hx;rcases zrf.1 hx with hx|hx
  ·rcases zrj.1 hx with rfl|hx
   ·omega
   ·rcases zrf.1 hx with hx|hx
    ·rw[List.eq_of_mem_replicate hx];omega
    ·exact hin (ok.lo x hx)
  ·rw[List.eq_of_mem_replicate hx];omega
theorem Qw(J:JAsk a b){s:Nat}(hs:s<=40){left:Int} :
 ag TE 37 [.lp 0 0,uV (bY (az a b) (mV a b).b s).n (bY (az a b) (mV a b).b s).cl (gQ (az a b) (mV a b).b s),vi s] [.cells (aqC (az a b) (mV a b).b (mV a b).p left)] fun ae h' p=>ae= .ret (cls (Ae (az a b) (mV a b).b (mV a b).p s))/\h'[0]? =some (.cells (aqC (az a b) (mV a b).b (mV a b).p left))/\p 0=false:=by
 have R:=JV J hs;have al:=J.al;have sz:=J.sz;have ol:=J.ol;refine ag.mono (Ii (az a b) (mV a b).b (mV a b).p left _ (bY (az a b) (mV a b).b s).cl (gQ (az a b) (mV a b).b s) s R.b R.l (by omega) (fun x hx=>by have:=J.ou x hx;omega) ?_ (fun p hp=>by have:=J.pr p hp;omega) (by have:=J.pl;omega) ?_) ?_
 ·rw[ol];have:=J.os;omega
 ·rw[Pm];have e:s*(az a b).ands.length<=40*4000:=Nat.mul_le_mul hs (by omega);omega
 ·rintro ae h' p ⟨rfl,rfl,h⟩;exact⟨rfl,rfl,h⟩
theorem Qx(J:JAsk a b)(ho:a.out.length<=1000){s:Nat}:∀c∈Ae (az a b) (mV a b).b (mV a b).p s,c.length<=1000:=fun c hc=>by
 unfold Ae at hc;rcases zrf.1 hc with hc|hc
 ·rcases zrf.1 hc with hc|hc
  ·have:=Qr _ c hc;omega
  ·obtain⟨p,_,hp⟩:=List.mem_flatMap.1 hc;unfold FV at hp;simp only[zrj,zrp,or_false]at hp;rcases hp with rfl|rfl<;>simp
 ·rw[zrc.1 hc,zra,J.ol];exact ho
theorem XM(J:JAsk a b)(c:CanOk a b)(big:JBig a b){s:Nat}(hs0:0<s)(hs:s<=40){vals:List Bool}(hv:vals.length=(bY (az a b) (mV a b).b s).n):DF a b (az a b) (gQ (az a b) (mV a b).b s) vals s:=by
 have hb:=big.n;have fst:=J.fst;have wa:(az a b).all=2*((az a b).first+(az a b).ands.length):=rfl;have al:=J.al;refine⟨JV J hs,by omega,zF,by omega,by omega,by omega,fun t x ht h0 h1=> ?_,fun l hl=>⟨?_,?_⟩,by rw[J.ol];omega⟩
 ·rw[hv];exact(ql J.hg J.hb J.hb2 ht h0 (by omega)).1
 ·rw[hv,show(s:Int)-1=((s-1:Nat):Int) by omega];exact(ql J.hg J.hb J.hb2 (by omega) (J.ou l hl).1 (J.ou l hl).2).1
 ·have:=(J.ou l hl).2;omega
def A8(a b:Mo)(bud:Int):Nat->Nat->Int->An×Int->Prop
 |0,_,left,r=>r=({An.z with conf:=bud-left},0)
 |m+1,s,left,r =>
  (∃e,e≠0/\X6 (az a b) (mV a b).b (mV a b).p s left e/\r=(An.z,e)) \/
  (yZ (az a b) (mV a b).b s=0/\∃res vals nn ln,Qp (Ae (az a b) (mV a b).b (mV a b).p s) (bY (az a b) (mV a b).b s).n left res vals nn ln 0 /\
   ((res=2/\r=({An.z with res:=2,conf:=bud-(left-nn)},0)) \/
    (res=1/\r=({qm a b (az a b) (gQ (az a b) (mV a b).b s) vals s with conf:=bud-(left-nn)},0)) \/
    (res≠2/\res≠1/\A8 a b bud m (s+1) (left-nn) r)))
def iK(a b:Mo)(k bud:Int)(r:An×Int):Prop :=
 if qj a b≠0 then r=(An.z,qj a b)else if k<0\/40<k then r=(An.z,8)else if(mV a b).ok=false then r=(An.z,0)else A8 a b (max bud 0) k.toNat 1 (max bud 0) r
def Yk(a b:Mo)(k bud:Int):Prop:=∀(s:Nat)(cl:List Cl)(left:Int),(s:Int)<=k->0<=left->left<=max bud 0->chk cl (bY (az a b) (mV a b).b s).n=0->∃B,Big (bY (az a b) (mV a b).b s).n cl left B
def XC(x:An)(A B S:V):Prop:=(A=aX x.A/\B=aX x.B/\S=rwB x.seq)\/(A= .nils/\B= .nils/\S= .nils/\x.A=[]/\x.B=[]/\x.seq=[])
variable{x:An}
theorem XC.zero(ha:x.A=[])(hb:x.B=[])(hs:x.seq=[]):XC x .nils .nils .nils:= .inr ⟨rfl,rfl,rfl,ha,hb,hs⟩
theorem Qy:XC x (aX x.A) (aX x.B) (rwB x.seq):= .inl ⟨rfl,rfl,rfl⟩
theorem XC.reif{A B S:V}(h:XC x A B S){h':H}:aH TE h' (.agg [vi x.res,vi x.out,A,B,S,vi x.conf]) x.v:=by
 unfold An.v;rcases h with⟨rfl,rfl,rfl⟩|⟨rfl,rfl,rfl,e1,e2,e3⟩
 ·exact aH.dat (by simp only[V.dat,V.dats,uz,zre])
 ·unfold anC;rw[e1,e2,e3];exact aH.agg (aj.cons (aH.dat rfl) (aj.cons (aH.dat rfl) (aj.cons aH.nils (aj.cons aH.nils (aj.cons aH.nils (aj.cons (aH.dat rfl) aj.nil))))))
theorem XC.conf{A B S:V}(h:XC x A B S)(c:Int):XC {x with conf:=c} A B S:=h
variable{left:Int}{s:Nat}
theorem TD{e:Int}{m:Nat}(he:e≠0)(h:X6 (az a b) (mV a b).b (mV a b).p s left e):A8 a b bud (m+1) s left (An.z,e):= .inl ⟨e,he,h,rfl⟩
variable{nn:Int}{r:An×Int}
theorem A8.some{bud:Int}{m:Nat}(hc:yZ (az a b) (mV a b).b s=0)(h:Qp (Ae (az a b) (mV a b).b (mV a b).p s) (bY (az a b) (mV a b).b s).n left res vals nn ln 0)
 (hr:(res=2/\r=({An.z with res:=2,conf:=bud-(left-nn)},0)) \/
  (res=1/\r=({qm a b (az a b) (gQ (az a b) (mV a b).b s) vals s with conf:=bud-(left-nn)},0)) \/
  (res≠2/\res≠1/\A8 a b bud m (s+1) (left-nn) r)):A8 a b bud (m+1) s left r:= .inr ⟨hc,res,vals,nn,ln,h,hr⟩
def JW:Plan:= .alt 0 (.alt 1 (.one 2<| .take 3<| .fin) (.one 2 (.one 1<| .take 3<| .fin))) (.one 1 (.one 0<| .one 2<| .take 3<| .fin))
abbrev zX:List V:=[vi 0,vi 0,.nils,.nils,.nils,vi 0]
abbrev hX(a b:Mo)(k left e:Int)(xc:List V):H:=[.cells (cCM a),.cells (cCM b),.cells zX,.cells [vi (az a b).ins,ay (az a b).next,ay (az a b).init,prs (az a b).ands,ay (az a b).outs,ay (mV a b).b,prs (mV a b).p],.cells [vi e],.cells (aqC (az a b) (mV a b).b (mV a b).p left),.cells [.lp 5 0],.cells xc,.cells [.lp 5 0],.cells [vi k],.cells [.lp 4 0]]
structure FT(B:Int)(t:Nat->V):Prop where
 t3:t 3=vi B
 t4:t 4= .lp 0 0
 t5:t 5= .lp 1 0
 t8:t 8= .lp 2 0
 t12:t 12= .lp 4 0
 t13:t 13= .lp 6 0
 t14:t 14= .lp 7 0
theorem VT{n e2:Int}(h:Qp l n bud res vals nn ln e2):0<=nn/\nn<=max bud 0:=by
 rcases h with⟨_,_,_,_,rfl⟩|⟨_,_,rfl,ok⟩
 ·omega
 ·have:=ok.1;omega
theorem qL(a b:Mo)(k bud:Int)(ha:a.g.Sm)(hb:b.g.Sm)(hbig:qj a b=0->JBig a b)(ho:qj a b=0->a.out.length<=1000)(hB:qj a b=0->Yk a b k bud)(hbd:bud<=1200000000000) :
 EvR TE 7 [a.v,b.v,vi k,vi bud] (fun r=>∃x,iK a b k bud x/\r= .tup [x.1.v,vi x.2]):=by
 have hM:=mLx;have hjn:=Dq a b ha hb hbig;unfold Mo.v at hjn ⊢;have dab:V.dats [.agg (cCM a),.agg (cCM b)]=true:=by simp only[V.dats,V.dat,zre]
 refine EvR.of_calls ?_;refine ah Tryz.func7 rfl (by simp[nts]) ?_;refine vn ?_;simp only[wq.1,seval,Tryz.results7];by_cases hz:qj a b=0
 ·have ej:Dp a b= .tup [miV (az a b) (mV a b).b (mV a b).p,.bool (mV a b).ok,vi 0]:=by unfold Dp;rw[if_pos hz]
  rw [ej] at hjn;refine vn ?_;simp only [wq.1,seval];refine ag.ev hjn dab ?_;simp only [wq.1,seval];refine iU (fun f => f.t 2 = vi k /\ f.t 3 = vi bud /\ f.t 4 = .lp 0 0 /\ f.t 5 = .lp 1 0 /\ f.t 8 = .lp 2 0 /\ f.t 10 = .lp 3 0 /\ f.t 11 = .bool (mV a b).ok /\ f.t 12 = .lp 4 0 /\ f.d = [] /\ f.k = fun _ => false) [.cells (cCM a),.cells (cCM b),.cells [vi 0,vi 0,.nils,.nils,.nils,vi 0],.cells [vi (az a b).ins,ay (az a b).next,ay (az a b).init,prs (az a b).ands,ay (az a b).outs,ay (mV a b).b,prs (mV a b).p],.cells [vi 0]]
   (fun hk=>hk _ ⟨rfl,rfl,rfl,rfl,rfl,rfl,rfl,rfl,rfl,rfl⟩) ?_
  rintro f ⟨t2,t3,t4,t5,t8,t10,t11,t12,hd,hk⟩;refine ak (aB ?_);refine vn ?_;simp only[wq.1,seval,t12];by_cases hkk:k<0\/40<k
  ·have hC:iK a b k bud (An.z,8):=by unfold iK;rw[if_neg (by rw[hz];decide),if_pos hkk]
   cases d1:decide (k<0)with
   |true=>refine vm ?_;simp only[wq.1,seval,t2,t8,d1,hd];refine⟨_,⟨(An.z,8),hC,rfl⟩,aH.tup (aj.cons (XC.zero (x:=An.z) rfl rfl rfl).reif (aj.cons (aH.dat rfl) aj.nil))⟩
   |false =>
    have d2:decide (40<k)=true:=by simp only[zqd]at d1;rw[zqb];omega
    refine vm ?_;simp only[wq.1,seval,t2,t8,d1,d2,hd];refine⟨_,⟨(An.z,8),hC,rfl⟩,aH.tup (aj.cons (XC.zero (x:=An.z) rfl rfl rfl).reif (aj.cons (aH.dat rfl) aj.nil))⟩
  ·have d1:decide (k<0)=false:=by rw[zqd];omega
   have d2:decide (40<k)=false:=by rw[zqd];omega
   cases d3:(mV a b).ok with
   |false =>
    have hC:iK a b k bud (An.z,0):=by unfold iK;rw[if_neg (by rw[hz];decide),if_neg hkk,if_pos d3]
    rw[d3]at t11;refine vm ?_;simp only[wq.1,seval,t2,t8,t11,d1,d2,hd];refine⟨_,⟨(An.z,0),hC,rfl⟩,aH.tup (aj.cons (XC.zero (x:=An.z) rfl rfl rfl).reif (aj.cons (aH.dat rfl) aj.nil))⟩
   |true =>
    have hC:iK a b k bud=A8 a b (max bud 0) k.toNat 1 (max bud 0):=by funext r;unfold iK;rw[if_neg (by rw[hz];decide),if_neg hkk,if_neg (by rw[d3];decide)]
    rw[d3]at t11;refine vm ?_;simp only[wq.1,seval,t2,t11,d1,d2];have hm:max bud 0<=1200000000000/\0<=max bud 0:=by omega
    refine vn ?_;simp only [wq.1,seval,t3,mxI];obtain ⟨B,hBb⟩ : ∃ B,B = max bud 0 := ⟨_,rfl⟩;rw [<- hBb];refine vn ?_;simp only [wq.1,seval,t10];refine vn ?_;simp only [wq.1,seval];refine ak ?_;refine vn ?_;simp only [wq.1,seval,t2,t12];refine Qq ?_;simp only [wq.1,Nat.reduceAdd];refine iU (fun f => FT B f.t /\ f.t 50 = .fn (.func 34) [] [.lp 9 0,.lp 8 0,.lp 10 0] /\ f.d = [] /\ f.k = fun _ => false) (hX a b k B 0 zX)
     (fun hK=>hK _ ⟨⟨rfl,t4,t5,t8,t12,rfl,rfl⟩,rfl,hd,by simp only[wq.1];exact hk⟩) ?_
    clear t2 t3 t4 t5 t8 t10 t11 t12 hd hk f;rintro f ⟨ft,t50,hd,hk⟩;obtain ⟨kn,rfl⟩ : ∃ kn : Nat,k = kn := ⟨k.toNat,by omega⟩;rw [zsg,<- hBb] at hC;have J := Yu (uu hz) (hbig hz);refine aB ?_;refine uJ (n := 79) (q := 34) (first := []) (captured := [.lp 9 0,.lp 8 0,.lp 10 0]) (by simp only [wq.1,t50]) (by simp only [wq.1,t50]) rfl (by decide) ?_;intro L hLd gets;refine ag.mono (MC 12 4 _ (az a b) (mV a b).b (mV a b).p kn B (by omega) (by omega)
     (fun j left h kk=>(∀i,i<13->kk i=false)/\0<=left/\left<=B/\∃t X,FT B t/\h=hX a b kn left 0 zX++[.misc .dfd,L t .ready none]++X/\∀r,A8 a b B (kn-j) (j+1) left r->A8 a b B kn 1 B r)
     (fun jm h kk=>(∀i,i<13->kk i=false)/\jm=some (.exit 1)/\∃t X left x A' B' S',FT B t/\XC x A' B' S'/\0<=left/\left<=B/\A8 a b B kn 1 B ({x with conf:=B-left},0)/\h=hX a b kn left 0 [vi x.res,vi x.out,A',B',S',vi x.conf]++[.misc .dfd,L t .done (some (.exit 1))]++X)
     (fun e h kk=>(∀i,i<13->kk i=false)/\e≠0/\∃t X left,FT B t/\A8 a b B kn 1 B (An.z,e)/\h=hX a b kn left e zX++[.misc .dfd,L t .ready none]++X)
     ?_ ?_ ?_ ?_ ?_ ?_ ?_) ?_
    ·rintro j left h kk ⟨hk13,hl0,hl1,t,X,ft,rfl,hrun⟩;exact⟨⟨rfl,rfl,rfl⟩,rfl,rfl,hk13 8 (by omega),hk13 9 (by omega),hk13 10 (by omega)⟩
    ·rintro j left h kk o ⟨hk13,hl0,hl1,t,X,ft,rfl,hrun⟩;exact⟨hk13,hl0,hl1,t,X++[o],ft,by rw[zqc],hrun⟩
    ·exact⟨fun _ _=>rfl,by omega,by omega,f.t,[],ft,rfl,fun r h=>h⟩
    ·rintro j left h kk e ⟨hk13,hl0,hl1,t,X,ft,rfl,hrun⟩ hj he hx;refine⟨hk13,he,t,X,left,ft,hrun _ ?_,rfl⟩;rw[show kn-j=kn-(j+1)+1 by omega];exact TD he hx
    ·intro s;exact Po (az a b) (mV a b).b s ⟨by have:=J.sz;omega,by have:=J.sz;omega⟩ (by rw[J.hb];have:=J.sz;omega)
    ·rintro j left h kk ⟨hk13,hl0,hl1,t,X,ft,rfl,hrun⟩ hj hc;refine⟨Qw J (by omega),?_,by omega,by omega⟩;refine Sv _ _ _ (Qx J (ho hz)) fun hck=> ?_;rw[zsg,show max left 0=left by omega];exact hB hz (j+1) _ left (by omega) hl0 (by omega) hck
    ·rintro j left h' kk res vals nn ln ⟨hk13,hl0,hl1,t,X,ft,eh,hrun⟩ hkid hj hc hA;obtain⟨nn0,nn1⟩:=VT hA;have hdr:∀r,((res=2/\r=({An.z with res:=2,conf:=B-(left-nn)},0))\/(res=1/\r=({qm a b (az a b) (gQ (az a b) (mV a b).b (j+1)) vals (j+1)with conf:=B-(left-nn)},0))\/(res≠2/\res≠1/\A8 a b B (kn-(j+1)) (j+1+1) (left-nn) r))->A8 a b B kn 1 B r:=fun r hr=>hrun r (by
      rw[show kn-j=kn-(j+1)+1 by omega];exact A8.some hc hA hr)
     obtain⟨H0,eH0⟩:∃H0,H0=h'.set 5 (.cells (aqC (az a b) (mV a b).b (mV a b).p (left-nn))):=⟨_,rfl⟩;rw[<-eH0];have x0:H0=hX a b kn (left-nn) 0 zX++[.misc .dfd,L t .ready none]++X:=by rw[eH0,eh];rfl
     have g12:H0[12]? =some (L t .ready none):=by rw[x0];rfl
     have hlen:13<=H0.length:=by rw[x0];simp
     refine gets _ _ _ t g12 rfl (fun lb=> ?_);have hlo:∀o:O,(H0++[o])[H0.length]? =some o:=fun o=>sW;have hso:∀o o':O,(H0++[o]).set H0.length o'=H0++[o']:=fun o o'=>Ce;obtain⟨uO,euO⟩:∃uO:O,uO=O.cells [vi (bY (az a b) (mV a b).b (j+1)).n,cls (bY (az a b) (mV a b).b (j+1)).cl,cls (gQ (az a b) (mV a b).b (j+1))]:=⟨_,rfl⟩;have hlo1:∀o:O,(H0++[uO]++[o])[H0.length+1]? =some o:=fun o=>by rw[zsb (by simp)];simp
     have hso1:∀o o':O,(H0++[uO]++[o]).set (H0.length+1) o'=H0++[uO]++[o']:=fun o o'=>by rw[List.set_append_right _ _ (by simp)];simp
     rw[euO]at hlo1 hso1;refine vm ?_;simp only[wq.1,seval,hlo,hso,hlo1,hso1,IK];refine⟨t,by rw[zqc,zqj (by omega)];exact g12,?_⟩;rw[<-euO];clear hlo hso hlo1 hso1;obtain⟨aO,eaO⟩:∃aO:O,aO= .cells [vi res,aX vals,vi nn,cls ln]:=⟨_,rfl⟩;rw[<-eaO];obtain⟨n0,hn0⟩:∃n0,n0=H0.length:=⟨_,rfl⟩;rw[<-hn0];obtain⟨H1,eH1⟩:∃H1,H1=(H0++[uO]++[aO]).set 12 (L t .busy none):=⟨_,rfl⟩;rw[<-eH1];have x1:H1=hX a b kn (left-nn) 0 zX++[.misc .dfd,L t .busy none]++(X++[uO]++[aO]):=by rw[eH1,x0];rfl
     have y0:H1[0]? =some (.cells (cCM a)):=by rw[x1];rfl
     have y1:H1[1]? =some (.cells (cCM b)):=by rw[x1];rfl
     have y5:H1[5]? =some (.cells (aqC (az a b) (mV a b).b (mV a b).p (left-nn))):=by rw[x1];rfl
     have y6:H1[6]? =some (.cells [.lp 5 0]):=by rw[x1];rfl
     have y7:H1[7]? =some (.cells zX):=by rw[x1];rfl
     have yu:H1[n0]? =some (.cells [vi (bY (az a b) (mV a b).b (j+1)).n,cls (bY (az a b) (mV a b).b (j+1)).cl,cls (gQ (az a b) (mV a b).b (j+1))]):=by rw[eH1,zqn (by omega),zqc,zsb (by omega),hn0,Nat.sub_self,euO];rfl
     have ya:H1[n0+1]? =some (.cells [vi res,aX vals,vi nn,cls ln]):=by rw[eH1,zqn (by omega),zqc,zsb (by omega),hn0,show H0.length+1-H0.length=1 by omega,eaO];rfl
     have t4:=ft.t4;have t5:=ft.t5;have t13:=ft.t13;have t14:=ft.t14;have hkk':∀i,i<13->(kk i||false)=false:=fun i hi=>by rw[hk13 i hi];rfl
     refine aB ?_;refine vn ?_;simp only[wq.1,seval,ya];cases d2:(res==2)with
     |true=>simp only[wq.1,seval,t14,y7,yc,XE.jump];rw[x1];refine⟨t,.busy,rfl,Or.inr ⟨rfl,hk13,t,X++[uO]++[aO],left-nn,{An.z with res:=2},.nils,.nils,.nils,ft,XC.zero rfl rfl rfl,by omega,by omega,?_,rfl⟩⟩;exact hdr _ (.inl ⟨by simpa using d2,rfl⟩)
     |false =>
      cases d1:(res==1)with
      |true =>
       have hr1:res=1:=by simpa using d1
       have hvl:vals.length=(bY (az a b) (mV a b).b (j+1)).n:=by
        rcases hA with⟨h1,h2,_⟩|⟨_,_,_,ok⟩
        ·exact absurd h2.symm h1
        ·rcases ok.2.2.2.2 with⟨h,_⟩|⟨_,h,_⟩|⟨h,_⟩
         ·omega
         ·rw[h,zsg]
         ·omega
       have D:=XM J (uu hz) (hbig hz) (s:=j+1) (by omega) (by omega) hvl;simp only[wq.1];refine vn ?_;simp only[wq.1,seval,d1,ya];refine vm ?_;simp only[wq.1,seval,ya,yu,t4,t5,t13,y0,y1,y6];refine tq (k:=5) (MB (beg:=(mV a b).b) (pr:=(mV a b).p) (left:=left-nn) (n:=(bY (az a b) (mV a b).b (j+1)).n) (cl:=(bY (az a b) (mV a b).b (j+1)).cl) D (by omega)) (by simp only[An.v,V.dat,V.dats,uz,zre]) rfl y5 ⟨.inr ⟨0,rfl,rfl⟩,.inl ⟨by simp only[V.dat,V.dats,zre],rfl⟩,.inl ⟨by simp only[V.dat,V.dats,zre],rfl⟩,.inl ⟨by simp only[V.dat,V.dats,fH,zre],rfl⟩,.inl ⟨rfl,rfl⟩,trivial⟩ ?_;simp only[wq.1,seval,An.v,t14,y7,yc,XE.jump];rw[x1];refine⟨t,.busy,rfl,Or.inr ⟨rfl,hk13,t,X++[uO]++[aO],left-nn,qm a b (az a b) (gQ (az a b) (mV a b).b (j+1)) vals (j+1),_,_,_,ft,Qy,by omega,by omega,?_,rfl⟩⟩;exact hdr _ (.inr (.inl ⟨hr1,rfl⟩))
      |false=>simp only[wq.1];refine vn ?_;simp only[wq.1,seval,d1,ya];refine vm ?_;simp only[wq.1,seval,yc,XE.jump];rw[x1];refine⟨t,.busy,rfl,Or.inl ⟨hk13,by omega,by omega,t,X++[uO]++[aO],ft,rfl,fun r hr=>hdr r (.inr (.inr ⟨by simpa using d2,by simpa using d1,hr⟩))⟩⟩
    ·rintro ae h' p ⟨hp,hr⟩;have e8:∀i∈({f with d:=(hX a b kn B 0 zX).length::f.d}:Fr).d,i=11:=fun i hi=>by simpa [hd]using hi
     have t3:=ft.t3;have t8:=ft.t8;have t12:=ft.t12;have t13:=ft.t13;have t14:=ft.t14;cases ae with
     |pan v=>exact hr.elim
     |ret v =>
      rcases hr with⟨left,hk13,hl0,hl1,t,X,_,rfl,hrun⟩|⟨jm,hk13,rfl,t,X,left,x,A',B',S',_,hx,hl0,hl1,hrun,rfl⟩|⟨e,hk13,he,t,X,left,_,hrun,rfl⟩
      ·refine⟨fun i hi=>by rw[e8 i hi];exact hk13 11 (by omega),hp,t,.ready,none,(by decide),rfl,?_⟩;have k2:=hk13 2 (by omega);have k4:=hk13 4 (by omega);have k6:=hk13 6 (by omega);have k7:=hk13 7 (by omega);have k11:=hk13 11 (by omega);have hsub:IntKind.i64.wrap (B-left)=B-left:=aU (by omega) (by omega);have hend:=hrun ({An.z with conf:=B-left},0) (by rw[Nat.sub_self];rfl);rw[<-hC]at hend;simp only[wq.1,Nat.reduceAdd,hd,D5];refine vm ?_;simp only[wq.1,seval,t3,t8,t12,t13,t14,k2,k4,k6,k7,hsub];refine⟨_,⟨_,hend,rfl⟩,?_⟩;exact aH.tup (aj.cons (XC.reif (x:={An.z with conf:=B-left}) (XC.zero rfl rfl rfl)) (aj.cons (aH.dat rfl) aj.nil))
      ·refine⟨fun i hi=>by rw[e8 i hi];exact hk13 11 (by omega),hp,t,.done,some (.exit 1),(by decide),rfl,?_⟩;have k2:=hk13 2 (by omega);have k4:=hk13 4 (by omega);have k6:=hk13 6 (by omega);have k7:=hk13 7 (by omega);have k11:=hk13 11 (by omega);have hsub:IntKind.i64.wrap (B-left)=B-left:=aU (by omega) (by omega);have hend:=hrun;rw[<-hC]at hend;rcases hx with⟨rfl,rfl,rfl⟩|⟨rfl,rfl,rfl,e1,e2,e3⟩
       ·simp only[wq.1,Nat.reduceAdd,hd,D5];refine vm ?_;simp only[wq.1,seval,t3,t8,t12,t13,t14,k2,k4,k6,k7,hsub];refine⟨_,⟨_,hend,rfl⟩,?_⟩;exact aH.tup (aj.cons (XC.reif (x:={x with conf:=B-left}) Qy) (aj.cons (aH.dat rfl) aj.nil))
       ·simp only[wq.1,Nat.reduceAdd,hd,D5];refine vm ?_;simp only[wq.1,seval,t3,t8,t12,t13,t14,k2,k4,k6,k7,hsub];refine⟨_,⟨_,hend,rfl⟩,?_⟩;exact aH.tup (aj.cons (XC.reif (x:={x with conf:=B-left}) (XC.zero e1 e2 e3)) (aj.cons (aH.dat rfl) aj.nil))
      ·refine⟨fun i hi=>by rw[e8 i hi];exact hk13 11 (by omega),hp,t,.ready,none,(by decide),rfl,?_⟩;have k2:=hk13 2 (by omega);have k4:=hk13 4 (by omega);have k6:=hk13 6 (by omega);have k7:=hk13 7 (by omega);have k11:=hk13 11 (by omega);have hend:=hrun;rw[<-hC]at hend;have heb:(e != 0)=true:=by simpa using he
       simp only[wq.1,Nat.reduceAdd,hd,D5];refine vm ?_;simp only[wq.1,seval,t12,k4,heb];refine bM dV JW (fun f' h'=>f'.t 8= .lp 2 0/\f'.t 9=vi e/\f'.d=[11]/\∃X,h'=hX a b kn left e zX++[.misc .dfd]++X) (by decide +kernel) (by decide +kernel) ?_ ?_
       ·simp only[wq.1,seval,JW,t8,t12,k2,k4]
        repeat' apply zsa
        all_goals exact⟨_,rfl⟩
       ·rintro f h ⟨t8,t9,hd,X,rfl⟩;simp only[wq.1,seval,t8,t9,hd];exact⟨_,⟨(An.z,e),hend,rfl⟩,aH.tup (aj.cons (XC.zero (x:=An.z) rfl rfl rfl).reif (aj.cons (aH.dat rfl) aj.nil))⟩
 ·have ej:Dp a b= .tup [miV ⟨0,[],[],[],[]⟩ [] [],.bool false,vi (qj a b)]:=by unfold Dp;rw[if_neg hz]
  rw[ej]at hjn;have hzb:(qj a b != 0)=true:=by simpa using hz
  refine vn ?_;simp only[wq.1,seval];refine ag.ev hjn dab ?_;simp only[wq.1,seval];refine ak (aB ?_);refine vn ?_;simp only[wq.1,seval,hzb];refine vm ?_;simp only[wq.1,↓reduceIte];refine bM dV JW (fun f' h'=>f'.t 8= .lp 2 0/\f'.t 9=vi (qj a b)/\f'.d=[]/\∃X,h'=[.cells (cCM a),.cells (cCM b),.cells zX]++X) (by decide +kernel) (by decide +kernel) ?_ ?_
  ·simp only[wq.1,seval,JW]
   repeat' apply zsa
   all_goals exact⟨_,rfl⟩
  ·rintro f h ⟨t8,t9,hd,X,rfl⟩;simp only[wq.1,seval,t8,t9,hd];exact⟨_,⟨(An.z,qj a b),by unfold iK;rw[if_pos hz],rfl⟩,aH.tup (aj.cons (XC.zero (x:=An.z) rfl rfl rfl).reif (aj.cons (aH.dat rfl) aj.nil))⟩
def Gr.few(g:Gr):Bool:=(decide (g.ins<=100)||decide (4000<g.ins))&&(decide ((g.next.length:Int)<=40)&&(decide ((g.init.length:Int)<=40)&&(decide ((g.ands.length:Int)<=60)&&decide ((g.outs.length:Int)<=60))))
theorem TF(g:Gr):Ev TE 14 [g.v] (.bool g.few):=by
 unfold Gr.few Gr.v;refine aF Tryz.func14 rfl (by simp[nts]) (vm ?_);cases h1:decide (g.ins<=100)with
 |true =>
  cases h3:decide ((g.next.length:Int)<=40)with
  |false =>
   simp only[wq.1,seval,Tryz.results14,h1,h3]
   repeat(refine⟨.bool true,?_⟩;simp only[wq.1,seval,aG,Tryz.results14,h1,h3])
   exact aH.dat rfl
  |true =>
   cases h4:decide ((g.init.length:Int)<=40)with
   |false =>
    simp only[wq.1,seval,Tryz.results14,h1,h3,h4]
    repeat(refine⟨.bool true,?_⟩;simp only[wq.1,seval,aG,Tryz.results14,h1,h3,h4])
    exact aH.dat rfl
   |true =>
    cases h5:decide ((g.ands.length:Int)<=60)with
    |false =>
     simp only[wq.1,seval,Tryz.results14,h1,h3,h4,h5]
     repeat(refine⟨.bool true,?_⟩;simp only[wq.1,seval,aG,Tryz.results14,h1,h3,h4,h5])
     exact aH.dat rfl
    |true =>
     cases h6:decide ((g.outs.length:Int)<=60)with
     |false =>
      simp only[wq.1,seval,Tryz.results14,h1,h3,h4,h5,h6]
      repeat(refine⟨.bool true,?_⟩;simp only[wq.1,seval,aG,Tryz.results14,h1,h3,h4,h5,h6])
      exact aH.dat rfl
     |true =>
      simp only[wq.1,seval,Tryz.results14,h1,h3,h4,h5,h6]
      repeat(refine⟨.bool true,?_⟩;simp only[wq.1,seval,aG,Tryz.results14,h1,h3,h4,h5,h6])
      exact aH.dat rfl
 |false =>
  cases h2:decide (4000<g.ins)with
  |false =>
   simp only[wq.1,seval,Tryz.results14,h1,h2]
   repeat(refine⟨.bool true,?_⟩;simp only[wq.1,seval,aG,Tryz.results14,h1,h2])
   exact aH.dat rfl
  |true =>
   cases h3:decide ((g.next.length:Int)<=40)with
   |false =>
    simp only[wq.1,seval,Tryz.results14,h1,h2,h3]
    repeat(refine⟨.bool true,?_⟩;simp only[wq.1,seval,aG,Tryz.results14,h1,h2,h3])
    exact aH.dat rfl
   |true =>
    cases h4:decide ((g.init.length:Int)<=40)with
    |false =>
     simp only[wq.1,seval,Tryz.results14,h1,h2,h3,h4]
     repeat(refine⟨.bool true,?_⟩;simp only[wq.1,seval,aG,Tryz.results14,h1,h2,h3,h4])
     exact aH.dat rfl
    |true =>
     cases h5:decide ((g.ands.length:Int)<=60)with
     |false =>
      simp only[wq.1,seval,Tryz.results14,h1,h2,h3,h4,h5]
      repeat(refine⟨.bool true,?_⟩;simp only[wq.1,seval,aG,Tryz.results14,h1,h2,h3,h4,h5])
      exact aH.dat rfl
     |true =>
      cases h6:decide ((g.outs.length:Int)<=60)with
      |false =>
       simp only[wq.1,seval,Tryz.results14,h1,h2,h3,h4,h5,h6]
       repeat(refine⟨.bool true,?_⟩;simp only[wq.1,seval,aG,Tryz.results14,h1,h2,h3,h4,h5,h6])
       exact aH.dat rfl
      |true =>
       simp only[wq.1,seval,Tryz.results14,h1,h2,h3,h4,h5,h6]
       repeat(refine⟨.bool true,?_⟩;simp only[wq.1,seval,aG,Tryz.results14,h1,h2,h3,h4,h5,h6])
       exact aH.dat rfl
def Mo.few(m:Mo):Bool:=m.g.few&&(Lm 40 m.ins&&(Lm 40 m.lat&&Lm 60 m.out))
theorem JX(m:Mo):Ev TE 6 [m.v] (.bool m.few):=by
 have h09:=TF m.g;unfold Mo.few Mo.v;unfold Gr.v at h09;refine aF Tryz.func6 rfl (by simp[nts]) (vm ?_);simp only[wq.1,seval,Tryz.results6];refine ag.ev h09 rfl ?_;simp only[wq.1,seval];refine ag.ev (yS m.ins 40) rfl ?_;simp only[wq.1,seval];refine ag.ev (yS m.lat 40) rfl ?_;simp only[wq.1,seval];refine ag.ev (yS m.out 60) rfl ?_;cases m.g.few<;>cases Lm 40 m.ins<;>cases Lm 40 m.lat<;>cases Lm 60 m.out
 all_goals
  simp only[wq.1,seval]
  repeat(refine⟨.bool true,?_⟩;simp only[wq.1,seval,aG,Tryz.results6])
  exact aH.dat rfl
theorem aH.ex{e:E}{k:Nat}{es:List V}(hd:V.dat (.is true k es)=true):aH e h (.is true k es) (.is false k es):=fun ok pl w x hs hv=>fA _ _ (aH.dat hd ok pl w x hs hv)
theorem JY:∀ {l:List S} {s:S},at? l s=l.findIdx? (·==s)
 |[],s=>rfl
 |x::l,s=>by
  rw[List.findIdx?_cons,at?,JY (l:=l)];by_cases h:x=s
  ·rw[if_pos h,if_pos (by simpa using h)]
  ·rw[if_neg h,if_neg (by simpa using h)]
theorem VU{l:List S}{s:S}:idx l (·==s)=match at? l s with|some k=>(k:Int)|none=>-1:=by rw[JY];rfl
theorem Ba{init:Cl}{st:List Bool}:JI init st n=false↔∀i,i<n->init.getD i 0=2\/st.getD i false=decide (init.getD i 0=1):=by
 unfold JI;rw[List.any_eq_false];constructor
 ·intro h i hi;have:=h i (List.mem_range.2 hi);by_cases h2:init.getD i 0=2
  ·exact .inl h2
  ·right;have e:(init.getD i 0 != 2)=true:=by simpa using h2
   rw[e,Bool.true_and]at this;generalize st.getD i false=v at this ⊢;by_cases h1:init.getD i 0=1
   ·rw[h1]at this ⊢;cases v<;>simp_all
   ·have e1:(init.getD i 0==1)=false:=by simpa using h1
    rw[e1]at this;rw[decide_eq_false h1];cases v<;>simp_all
 ·intro h i hi;rcases h i (List.mem_range.1 hi)with h2|h2
  ·rw[h2];simp
  ·rw[h2];by_cases h1:init.getD i 0=1
   ·rw[h1];simp
   ·rw[decide_eq_false h1];have e1:(init.getD i 0==1)=false:=by simpa using h1
    rw[e1];simp
variable{p q:List Bool}
theorem F5:oZ a b p q a.lat.length=false↔LW a b p q:=by
 unfold oZ LW;rw[List.any_eq_false];constructor
 ·intro h i k hi hk;have:=h i (List.mem_range.2 hi);rw[hk]at this;simpa using this
 ·intro h i hi;cases hk:at? b.lat (a.lat.getD i [])with
  |none=>simp
  |some k=>have:=h i k (List.mem_range.1 hi) hk;simpa using this
theorem JZ{m:Mo}(h:m.chk=0):m.g.init.length=m.lat.length:=by obtain⟨h1,_,h3,_⟩:=cO h;have:=(aN (aW h1).row).1;omega
theorem TG(c:CanOk a b){p q:List Bool}(hp:p.length=a.lat.length)(hq:q.length=b.lat.length):VP a b p q=true↔qY a b p q:=by
 have ia:=JZ c.ca;have ib:=JZ c.cb;unfold VP qY;rw[zqf,zqf,Bool.not_eq_true',Bool.not_eq_true',Bool.not_eq_true',Ba,Ba,F5,jM,jM];constructor
 ·rintro⟨⟨h1,h2⟩,h3⟩;exact⟨⟨by omega,fun i hi=>h1 i (by omega)⟩,⟨by omega,fun i hi=>h2 i (by omega)⟩,h3⟩
 ·rintro⟨⟨_,h1⟩,⟨_,h2⟩,h3⟩;exact⟨⟨fun i hi=>h1 i (by omega),fun i hi=>h2 i (by omega)⟩,h3⟩
theorem F6{l:List S}(h:l.Nodup){i:Nat}(hi:i<l.length):atI l (l.getD i [])=i:=by unfold atI;rw[aS hi,FH h hi];rfl
theorem Qz{l:List S}{s:S}(h:(at? l s).isSome=true):(idx l (·==s)).toNat=atI l s:=by obtain⟨k,hk⟩:=Option.isSome_iff_exists.1 h;unfold atI;rw[VU,hk];simp
theorem XN(h:a.chk=0){l:List Bool}(hl:l.length=a.ins.length):iJ a.ins a l=l:=Xz (kL h).1 hl
theorem VV(h:a.chk=0){st:List Bool}{sq:List (List Bool)}(hs:st.length=a.lat.length)(hx:∀x∈sq,x.length=a.ins.length)(h0:0<sq.length){j:Nat}(hj:j<a.out.length) :
 wM a st a.ins sq (a.out.getD j [])=(vN a.g st sq).getD j false:=by
 obtain⟨g1,g2,g3,g4⟩:=cO h;unfold wM;have e:sq.map (iJ a.ins a)=sq:=by
  conv=>rhs;rw[<-List.map_id sq]
  exact zsd fun x hx'=>XN h (hx x hx')
 rw[e,Dt g1 (by omega) (fun x hx'=>by have:=hx x hx';omega) h0,Qz (zD.2 (by rw[aS hj];exact zqu hj)),F6 (kL h).2.2 hj]
theorem VW(c:CanOk a b){st:List Bool}{sq:List (List Bool)}(hs:st.length=b.lat.length)(h0:0<sq.length){j:Nat}(hj:j<a.out.length) :
 wM b st a.ins sq (a.out.getD j [])=(vN b.g st (sq.map (xB a b))).getD (atI b.out (a.out.getD j [])) false:=by
 obtain⟨g1,g2,g3,g4⟩:=cO c.cb;unfold wM;have e:sq.map (iJ a.ins b)=sq.map (xB a b):=rfl;rw[e,Dt g1 (by omega) (fun x hx'=>by obtain⟨l,_,rfl⟩:=zrh.1 hx';rw[XB];omega) (by simpa using h0),Qz (c.out.2 _ (by rw[aS hj];exact zqu hj))]
theorem TJ(c:CanOk a b){p q:List Bool}{sq:List (List Bool)}{k:Nat}(hk:0<k)(hr:Runs a b k p q sq){j:Nat}(hj:j<a.out.length) :
 (wM a p a.ins sq (a.out.getD j []) != wM b q a.ins sq (a.out.getD j []))=zG a b p q sq j:=by
 have:=hr.lk;rw[VV c.ca hr.la hr.lx (by omega) hj,VW c hr.lb (by omega) hj];rfl
def Af(a b:Mo)(t:Nat):Prop:=∀vs,sat (Ae (az a b) (mV a b).b (mV a b).p t) vs=false
theorem Bc(c:CanOk a b)(big:JBig a b){t:Nat}(ht:0<t)(h:Af a b t){p q:List Bool}{sq:List (List Bool)}(hr:Runs a b t p q sq)(hm:qY a b p q){j:Nat}(hj:j<a.out.length):zG a b p q sq j=false:=by
 cases hd:zG a b p q sq j with
 |false=>rfl
 |true =>
  exfalso;have hl:=Dl c ht hr;have hmem:true∈(az a b).outs.map (lv ((az a b).vals (pW (az a b) (p++q) (sq.take (t-1))) (sq.getD (t-1) []))):=by
   rw[hl];exact zrh.2 ⟨j,List.mem_range.2 hj,hd⟩
  obtain⟨l,hl1,hl2⟩:=zrh.1 hmem;obtain⟨vs,hvs⟩:=Tq c big ht hr hm ⟨l,hl1,hl2⟩;rw[h vs]at hvs;cases hvs
theorem F7(h:Qp l n bud res vals nn ln 0):vg l n (max bud 0) res vals ln/\chk l n=0:=by
 rcases h with⟨h1,h2,_⟩|⟨h1,_,_,ok⟩
 ·exact absurd h2.symm h1
 ·rw[zsg]at ok;exact⟨ok,h1⟩
theorem TK(h:Qp l n bud res vals nn ln 0)(h1:res≠1)(h2:res≠2)(vs:List Bool):sat l vs=false:=by
 obtain⟨ok,hc⟩:=F7 h;have hn:=(tu hc).2.1;refine Qu ok ?_ (JU hc) (by omega) vs;rcases ok.2.2.2.2 with⟨h,_⟩|⟨h,_⟩|⟨h,_⟩
 ·exact h
 ·exact absurd h h1
 ·exact absurd h h2
theorem F8 {a b : Mo} {bud : Int} : ∀ {m s : Nat} {left : Int} {r : An × Int},A8 a b bud m s left r -> r.2 = 0 -> r.1.res = 1 -> ∃ t vals conf,s <= t /\ t < s + m /\ (∀ t',s <= t' -> t' < t -> Af a b t') /\ sat (Ae (az a b) (mV a b).b (mV a b).p t) vals = true /\ r.1 = { qm a b (az a b) (gQ (az a b) (mV a b).b t) vals t with conf := conf }
 |0,s,left,r,h,_,hr=>by have h:r=_:=h;subst h;cases hr
 |m+1,s,left,r,h,he,hr=>by
  rcases h with⟨e,e0,_,rfl⟩|⟨hc,res,vals,nn,ln,hA,⟨_,rfl⟩|⟨h1,rfl⟩|⟨n2,n1,hX⟩⟩
  ·exact absurd he e0
  ·cases hr
  ·refine⟨s,vals,_,zrb _,by omega,fun t' h1 h2=>by omega,?_,rfl⟩;obtain⟨ok,_⟩:=F7 hA;rcases ok.2.2.2.2 with⟨h,_⟩|⟨_,_,h⟩|⟨h,_⟩
   ·omega
   ·exact h
   ·omega
  ·obtain⟨t,vs,conf,x1,x2,x3,x4,x5⟩:=F8 hX he hr;refine⟨t,vs,conf,by omega,by omega,fun t' h1 h2=> ?_,x4,x5⟩;by_cases hts:t'=s
   ·subst hts;exact fun vs=>TK hA n1 n2 vs
   ·exact x3 t' (by omega) h2
theorem VX{α:Type}{l:List α}{p:α->Bool}(h:∃x∈l,p x=true):∃i:Nat,idx l p=i/\∃hi:i<l.length,p l[i]=true:=by
 unfold idx;cases hf:l.findIdx? p with
 |none=>rw[List.findIdx?_eq_none_iff]at hf;obtain⟨x,hx,hp⟩:=h;have:=hf x hx;rw[hp]at this;cases this
 |some i=>rw[List.findIdx?_eq_some_iff_getElem]at hf;obtain⟨hi,hb,_⟩:=hf;exact⟨i,rfl,hi,by simpa using hb⟩
theorem F9(hz:qj a b=0){k:Nat}(hk:0<k)(hk40:k<=40){x:An}(hr:Runs a b k x.A x.B x.seq)(hm:qY a b x.A x.B){j:Nat}(hj:j<a.out.length)(ho:x.out=j) :
 lK a b x=(zG a b x.A x.B x.seq j,0):=by
 have c:=uu hz;have hlk:=hr.lk;have hla:=hr.la;have hlb:=hr.lb;have hb:A7 a b x=false:=by
  unfold A7;have h1:(x.seq.any fun l=>(l.length:Int) != (a.ins.length:Int))=false:=by
   rw[List.any_eq_false];intro l hl;rw[hr.lx l hl];simp
  rw[h1,hla,hlb,ho,hlk];simp only[zsf,zqd,bne_self_eq_false];refine⟨⟨⟨⟨⟨⟨?_,?_⟩,?_⟩,?_⟩,trivial⟩,trivial⟩,trivial⟩<;>omega
 unfold lK;rw[if_neg (by rw[hz];decide),if_neg (by rw[hb];decide)];unfold Qi;rw[(TG c hla hlb).2 hm,Bool.true_and,ho,zsg,TJ c hk hr hj]
theorem MF(h:iK a b k bud r)(he:r.2=0):qj a b=0/\0<=k/\k<=40/\(((mV a b).ok=false/\r=(An.z,0))\/A8 a b (max bud 0) k.toNat 1 (max bud 0) r):=by
 unfold iK at h;split at h
 ·rename_i h1;subst h;exact absurd he h1
 ·rename_i h1;split at h
  ·subst h;cases he
  ·rename_i h2;refine⟨Decidable.not_not.1 h1,by omega,by omega,?_⟩;split at h
   ·rename_i h3;exact .inl ⟨h3,h⟩
   ·exact .inr h
theorem Bd(hbig:qj a b=0->JBig a b){k bud:Int}{r:An×Int}(h:iK a b k bud r)(he:r.2=0)(hr:r.1.res=1) :
 lK a b r.1=(true,0)/\1<=r.1.seq.length/\(r.1.seq.length:Int)<=k/\∀n o:Nat,1<=n->n<r.1.seq.length->o<a.out.length->lK a b {r.1 with out:=o,seq:=r.1.seq.take n}=(false,0):=by
 obtain⟨hz,k0,k1,h⟩:=MF h he;have c:=uu hz;have big:=hbig hz;rcases h with⟨_,rfl⟩|h
 ·cases hr
 obtain⟨t,vals,conf,t1,t2,hno,hsat,hx⟩:=F8 h he hr;obtain⟨pa,pb,seq,R,hm,e1,e2,e3,hl,hex⟩:=FW c big (by omega) hsat;have hld:=Dl c (by omega) R;have htk:t<=k.toNat:=by omega
 rw[hx];have hA:(qm a b (az a b) (gQ (az a b) (mV a b).b t) vals t).A=pa:=e1;have hB:(qm a b (az a b) (gQ (az a b) (mV a b).b t) vals t).B=pb:=e2;have hS:(qm a b (az a b) (gQ (az a b) (mV a b).b t) vals t).seq=seq:=e3;obtain⟨j,hj,hjl,hjp⟩:=VX (l:=(az a b).outs) (p:=fun l=>hol vals (lM (gQ (az a b) (mV a b).b t) ((t:Int)-1) l)) (by
  obtain⟨l,h1,h2⟩:=hex;exact⟨l,h1,by rw[hl l h1];exact h2⟩)
 have hO:(qm a b (az a b) (gQ (az a b) (mV a b).b t) vals t).out=j:=hj;have hol:(az a b).outs.length=a.out.length:=(Yu c big).ol;have hdj:zG a b pa pb seq j=true:=by
  generalize (az a b).vals (pW (az a b) (pa++pb) (seq.take (t-1))) (seq.getD (t-1) [])=V0 at hld hl hex;have h1:((az a b).outs.map (lv V0)).getD j false=((List.range a.out.length).map (zG a b pa pb seq)).getD j false:=by rw[hld]
  rw[aS (by simpa using hjl),aS (by simp;omega),List.getElem_map,List.getElem_map,List.getElem_range]at h1;rw[<-h1,<-hl _ (zqu hjl)];exact hjp
 generalize qm a b (az a b) (gQ (az a b) (mV a b).b t) vals t=y at hA hB hS hO;obtain⟨y1,y2,y3,y4,y5,y6⟩:=y;dsimp only at hA hB hS hO ⊢;subst hA hB hS hO;have hlk:=R.lk;refine⟨?_,by omega,by omega,fun n o n1 n2 ho=> ?_⟩
 ·rw[F9 hz (by omega) (by omega) (x:=⟨y1,j,y3,y4,y5,conf⟩) R hm (by omega) rfl,hdj]
 ·have Rn:Runs a b n y3 y4 (y5.take n):=⟨R.la,R.lb,by rw[zrl];omega,fun x hx=>R.lx x (zsh hx)⟩;rw[F9 hz (by omega) (by omega) (x:=⟨y1,o,y3,y4,y5.take n,conf⟩) Rn hm ho rfl,Bc c big (by omega) (hno n n1 (by omega)) Rn hm ho]
def m24:Mo:=⟨⟨1,[2],[0],[],[4]⟩,[[97]],[[113]],[[122]]⟩
def n24:Mo:=⟨⟨1,[3],[0],[],[4]⟩,[[97]],[[113]],[[122]]⟩
def o24:Mo:=⟨⟨1,[2],[0],[],[4]⟩,[[97]],[[113]],[[121]]⟩
theorem QA:qj m24 m24=0:=by decide +kernel
theorem Gf:qj m24 n24=0:=by decide +kernel
theorem Gg:qj m24 o24=12:=by decide +kernel
theorem Yl:(mV m24 m24).ok=true:=by decide +kernel
theorem TL:(mV m24 n24).ok=true/\(mV m24 n24).p.length=1:=by decide +kernel
theorem QB:JBig m24 m24:=⟨by decide⟩
theorem zJ:JBig m24 n24:=⟨by decide⟩
def Ag(a b:Mo)(s:Nat):Bool:=decide (yZ (az a b) (mV a b).b s=0)&&decide (chk (Ae (az a b) (mV a b).b (mV a b).p s) (bY (az a b) (mV a b).b s).n=0)&&decide ((bY (az a b) (mV a b).b s).n<=21)
theorem VY:∀s,1<=s->s<=5->Ag m24 m24 s=true:=fun s h1 h2=>by
 obtain rfl|rfl|rfl|rfl|rfl:s=1\/s=2\/s=3\/s=4\/s=5:=by omega
 all_goals decide +kernel
theorem Ij:∀s,1<=s->s<=5->Ag m24 n24 s=true:=fun s h1 h2=>by
 obtain rfl|rfl|rfl|rfl|rfl:s=1\/s=2\/s=3\/s=4\/s=5:=by omega
 all_goals decide +kernel
theorem uB(h:Ag a b s=true)(hl:10460353203<=left){e:Int}(hA:Qp (Ae (az a b) (mV a b).b (mV a b).p s) (bY (az a b) (mV a b).b s).n left res vals nn ln e) :
 yZ (az a b) (mV a b).b s=0/\e=0/\0<=nn/\nn<=10460353203/\((res=0/\Af a b s)\/(res=1/\sat (Ae (az a b) (mV a b).b (mV a b).p s) vals=true)):=by
 unfold Ag at h;rw[zqf,zqf,zqb,zqb,zqb]at h;obtain⟨⟨h1,h2⟩,h3⟩:=h;rcases hA with⟨n1,_⟩|⟨_,rfl,rfl,ok⟩
 ·exact absurd h2 n1
 ·rw[zsg]at ok;have hp:(3:Nat)^(bY (az a b) (mV a b).b s).n<=3^21:=Nat.pow_le_pow_right (by decide) h3;have h4:=ok.2.2.2.1;refine⟨h1,rfl,by omega,by omega,?_⟩;rcases ok.2.2.2.2 with⟨h,_⟩|⟨h,_,hs⟩|⟨h,_,hb⟩
  ·exact .inl ⟨h,fun vs=>Qu ok h (JU h2) (by omega) vs⟩
  ·exact .inr ⟨h,hs⟩
  ·omega
theorem Ik {a b : Mo} {bud K : Int} (hK : K = 10460353203) : ∀ {m s : Nat} {left : Int} {r : An × Int},(∀ t,s <= t -> t < s + m -> Ag a b t = true /\ Af a b t) -> (m : Int) * K <= left -> A8 a b bud m s left r -> ∃ c,r = ({ An.z with conf := c },0)
 |0,s,left,r,_,_,h=>⟨_,h⟩
 |m+1,s,left,r,hn,hl,h=>by
  obtain⟨he,hno⟩:=hn s (zrb _) (by omega);have hl0:(m:Int)*K+K<=left:=by
   have:((m+1:Nat):Int)*K=(m:Int)*K+K:=by rw[Int.natCast_add,Int.add_mul];omega
   omega
  have hm0:0<=(m:Int)*K:=Int.mul_nonneg (by omega) (by omega);have hl1:10460353203<=left:=by omega
  rcases h with⟨e,e0,hx,rfl⟩|⟨hc,res,vals,nn,ln,hA,hr⟩
  ·rcases hx with⟨c0,_⟩|⟨_,res,vals,nn,ln,hA⟩
   ·unfold Ag at he;rw[zqf,zqf,zqb,zqb,zqb]at he;exact absurd he.1.1 c0
   ·exact absurd (uB he hl1 hA).2.1 e0
  ·obtain⟨_,_,nn0,nn1,h|⟨_,hs⟩⟩:=uB he hl1 hA
   ·rcases hr with⟨h2,_⟩|⟨h2,_⟩|⟨_,_,hX⟩
    ·omega
    ·omega
    ·exact Ik hK (fun t h1 h2=>hn t (by omega) (by omega)) (by omega) hX
   ·rw[hno vals]at hs;cases hs
theorem TM{m:Nat}(e1:Ag a b 1=true)(e2:Ag a b 2=true)(n1:Af a b 1)(n2:¬Af a b 2)(hl:30000000000<=left)(h:A8 a b bud (m+2) 1 left r):r.2=0/\r.1.res=1/\r.1.seq.length=2:=by
 have hE:∀ {s:Nat} {left e:Int},Ag a b s=true->10460353203<=left->e≠0->¬X6 (az a b) (mV a b).b (mV a b).p s left e:=fun {s left e} he hl e0 hx=>by
  rcases hx with⟨c0,_⟩|⟨_,res,vals,nn,ln,hA⟩
  ·unfold Ag at he;rw[zqf,zqf,zqb,zqb,zqb]at he;exact absurd he.1.1 c0
  ·exact absurd (uB he hl hA).2.1 e0
 rcases h with⟨e,e0,hx,rfl⟩|⟨hc,res,vals,nn,ln,hA,hr⟩
 ·exact absurd hx (hE e1 (by omega) e0)
 ·obtain⟨_,_,nn0,nn1,h|⟨_,hs⟩⟩:=uB e1 (by omega) hA
  ·rcases hr with⟨h2,_⟩|⟨h2,_⟩|⟨_,_,hX⟩
   ·omega
   ·omega
   ·rcases hX with⟨e,e0,hx,rfl⟩|⟨hc,res,vals,nn,ln,hA,hr⟩
    ·exact absurd hx (hE e2 (by omega) e0)
    ·obtain⟨_,_,_,_,⟨_,h⟩|⟨h,_⟩⟩:=uB e2 (by omega) hA
     ·exact absurd h n2
     ·rcases hr with⟨h2,_⟩|⟨_,rfl⟩|⟨_,h2,_⟩
      ·omega
      ·exact⟨rfl,rfl,JQ⟩
      ·exact absurd h h2
  ·rw[n1 vals]at hs;cases hs
theorem Wn{l:List Bool}(h:l.length=1):∃x,l=[x]:=List.length_eq_one_iff.1 h
theorem QC(hp:p.length=m24.lat.length)(hq:q.length=m24.lat.length)(hm:LW m24 m24 p q):p=q:=by obtain⟨x,rfl⟩:=Wn hp;obtain⟨y,rfl⟩:=Wn hq;have:=hm 0 0 (by decide) (by decide +kernel);have:x=y:=this;rw[this]
theorem YG(hb:b.ins=m24.ins){sq:List (List Bool)}(h:∀x∈sq,x.length=m24.ins.length):sq.map (xB m24 b)=sq:=by
 have:∀x∈sq,xB m24 b x=id x:=fun x hx=>by obtain⟨v,rfl⟩:=Wn (h x hx);unfold xB;rw[hb];rfl
 rw[zsd this,List.map_id]
theorem J3(c:CanOk a b)(big:JBig a b){t:Nat}(ht:0<t)(h:∀p q sq,Runs a b t p q sq->qY a b p q->∀j,j<a.out.length->zG a b p q sq j=false):Af a b t:=fun vs=>by
 cases hs:sat (Ae (az a b) (mV a b).b (mV a b).p t) vs with
 |false=>rfl
 |true =>
  exfalso;obtain⟨p,q,sq,R,hm,_,_,_,_,l,hl1,hl2⟩:=FW c big ht hs;have hld:=Dl c ht R;have:true∈(List.range a.out.length).map (zG a b p q sq):=by
   rw[<-hld];exact zrh.2 ⟨l,hl1,hl2⟩
  obtain⟨j,hj,hd⟩:=zrh.1 this;rw[h p q sq R hm j (List.mem_range.1 hj)]at hd;cases hd
theorem TN{t:Nat}(ht:0<t):Af m24 m24 t:=J3 (uu QA) QB ht fun p q sq R hm j hj=>by have e:=QC R.la R.lb hm.2.2;subst e;unfold zG;rw[YG rfl R.lx,F6 (by decide) hj];simp
theorem J4:Af m24 n24 1:=J3 (uu Gf) zJ (by decide) fun p q sq R hm j hj=>by
 obtain⟨x,hx⟩:=Wn R.la;obtain⟨y,hy⟩:=Wn R.lb;obtain⟨z,hz⟩:=List.length_eq_one_iff.1 R.lk;subst hx hy hz;obtain⟨v,rfl⟩:=Wn (R.lx z (by simp));obtain⟨h1,h2,_⟩:=hm;have hx:x=false:=by
  rcases h1.1 with h|h
  ·cases h
  ·exact h
 have hy:y=false:=by
  rcases h2.1 with h|h
  ·cases h
  ·exact h
 subst hx hy;have:j=0:=by have:j<1:=hj;omega
 subst this;cases v<;>decide +kernel
theorem XO:¬Af m24 n24 2:=fun h=>by
 have R:Runs m24 n24 2 [false] [false] [[true],[true]]:=⟨rfl,rfl,rfl,fun x hx=>by simp at hx;subst hx;rfl⟩;have hm:qY m24 n24 [false] [false]:=⟨⟨.inr (by decide),trivial⟩,⟨.inr (by decide),trivial⟩,fun i k hi hk=>by
  have:i=0:=by have:i<1:=hi;omega
  subst this;have hk:some 0=some k:=hk;cases hk;rfl⟩
 have:=Bc (uu Gf) zJ (by decide) h R hm (j:=0) (by decide)
 revert this
 decide +kernel
theorem TP(h:iK m24 m24 5 1099511627776 r):∃c,r=({An.z with conf:=c},0):=by unfold iK at h;rw[if_neg (by rw[QA];decide),if_neg (by decide),if_neg (by rw[Yl];decide)]at h;exact Ik rfl (fun t h1 h2=>⟨VY t h1 (by have:t<1+5:=h2;omega),TN (by omega)⟩) (by decide) h
theorem QD(h:iK m24 n24 1 1099511627776 r):∃c,r=({An.z with conf:=c},0):=by
 unfold iK at h;rw[if_neg (by rw[Gf];decide),if_neg (by decide),if_neg (by rw[TL.1];decide)]at h;exact Ik rfl (fun t h1 h2=>by
  have:t=1:=by have:t<1+1:=h2;omega
  subst this;exact⟨Ij 1 (by omega) (by omega),J4⟩) (by decide) h
theorem QE(h:iK m24 n24 5 1099511627776 r):r.2=0/\r.1.res=1/\r.1.seq.length=2/\lK m24 n24 r.1=(true,0):=by have h0:=h;unfold iK at h;rw[if_neg (by rw[Gf];decide),if_neg (by decide),if_neg (by rw[TL.1];decide)]at h;obtain⟨a1,a2,a3⟩:=TM (m:=3) (Ij 1 (by omega) (by omega)) (Ij 2 (by omega) (by omega)) J4 XO (by decide) h;exact⟨a1,a2,a3,(Bd (fun _=>zJ) h0 a1 a2).1⟩
theorem TQ(h:iK m24 o24 1 100 r):r=(An.z,12):=by unfold iK at h;rw[if_pos (by rw[Gg];decide),Gg]at h;exact h
theorem QF(h:iK m24 m24 41 100 r):r=(An.z,8):=by unfold iK at h;rw[if_neg (by rw[QA];decide),if_pos (by decide)]at h;exact h
theorem Gh(h:bud<=2000):Yk a b k bud:=fun s cl left hs h0 h1 hz=>by obtain⟨v1,v2,v3,v4⟩:=tu hz;refine⟨2000,by omega,fun S _ h=>by omega,?_,by omega,by omega⟩;have:((bY (az a b) (mV a b).b s).n+1)*(2*2000+4)<=20001*(2*2000+4):=Nat.mul_le_mul_right _ (by omega);omega
theorem zK(h:∀s:Nat,(s:Int)<=k->(bY (az a b) (mV a b).b s).n<=21):Yk a b k bud:=fun s cl left hs h0 h1 hz=>by
 obtain⟨v1,v2,v3,v4⟩:=tu hz;have hn:=h s hs;have hp:(3:Nat)^(bY (az a b) (mV a b).b s).n<=3^21:=Nat.pow_le_pow_right (by decide) hn;have hp3:(3:Nat)^21=10460353203:=by decide +kernel
 refine⟨10460353203,h0,fun S i _=>by have:=i.g.few;omega,?_,by omega,by omega⟩;have:((bY (az a b) (mV a b).b s).n+1)*(2*10460353203+4)<=22*(2*10460353203+4):=Nat.mul_le_mul_right _ (by omega);omega
theorem Ym:∀s:Nat,(s:Int)<=5->(bY (az m24 m24) (mV m24 m24).b s).n<=21:=fun s h=>by
 obtain rfl|rfl|rfl|rfl|rfl|rfl:s=0\/s=1\/s=2\/s=3\/s=4\/s=5:=by omega
 all_goals decide +kernel
theorem XP:∀s:Nat,(s:Int)<=5->(bY (az m24 n24) (mV m24 n24).b s).n<=21:=fun s h=>by
 obtain rfl|rfl|rfl|rfl|rfl|rfl:s=0\/s=1\/s=2\/s=3\/s=4\/s=5:=by omega
 all_goals decide +kernel
abbrev XQ:List V:=[vi 1,ay [2],ay [0],prs [],ay [4],jq [[97]],jq [[113]],jq [[122]]]
abbrev X7:List V:=[vi 1,ay [3],ay [0],prs [],ay [4],jq [[97]],jq [[113]],jq [[122]]]
abbrev Yv:List V:=[vi 1,ay [2],ay [0],prs [],ay [4],jq [[97]],jq [[113]],jq [[121]]]
theorem MG:Ev TE 5 [] (.bool true):=by
 have sm:m24.g.Sm:=⟨by decide,by decide⟩;have sn:n24.g.Sm:=⟨by decide,by decide⟩;have so:o24.g.Sm:=⟨by decide,by decide⟩;have e1:=qL m24 m24 5 1099511627776 sm sm (fun _=>QB) (fun _=>by decide) (fun _=>zK Ym) (by decide);have e2:=qL m24 n24 5 1099511627776 sm sn (fun _=>zJ) (fun _=>by decide) (fun _=>zK XP) (by decide);have e3:=qL m24 n24 1 1099511627776 sm sn (fun _=>zJ) (fun _=>by decide) (fun _=>zK (fun s hs=>XP s (by omega))) (by decide);have e4:=fun x=>Qj m24 n24 x sm sn (fun _=>zJ);have e5:=Dq m24 n24 sm sn (fun _=>zJ);have e6:=qL m24 o24 1 100 sm so (fun h=>by rw[Gg]at h;cases h) (fun h=>by rw[Gg]at h;cases h) (fun h=>by rw[Gg]at h;cases h) (by decide);have e7:=qL m24 m24 41 100 sm sm (fun _=>QB) (fun _=>by decide) (fun _=>Gh (by decide)) (by decide);refine aF Tryz.func5 rfl (by simp[nts]) ?_;refine vn ?_;simp only[wq.1,seval,aG,Tryz.results5];refine vn ?_;simp only[wq.1,↓reduceIte,Nat.reduceEqDiff,Nat.reduceLT,Nat.reduceLeDiff,Nat.reduceAdd,Nat.reduceSub,Int.reduceToNat,Nat.reduceDiv,Int.reduceLT,Int.reduceLE,Int.reduceNeg,Int.reduceBEq,Int.reduceBNe,Int.reduceAdd,Int.reduceSub,Nat.reduceBEq,reduceCtorEq,Nat.reduceMul,aG,Tryz.results5];refine⟨⟨rfl,by decide⟩,⟨rfl,by decide⟩,⟨rfl,by decide⟩,⟨rfl,by decide⟩,⟨rfl,by decide⟩,⟨rfl,by decide⟩,?_⟩;refine kZ (h':=[.cells XQ]) (HLe.set (i:=0) (o':= .cells XQ) rfl (OLe.cells (zrb _) (eH.cons (VLe.refl _) (eH.cons fA (eH.cons fA (eH.cons oz (eH.cons fA (eH.cons fA (eH.cons fA (eH.cons fA (eH.refl _))))))))))) ?_;refine vn ?_;simp only[wq.1,↓reduceIte,Nat.reduceEqDiff,Nat.reduceLT,Nat.reduceAdd,reduceCtorEq];refine vn ?_;simp only[wq.1,↓reduceIte,Nat.reduceEqDiff,Nat.reduceLT,Nat.reduceLeDiff,Nat.reduceAdd,reduceCtorEq,Nat.reduceMul];refine⟨⟨rfl,by decide⟩,?_⟩;refine kZ (h':=[.cells XQ,.cells X7]) (HLe.set (i:=1) (o':= .cells X7) rfl (OLe.cells (zrb _) (eH.cons (VLe.refl _) (eH.cons fA (eH.refl _))))) ?_;refine iU (fun f=>f.t 1= .lp 0 0/\f.t 2= .lp 1 0/\f.d=[]) _ (fun hk=>hk _ ⟨rfl,rfl,rfl⟩) ?_;rintro f ⟨t1,t2,hd⟩;have dm:∀(a b:List V),V.dats a=true->V.dats b=true->V.dats [.agg a,.agg b]=true:=fun a b ha hb=>by simp only[V.dats,V.dat,ha,hb,zre]
 refine vn ?_;simp only[wq.1,seval,t1];refine jF e1 rfl fun r hr=> ?_;obtain⟨x,hx,rfl⟩:=hr;obtain⟨cx,rfl⟩:=TP hx;simp only[wq.1,seval,An.v];refine vn ?_;simp only[wq.1,seval,t1,t2];refine jF e2 rfl fun r hr=> ?_;obtain⟨⟨y,ye⟩,hy,rfl⟩:=hr;obtain⟨y0,y1,y2,y3⟩:=QE hy;have y0:ye=0:=y0;subst y0;simp only[wq.1,seval,An.v];refine vn ?_;simp only[wq.1,seval,t1,t2];refine jF e3 rfl fun r hr=> ?_;obtain⟨z,hz,rfl⟩:=hr;obtain⟨cz,rfl⟩:=QD hz;simp only[wq.1,seval,An.v];refine vn ?_;simp only[wq.1,seval,t1,t2];have e4:=e4 y;rw[y3]at e4;refine ag.ev e4 (by simp only[V.dats,V.dat,uz,zre]) ?_;simp only[wq.1,seval];refine vn ?_;simp only[wq.1,seval,t1,t2];refine ag.ev e5 rfl ?_;rw[Dp,if_pos Gf,TL.1];simp only[wq.1,seval];obtain⟨X,eX⟩:∃X:An,X={An.z with conf:=cx}:=⟨_,rfl⟩;obtain⟨Z,eZ⟩:∃Z:An,Z={An.z with conf:=cz}:=⟨_,rfl⟩;have s1:=Du X (by rw[eX];show(0:Nat)<=1000000;decide);have s2:=Ig X y (by rw[eX,y1];show(0:Int)≠1;decide);have x1:X.res=0:=by rw[eX];rfl
 have z1:Z.res=0:=by rw[eZ];rfl
 unfold An.v at s1 s2;refine iU (fun f => f.t 1 = .lp 0 0 /\ f.t 2 = .lp 1 0 /\ f.t 3 = .lp 2 0 /\ f.t 4 = vi 0 /\ f.t 5 = .lp 3 0 /\ f.t 6 = vi 0 /\ f.t 7 = .lp 4 0 /\ f.t 8 = vi 0 /\ f.t 9 = .bool true /\ f.t 10 = vi 0 /\ f.t 11 = .lp 5 0 /\ f.t 12 = .bool true /\ f.t 13 = vi 0 /\ f.d = [])
  [.cells XQ,.cells X7,.cells (anC X),.cells (anC y),.cells (anC Z),.cells [vi (az m24 n24).ins,ay (az m24 n24).next,ay (az m24 n24).init,prs (az m24 n24).ands,ay (az m24 n24).outs,ay (mV m24 n24).b,prs (mV m24 n24).p]]
  (fun hk=>by rw[eX,eZ]at hk;exact hk _ ⟨t1,t2,rfl,rfl,rfl,rfl,rfl,rfl,rfl,rfl,rfl,rfl,rfl,hd⟩) ?_
 clear t1 t2 hd f;rintro f ⟨t1,t2,t3,t4,t5,t6,t7,t8,t9,t10,t11,t12,t13,hd⟩;refine vn ?_;simp only[wq.1,↓reduceIte,Nat.reduceEqDiff,Nat.reduceLT,Nat.reduceAdd,reduceCtorEq,t1];refine vn ?_;simp only[wq.1,↓reduceIte,Nat.reduceEqDiff,Nat.reduceLT,Nat.reduceLeDiff,Nat.reduceAdd,reduceCtorEq,Nat.reduceMul];refine⟨⟨rfl,by decide⟩,?_⟩;refine kZ (h':=[.cells XQ,.cells X7,.cells (anC X),.cells (anC y),.cells (anC Z),.cells [vi (az m24 n24).ins,ay (az m24 n24).next,ay (az m24 n24).init,prs (az m24 n24).ands,ay (az m24 n24).outs,ay (mV m24 n24).b,prs (mV m24 n24).p],.cells Yv]) (HLe.set (i:=6) (o':= .cells Yv) rfl (OLe.cells (zrb _) (eH.cons (VLe.refl _) (eH.cons (VLe.refl _) (eH.cons (VLe.refl _) (eH.cons (VLe.refl _) (eH.cons (VLe.refl _) (eH.cons (VLe.refl _) (eH.cons (VLe.refl _) (eH.cons fA (eH.refl _))))))))))) ?_;refine vn ?_;simp only[wq.1,seval,t1];refine jF e6 rfl fun r hr=> ?_;obtain⟨w,hw,rfl⟩:=hr;rw[TQ hw];simp only[wq.1,seval,An.v];refine vn ?_;simp only[wq.1,seval,t1];refine jF e7 rfl fun r hr=> ?_;obtain⟨w,hw,rfl⟩:=hr;rw[QF hw];simp only[wq.1,seval,An.v];have q1:(X.res==0)=true:=by rw[x1];rfl
 have q2:(y.res==1)=true:=by rw[y1];rfl
 have q3:((y.seq.length:Int)==2)=true:=by rw[y2];rfl
 have q4:(Z.res==0)=true:=by rw[z1];rfl
 have q5:(((mV m24 n24).p.length:Int)==1)=true:=by rw[TL.2];rfl
 have q6:((az m24 n24).ins==1)=true:=rfl;refine vm ?_;simp only[wq.1,seval,t3,t4,t5,t6,t7,t8,t9,t10,t11,t12,t13,q1,q2,q3,q4,q5,q6];refine ag.ev s1 (by simp only[V.dats,V.dat,uz,zre]) ?_;simp only[wq.1,seval,t3,t5];refine ag.ev s2 (by simp only[V.dats,V.dat,uz,zre]) ?_;simp only[wq.1,seval,hd];exact aH.dat rfl
end Go.Proofs.YthdidjjecjhenaaGreat
