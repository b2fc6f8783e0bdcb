/- Lemmas for this claim, part F10: each holds under what it names. -/
import Derived.Test.YthaijohbpdabfaaGreatDoorXF09
import Derived.Test.YthaijohbpdabfaaGreatDoorXA7
import Derived.Test.YthaijohbpdabfaaGreatDoorXA10
import Derived.Test.YthaijohbpdabfaaGreatDoorXF01
set_option linter.all false
set_option maxRecDepth 20000
set_option maxHeartbeats 4000000
namespace Go.Proofs.YthaijohbpdabfaaGreatDoor
open Go Go.Proofs Go.Abs
open List renaming length → aa, replicate → ao
open Bool renaming true → ab, false → ac
open Option renaming some → al, none → aq
open Decidable renaming decide → ar
open Go.IntKind renaming wrap → aD
open Go.Result renaming andThen → aM
open Go.Abs.O renaming cells → am
open Go.Abs.V renaming drops → ap, dat → aE, dats → aL
abbrev liV(x:Li):V:= .agg [vi x.1,vi x.2.toNat]
abbrev foV(f:Fo):V:= .agg [vi f.kind,vi f.lit,vi f.kids]
abbrev xh(l:List Li):V:= .is ac 2 (l.map liV)
abbrev oH(l:List Fo):V:= .is ac 3 (l.map foV)
theorem nJ:∀l:List Li,aL (l.map liV)=ab
 |[]=>rfl
 |t::l=>by show(aE (liV t)&&aL (l.map liV))=ab;rw[nJ l];rfl
theorem lC:∀l:List Fo,aL (l.map foV)=ab
 |[]=>rfl
 |t::l=>by show(aE (foV t)&&aL (l.map foV))=ab;rw[lC l];rfl
theorem YU{l:List Li}{i:Nat}(h:i<aa l)(d:V):(l.map liV).getD i d=liV l[i]:=fB h _
theorem Qq[MO](x:Li)(hx:x.1<=1000000000):Ev TE 262 [liV x] (foV (jS x)):=by
 have hM:=mLx;have w1:aD .i64 (2*(x.1:Int))=((2*x.1:Nat):Int):=by rw[iU (by omega) (by omega)];omega
 have w2:aD .i64 (((2*x.1:Nat):Int)+1)=((2*x.1+1:Nat):Int):=by rw[iU (by omega) (by omega)];omega
 have e48:((x.2.toNat:Int)==48)=(x.2==48):=Wj x.2 48;unfold jS;refine ai Tryz.func262 rfl (by simp[nts]) (vm ?_);simp only[wq.1,↓reduceIte,Nat.reduceEqDiff,Nat.reduceLT,Nat.reduceLeDiff,Nat.reduceAdd,Int.reduceToNat,Int.reduceLE,Nat.reduceMul,Tryz.results262,w1,e48];cases h:x.2==48 with
 |true =>
  have h':x.2=48:=by simpa using h
  rw[if_pos h'];simp only[wq.1,↓reduceIte,Nat.reduceEqDiff,Nat.reduceLT,Nat.reduceLeDiff,Nat.reduceAdd,Nat.reduceSub,Int.reduceToNat,Nat.reduceDiv,Int.reduceLT,Int.reduceLE,Int.reduceNeg,Int.reduceBEq,Int.reduceBNe,Int.reduceAdd,Int.reduceSub,Nat.reduceBEq,reduceCtorEq,Nat.reduceMul,ay,Tryz.results262,w2];exact⟨by decide,by decide,aC.dat rfl⟩
 |false =>
  have h':¬x.2=48:=by simpa using h
  rw[if_neg h'];simp only[wq.1,↓reduceIte,Nat.reduceEqDiff,Nat.reduceLT,Nat.reduceAdd,reduceCtorEq];exact⟨by decide,by decide,aC.dat rfl⟩
theorem uN[MO](row:S):Ev TE 211 [.str row] (.fn (.func 261) [] [.ip (.str row)]):=by refine ai Tryz.func211 rfl (by simp[nts]) (vm ?_);simp only[wq.1,seval,Tryz.results211];exact aC.fn ax.nil (ax.cons (aC.lp rfl (ax.dat rfl) rfl rfl (by simp[V.vc]) rfl) ax.nil)
theorem Xg[MO](h:H)(c:UInt8):jo P h 5 3 (.int .u8 c.toNat)=(True,vi c.toNat):=by have hc:=c.toNat_lt;have hw:aD .i64 (c.toNat:Int)=(c.toNat:Int):=iU (by omega) (by omega);unfold jo;simp only[wq.1,hw]
theorem DR:∀(a b:S)(k:Nat),bf k (a++b)=bf k a++bf (k+aa a) b
 |[],b,k=>rfl
 |c::a,b,k=>by
  rw[List.cons_append,bf,bf,DR a b (k+1),zrt,show k+1+aa a=k+(aa a+1) by omega];split
  ·rfl
  ·rfl
theorem Xh{row:S}{i:Nat}(h:i<aa row):aX row=aX (row.take i)++bf i (row[i]::row.drop (i+1)):=by
 have e:row=row.take i++(row[i]::row.drop (i+1)):=by rw[<-List.drop_eq_getElem_cons h,List.take_append_drop]
 unfold aX
 conv=>lhs;rw[e]
 rw[DR,zrl,Nat.min_eq_left (by omega),Nat.zero_add]
theorem Qr{row:S}{i:Nat}(h:i<aa row):aX (row.take (i+1))=aX (row.take i)++(if row[i]=45 then []else [(i,row[i])]):=by unfold aX;rw[List.take_succ_eq_append_getElem h,DR,zrl,Nat.min_eq_left (by omega),Nat.zero_add];rw[bf,bf]
theorem zA[MO](row:S)(hr:aa row<=1000000000):ZX TE 261 [] [.ip (.str row)] ((aX row).map λx=>[liV x]):=by
 have hM:=mLx;intro id h I Stop h0 step;refine ak Tryz.func261 rfl (by simp[nts]) (vm ?_);simp only[wq.1,seval,Tryz.results261];refine aF (λm f h=>∃i,m+i=aa row/\f.t 0= .yd id/\f.t 1= .ip (.str row)/\f.t 5=vi (aa row)/\f.t 6=vi i/\f.d=[]/\f.k id=ac/\I (aa (aX (row.take i))) h f.k) (aa row) ⟨0,by omega,rfl,rfl,rfl,rfl,rfl,rfl,h0⟩ ?_;rintro m f h ⟨i,hm,t0,t1,t5,t6,hd,hk,hI⟩;have hw:=az (show i<maxLen by omega);refine vm ?_;simp only[wq.1,seval,t5,t6];refine vcB.mk (λhc=> ?_) (λhc=> ?_)
 ·have hlt:i<aa row:=by have:=zqs hc;omega
  obtain⟨c,ec⟩:∃c,c=row[i]:=⟨_,rfl⟩;have hgc:=OO hlt;rw[<-ec]at hgc;have e45:((c.toNat:Int) != 45)=(c != 45):=Wi c 45;have hat:=Xh hlt;have hsu:=Qr hlt;rw[<-ec]at hat hsu;by_cases h45:c=45
  ·have hb:(c != 45)=ac:=by rw[h45];rfl
   rw[if_pos h45,zqp]at hsu;simp only[wq.1,seval,t0,t1,t6,hgc,e45,hb];refine⟨⟨by omega,by omega⟩,.bool ab,?_⟩;simp only[wq.1,seval,t6,hw];refine .inl ⟨m-1,by omega,i+1,by omega,by simp only[wq.1,seval,t0],by simp only[wq.1,seval,t1],by simp only[wq.1,seval,t5],by simp only[wq.1,↓reduceIte],by simp only[wq.1,hd],by simp only[wq.1,hk],?_⟩;rw[hsu];exact hI
  ·have hb:(c != 45)=ab:=by simpa using h45
   rw[if_neg h45]at hsu;rw[bf,if_neg h45]at hat;have hj:aa (aX (row.take i))<aa (aX row):=by rw[hat];simp
   have hget:((aX row).map λx=>[liV x])[aa (aX (row.take i))]'(by rw[zra];exact hj)=[liV (i,c)]:=by
    rw[List.getElem_map]
    congr 2
    have:(aX row)[aa (aX (row.take i))]? =al (i,c):=by rw[hat];simp
    rw[zqk hj]at this;injection this
   have hst:=step _ h f.k (by rw[zra];exact hj) hk hI;rw[hget]at hst;obtain⟨t,n',ps,asg,body,pend,hL,hsz,hps,hw2⟩:=hst;simp only[wq.1,seval,t0,t1,t6,hgc,e45,hb,hL,Xg];refine⟨⟨by omega,by omega⟩,⟨by omega,by omega⟩,⟨by simpa using hsz,hps⟩,pg hw2 ?_⟩;rintro j h' p hp hS;refine⟨by simp[tK,hd],?_⟩;cases j with
   |none=>simp only[wq.1,seval,t6,Option.isNone_none];refine .inl ⟨m-1,by omega,i+1,by omega,by simp only[wq.1,seval,t0,hp],by simp only[wq.1,seval,t1],by simp only[wq.1,seval,t5],by simp only[wq.1,↓reduceIte,hw],by simp only[wq.1,hd],by simp only[wq.1,hk,hp],?_⟩;rw[hsu,zqa];exact hS
   |some c'=>simp only[wq.1,seval,hd,hp,hk,Option.isNone_some];exact .inr ⟨c',hS⟩
 ·have hi:i=aa row:=by have:=of_decide_eq_false hc;omega
  rw[hi,zrx]at hI;simp only[wq.1,hd,hk];refine .inl ?_;exact hI
theorem J4[MO](x:Li):Ev TE 217 [liV x] (.fn (.func 264) [] [.ip (liV x)]):=by refine ai Tryz.func217 rfl (by simp[nts]) (vm ?_);simp only[wq.1,seval,Tryz.results217];exact aC.fn ax.nil (ax.cons (aC.lp rfl (ax.dat rfl) rfl rfl (by simp[V.vc]) rfl) ax.nil)
theorem ZA:I8 P 279 [.i64,.i64]:=by
 refine⟨by kernel_rfl,λw xs ys hx hy=> ?_⟩
 match xs,hx with
 |[a,b],_ =>
 match ys,hy with
 |[a',b'],_ =>
 have hs:(sizeOf 3).run P w= .ok 1 w:=by
  have hi:∃i,P.info? 3=al i:=info_of_underlying Tryz.underlying3;obtain⟨i,hi⟩:=hi;rw[run_sizeOf w hi];have:P.cellsOf 3=1:=by kernel_rfl
  rw[this]
 show(Op.equalIn 10000 279 (.agg #[.int .i64 a,.int .i64 b]) (.agg #[.int .i64 a',.int .i64 b'])).run P w= .ok ([a,b]==[a',b']) w;rw[Am Tryz.underlying279 Tryz.underlying3 9998 a b a' b' hs]
 congr 1
 rw[Bool.eq_iff_iff];simp
theorem YV(x y:Li):([(x.1:Int),((x.2.toNat:Nat):Int)]==[(y.1:Int),((y.2.toNat:Nat):Int)])=(x==y):=by rcases x with⟨a,c⟩;rcases y with⟨b,d⟩;rw[Bool.eq_iff_iff,beq_iff_eq,beq_iff_eq];simp only[List.cons.injEq,Int.ofNat_inj,and_true,Prod.mk.injEq,UInt8.toNat_inj]
theorem zB[MO](x:Li)(row:S)(hr:aa row<=1000000000):Ev TE 264 [.str row,.ip (liV x)] (.bool (jc x row)):=by
 refine ai Tryz.func264 rfl (by simp [nts]) ?_;refine vn ?_;simp only [wq.1,Nat.reduceLT,Tryz.results264];refine vn ?_;simp only [wq.1,seval];refine ag.ev (uN row) rfl ?_;simp only [wq.1];refine jr (n := 11) (q := 261) (first := []) (captured := [.ip (.str row)]) (by simp only [wq.1,↓reduceIte]) (by simp only [wq.1,↓reduceIte]) rfl (by decide) ?_;intro L hLd gets;refine ag.mono (zA row hr 2 _
  (λj h k=>(∀i<3,k i=ac)/\(∀y∈(aX row).take j,y≠x)/\∃t X,t 3= .lp 0 0/\t 1= .ip (liV x)/\h=[am [.bool ac],.misc .dfd,L t .ready aq]++X)
  (λc h k=>x∈aX row/\(∀i<3,k i=ac)/\c=al .ret/\∃t X,h=[am [.bool ab],.misc .dfd,L t .done (al .ret)]++X) ?_ ?_) ?_
 ·exact⟨λi _=>rfl,λy hy=>by simp at hy,_,[],rfl,rfl,by rw[zqp];rfl⟩
 ·rintro i h k hi hk ⟨h1,h2,t,X,t3,t1,rfl⟩;rw[zra]at hi;obtain⟨y,hy⟩:∃y,y=(aX row)[i]:=⟨_,rfl⟩;have hym:y∈aX row:=hy▸zqu hi;have hit:((aX row).map λx=>[liV x])[i]'(by rw[zra];exact hi)=[liV y]:=by rw[List.getElem_map,<-hy]
  rw[hit];refine gets _ _ _ t rfl rfl (λlb=> ?_);have hb:=YV y x;have k0:=h1 0 (by decide);have k1:=h1 1 (by decide);have gE:∀o:O,(X++[o])[aa X]? =al o:=λo=>by simp
  have gS:∀o o':O,(X++[o]).set (aa X) o'=X++[o']:=λo o'=>by simp
  refine vm ?_;simp only[wq.1,seval,tZ,gE,gS];refine⟨t,rfl,?_⟩;refine aB ?_;refine vn ?_;simp only[wq.1,seval,t1,gE];refine⟨ZA,?_⟩;rw[hb];cases hxy:y==x with
  |true =>
   have hxy:y=x:=by simpa using hxy
   refine vm ?_;simp only[wq.1,seval,t3,oM,XE.jump];exact⟨t,_,rfl,hxy▸hym,h1,t,_,rfl⟩
  |false =>
   have hxy:y≠x:=by simpa using hxy
   refine vm ?_;simp only[wq.1,↓reduceIte,oM,XE.jump];refine⟨t,_,rfl,h1,λz hz=> ?_,t,_,t3,t1,rfl⟩;rw[List.take_succ_eq_append_getElem hi,<-hy]at hz;rcases zrf.1 hz with hz|hz
   ·exact h2 z hz
   ·rw[zrc.1 hz];exact hxy
 ·rintro ae h' p ⟨hp,hr⟩;cases ae with
  |pan v=>exact hr.elim
  |ret v =>
   rcases hr with⟨h1,h2,t,X,t3,t1,rfl⟩|⟨c,hx,h1,hc,t,X,rfl⟩
   ·have hf:jc x row=ac:=by
     cases hh:jc x row with
     |false=>rfl
     |true=>exact absurd rfl (h2 x (by rw[zqh (by rw[zra];exact zrb _)];exact lw hh))
    have k0:=h1 0 (by decide);have k1:=h1 1 (by decide);have k2:=h1 2 (by decide);refine⟨λi hi=> ?_,hp,t,_,aq,(by decide),rfl,?_⟩
    ·have hi:i=1:=by simpa [tK,tN]using hi
     subst hi;exact k1
    ·simp only[wq.1,Nat.reduceAdd,zY];refine vm ?_;simp only[wq.1,seval,k0];rw[hf];exact aC.dat rfl
   ·have hf:jc x row=ab:=List.contains_iff_mem.2 hx;have k0:=h1 0 (by decide);have k1:=h1 1 (by decide);have k2:=h1 2 (by decide);refine⟨λi hi=> ?_,hp,t,_,al .ret,(by decide),rfl,?_⟩
    ·have hi:i=1:=by simpa [tK,tN]using hi
     subst hi;exact k1
    ·simp only[wq.1,seval,zY,k0];rw[hf];exact aC.dat rfl
theorem Bg[MO](rows:List S)(x:Li)(hl:aa rows<=1000000000)(hr:∀r∈rows,aa r<=1000000000):Ev TE 212 [aH rows,liV x] (vi (iW rows x)):=by
 have hM:=mLx;refine ai Tryz.func212 rfl (by simp[nts]) (vm ?_);simp only[wq.1,seval,Tryz.results212];refine aF (λm f h=>∃i,m+i=aa rows/\f.t 0=aH rows/\f.t 3= .lp 0 0/\f.t 5=vi (iW (rows.take i) x)/\f.t 8=aH rows/\f.t 9=vi (aa rows)/\f.t 10=vi i/\f.d=[]/\h[0]? =al (am [vi x.1,vi x.2.toNat])) (aa rows) ⟨0,by omega,rfl,rfl,rfl,rfl,by rfl,rfl,rfl,rfl⟩ ?_;rintro m f h ⟨i,hm,t0,t3,t5,t8,t9,t10,hd,h0⟩;have hw:=az (show i<maxLen by omega);refine vm ?_;simp only[wq.1,seval,t9,t10];refine vcB.mk (λhc=> ?_) (λhc=> ?_)
 ·have hlt:i<aa rows:=by have:=zqs hc;omega
  have hsu:iW (rows.take (i+1)) x=iW (rows.take i) x+if jc x rows[i]=ab then 1 else 0:=by unfold iW;rw[List.take_succ_eq_append_getElem hlt,List.countP_append,List.countP_singleton]
  have hcl:iW (rows.take i) x<=i:=Nat.le_trans List.countP_le_length (by rw[zrl];omega);have hh:=zB x rows[i] (hr _ (zqu hlt));simp only[wq.1,seval,t3,t8,t10,h0,yG hlt];refine⟨⟨by omega,by omega⟩,ag.ev (J4 x) rfl ?_⟩;simp only[wq.1,seval];refine ag.ev hh rfl ?_;cases hb:jc x rows[i]with
  |true=>rw[hb,if_pos rfl]at hsu;simp only[wq.1,seval,t5,t10,az (show iW (rows.take i) x<maxLen by omega)];exact .inl ⟨m-1,by omega,i+1,by omega,by simp only[wq.1,seval,t0],by simp only[wq.1,seval,t3],by simp only[wq.1,seval,hsu],by simp only[wq.1,seval,t8],by simp only[wq.1,seval,t9],by simp only[wq.1,↓reduceIte,hw],by simp only[wq.1,hd],h0⟩
  |false=>rw[hb,if_neg (by decide),Nat.add_zero]at hsu;simp only[wq.1,seval,t10];exact .inl ⟨m-1,by omega,i+1,by omega,by simp only[wq.1,seval,t0],by simp only[wq.1,seval,t3],by simp only[wq.1,seval,hsu,t5],by simp only[wq.1,seval,t8],by simp only[wq.1,seval,t9],by simp only[wq.1,↓reduceIte,hw],by simp only[wq.1,hd],h0⟩
 ·have hi:i=aa rows:=by have:=of_decide_eq_false hc;omega
  rw[hi,zrx]at t5;simp only[wq.1,seval,t5,hd];exact aC.dat rfl
abbrev foF(f:Fo):List V:=[vi f.kind,vi f.lit,vi f.kids]
abbrev liF(x:Li):List V:=[vi x.1,vi x.2.toNat]
def foC(l:List Fo):List V:=l.flatMap foF
def liC(l:List Li):List V:=l.flatMap liF
theorem zC(l m:List Fo):foC (l++m)=foC l++foC m:=by simp[foC]
theorem Qs(l m:List Li):liC (l++m)=liC l++liC m:=by simp[liC]
theorem Xi(f:Fo):foC [f]=foF f:=by simp[foC]
theorem Qu(f:Li):liC [f]=liF f:=by simp[liC]
theorem vS:∀l:List Fo,aa (foC l)=aa l*3
 |[]=>rfl
 |t::l=>by show aa (_::_::_::foC l)=_;simp only[zrt,vS l];omega
theorem IB:∀l:List Li,aa (liC l)=aa l*2
 |[]=>rfl
 |t::l=>by show aa (_::_::liC l)=_;simp only[zrt,IB l];omega
theorem nK{α:Type}{F:α->List V}{p:Nat->Bool}(hF:∀x,ap p (F x)=F x):∀l:List α,ap p (l.flatMap F)=l.flatMap F
 |[]=>rfl
 |a::l=>by rw[List.flatMap_cons,fQ,hF,nK hF l]
theorem jk{p:Nat->Bool}(l:List Fo):ap p (foC l)=foC l:=nK (λ_=>rfl) l
theorem zD{p:Nat->Bool}(l:List Li):ap p (liC l)=liC l:=nK (λ_=>rfl) l
theorem J5:∀l:List Fo,aL (foC l)=ab
 |[]=>rfl
 |t::l=>by show(ab&&(ab&&(ab&&aL (foC l))))=ab;rw[J5 l];rfl
theorem J6:∀l:List Li,aL (liC l)=ab
 |[]=>rfl
 |t::l=>by show(ab&&(ab&&aL (liC l)))=ab;rw[J6 l];rfl
theorem uO:∀l:List Fo,di (foC l)=ab
 |[]=>rfl
 |t::l=>by show(ab&&(ab&&(ab&&di (foC l))))=ab;rw[uO l];rfl
theorem Vu:∀l:List Fo,bU 3 (l.map foV)=ab
 |[]=>rfl
 |t::l=>by show(_&&bU 3 (l.map foV))=ab;rw[Vu l];rfl
theorem Vw:∀l:List Li,bU 2 (l.map liV)=ab
 |[]=>rfl
 |t::l=>by show(_&&bU 2 (l.map liV))=ab;rw[Vw l];rfl
theorem vT:∀l:List Fo,kM (l.map foV)=ab
 |[]=>rfl
 |t::l=>by show(_&&kM (l.map foV))=ab;rw[vT l];rfl
theorem IC:∀l:List Fo,(l.map foV).flatMap V.vc=foC l
 |[]=>rfl
 |t::l=>by show V.vc (foV t)++(l.map foV).flatMap V.vc=_;rw[IC l];rfl
theorem YW:∀l:List Li,(l.map liV).flatMap V.vc=liC l
 |[]=>rfl
 |t::l=>by show V.vc (liV t)++(l.map liV).flatMap V.vc=_;rw[YW l];rfl
theorem xM[MO]{h:H}{id len cap:Nat}{l:List Fo}(hc:h[id]? =al (am (foC l)))(hl:len=aa l):aC TE h (.ls id 3 0 len cap) (oH l) :=
 aC.ls hc (ax.dat (J5 l)) (Vu l) (IC l) (by rw[zra];exact hl)
theorem J7[MO]{h:H}{id len cap:Nat}{l:List Li}(hc:h[id]? =al (am (liC l)))(hl:len=aa l):aC TE h (.ls id 2 0 len cap) (xh l) :=
 aC.ls hc (ax.dat (J6 l)) (Vw l) (YW l) (by rw[zra];exact hl)
theorem DT[MO](l:List Li)(rest:List Fo)(hl:aa l<=1000000)(hr:aa rest<=1000000)(hx:∀x∈l,x.1<=1000000000):Ev TE 213 [xh l,oH rest] (oH (yZ l rest)):=by
 have hM:=mLx;refine ai Tryz.func213 rfl (by simp[nts]) ?_;obtain⟨r,er⟩:∃r,r=qX rest:=⟨_,rfl⟩;have hrl:aa r<=1000000:=er▸Nat.le_trans (JY rest) hr;obtain⟨K,eK⟩:∃K,K=PR l rest:=⟨_,rfl⟩;have hK:K=aa l+min (aa r) 1:=by rw[eK,er];rfl
 have hA:yZ l rest=(if 1<K then [⟨3,0,K⟩]else [])++l.map jS++r:=by rw[eK,er];rfl
 rw[hA];refine vn ?_;simp only[wq.1,Nat.reduceLT,Tryz.results213];refine aj (aY (Q:=λxe f h=>xe= .normal/\h=[]/\f.t 0=xh l/\VLe (f.t 1) (oH r)/\f.d=[]) ?_ ?_)
 ·rintro xe f h ⟨rfl,rfl,t0,t1,hd⟩;show awp _ _ _ _ _ _ _;refine Jg (FLe.one 1 t1) (HLe.refl _) ?_;obtain⟨f',ef⟩:∃f':Fr,f'={f with t:=λj=>if j=1 then oH r else f.t j}:=⟨_,rfl⟩;have u0:f'.t 0=xh l:=by rw[ef];exact t0
  have u1:f'.t 1=oH r:=by rw[ef];rfl
  have ud:f'.d=[]:=by rw[ef];exact hd
  rw[<-ef];clear ef t0 t1 hd f;have hmn:KH [vi (aa r),vi 1]=(True,vi (min (aa r) 1:Nat)):=by
   show(True,V.int .i64 (if(1:Int)<(aa r:Int)then 1 else(aa r:Int)))=_
   congr 2
   split<;>omega
  have wK:aD .i64 ((aa l:Int)+((min (aa r) 1:Nat):Int))=(K:Int):=by rw[iU (by omega) (by omega),hK];omega
  have dK:ar ((1:Int)<(K:Int))=ar (1<K):=decide_eq_decide.2 (by omega);refine vn ?_;simp only[wq.1,seval,u0,u1,hmn,wK];refine vn ?_;simp only[wq.1,Nat.reduceLT];refine iG 6 3 (by simp only[wq.1,↓reduceIte]) ?_;obtain⟨P0,eP0⟩:∃P0:List Fo,P0=if 1<K then [⟨3,0,K⟩]else []:=⟨_,rfl⟩
  rw[<-eP0];refine aj (aY (Q:=λxe f h=>xe= .normal/\h[0]? =al (am (foC P0))/\f.t 0=xh l/\f.t 1=oH r/\f.t 6= .ls 0 3 0 (aa P0) (aa P0)/\f.d=[]) ?_ ?_)
  ·clear u0 u1 ud;rintro xe f h ⟨rfl,h0,t0,t1,t6,hd⟩;show awp _ _ _ _ _ _ _;have hPl:aa P0<=1:=by rw[eP0];split<;>simp
   refine vn ?_;simp only[wq.1,seval,t0];refine aF (λm f h=>∃i,m+i=aa l/\h[0]? =al (am (foC (P0++(l.take i).map jS)))/\f.t 1=oH r/\f.t 6= .ls 0 3 0 (aa P0+i) (aa P0+i)/\f.t 32=xh l/\f.t 33=vi (aa l)/\f.t 34=vi i/\f.d=[]) (aa l) ⟨0,by omega,by simpa using h0,by simp only[wq.1,seval,t1],by simp only[wq.1,seval,t6],by simp only[wq.1,seval],by simp only[wq.1,seval],by rfl,by simp only[wq.1,hd]⟩ ?_;clear t0 t1 t6 hd h0;rintro m f h ⟨i,hm,h0,t1,t6,t32,t33,t34,hd⟩;have hw:=az (show i<maxLen by omega);refine vn ?_;simp only[wq.1,Nat.reduceLT,t33,t34];refine vn ?_;simp only[wq.1,↓reduceIte];refine vcB.mk (λhlt=> ?_) (λhlt=> ?_)
   ·have hlt:i<aa l:=by have:=zqs hlt;omega
    obtain⟨x,ex⟩:∃x,x=l[i]:=⟨_,rfl⟩;have hgx:=YU hlt .any;rw[<-ex]at hgx;have hnd:=Qq x (hx x (ex▸zqu hlt));have dF:∀q,ap q (foC (P0++(l.take i).map jS))=foC (P0++(l.take i).map jS):=λq=>jk _;have hfl:=vS (P0++(l.take i).map jS);rw[zqa,zra,zrl,Nat.min_eq_left (by omega)]at hfl;have hgE:∀x:O,(h++[x])[aa h]? =al x:=λx=>by simp
    have hgS:∀x y:O,(h++[x]).set (aa h) y=h++[y]:=λx y=>by simp
    have l0:=(zqe h0).1;have hx0:∀o:O,(h++[o])[0]? =al (am (foC (P0++(l.take i).map jS))):=λo=>by rw[zqj l0];exact h0
    simp only[wq.1];refine vm ?_;simp only[wq.1,seval,t6,t32,t34,hgx,hgE,hgS];refine⟨⟨by omega,by omega⟩,ag.ev hnd rfl ?_⟩;have hap:foC (P0++(l.take i).map jS)++foF (jS x)=foC (P0++(l.take (i+1)).map jS):=by
     rw[List.take_succ_eq_append_getElem hlt,<-ex,zql,<-zqc,zC (P0++(l.take i).map jS),List.map_singleton,Xi]
    simp only[wq.1,↓reduceIte,Nat.reduceEqDiff,Nat.reduceLT,Nat.reduceAdd,reduceCtorEq,Nat.reduceMul,t34,hd,hx0,dF,hfl,hw];refine⟨⟨rfl,by decide⟩,rfl,⟨rfl,by omega,by omega⟩,.inl ⟨m-1,by omega,i+1,by omega,?_,by simp only[wq.1,↓reduceIte,Nat.reduceEqDiff,Nat.reduceLT,Nat.reduceLeDiff,Nat.reduceAdd,Nat.reduceSub,Int.reduceToNat,Nat.reduceDiv,Int.reduceLT,Int.reduceLE,Int.reduceNeg,Int.reduceBEq,Int.reduceBNe,Int.reduceAdd,Int.reduceSub,Nat.reduceBEq,reduceCtorEq,Nat.reduceMul,ay,Tryz.results213,t1],by simp only[wq.1,↓reduceIte,Nat.reduceEqDiff,Nat.reduceLT,Nat.reduceLeDiff,Nat.reduceAdd,Nat.reduceSub,Int.reduceToNat,Nat.reduceDiv,Int.reduceLT,Int.reduceLE,Int.reduceNeg,Int.reduceBEq,Int.reduceBNe,Int.reduceAdd,Int.reduceSub,Nat.reduceBEq,reduceCtorEq,Nat.reduceMul,ay,Tryz.results213,Nat.add_assoc],by simp only[wq.1,↓reduceIte,Nat.reduceEqDiff,Nat.reduceLT,Nat.reduceLeDiff,Nat.reduceAdd,Nat.reduceSub,Int.reduceToNat,Nat.reduceDiv,Int.reduceLT,Int.reduceLE,Int.reduceNeg,Int.reduceBEq,Int.reduceBNe,Int.reduceAdd,Int.reduceSub,Nat.reduceBEq,reduceCtorEq,Nat.reduceMul,ay,Tryz.results213,t32],by simp only[wq.1,↓reduceIte,Nat.reduceEqDiff,Nat.reduceLT,Nat.reduceLeDiff,Nat.reduceAdd,Nat.reduceSub,Int.reduceToNat,Nat.reduceDiv,Int.reduceLT,Int.reduceLE,Int.reduceNeg,Int.reduceBEq,Int.reduceBNe,Int.reduceAdd,Int.reduceSub,Nat.reduceBEq,reduceCtorEq,Nat.reduceMul,ay,Tryz.results213,t33],by simp only[wq.1,↓reduceIte,Nat.reduceEqDiff,Nat.reduceLT,Nat.reduceLeDiff,Nat.reduceAdd,Nat.reduceSub,Int.reduceToNat,Nat.reduceDiv,Int.reduceLT,Int.reduceLE,Int.reduceNeg,Int.reduceBEq,Int.reduceBNe,Int.reduceAdd,Int.reduceSub,Nat.reduceBEq,reduceCtorEq,Nat.reduceMul,ay,Tryz.results213],by simp only[wq.1,↓reduceIte,Nat.reduceEqDiff,Nat.reduceLT,Nat.reduceLeDiff,Nat.reduceAdd,Nat.reduceSub,Int.reduceToNat,Nat.reduceDiv,Int.reduceLT,Int.reduceLE,Int.reduceNeg,Int.reduceBEq,Int.reduceBNe,Int.reduceAdd,Int.reduceSub,Nat.reduceBEq,reduceCtorEq,Nat.reduceMul,ay,Tryz.results213,hd]⟩⟩;rw[zqt (by simp),<-hap];rfl
   ·have hi:i=aa l:=by have:=of_decide_eq_false hlt;omega
    subst hi;rw[zrx]at h0;have dF:∀q,ap q (foC (P0++l.map jS))=foC (P0++l.map jS):=λq=>jk _;have hfl:=vS (P0++l.map jS);rw[zqa,zra]at hfl;refine vm ?_;simp only[wq.1,seval,t1,t6,hd,h0,dF,hfl];rw[IC,jk];refine⟨vT r,⟨uO r,by omega,by omega⟩,xM ?_ ?_⟩
    ·rw[zqt (by simpa using(zqe h0).1),<-zC]
    ·simp only[zqa,zra]
  ·refine vm ?_;simp only[wq.1,↓reduceIte,Nat.reduceEqDiff,Nat.reduceLT,ud,dK];refine vcB.mk (λhk=> ?_) (λhk=> ?_)
   ·rw[if_pos (zqs hk)]at eP0;subst eP0;simp only[wq.1,↓reduceIte,Nat.reduceEqDiff,Nat.reduceLT,Nat.reduceLeDiff,Nat.reduceAdd,reduceCtorEq,Nat.reduceMul,u0,u1];exact⟨⟨rfl,by decide⟩,rfl,⟨rfl,by rw[hM];decide⟩,rfl⟩
   ·rw[if_neg (of_decide_eq_false hk)]at eP0;subst eP0;simp only[wq.1,seval,u0,u1];exact rfl
 ·cases rest with
  |nil=>subst er;have e0:(((0:Nat):Int)==1)=ac:=rfl;refine vm ?_;have hn:V.any.nil? =aq:=rfl;simp only[wq.1,seval,e0,List.getD_nil,fE,hn];exact VLe.refl _
  |cons fo rs =>
   refine vm ?_;simp only[wq.1,seval];refine⟨λh=>⟨h,by omega⟩,vcB.mk (λhk=> ?_) (λhk=> ?_)⟩
   ·have h1:fo.kind=1/\rs=[]:=by simp only[zqf,beq_iff_eq]at hk;exact⟨by omega,zse (by omega)⟩
    obtain⟨h1,rfl⟩:=h1;have er:r=[]:=by rw[er];show(if fo.kind=1 then []else [fo])=[];rw[if_pos h1]
    subst er;simp only[wq.1,seval];exact VLe.nils
   ·have er:r=fo::rs:=by
     rw[er]
     match rs,hk with
     |[],hk=>show(if fo.kind=1 then []else [fo])=[fo];rw[if_neg];rintro h;rw[h]at hk;exact absurd hk (by decide)
     |_::_,_=>rfl
    subst er;simp only[wq.1,seval];exact VLe.refl _
theorem IE[MO](row:S)(hr:aa row<=1000000000):Ev TE 263 [.nils,.fn (.func 261) [] [.ip (.str row)]] (xh (aX row)):=by
 have hM := mLx;have hlr := DJ row;refine ai Tryz.func263 rfl (by simp [nts]) ?_;refine vn ?_;simp only [wq.1,Nat.reduceLT,Tryz.results263];refine gy ?_;refine mr (h' := [am [.ls 1 2 0 0 0],am []]) (HLe.set (i := 0) (o' := am [.ls 1 2 0 0 0]) rfl (OLe.cells (zrb _) (cZ.cons dM cZ.nil))) ?_;refine vn ?_;simp only [wq.1,seval];refine jr (n := 13) (q := 261) (first := []) (captured := [.ip (.str row)]) (by simp only [wq.1,↓reduceIte]) (by simp only [wq.1,↓reduceIte]) rfl (by decide) ?_;intro L hLd gets;refine ag.mono (zA row hr 3 _
  (λj h k=>(∀i<4,i≠1->k i=ac)/\∃t X,t 2= .lp 0 0/\h=[am [.ls 1 2 0 j j],am (liC ((aX row).take j)),.misc .dfd,L t .ready aq]++X)
  (λc h k=>False) ?_ ?_) ?_
 ·exact⟨λi _ _=>rfl,_,[],rfl,by rw[zqp];rfl⟩
 ·rintro i h k hi hk ⟨h1,t,X,t2,rfl⟩;rw[zra]at hi;obtain⟨y,hy⟩:∃y,y=(aX row)[i]:=⟨_,rfl⟩;have hit:((aX row).map λx=>[liV x])[i]'(by rw[zra];exact hi)=[liV y]:=by rw[List.getElem_map,<-hy]
  have hap:liC ((aX row).take i)++liF y=liC ((aX row).take (i+1)):=by rw[List.take_succ_eq_append_getElem hi,<-hy,Qs,Qu]
  rw[hit];obtain⟨C,hC⟩:∃C,C=liC ((aX row).take i):=⟨_,rfl⟩;have dC:∀q,ap q C=C:=λq=>by rw[hC];exact zD _
  have hCl:aa C=i*2:=by rw[hC,IB,zrl,Nat.min_eq_left (by omega)]
  rw[<-hC]at hap ⊢;refine gets _ _ _ t rfl rfl (λlb=> ?_);have k0:=h1 0 (by decide) (by decide);have k2:=h1 2 (by decide) (by decide);have gE:∀o:O,(X++[o])[aa X]? =al o:=λo=>by simp
  have gS:∀o o':O,(X++[o]).set (aa X) o'=X++[o']:=λo o'=>by simp
  refine vm ?_;simp only[wq.1,↓reduceIte,Nat.reduceEqDiff,Nat.reduceLT,Nat.reduceAdd,tZ,gE,gS];refine⟨t,rfl,?_⟩;refine aB ?_;refine vm ?_;simp only[wq.1,↓reduceIte,Nat.reduceEqDiff,Nat.reduceLT,Nat.reduceAdd,Nat.reduceBEq,reduceCtorEq,Nat.reduceMul,t2,gE,oM,XE.jump,dC,hCl,hLd];refine⟨⟨rfl,by decide⟩,rfl,⟨rfl,by omega,by omega⟩,_,_,rfl,λj hj h2=>by rw[h1 j hj h2];simpa using h2,λi=>(t i).drop λx=>x==1,List.map (O.drop λx=>x==1) X++[am [vi y.1,vi y.2.toNat]],?_,?_⟩
  ·show(t 2).drop _=_;rw[t2];rfl
  ·rw[<-hap];rfl
 ·rintro ae h' p ⟨hp,hr⟩;cases ae with
  |pan v=>exact hr.elim
  |ret v =>
   rcases hr with⟨h1,t,X,t2,rfl⟩|⟨_,h⟩
   ·rw[zra,zrx]at *;have k0:=h1 0 (by decide) (by decide);have k2:=h1 2 (by decide) (by decide);have k3:=h1 3 (by decide) (by decide);refine⟨λi hi=> ?_,hp,t,_,aq,(by decide),rfl,?_⟩
    ·have hi:i=2:=by simpa [tK,tN]using hi
     subst hi;exact k2
    ·simp only[wq.1,Nat.reduceAdd,zY];refine vm ?_;simp only[wq.1,seval,k0];exact J7 rfl rfl
   ·exact h.elim
theorem wL[MO](row:S)(hr:aa row<=1000000000):Ev TE 216 [.fn (.func 261) [] [.ip (.str row)]] (xh (aX row)):=by refine ai Tryz.func216 rfl (by simp[nts]) (vm ?_);simp only[wq.1,seval,Tryz.results216];refine ag.ev (IE row hr) rfl ?_;simp only[wq.1,seval];exact aC.dat (by simp only[aE,nJ])
theorem Qv(row:S)(l:List Li)(x:Li):jR row (l++[x])=(jR row l).set x.1 45:=by unfold jR;rw[List.foldl_append];rfl
theorem YX{b:S}{k:Nat}(h:k<aa b)(c:UInt8):(b.map vb).take (k*1)++[vb c]++(b.map vb).drop (k*1+1)=(b.set k c).map vb:=by rw[Nat.mul_one,List.map_set,List.set_eq_take_append_cons_drop,if_pos (by rw[zra];exact h),zqc];rfl
theorem zF[MO](rows:List S)(l:List Li)(hl:aa l<=1000000)(hrl:aa rows<=1000000)(hr:∀r∈rows,aa r<=1000000)(hx:∀r∈rows,∀x∈l,x.1<aa r):Ev TE 214 [aH rows,xh l] (aH (aS rows l)):=by
 have hM:=mLx;refine ai Tryz.func214 rfl (by simp[nts]) ?_;refine vn ?_;simp only[wq.1,Nat.reduceLT,Tryz.results214];refine vn ?_;simp only[wq.1,Nat.reduceLT];refine iG 5 1 (by simp only[wq.1,↓reduceIte]) ?_;refine vn ?_;simp only[wq.1,seval];refine aF (λm f h=>∃i,m+i=aa rows/\h[0]? =al (am ((aS (rows.take i) l).map V.str))/\f.t 1=xh l/\f.t 5= .ls 0 1 0 i i/\f.t 11=aH rows/\f.t 12=vi (aa rows)/\f.t 13=vi i/\f.d=[]) (aa rows) ⟨0,by omega,rfl,by simp only[wq.1,seval],by simp only[wq.1,seval],by simp only[wq.1,seval],by simp only[wq.1,seval],by rfl,by simp only[wq.1]⟩ ?_;rintro m f h ⟨i,hm,h0,t1,t5,t11,t12,t13,hd⟩;have hw:=az (show i<maxLen by omega);refine vn ?_;simp only[wq.1,Nat.reduceLT,t12,t13];refine vn ?_;simp only[wq.1,↓reduceIte];refine vcB.mk (λhlt=> ?_) (λhlt=> ?_)
 ·have hlt:i<aa rows:=by have:=zqs hlt;omega
  obtain⟨r,er⟩:∃r,r=rows[i]:=⟨_,rfl⟩;have hrm:r∈rows:=er▸zqu hlt;have hg:=yG hlt .any;rw[<-er]at hg;have hrr:=hr r hrm;have hdv:aS (rows.take (i+1)) l=aS (rows.take i) l++[jR r l]:=by unfold aS;rw[List.take_succ_eq_append_getElem hlt,zql,<-er];rfl
  obtain⟨D,eD⟩:∃D,D=aS (rows.take i) l:=⟨_,rfl⟩;have hDl:aa D=i:=by rw[eD];unfold aS;rw[zra,zrl];omega
  rw[<-eD]at h0 hdv;have l0:=(zqe h0).1;simp only[wq.1];refine aj ?_;refine aB ?_;refine vn ?_;simp only[wq.1,seval,t11,t13,hg];refine⟨⟨by omega,by omega⟩,?_⟩;refine aj (iF ?_);refine aA rfl rfl ?_;simp only[wq.1,↓reduceIte];refine dH rfl rfl ?_;refine OH (t:=9) (tt:=79) (el:=5) (q:=⟨.slice 5,1,24,.nils⟩) (qs:=⟨.str,1,16,.str []⟩) (re:=⟨.int .u8,1,1,.int .u8 0⟩) (l:=r) rfl (by simp only[wq.1]) rfl (by simp only[wq.1]) rfl (by simp only[wq.1]) rfl (by simp only[wq.1,↓reduceIte]) (by simp only[wq.1,↓reduceIte]) (by omega) ?_;refine aA rfl rfl ?_;simp only[wq.1,↓reduceIte];refine dG ?_;obtain⟨J,eJ⟩:∃J,J=aa h:=⟨_,rfl⟩;have hJ0:0<J:=by omega
  obtain⟨h',eh⟩:∃h',h'=h++[am (r.map vb)]:=⟨_,rfl⟩;have a0':h'[0]? =al (am (D.map V.str)):=by rw[eh,zqj l0];exact h0
  have aJ':h'[J]? =al (am (r.map vb)):=by rw[eh,eJ];exact Jk
  show awp _ _ _ _ _ _ (h++[am (r.map vb)]);rw[<-eh,<-eJ];refine vn ?_;simp only[wq.1,seval,t1];refine aF (λmm f h=>∃j,mm+j=aa l/\h[0]? =al (am (D.map V.str))/\h[J]? =al (am ((jR r (l.take j)).map vb))/\f.t 1=xh l/\f.t 5= .ls 0 1 0 i i/\f.t 8= .ls J 1 0 (aa r) (aa r)/\f.t 11=aH rows/\f.t 12=vi (aa rows)/\f.t 13=vi i/\f.t 19=xh l/\f.t 20=vi (aa l)/\f.t 21=vi j/\f.d=[]) (aa l) ⟨0,by omega,a0',aJ',by simp only[wq.1,seval,t1],by simp only[wq.1,seval,t5],by simp only[wq.1,seval],by simp only[wq.1,seval,t11],by simp only[wq.1,seval,t12],by simp only[wq.1,seval,t13],by simp only[wq.1,seval],by simp only[wq.1,seval],by rfl,by simp only[wq.1,hd]⟩ ?_;clear a0' aJ' eh h' t1 t5 t11 t12 t13 hd h0 l0 eJ h f;rintro mm f h ⟨j,hmm,h0,hJ,t1,t5,t8,t11,t12,t13,t19,t20,t21,hd⟩;have hwj:=az (show j<maxLen by omega);have l0:=(zqe h0).1;have lJ:=(zqe hJ).1;refine vn ?_;simp only[wq.1,Nat.reduceLT,t20,t21];refine vn ?_;simp only[wq.1,↓reduceIte];refine vcB.mk (λhlj=> ?_) (λhlj=> ?_)
  ·have hlj:j<aa l:=by have:=zqs hlj;omega
   obtain⟨x,ex⟩:∃x,x=l[j]:=⟨_,rfl⟩;have hgx:=YU hlj .any;rw[<-ex]at hgx;have hxr:=hx r hrm x (ex▸zqu hlj);have hdl:=xJ (l.take j) r;have hds:jR r (l.take (j+1))=(jR r (l.take j)).set x.1 45:=by rw[List.take_succ_eq_append_getElem hlj,<-ex,Qv]
   have hgE:∀x:O,(h++[x])[aa h]? =al x:=λx=>by simp
   have hgS:∀x y:O,(h++[x]).set (aa h) y=h++[y]:=λx y=>by simp
   have hxJ:∀o:O,(h++[o])[J]? =al (am ((jR r (l.take j)).map vb)):=λo=>by rw[zqj lJ];exact hJ
   obtain⟨b,eb⟩:∃b,b=jR r (l.take j):=⟨_,rfl⟩;rw[<-eb]at hdl hds hJ hxJ;simp only[wq.1];refine vm ?_;simp only[wq.1,↓reduceIte,Nat.reduceEqDiff,Nat.reduceLT,Nat.reduceLeDiff,Nat.reduceAdd,Nat.reduceSub,Int.reduceToNat,Nat.reduceDiv,Int.reduceLT,Int.reduceLE,Int.reduceNeg,Int.reduceBEq,Int.reduceBNe,Int.reduceAdd,Int.reduceSub,Nat.reduceBEq,reduceCtorEq,Nat.reduceMul,ay,Tryz.results214,t1,t5,t8,t11,t12,t13,t19,t20,t21,hd,hgx,hgE,hgS,hxJ,hwj];refine⟨⟨by omega,by omega⟩,by decide,⟨by omega,by omega⟩,by omega,.inl ⟨mm-1,by omega,j+1,by omega,?_,?_,by simp only[wq.1,↓reduceIte,Nat.reduceEqDiff,Nat.reduceLT,Nat.reduceLeDiff,Nat.reduceAdd,Nat.reduceSub,Int.reduceToNat,Nat.reduceDiv,Int.reduceLT,Int.reduceLE,Int.reduceNeg,Int.reduceBEq,Int.reduceBNe,Int.reduceAdd,Int.reduceSub,Nat.reduceBEq,reduceCtorEq,Nat.reduceMul,ay,Tryz.results214,t1],by simp only[wq.1,↓reduceIte,Nat.reduceEqDiff,Nat.reduceLT,Nat.reduceLeDiff,Nat.reduceAdd,Nat.reduceSub,Int.reduceToNat,Nat.reduceDiv,Int.reduceLT,Int.reduceLE,Int.reduceNeg,Int.reduceBEq,Int.reduceBNe,Int.reduceAdd,Int.reduceSub,Nat.reduceBEq,reduceCtorEq,Nat.reduceMul,ay,Tryz.results214,t5],by simp only[wq.1,↓reduceIte,Nat.reduceEqDiff,Nat.reduceLT,Nat.reduceLeDiff,Nat.reduceAdd,Nat.reduceSub,Int.reduceToNat,Nat.reduceDiv,Int.reduceLT,Int.reduceLE,Int.reduceNeg,Int.reduceBEq,Int.reduceBNe,Int.reduceAdd,Int.reduceSub,Nat.reduceBEq,reduceCtorEq,Nat.reduceMul,ay,Tryz.results214,t8],by simp only[wq.1,↓reduceIte,Nat.reduceEqDiff,Nat.reduceLT,Nat.reduceLeDiff,Nat.reduceAdd,Nat.reduceSub,Int.reduceToNat,Nat.reduceDiv,Int.reduceLT,Int.reduceLE,Int.reduceNeg,Int.reduceBEq,Int.reduceBNe,Int.reduceAdd,Int.reduceSub,Nat.reduceBEq,reduceCtorEq,Nat.reduceMul,ay,Tryz.results214,t11],by simp only[wq.1,↓reduceIte,Nat.reduceEqDiff,Nat.reduceLT,Nat.reduceLeDiff,Nat.reduceAdd,Nat.reduceSub,Int.reduceToNat,Nat.reduceDiv,Int.reduceLT,Int.reduceLE,Int.reduceNeg,Int.reduceBEq,Int.reduceBNe,Int.reduceAdd,Int.reduceSub,Nat.reduceBEq,reduceCtorEq,Nat.reduceMul,ay,Tryz.results214,t12],by simp only[wq.1,↓reduceIte,Nat.reduceEqDiff,Nat.reduceLT,Nat.reduceLeDiff,Nat.reduceAdd,Nat.reduceSub,Int.reduceToNat,Nat.reduceDiv,Int.reduceLT,Int.reduceLE,Int.reduceNeg,Int.reduceBEq,Int.reduceBNe,Int.reduceAdd,Int.reduceSub,Nat.reduceBEq,reduceCtorEq,Nat.reduceMul,ay,Tryz.results214,t13],by simp only[wq.1,↓reduceIte,Nat.reduceEqDiff,Nat.reduceLT,Nat.reduceLeDiff,Nat.reduceAdd,Nat.reduceSub,Int.reduceToNat,Nat.reduceDiv,Int.reduceLT,Int.reduceLE,Int.reduceNeg,Int.reduceBEq,Int.reduceBNe,Int.reduceAdd,Int.reduceSub,Nat.reduceBEq,reduceCtorEq,Nat.reduceMul,ay,Tryz.results214,t19],by simp only[wq.1,↓reduceIte,Nat.reduceEqDiff,Nat.reduceLT,Nat.reduceLeDiff,Nat.reduceAdd,Nat.reduceSub,Int.reduceToNat,Nat.reduceDiv,Int.reduceLT,Int.reduceLE,Int.reduceNeg,Int.reduceBEq,Int.reduceBNe,Int.reduceAdd,Int.reduceSub,Nat.reduceBEq,reduceCtorEq,Nat.reduceMul,ay,Tryz.results214,t20],by simp only[wq.1,↓reduceIte,Nat.reduceEqDiff,Nat.reduceLT,Nat.reduceLeDiff,Nat.reduceAdd,Nat.reduceSub,Int.reduceToNat,Nat.reduceDiv,Int.reduceLT,Int.reduceLE,Int.reduceNeg,Int.reduceBEq,Int.reduceBNe,Int.reduceAdd,Int.reduceSub,Nat.reduceBEq,reduceCtorEq,Nat.reduceMul,ay,Tryz.results214],by simp only[wq.1,↓reduceIte,Nat.reduceEqDiff,Nat.reduceLT,Nat.reduceLeDiff,Nat.reduceAdd,Nat.reduceSub,Int.reduceToNat,Nat.reduceDiv,Int.reduceLT,Int.reduceLE,Int.reduceNeg,Int.reduceBEq,Int.reduceBNe,Int.reduceAdd,Int.reduceSub,Nat.reduceBEq,reduceCtorEq,Nat.reduceMul,ay,Tryz.results214,hd]⟩⟩
   ·rw[zqn (by omega),zqj l0];exact h0
   ·rw[zqt (by simp;omega),hds];exact congrArg (λc=>al (am c)) (YX (by omega) 45)
  ·have hj:j=aa l:=by have:=of_decide_eq_false hlj;omega
   rw[hj,zrx]at hJ;obtain⟨c1,c2⟩:=qC (k:=J) (cap:=aa r) hJ;rw[xJ]at c1 c2;have dD:∀p,ap p (D.map V.str)=D.map V.str:=λp=>aN;have hnx:D.map V.str++[V.str (jR r l)]=(aS (rows.take (i+1)) l).map V.str:=by rw[hdv,zql];rfl
   simp only[wq.1];refine vm ?_;simp only[wq.1,↓reduceIte,Nat.reduceEqDiff,Nat.reduceLT,reduceCtorEq,Nat.reduceMul,t5,t8,hd,c1,c2,h0];refine⟨⟨rfl,by decide⟩,⟨by omega,by omega,by omega⟩,?_⟩;refine vm ?_;simp only[wq.1,seval,t13,hw];refine .inl ⟨m-1,by omega,i+1,by omega,?_,by simp only[wq.1,seval,t1],by simp only[wq.1,seval],by simp only[wq.1,seval,t11],by simp only[wq.1,seval,t12],by simp only[wq.1,↓reduceIte],by simp only[wq.1,hd]⟩;rw[zqt (by simpa using l0),hnx]
 ·have hi:i=aa rows:=by have:=of_decide_eq_false hlt;omega
  rw[hi,zrx]at h0;refine vm ?_;simp only[wq.1,seval,t5,hd];rw[hi];exact aV h0 (by unfold aS;rw[zra])
theorem UA[MO](h:H)(c:UInt8):jo P h 21 3 (.int .i32 c.toNat)=(True,vi c.toNat):=by have hc:=c.toNat_lt;have hw:aD .i64 (c.toNat:Int)=(c.toNat:Int):=iU (by omega) (by omega);unfold jo;simp only[wq.1,hw]
theorem Qw(n:Nat):xf (n+1)=xf n++[(n,49),(n,48)]:=by unfold xf;rw[List.range_succ,List.flatMap_append];rfl
theorem Qx(rows:List S):∀(l:List Li)(b:Li×Nat),b.2<=aa rows->(l.foldl (fH rows) b).2<=aa rows
 |[],b,h=>h
 |x::l,b,h=>by
  rw[List.foldl_cons];refine Qx rows l _ ?_;unfold fH;split
  ·exact List.countP_le_length
  ·exact h
theorem Qy[MO](r0:S)(rs:List S)(hrl:aa (r0::rs)<=1000000)(hr:∀r∈r0::rs,aa r<=1000000):Ev TE 215 [aH (r0::rs)] (.tup [liV (jZ (r0::rs)).1,vi (jZ (r0::rs)).2]):=by
 have hM:=mLx;obtain⟨rows,erw⟩:∃rows,rows=r0::rs:=⟨_,rfl⟩;have hg0:(rows.map V.str).getD 0 .any= .str r0:=by rw[erw];rfl
 have hrw:0<aa rows:=by rw[erw];simp
 have hmm:jZ rows=(xf (aa r0)).foldl (fH rows) ((0,0),0):=by rw[erw];rfl
 have hr0:aa r0<=1000000:=hr r0 (by simp);rw[<-erw]at hrl hr ⊢;rw[hmm];obtain⟨W,eW⟩:∃W:Nat->Li×Nat,W=λi=>(xf i).foldl (fH rows) ((0,0),0):=⟨_,rfl⟩;have hW0:W 0=((0,0),0):=by rw[eW];rfl
 have hWs:∀i,W (i+1)=fH rows (fH rows (W i) (i,49)) (i,48):=λi=>by rw[eW];show(xf (i+1)).foldl _ _=_;rw[Qw,List.foldl_append];rfl
 have hWle:∀i,(W i).2<=aa rows:=λi=>by rw[eW];exact Qx rows _ _ (Nat.zero_le _)
 rw[show(xf (aa r0)).foldl (fH rows) ((0,0),0)=W (aa r0) by rw[eW]];have d0:Em [49,48] 0=(49,1):=by decide +kernel
 have d1:Em [49,48] 1=(48,1):=by decide +kernel
 refine ai Tryz.func215 rfl (by simp[nts]) ?_;refine vn ?_;simp only[wq.1,Nat.reduceLT,Tryz.results215];refine vn ?_;simp only[wq.1,seval];refine vn ?_;simp only[wq.1,seval,hg0];refine⟨by omega,?_⟩;refine aF (λm f h=>∃i,m+i=aa r0/\h[0]? =al (am [vi 0,vi 0])/\h[1]? =al (am [vi (W i).1.1,vi (W i).1.2.toNat])/\f.t 0=aH rows/\f.t 2= .lp 0 0/\f.t 4= .lp 1 0/\f.t 5=vi (W i).2/\f.t 15=vi (aa r0)/\f.t 16=vi i/\f.d=[]) (aa r0) ⟨0,by omega,rfl,by rw[hW0];rfl,by simp only[wq.1,seval],by simp only[wq.1,seval],by simp only[wq.1,seval],by simp only[wq.1,↓reduceIte,Nat.reduceEqDiff,hW0];rfl,by simp only[wq.1,↓reduceIte,Nat.reduceEqDiff,Nat.reduceLT,Nat.reduceLeDiff,Nat.reduceAdd,Nat.reduceSub,Int.reduceToNat,Nat.reduceDiv,Int.reduceLT,Int.reduceLE,Int.reduceNeg,Int.reduceBEq,Int.reduceBNe,Int.reduceAdd,Int.reduceSub,Nat.reduceBEq,reduceCtorEq,Nat.reduceMul,ay,Tryz.results215],by rfl,by simp only[wq.1,↓reduceIte,Nat.reduceEqDiff,Nat.reduceLT,Nat.reduceLeDiff,Nat.reduceAdd,Nat.reduceSub,Int.reduceToNat,Nat.reduceDiv,Int.reduceLT,Int.reduceLE,Int.reduceNeg,Int.reduceBEq,Int.reduceBNe,Int.reduceAdd,Int.reduceSub,Nat.reduceBEq,reduceCtorEq,Nat.reduceMul,ay,Tryz.results215]⟩ ?_;rintro m f h ⟨i,hm,h0,h1,t0,t2,t4,t5,t15,t16,hd⟩;have hw:=az (show i<maxLen by omega);refine vn ?_;simp only[wq.1,Nat.reduceLT,t15,t16];refine vn ?_;simp only[wq.1,↓reduceIte];refine vcB.mk (λhlt=> ?_) (λhlt=> ?_)
 ·have hlt:i<aa r0:=by have:=zqs hlt;omega
  simp only[wq.1];refine aj ?_;refine aB ?_;refine vn ?_;simp only[wq.1,seval,t16];refine vn ?_;simp only[wq.1,seval];obtain⟨K,eK⟩:∃K,K=aa h:=⟨_,rfl⟩;have l0:=(zqe h0).1;have l1:=(zqe h1).1;have hK1:1<K:=by omega
  obtain⟨h',eh⟩:∃h',h'=h++[O.misc (Misc.siter [49,48] 0)]:=⟨_,rfl⟩;have a0:h'[0]? =al (am [vi 0,vi 0]):=by rw[eh,zqj l0];exact h0
  have a1:h'[1]? =al (am [vi (W i).1.1,vi (W i).1.2.toNat]):=by rw[eh,zqj l1];exact h1
  have aK:h'[K]? =al (.misc (.siter [49,48] 0)):=by rw[eh,eK];exact Jk
  rw[<-eh,<-eK];obtain⟨B,eB⟩:∃B:Nat->Li×Nat,B=λp=>if p=0 then W i else if p=1 then fH rows (W i) (i,49)else W (i+1):=⟨_,rfl⟩
  obtain⟨C,eC⟩:∃C:Nat->UInt8,C=λp=>if p=0 then 49 else 48:=⟨_,rfl⟩
  have hBs:∀p,p<2->B (p+1)=fH rows (B p) (i,C p):=λp hp=>by
   have:p=0\/p=1:=by omega
   rcases this with rfl|rfl
   ·rw[eB,eC];rfl
   ·rw[eB,eC];exact hWs i
  have hBle:∀p,p<2->(B p).2<=aa rows:=λp hp=>by
   have:p=0\/p=1:=by omega
   rcases this with rfl|rfl
   ·rw[eB];exact hWle i
   ·rw[eB];show(fH rows (W i) (i,49)).2<=_;unfold fH;split
    ·exact List.countP_le_length
    ·exact hWle i
  have hdv:∀p,p<2->Em [49,48] p=((C p).toNat,1):=λp hp=>by
   have:p=0\/p=1:=by omega
   rcases this with rfl|rfl
   ·rw[d0,eC];rfl
   ·rw[d1,eC];rfl
  refine aB ?_;refine aF (λmm f h=>∃p,mm+p=2/\h[0]? =al (am [vi 0,vi 0])/\h[1]? =al (am [vi (B p).1.1,vi (B p).1.2.toNat])/\h[K]? =al (.misc (.siter [49,48] p))/\f.t 0=aH rows/\f.t 2= .lp 0 0/\f.t 4= .lp 1 0/\f.t 5=vi (B p).2/\f.t 6=vi i/\f.t 15=vi (aa r0)/\f.t 16=vi i/\f.t 19= .lp K 0/\f.d=[]) 2 ?_ ?_
  ·exact⟨0,rfl,a0,by rw[eB];exact a1,aK,by simp only[wq.1,seval,t0],by simp only[wq.1,seval,t2],by simp only[wq.1,seval,t4],by simp only[wq.1,seval,t5,eB],by simp only[wq.1,seval],by simp only[wq.1,seval,t15],by simp only[wq.1,seval,t16],by simp only[wq.1,↓reduceIte],by simp only[wq.1,hd]⟩
  clear a0 a1 aK eh h' h0 h1 t0 t2 t4 t5 t15 t16 hd l0 l1 eK h f;rintro mm f h ⟨p,hmm,h0,h1,hKp,t0,t2,t4,t5,t6,t15,t16,t19,hd⟩;have l0:=(zqe h0).1;have l1:=(zqe h1).1;have lK:=(zqe hKp).1;refine vn ?_;simp only[wq.1,seval,t19,hKp];by_cases hp:p<2
  ·have hpd:ar (p<2)=ab:=decide_eq_true hp;have hdp:=hdv p hp;obtain⟨c,ec⟩:∃c,c=C p:=⟨_,rfl⟩;have hbs:=hBs p hp;have hble:=hBle p hp;rw[<-ec]at hdp hbs;have hcnt:=Bg rows (i,c) (by omega) (λr h=>by have:=hr r h;omega);have hcl:iW rows (i,c)<=aa rows:=List.countP_le_length;simp only[wq.1,seval,hpd,mZ,hdp];obtain⟨h2,eh⟩:∃h2,h2=h.set K (O.misc (Misc.siter [49,48] (p+1))):=⟨_,rfl⟩;have g0:h2[0]? =al (am [vi 0,vi 0]):=by rw[eh,zqn (by omega)];exact h0
   have g1:h2[1]? =al (am [vi (B p).1.1,vi (B p).1.2.toNat]):=by rw[eh,zqn (by omega)];exact h1
   have gK:h2[K]? =al (.misc (.siter [49,48] (p+1))):=by rw[eh,zqt lK]
   rw[<-eh];clear eh h0 h1 hKp l0 l1 lK;have l0:=(zqe g0).1;have l1:=(zqe g1).1;have lK:=(zqe gK).1;have hgE:∀x:O,(h2++[x])[aa h2]? =al x:=λx=>by simp
   have hgS:∀x y:O,(h2++[x]).set (aa h2) y=h2++[y]:=λx y=>by simp
   have b1:∀x:O,(h2++[x])[1]? =al (am [vi (B p).1.1,vi (B p).1.2.toNat]):=λx=>by rw[zqj l1];exact g1
   have hlt2:ar (((B p).2:Int)<(iW rows (i,c):Int))=ar ((B p).2<iW rows (i,c)):=decide_eq_decide.2 (by omega);unfold fH at hbs;refine vm ?_;simp only[wq.1,seval,t0,t6,hgE,hgS,UA];refine ag.ev hcnt (by simp only[aL,aE,au,zre]) ?_;simp only[wq.1,seval,t5,hlt2];refine vcB.mk (λhlt=> ?_) (λhlt=> ?_)
   ·rw[if_pos (zqs hlt)]at hbs;simp only[wq.1,seval,t4,hgE,b1];refine .inl ⟨mm-1,by omega,p+1,by omega,by rw[zqn (by omega),zqj l0];exact g0,by rw[zqt (by simp;omega),hbs],by rw[zqn (by omega),zqj lK];exact gK,by simp only[wq.1,seval,t0],by simp only[wq.1,seval,t2],by simp only[wq.1,seval,t4],by simp only[wq.1,↓reduceIte,hbs],by simp only[wq.1,seval,t6],by simp only[wq.1,seval,t15],by simp only[wq.1,seval,t16],by simp only[wq.1,seval,t19],by simp only[wq.1,hd]⟩
   ·rw[if_neg (of_decide_eq_false hlt)]at hbs;simp only[wq.1];refine .inl ⟨mm-1,by omega,p+1,by omega,by rw[zqj l0];exact g0,by rw[zqj l1,hbs];exact g1,by rw[zqj lK];exact gK,by simp only[wq.1,seval,t0],by simp only[wq.1,seval,t2],by simp only[wq.1,seval,t4],by simp only[wq.1,seval,t5,hbs],by simp only[wq.1,seval,t6],by simp only[wq.1,seval,t15],by simp only[wq.1,seval,t16],by simp only[wq.1,seval,t19],by simp only[wq.1,hd]⟩
  ·have hpd:ar (p<2)=ac:=decide_eq_false hp;have hp2:p=2:=by omega
   subst hp2;have hB2:B 2=W (i+1):=by rw[eB];rfl
   rw[hB2]at h1 t5;simp only[wq.1,seval,mZ];refine vm ?_;simp only[wq.1,↓reduceIte];refine vm ?_;simp only[wq.1,seval,t16,hw];exact .inl ⟨m-1,by omega,i+1,by omega,h0,h1,by simp only[wq.1,seval,t0],by simp only[wq.1,seval,t2],by simp only[wq.1,seval,t4],by simp only[wq.1,seval,t5],by simp only[wq.1,seval,t15],by simp only[wq.1,↓reduceIte],by simp only[wq.1,hd]⟩
 ·have hi:i=aa r0:=by have:=of_decide_eq_false hlt;omega
  subst hi;refine vm ?_;have hs0:∀x:O,(h.set 0 x)[0]? =al x:=λx=>zqt (zqe h0).1;simp only[wq.1,seval,t2,t4,t5,hd,h0,h1,hs0];exact aC.dat rfl
theorem Gf{h:H}{i:Nat}{o:O}(hi:h[i]? =al o):h.set i o=h:=by
 refine List.ext_getElem? λj=> ?_;rw[List.getElem?_set];split
 ·rename_i e;subst e;rw[if_pos (zqe hi).1,hi]
 ·rfl
theorem Xj{a Z b:List S}{z r:S}:((a++z::Z++b).map V.str).take (aa a*1)++[V.str r]++((a++z::Z++b).map V.str).drop (aa a*1+1)=(a++r::Z++b).map V.str:=by
 have e:(a++z::Z++b).map V.str=a.map V.str++(V.str z::(Z++b).map V.str):=by simp
 have e2:(a++r::Z++b).map V.str=a.map V.str++(V.str r::(Z++b).map V.str):=by simp
 have hl:aa a=aa (a.map V.str):=by rw[zra]
 rw[Nat.mul_one,e,e2,hl,List.take_left,List.drop_length_add_append,zqc];rfl
theorem Xk{a Z b:List S}{x:S}{j:Nat}(h:aa a+aa Z=j)(d:V):((a++Z++x::b).map V.str).getD j d= .str x:=by
 have hj:j=aa (a++Z):=by rw[zqa];omega
 rw[zqg,zqo,hj,zsb (zrb _),Nat.sub_self];rfl
theorem Gg[MO]{h:H}{id:Nat}{rows:List S}(hid:h[id]? =al (am (rows.map V.str)))(hl:aa rows<=1000000)(q:FuncId)(caps:List V)(p:S->Bool)(he:ah P q=ab)(hd:aL caps=ab)(hq:∀x∈rows,Ev TE q (.str x::caps) (.bool (p x)))
 {R:AEnd->H->(Nat->Bool)->Prop} (hr:∀X cap,R (.ret (.ls id 1 0 (aa (rows.filter λr=> !p r)) cap)) (h.set id (am ((rows.filter λr=> !p r).map V.str++X))) (λ_=>ac)) :
 ag TE 219 [.ls id 1 0 (aa rows) (aa rows),.fn (.func q) [] caps] h R:=by
 have hM:=mLx;have hix:=O7 rows q caps p he hd hq;have lid:=(zqe hid).1;refine ak Tryz.func219 rfl (by simp[nts]) ?_;refine vn ?_;simp only[wq.1,seval,Tryz.results219];refine vn ?_;simp only[wq.1,seval];refine ag.lend hix (ax.cons (aV hid rfl) (ax.cons (aC.dat (by simp only[aE,hd,aL,zre])) ax.nil)) rfl ?_;simp only[wq.1,seval];have hidx:idx rows p=match rows.findIdx? p with|some i=>(i:Int)|none=>-1:=rfl
 rw[hidx];cases hfi:rows.findIdx? p with
 |none =>
  have hall:rows.filter (λr=> !p r)=rows:=List.filter_eq_self.2 λa ha=>by rw[List.findIdx?_eq_none_iff]at hfi;rw[hfi a ha];rfl
  have e1:((-1:Int)==-1)=ab:=rfl;dsimp only;refine vm ?_;simp only[wq.1,seval];have:=hr [] (aa rows);rw[hall,zqp,Gf hid]at this;exact this
 |some i =>
  obtain⟨hi,hpi,hlt⟩:=List.findIdx?_eq_some_iff_getElem.1 hfi;have e1:((i:Int)==-1)=ac:=by rw[beq_eq_false_iff_ne];omega
  have wi:=az (show i<maxLen by omega);dsimp only;refine vn ?_;simp only[wq.1,seval,e1];refine vn ?_;simp only[wq.1,seval,wi];obtain⟨K,eK⟩:∃K:Nat->List S,K=λj=>(rows.take j).filter λr=> !p r:=⟨_,rfl⟩;have hK0:K (i+1)=rows.take i:=by
   rw[eK];show(rows.take (i+1)).filter _=_;rw[List.take_succ_eq_append_getElem hi,List.filter_append,List.filter_eq_self.2 λa ha=> ?_]
   ·simp[hpi]
   ·obtain⟨k,hk,rfl⟩:=List.mem_take_iff_getElem.1 ha;have:=hlt k (by omega);simpa using this
  have hKs:∀j (hj:j<aa rows),K (j+1)=K j++(if p rows[j]=ab then []else [rows[j]]):=λj hj=>by
   rw[eK];show(rows.take (j+1)).filter _=_;rw[List.take_succ_eq_append_getElem hj,List.filter_append]
   congr 1
   cases hp:p rows[j]<;>simp[hp]
  have hKl:∀j,aa (K j)<=j:=λj=>by rw[eK];exact Nat.le_trans (List.length_filter_le _ _) (by rw[zrl];omega)
  refine aF (λm f h'=>∃j Z,m+j=aa rows/\j<=aa rows/\aa (K j)+(aa Z+1)=j/\(∃z,h'=h.set id (am ((K j++z::Z++rows.drop j).map V.str)))/\f.t 0= .ls id 1 0 (aa rows) (aa rows)/\f.t 1= .fn (.func q) [] caps/\f.t 5=vi (aa (K j))/\f.t 6=vi j/\f.d=[]/\(∀j,f.k j=ac)) (aa rows-(i+1)) ⟨i+1,[],by omega,by omega,by rw[hK0,zrl];simp;omega,⟨rows[i],?_⟩,by simp only[wq.1,seval],by simp only[wq.1,seval],?_,by simp only[wq.1,↓reduceIte],by simp only[wq.1],λ_=>rfl⟩ ?_
  ·rw[hK0];have:rows.take i++rows[i]::[]++rows.drop (i+1)=rows:=by
    rw[zqc];show rows.take i++(rows[i]::rows.drop (i+1))=rows;rw[<-List.drop_eq_getElem_cons hi,List.take_append_drop]
   rw[this,Gf hid]
  ·simp only[wq.1,seval];rw[hK0,zrl,Nat.min_eq_left (by omega)]
  rintro m f h' ⟨j,Z,hm,hjl,hKZ,⟨z,rfl⟩,t0,t1,t5,t6,hfd,hk⟩;have hkf:f.k=λ_=>ac:=funext hk;have hw:=az (show j<maxLen by omega);have hk':=hKl j;have wk:=az (show aa (K j)<maxLen by omega);have hset:∀o o':O,(h.set id o).set id o'=h.set id o':=λo o'=>List.set_set ..;have hget:∀o:O,(h.set id o)[id]? =al o:=λo=>zqt lid;obtain⟨C,eC⟩:∃C,C=(K j++z::Z++rows.drop j).map V.str:=⟨_,rfl⟩;have hCl:aa C=aa rows:=by
   rw[eC];simp only[zra,zqa,zrt,List.length_drop];omega
  rw[<-eC];refine vn ?_;simp only[wq.1,seval,t0,t6];refine vcB.mk (λhc=> ?_) (λhc=> ?_)
  ·have hjl:j<aa rows:=by have:=zqs hc;omega
   have hdr:=List.drop_eq_getElem_cons hjl;have hmid:=Xk (a:=K j) (Z:=z::Z) (x:=rows[j]) (b:=rows.drop (j+1)) (j:=j) (by simp only[zrt];exact hKZ) .any;rw[<-hdr,<-eC]at hmid;have hm1:C.getD (j*1) .any= .str rows[j]:=by rw[Nat.mul_one];exact hmid
   have hKj:=hKs j hjl;have hqj:=hq rows[j] (zqu hjl);simp only[wq.1];refine vm ?_;simp only[wq.1,seval,t0,t1,t6,hget,hm1,he];refine⟨⟨by omega,by omega⟩,by omega,ag.ev hqj (by simp only[aL,aE,hd,zre]) ?_⟩;cases hp:p rows[j]with
   |true=>rw[hp,if_pos rfl,zqp]at hKj;simp only[wq.1,seval,t6,hw];refine .inl ⟨m-1,by omega,j+1,Z++[rows[j]],by omega,by omega,by rw[hKj];simp;omega,⟨z,?_⟩,by simp only[wq.1,seval,t0],by simp only[wq.1,seval,t1],by simp only[wq.1,seval,t5,hKj],by simp only[wq.1,↓reduceIte],by simp only[wq.1,hfd],λi=>by simp only[wq.1,hk]⟩;rw[hKj,eC,hdr];simp only[zqc,List.cons_append,List.nil_append,zql,zrd,List.map_nil]
   |false =>
    rw[hp,if_neg (by decide)]at hKj;have hst:=Xj (a:=K j) (z:=z) (Z:=Z) (b:=rows.drop j) (r:=rows[j]);rw[<-eC]at hst;simp only[wq.1,seval,t0,t5,t6,hw,wk,hget];refine⟨⟨by omega,by omega⟩,by omega,?_⟩;refine .inl ⟨m-1,by omega,j+1,?_⟩;cases Z with
    |nil=>refine⟨[],by omega,by omega,by rw[hKj];simp at hKZ ⊢;omega,⟨rows[j],?_⟩,by simp only[wq.1,seval,t0],by simp only[wq.1,seval,t1],by simp only[wq.1,seval,hKj],by simp only[wq.1,↓reduceIte],by simp only[wq.1,hfd],λi=>by simp only[wq.1,hk]⟩;rw[hset,hst,hKj,hdr];simp only[zqc,List.cons_append,List.nil_append,zql,zrd,List.map_nil]
    |cons y Z=>refine⟨Z++[rows[j]],by omega,by omega,by rw[hKj];simp at hKZ ⊢;omega,⟨y,?_⟩,by simp only[wq.1,seval,t0],by simp only[wq.1,seval,t1],by simp only[wq.1,seval,hKj],by simp only[wq.1,↓reduceIte],by simp only[wq.1,hfd],λi=>by simp only[wq.1,hk]⟩;rw[hset,hst,hKj,hdr];simp only[zqc,List.cons_append,List.nil_append,zql,zrd,List.map_nil]
  ·have hjl:j=aa rows:=by have:=of_decide_eq_false hc;omega
   have hKf:K j=rows.filter λr=> !p r:=by rw[eK,hjl];show(rows.take (aa rows)).filter _=_;rw[zrx]
   simp only[wq.1];refine aj (iF ?_);refine aA rfl rfl ?_;simp only[wq.1,seval,t0];refine aA rfl rfl ?_;simp only[wq.1,seval,t5];refine aA rfl rfl ?_;simp only[wq.1,seval];refine⟨⟨by omega,by omega⟩,?_⟩;refine dH rfl rfl ?_;refine OI (t:=23) (el:=9) (q:=⟨.slice 9,1,24,.nils⟩) (re:=⟨.str,1,16,.str []⟩) (cs0:=C) (id:=id) (off:=(K j).length*1) (len:=aa rows-aa (K j)) (cap:=aa rows-aa (K j)) rfl rfl (by simp only[wq.1]) rfl (by simp only[wq.1]) (by simp only[wq.1,↓reduceIte]) (by simp only[wq.1,↓reduceIte]) (hget _) (by rw[hCl];omega) rfl rfl rfl ?_;refine dG ?_;rw[hset];have hsp:cO C (aa (K j)*1) (ao (aa rows-aa (K j)) (V.str []))=(rows.filter λr=> !p r).map V.str++ao (aa rows-aa (K j)) (V.str []):=by
    unfold cO;rw[Nat.mul_one,zsc,List.drop_of_length_le (by omega),zqp,eC];have e:(K j++z::Z++rows.drop j).map V.str=(K j).map V.str++(z::Z++rows.drop j).map V.str:=by rw[zqc,zql]
    have hl:aa (K j)=aa ((K j).map V.str):=by rw[zra]
    rw[e,List.take_left' hl.symm,hKf]
   show XE.seq _ _ _ _ (h.set id (am (cO C (aa (K j)*1) (ao (aa rows-aa (K j)) (V.str [])))));rw[hsp];have hfin:=hr (ao (aa rows-aa (K j)) (V.str [])) (aa rows);rw[<-hKf]at hfin ⊢;show awp _ _ _ _ _ _ _;refine vm ?_;simp only[wq.1,seval,t0,t5,hfd,hkf];exact⟨⟨by omega,.inl (by omega)⟩,hfin⟩
theorem Gh[MO](n:Nat)(hn:n<=1000000)(h:H)(R:AEnd->H->(Nat->Bool)->Prop)(hr0:n=0->R (.ret .nils) h (λ_=>ac))
 (hr:0<n->R (.ret (.ls (aa h) 3 0 0 0)) (h++[am []]) (λ_=>ac)):ag TE 265 [.nils,vi n] h R:=by
 refine ak Tryz.func265 rfl (by simp[nts]) ?_;refine vn ?_;simp only[wq.1,Nat.reduceLT,Tryz.results265];refine aj ?_;refine vm ?_;simp only[wq.1,seval];refine vcB.mk (λhc=> ?_) (λhc=> ?_)
 ·simp only[zqb]at hc;omega
 simp only[wq.1];refine aj (aj (iF ?_));refine aA rfl rfl ?_;simp only[wq.1,seval];refine aA rfl rfl ?_;simp only[wq.1,seval];refine dH rfl rfl ?_;have hq:ti TE.P 151=al ⟨.slice 155,1,24,.nils⟩:=by simp only[wq.1]
 have hqe:ti TE.P 155=al ⟨.struct [(0,3),(1,3),(2,3)],3,24,.agg [vi 0,vi 0,vi 0]⟩:=by simp only[wq.1]
 have hqi:ti TE.P 3=al ⟨.int .i64,1,8,.int .i64 0⟩:=by simp only[wq.1]
 refine iZ (t:=151) rfl rfl hq rfl trivial rfl ?_;refine aA rfl rfl ?_;simp only[wq.1,seval];refine aA rfl rfl ?_;simp only[wq.1,↓reduceIte];refine aA rfl rfl ?_;simp only[wq.1,seval];refine aA rfl rfl ?_;simp only[wq.1,seval];refine aA rfl rfl ?_;simp only[wq.1,↓reduceIte];have w0:aD .i64 0=0:=by decide
 have w1:aD .i64 ((n:Int)-0)=n:=by rw[Int.sub_zero];exact iU (by omega) (by omega)
 refine dG ?_;simp only[wq.1,w0,w1];refine aj ?_;refine vm ?_;simp only[wq.1,seval];refine bP (b:=ar ((0:Int)<n)) (by simp only[wq.1,↓reduceIte]) (by simp only[wq.1,↓reduceIte]) (λhb=> ?_) (λhb=> ?_)
 ·have hpos:0<n:=by simp only[zqb]at hb;omega
  refine iF ?_;refine aA rfl rfl ?_;simp only[wq.1,seval];refine aA rfl rfl ?_;simp only[wq.1,seval];refine dH rfl rfl ?_;refine iZ (t:=151) rfl rfl hq rfl trivial rfl ?_;refine dH rfl rfl ?_;refine mJ rfl hq rfl hqe (by simp only[wq.1,seval]) (by simp only[wq.1,seval]) (by simp only[wq.1,↓reduceIte]) (k:= .i64) (by simp only[wq.1,↓reduceIte]) ?_;refine aA rfl rfl ?_;simp only[wq.1,seval];refine dH rfl rfl ?_;refine wW (x:= .tmp 20) (y:= .tmp 21) (t:=151) (xt:=3) (el:=155) ⟨⟨_,rfl,rfl,rfl⟩,hq,rfl,hqe,rfl,rfl,by decide⟩ (by simp only[wq.1,seval]) (by simp only[wq.1,↓reduceIte]) (by simp only[wq.1,seval]) (by simp only[wq.1,↓reduceIte]) hqi rfl hpos (by omega) ?_ (by decide) ?_
  ·show n*24<=_;omega
  refine aA rfl rfl ?_;simp only[wq.1,seval];refine aA rfl rfl ?_;simp only[wq.1,↓reduceIte,Nat.reduceEqDiff,Nat.reduceLT,Nat.reduceLeDiff,Nat.reduceAdd,Nat.reduceSub,Int.reduceToNat,Nat.reduceDiv,Int.reduceLT,Int.reduceLE,Int.reduceNeg,Int.reduceBEq,Int.reduceBNe,Int.reduceAdd,Int.reduceSub,Nat.reduceBEq,reduceCtorEq,Nat.reduceMul,ay,Tryz.results265];refine aA rfl rfl ?_;simp only[wq.1,↓reduceIte,Nat.reduceEqDiff,Nat.reduceLT,Nat.reduceLeDiff,Nat.reduceAdd,Nat.reduceSub,Int.reduceToNat,Nat.reduceDiv,Int.reduceLT,Int.reduceLE,Int.reduceNeg,Int.reduceBEq,Int.reduceBNe,Int.reduceAdd,Int.reduceSub,Nat.reduceBEq,reduceCtorEq,Nat.reduceMul,ay,Tryz.results265];refine⟨by omega,?_⟩;refine aA rfl rfl ?_;simp only[wq.1,↓reduceIte];refine dG ?_;simp only[wq.1];refine vm ?_;simp only[wq.1,seval];exact hr hpos
 ·have:n=0:=by simp only[zqd]at hb;omega
  refine vm ?_;simp only[wq.1];refine vm ?_;simp only[wq.1,seval];exact hr0 this
theorem sS{ls:List (List Fo)}{i:Nat}(h:i<aa ls):(ls.take i).flatten.length+ls[i].length<=aa ls.flatten:=ul h
theorem IG[MO](ls:List (List Fo))(hn:aa ls.flatten<=1000000)(hls:aa ls<=1000000):Ev TE 220 [.is ab 1 (ls.map oH)] (oH ls.flatten):=by
 have hM:=mLx;have hget:∀ {i:Nat} (h:i<aa ls) (d:V),(ls.map oH).getD i d=oH ls[i]:=λh d=>fB h d;refine ai Tryz.func220 rfl (by simp[nts]) (vm ?_);simp only[wq.1,seval,Tryz.results220];refine aF (λm f h=>∃i,m+i=aa ls/\f.t 0= .is ab 1 (ls.map oH)/\f.t 3=vi (ls.take i).flatten.length/\f.t 9= .is ab 1 (ls.map oH)/\f.t 10=vi (aa ls)/\f.t 11=vi i/\f.d=[]/\h=[]) (aa ls) ⟨0,by simp,rfl,rfl,rfl,by simp only[wq.1,seval],rfl,rfl,rfl⟩ ?_;rintro m f h ⟨i,hm,h0,h3,h9,h10,h11,hd,rfl⟩;refine vm ?_;simp only[wq.1,seval,h10,h11];refine vcB.mk (λhc=> ?_) (λhc=> ?_)
 ·simp only[zqb,zqi]at hc;have hfl:=sS hc;have hw:aD .i64 (((ls.take i).flatten.length:Int)+(ls[i].length:Int))=((ls.take (i+1)).flatten.length:Int):=by
   rw[dY hc,zqa,yl (by omega) (by omega)];omega
  simp only[wq.1,seval,h3,h9,h11,hget hc,hw];refine⟨⟨by omega,by omega⟩,vcB.mk (λhc'=> ?_) (λhc'=> ?_)⟩
  ·simp only[zqb]at hc';omega
  ·simp only[wq.1,seval,h11,az (show i<maxLen by omega)];exact .inl ⟨m-1,by omega,i+1,by omega,h0,rfl,h9,h10,rfl,hd,rfl⟩
 ·simp only[zqd,zqi]at hc;have hi:ls.take i=ls:=zqh (by omega);rw[hi]at h3;simp only[wq.1,seval,h3];refine Gh (aa ls.flatten) hn _ _ (λhz=> ?_) (λhz=> ?_)
  ·simp only[wq.1,seval,h0];refine iG 6 3 (by simp only[wq.1,seval]) ?_;refine aF (λm f h=>∃i,m+i=aa ls/\f.t 25= .is ab 1 (ls.map oH)/\f.t 26=vi (aa ls)/\f.t 27=vi i/\f.t 6= .ls 0 3 0 (ls.take i).flatten.length (ls.take i).flatten.length/\f.d=[]/\h=[am (foC (ls.take i).flatten)]) (aa ls) ⟨0,by simp,by simp only[wq.1,seval],by simp only[wq.1,seval],by rfl,by rfl,by simp only[wq.1,hd],rfl⟩ ?_;clear h0 h3 h9 h10 h11 hd;rintro m f h ⟨i,hm,h25,h26,h27,h6,hd,rfl⟩;have dF:∀q,ap q (foC (ls.take i).flatten)=foC (ls.take i).flatten:=λq=>jk _;have hfc:=vS (ls.take i).flatten;refine vm ?_;simp only[wq.1,seval,h26,h27];refine vcB.mk (λhc=> ?_) (λhc=> ?_)
   ·simp only[zqb,zqi]at hc;have hfl:=sS hc;have hap:foC (ls.take i).flatten++foC ls[i]=foC (ls.take (i+1)).flatten:=by rw[dY hc,zC]
    have hln:(ls.take i).flatten.length+ls[i].length=(ls.take (i+1)).flatten.length:=by rw[dY hc,zqa]
    simp only[wq.1,seval,h25,h27,h6,hd,hget hc,az (show i<maxLen by omega),dF,hfc,IC,jk];refine⟨⟨by omega,by omega⟩,vT _,⟨uO _,by omega,by omega⟩,.inl ⟨m-1,by omega,i+1,by omega,by simp only[wq.1,seval,h25],by simp only[wq.1,seval,h26],by simp only[wq.1,↓reduceIte],by simp only[wq.1,seval,hln],by simp only[wq.1,hd],by rw[hap]⟩⟩
   ·simp only[zqd,zqi]at hc;have hi:ls.take i=ls:=zqh (by omega);rw[hi]at h6 ⊢;simp only[wq.1,seval,h6,hd];exact xM rfl rfl
  ·simp only[wq.1,seval,h0];refine aF (λm f h=>∃i,m+i=aa ls/\f.t 25= .is ab 1 (ls.map oH)/\f.t 26=vi (aa ls)/\f.t 27=vi i/\f.t 6= .ls 0 3 0 (ls.take i).flatten.length (ls.take i).flatten.length/\f.d=[]/\h=[am (foC (ls.take i).flatten)]) (aa ls) ⟨0,by simp,by simp only[wq.1,seval],by simp only[wq.1,seval],by rfl,by rfl,by simp only[wq.1,hd],rfl⟩ ?_;clear h0 h3 h9 h10 h11 hd;rintro m f h ⟨i,hm,h25,h26,h27,h6,hd,rfl⟩;have dF:∀q,ap q (foC (ls.take i).flatten)=foC (ls.take i).flatten:=λq=>jk _;have hfc:=vS (ls.take i).flatten;refine vm ?_;simp only[wq.1,seval,h26,h27];refine vcB.mk (λhc=> ?_) (λhc=> ?_)
   ·simp only[zqb,zqi]at hc;have hfl:=sS hc;have hap:foC (ls.take i).flatten++foC ls[i]=foC (ls.take (i+1)).flatten:=by rw[dY hc,zC]
    have hln:(ls.take i).flatten.length+ls[i].length=(ls.take (i+1)).flatten.length:=by rw[dY hc,zqa]
    simp only[wq.1,seval,h25,h27,h6,hd,hget hc,az (show i<maxLen by omega),dF,hfc,IC,jk];refine⟨⟨by omega,by omega⟩,vT _,⟨uO _,by omega,by omega⟩,.inl ⟨m-1,by omega,i+1,by omega,by simp only[wq.1,seval,h25],by simp only[wq.1,seval,h26],by simp only[wq.1,↓reduceIte],by simp only[wq.1,seval,hln],by simp only[wq.1,hd],by rw[hap]⟩⟩
   ·simp only[zqd,zqi]at hc;have hi:ls.take i=ls:=zqh (by omega);rw[hi]at h6 ⊢;simp only[wq.1,seval,h6,hd];exact xM rfl rfl
end Go.Proofs.YthaijohbpdabfaaGreatDoor
