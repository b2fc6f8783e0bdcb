/- Lemmas for this claim, part F13: each holds under what it names. -/
import Derived.Test.YthaijohbpdabfaaGreatDoorXF09
import Derived.Test.YthaijohbpdabfaaGreatDoorXA9
import Derived.Test.YthaijohbpdabfaaGreatDoorXF08
import Derived.Test.YthaijohbpdabfaaGreatDoorXF12
import Derived.Test.YthaijohbpdabfaaGreatDoorXF11
import Derived.Test.YthaijohbpdabfaaGreatDoorXF02
import Derived.Test.YthaijohbpdabfaaGreatDoorXF01
set_option linter.all false
set_option maxRecDepth 20000
set_option maxHeartbeats 8000000
namespace Go.Proofs.YthaijohbpdabfaaGreatDoor
open Go Go.Proofs Go.Abs
open List renaming length → aa, replicate → ao
open Bool renaming true → ab, false → ac
open Option renaming some → al, none → aq
open Decidable renaming decide → ar
open Go.IntKind renaming wrap → aD
open Go.Result renaming andThen → aM
open Go.Abs.O renaming cells → am
open Go.Abs.V renaming drops → ap, dat → aE, dats → aL
theorem Gv [MO] {h : H} {d : List Deferred} : Yf { TE with tl := d } h 126 (.agg []) "patchbay/token.read" 317 (.agg []) := by
 intro ok pl w x hs hx;have hx':=hx;simp only[VRel,VList]at hx;obtain⟨cs,rfl,hcs⟩:=hx;have:cs=#[]:=by cases cs;simp at hcs;rw[hcs]
 subst this;exact⟨_,by kernel_rfl,hx'⟩
theorem UI[MO](s:S)(a:Nat)(c:UInt8)(r:S)(hr:s.drop a=c::r)(hs:aa s<=1000000000){o:Option Tk}{m:Nat}(ho:zu a (c::r)=al (o,m)):Ev TE 317 [.agg [],.str s,vi a] (.tup [tkO o,vi m]):=by refine kR ((zy s a c r hr hs).mono λae h p hq=> ?_);rw[ho]at hq;dsimp only at hq;subst hq;exact aC.dat (by cases o<;>rfl)
theorem QT[MO](s:S)(a:Nat)(c:UInt8)(r:S)(hr:s.drop a=c::r)(hs:aa s<=1000000000)(ho:zu a (c::r)=aq){h:H}{R:AEnd->H->(Nat->Bool)->Prop}(hR:∀X,R (.pan (Xe a)) (h++X) (λ_=>ac)):ag TE 317 [.agg [],.str s,vi a] h R:=by refine qB (zy s a c r hr hs) rfl λae h' p hq=> ?_;rw[ho]at hq;dsimp only at hq;subst hq;exact hR _
def Vy:Plan:= .take 0<| .alt 1 (onZ [2,3,4]<| .fin) (.one 2 (onZ [1,3,4]<| .fin))
theorem QU[MO]{K:H->(Nat->Bool)->Prop}{d0 d1 d2:V}{G:H}(a:Nat)(hK:∀X,K (am [.nils]::am [vi a]::am [vi 2]::(G++[X])) (λ_=>ac)):jL TE 118 [.lp 0 0,.lp 1 0,.lp 2 0] (Xe a) (am [d0]::am [d1]::am [d2]::G) K:=by
 have hgE:∀x:O,(G++[x])[aa G]? =al x:=λx=>by simp
 have hgS:∀x y:O,(G++[x]).set (aa G) y=G++[y]:=λx y=>by simp
 refine mD rfl Tryz.func118 rfl rfl (by simp[nts]) rfl (λev w=>rfl) rfl (by decide) ?_;simp only[nts];refine aA rfl rfl ?_;simp only[wq.1,↓reduceIte];refine⟨by decide,?_⟩;refine aA rfl rfl ?_;simp only[wq.1,↓reduceIte];refine aA rfl rfl ?_;simp only[wq.1,seval];refine aA rfl rfl ?_;simp only[wq.1,seval];refine aA rfl rfl ?_;simp only[wq.1];refine aA rfl rfl ?_;simp only[wq.1,seval,hgE,hgS];refine aA rfl rfl ?_;simp only[wq.1,seval];refine dG ?_;show awp _ _ _ _ _ _ _;refine vn ?_;simp only[wq.1,seval];refine vm ?_;simp only[wq.1,↓reduceIte];refine dE mixed Vy (λf' h'=>f'.d=[]/\f'.k=(λ_=>ac)/\∃X,h'=am [.nils]::am [vi a]::am [vi 2]::(G++[X])) (by rw[TEP];decide +kernel) (by decide +kernel) ?_ ?_
 ·simp only[wq.1,seval,Vy,hgE];exact⟨_,rfl⟩
 ·rintro f h ⟨hd,hk,X,rfl⟩;exact⟨.inl rfl,hd,by rw[hk];exact hK X⟩
theorem QV:∀(n p:Nat)(s:S),(tkN n p s).1.length<=n
 |0,_,_=>by simp[tkN]
 |n+1,p,[]=>by simp[tkN]
 |n+1,p,c::r=>by
  rw[J3];cases hs:zu p (c::r)with
  |none=>simp
  |some x=>obtain⟨o,m⟩:=x;have:=QV n (p+m) ((c::r).drop m);dsimp only;rw[zqa];cases o<;>simp only[Option.toList,List.length_nil,zrk]<;>omega
def Bl(s:S)(ae:AEnd)(h':H):Prop:=match tkN (aa s) 0 s with
 |(L,aq)=>ae= .ret (.tup [.ls 3 3 0 (aa L) (aa L),vi 0,vi 0])/\∃x0 X,h'=[x0,am [vi 0],am [vi 0],am (tkC L)]++X
 |(_,al a)=>ae= .ret (.tup [.nils,vi a,vi 2])
theorem IK[MO](s:S)(hs:aa s<=1000000):ag TE 67 [.iface 126 (.agg []),.str s] [] (λae h' _=>Bl s ae h'):=by
 have hM:=mLx;refine mF rfl Tryz.func67 rfl (by simp[nts]) λok pl0 w0=> ?_;simp only[nts];refine CG (Q:=λ_ _ _=>False) ?_ (λ_ _ _ h=>by obtain⟨_,_,_,_,_,_,h⟩:=h;exact h.elim);refine vm ?_;simp only[wq.1,seval];refine rV rfl (fn:=Tryz.f67) (q:=118) (caps:=[.lp 0 0,.lp 1 0,.lp 2 0]) (fx:= .tmp 10) rfl rfl (by simp only[wq.1,seval]) rfl rfl rfl rfl (by simp only[wq.1,seval]) (by simp only[wq.1,seval]) (by simp only[wq.1]) rfl λdd=> ?_;simp only[nts];obtain⟨ee,hee⟩:∃ee:E,ee={TE with tl:=[dd]}:=⟨_,rfl⟩;have hP:ee.P=P:=by rw[hee];rfl
 have hmix:ee.P.follows .mixedOrders=ab:=by rw[hP];exact mixed
 have hT:∀ {g:FuncId} {args:List V} {h:H} {R:AEnd->H->(Nat->Bool)->Prop},ag TE g args h R->ag ee g args h R:=λhc=>by rw[hee];exact hc.tl _
 rw[<-hee];obtain⟨QP,eQP⟩:∃QP:XE->Fr->H->Prop,QP=λxe f' h'=>f'.d=[]/\ap f'.k [V.lp 0 0,V.lp 1 0,V.lp 2 0]=[V.lp 0 0,V.lp 1 0,V.lp 2 0]/\(match xe with
  | .pan v=>jL TE 118 [V.lp 0 0,V.lp 1 0,V.lp 2 0] v h' λh'' p=>rM TE.P Tryz.f67.results.toList (λv h k=>Bl s (AEnd.ret v) h) (f'.drop p) h''
  | .ret=>jM TE 118 [V.lp 0 0,V.lp 1 0,V.lp 2 0] h' λh'' p=>rM TE.P Tryz.f67.results.toList (λv h k=>Bl s (AEnd.ret v) h) (f'.drop p) h''
  |_=>False):=⟨_,rfl⟩
 refine aY (Q:=QP) (λxe f' h' hq=>by rw[eQP]at hq;exact hq) ?_;have hkd:∀ {k:Nat->Bool},(∀j,j<3->k j=ac)->ap k [V.lp 0 0,V.lp 1 0,V.lp 2 0]=[V.lp 0 0,V.lp 1 0,V.lp 2 0]:=λ{k} h=>by
  have z0:=h 0 (by decide);have z1:=h 1 (by decide);have z2:=h 2 (by decide);simp only[ap,V.drop,z0,z1,z2,if_false,zrm]
 obtain⟨hA,ehA⟩:∃hA:List Tk->H,hA=λL=>[am [.ls 3 3 0 (aa L) (aa L)],am [vi 0],am [vi 0],am (tkC L)]:=⟨_,rfl⟩;have hret:∀ {f':Fr} {L:List Tk} {X:H},tkN (aa s) 0 s=(L,aq)->f'.d=[]->(∀j,j<3->f'.k j=ac)->f'.t 4= .lp 0 0->f'.t 5= .lp 1 0->f'.t 6= .lp 2 0->QP .ret f' (hA L++X):=by intro f' L X hp hd hk t4 t5 t6;rw[eQP,ehA];refine⟨hd,hkd hk,?_⟩;refine O5 λY=> ?_;unfold Bl;rw[hp];simp only[Tryz.results67,nts];simp only[wq.1,↓reduceIte,hd,t4,t5,t6];exact⟨_,_,rfl⟩
 have hpan:∀ {f':Fr} {L:List Tk} {X:H} {a:Nat},(tkN (aa s) 0 s).2=al a->f'.d=[]->(∀j,j<3->f'.k j=ac)->f'.t 4= .lp 0 0->f'.t 5= .lp 1 0->f'.t 6= .lp 2 0->QP (.pan (Xe a)) f' (hA L++X):=by intro f' L X a hp hd hk t4 t5 t6;rw[eQP,ehA];refine⟨hd,hkd hk,?_⟩;refine QU (G:=am (tkC L)::X) a λY=> ?_;obtain⟨L2,o2⟩:∃L2 o2,tkN (aa s) 0 s=(L2,o2):=⟨_,_,rfl⟩;obtain⟨o2,hL2⟩:=o2;rw[hL2]at hp;dsimp only at hp;subst hp;unfold Bl;rw[hL2];simp only[Tryz.results67,nts];simp only[wq.1,↓reduceIte,hd,t4,t5,t6]
 refine aj (bT hmix _ _ _ _ ?_);simp only[wq.1,seval,hP];refine gy ?_;refine mr (h':=hA []) (by rw[ehA];exact HLe.set (i:=0) (o':=am [.ls 3 3 0 0 0]) rfl (OLe.cells (by simp) (cZ.cons dM cZ.nil))) ?_;refine aF (λmm f h'=>∃(a n:Nat)(L:List Tk)(X:H),mm+a=aa s/\a<=aa s/\aa s-a<=n/\aa L<=a/\tkN (aa s) 0 s=(L++(tkN n a (s.drop a)).1,(tkN n a (s.drop a)).2)/\f.t 0= .iface 126 (.agg [])/\f.t 1= .str s/\f.t 4= .lp 0 0/\f.t 5= .lp 1 0/\f.t 6= .lp 2 0/\f.t 7=vi a/\f.d=[]/\(∀j,j<3->f.k j=ac)/\h'=hA L++X) (aa s) ⟨0,aa s,[],[],rfl,by omega,by omega,by simp,rfl,by simp only[wq.1,seval],by simp only[wq.1,seval],by simp only[wq.1,seval],by simp only[wq.1,seval],by simp only[wq.1,seval],by simp only[wq.1,↓reduceIte];rfl,rfl,λj hj=>rfl,by rw[zqp]⟩ ?_;rintro mm f h' ⟨a,n,L,X,hmm,hal,hn,hLa,htk,t0,t1,t4,t5,t6,t7,hd,hk,rfl⟩;have hAl:aa (hA L)=4:=by rw[ehA];rfl
 refine fD (by rw[hd];simp) ?_;rw[show(hA L).map (O.drop (Abs.fM (aa (hA L))))=hA L by
  rw[hAl,ehA];simp only[zrd,List.map_nil,O.drop,yM];rfl]
 rw[hAl];have hdk:∀v:V,v.drop (Abs.fM 4)=v->v.drop (Abs.fM 4)=v:=λ_ h=>h;obtain⟨f',hf'⟩:∃f',f'=f.drop (Abs.fM 4):=⟨_,rfl⟩;have u0:f'.t 0= .iface 126 (.agg []):=by rw[hf'];show(f.t 0).drop _=_;rw[t0];rfl
 have u1:f'.t 1= .str s:=by rw[hf'];show(f.t 1).drop _=_;rw[t1];rfl
 have u4:f'.t 4= .lp 0 0:=by rw[hf'];show(f.t 4).drop _=_;rw[t4];rfl
 have u5:f'.t 5= .lp 1 0:=by rw[hf'];show(f.t 5).drop _=_;rw[t5];rfl
 have u6:f'.t 6= .lp 2 0:=by rw[hf'];show(f.t 6).drop _=_;rw[t6];rfl
 have u7:f'.t 7=vi a:=by rw[hf'];show(f.t 7).drop _=_;rw[t7];rfl
 have ud:f'.d=[]:=by rw[hf'];exact hd
 have uk:∀j,j<3->f'.k j=ac:=λj hj=>by rw[hf'];show(f.k j||Abs.fM 4 j)=ac;rw[hk j hj];simp[Abs.fM];omega
 rw[<-hf'];clear hf' hd hk t0 t1 t4 t5 t6 t7 X;refine aj (bT hmix _ _ _ _ ?_);simp only[wq.1,seval,hP,u1,u7];refine vcB.mk (λhlt=> ?_) (λhlt=> ?_)
 ·have hlt:a<aa s:=by have:=zqs hlt;omega
  obtain⟨c,r,hcr⟩:∃c r,s.drop a=c::r:=by
   cases hd:s.drop a with
   |nil=>have:=congrArg List.length hd;simp at this;omega
   |cons c r=>exact⟨c,r,rfl⟩
  obtain⟨n,rfl⟩:∃m,n=m+1:=⟨n-1,by omega⟩;have hcl:aa (c::r)=aa s-a:=by rw[<-hcr,List.length_drop]
  have dF:∀q,ap q (tkC L)=tkC L:=λq=>yM L;have hfl:=Wp L;rw[hcr,J3]at htk;cases hst:zu a (c::r)with
  |none =>
   rw[hst]at htk;have htk2:(tkN (aa s) 0 s).2=al a:=by rw[htk]
   have hrb:=λ{h:H} {R:AEnd->H->(Nat->Bool)->Prop} (hR:∀X,R (.pan (Xe a)) (h++X) (λ_=>ac))=>QT s a c r hcr (by omega) hst hR;rw[ehA];refine aB ?_;refine aj (bT hmix _ _ _ _ ?_);simp only[wq.1,seval,hP,u0,u1,u7];refine bK rfl (t:=126) (v:= .agg []) (v':= .agg []) (g:=317) (by simp only[wq.1,seval]) (by simp only[wq.1,seval,dN,jm]) (by rw[hee];exact Gv) (by simp only[wq.1,hP]) ?_;simp only[wq.1,seval];refine hT (hrb λX=> ?_);simp only[wq.1,fG];simp only[XE.seq,XE.block];subst ehA;have hp':=λ{f':Fr} {X:H}=>hpan (f':=f') (L:=L) (X:=X) htk2;exact hp' (by simp only[wq.1,ud]) (λj hj=>by simp only[wq.1,uk j hj]) (by simp only[wq.1,seval,u4]) (by simp only[wq.1,seval,u5]) (by simp only[wq.1,seval,u6])
  |some om =>
  obtain⟨o,m⟩:=om;have hrd:=UI s a c r hcr (by omega) hst;obtain⟨l1,l2⟩:=Qo hst;rw[hst]at htk;dsimp only at htk;have hdd:(c::r).drop m=s.drop (a+m):=by rw[<-hcr,List.drop_drop]
  rw[hdd]at htk;have w1:aD .i64 ((a:Int)+m)=((a+m:Nat):Int):=by rw[iU (by omega) (by omega)];omega
  rw[ehA];refine aB ?_;refine aj (bT hmix _ _ _ _ ?_);simp only[wq.1,seval,hP,u0,u1,u7];refine bK rfl (t:=126) (v:= .agg []) (v':= .agg []) (g:=317) (by simp only[wq.1,seval]) (by simp only[wq.1,seval,dN,jm]) (by rw[hee];exact Gv) (by simp only[wq.1,hP]) ?_;simp only[wq.1,seval];refine hT (ag.ev hrd rfl ?_);cases o with
  |none=>simp only[wq.1,seval,hP];refine bT hmix _ _ _ _ ?_;simp only[wq.1,seval,hP,u7,w1];exact .inl ⟨mm-m,by omega,a+m,n,L,[am [vi (-1),.str [],vi 0]],by omega,by omega,by omega,by omega,htk,by simp only[wq.1,seval,u0],by simp only[wq.1,seval,u1],by simp only[wq.1,seval,u4],by simp only[wq.1,seval,u5],by simp only[wq.1,seval,u6],by simp only[wq.1,seval],by simp only[wq.1,Int.reduceNeg,ud],λj hj=>by simp only[wq.1,Int.reduceNeg,uk j hj],rfl⟩
  |some t =>
   simp only[wq.1,seval,hP];have hk0:ar ((0:Int)<=(t.k:Int))=ab:=by simp
   refine bT hmix _ _ _ _ ?_;simp only[wq.1,↓reduceIte,Nat.reduceEqDiff,Nat.reduceLT,Nat.reduceLeDiff,Nat.reduceAdd,Nat.reduceBEq,reduceCtorEq,Nat.reduceMul,hP,u4,u7,ud,w1,hk0,dF,hfl];refine⟨⟨rfl,by decide⟩,rfl,⟨rfl,by omega,by omega⟩,.inl ⟨mm-m,by omega,a+m,n,L++[t],[am (tkF t)],by omega,by omega,by omega,by simp;omega,by rw[htk];simp,by simp only[wq.1,↓reduceIte,Nat.reduceEqDiff,Nat.reduceLT,Nat.reduceLeDiff,Nat.reduceAdd,Nat.reduceSub,Int.reduceToNat,Nat.reduceDiv,Int.reduceLT,Int.reduceLE,Int.reduceNeg,Int.reduceBEq,Int.reduceBNe,Int.reduceAdd,Int.reduceSub,Nat.reduceBEq,reduceCtorEq,Nat.reduceMul,ay,Tryz.results67,u0],by simp only[wq.1,↓reduceIte,Nat.reduceEqDiff,Nat.reduceLT,Nat.reduceLeDiff,Nat.reduceAdd,Nat.reduceSub,Int.reduceToNat,Nat.reduceDiv,Int.reduceLT,Int.reduceLE,Int.reduceNeg,Int.reduceBEq,Int.reduceBNe,Int.reduceAdd,Int.reduceSub,Nat.reduceBEq,reduceCtorEq,Nat.reduceMul,ay,Tryz.results67,u1],by simp only[wq.1,↓reduceIte,Nat.reduceEqDiff,Nat.reduceLT,Nat.reduceLeDiff,Nat.reduceAdd,Nat.reduceSub,Int.reduceToNat,Nat.reduceDiv,Int.reduceLT,Int.reduceLE,Int.reduceNeg,Int.reduceBEq,Int.reduceBNe,Int.reduceAdd,Int.reduceSub,Nat.reduceBEq,reduceCtorEq,Nat.reduceMul,ay,Tryz.results67,u4],by simp only[wq.1,↓reduceIte,Nat.reduceEqDiff,Nat.reduceLT,Nat.reduceLeDiff,Nat.reduceAdd,Nat.reduceSub,Int.reduceToNat,Nat.reduceDiv,Int.reduceLT,Int.reduceLE,Int.reduceNeg,Int.reduceBEq,Int.reduceBNe,Int.reduceAdd,Int.reduceSub,Nat.reduceBEq,reduceCtorEq,Nat.reduceMul,ay,Tryz.results67,u5],by simp only[wq.1,↓reduceIte,Nat.reduceEqDiff,Nat.reduceLT,Nat.reduceLeDiff,Nat.reduceAdd,Nat.reduceSub,Int.reduceToNat,Nat.reduceDiv,Int.reduceLT,Int.reduceLE,Int.reduceNeg,Int.reduceBEq,Int.reduceBNe,Int.reduceAdd,Int.reduceSub,Nat.reduceBEq,reduceCtorEq,Nat.reduceMul,ay,Tryz.results67,u6],by simp only[wq.1,↓reduceIte,Nat.reduceEqDiff,Nat.reduceLT,Nat.reduceLeDiff,Nat.reduceAdd,Nat.reduceSub,Int.reduceToNat,Nat.reduceDiv,Int.reduceLT,Int.reduceLE,Int.reduceNeg,Int.reduceBEq,Int.reduceBNe,Int.reduceAdd,Int.reduceSub,Nat.reduceBEq,reduceCtorEq,Nat.reduceMul,ay,Tryz.results67],by simp only[wq.1,↓reduceIte,Nat.reduceEqDiff,Nat.reduceLT,Nat.reduceLeDiff,Nat.reduceAdd,Nat.reduceSub,Int.reduceToNat,Nat.reduceDiv,Int.reduceLT,Int.reduceLE,Int.reduceNeg,Int.reduceBEq,Int.reduceBNe,Int.reduceAdd,Int.reduceSub,Nat.reduceBEq,reduceCtorEq,Nat.reduceMul,ay,Tryz.results67,ud],λj hj=> ?_,?_⟩⟩
   ·simp only[wq.1,uk j hj];simp;omega
   ·rw[Wn,zqa,zrk];rfl
 ·have hea:a=aa s:=by have:=of_decide_eq_false hlt;omega
  subst hea;rw[List.drop_length]at htk;have he:tkN (aa s) 0 s=(L,aq):=by
   rw[htk];cases n<;>simp[tkN]
  subst ehA;refine bT hmix _ _ _ _ ?_;simp only[wq.1,seval,hP,u4,u5,u6];exact hret (X:=[]) he (by simp only[wq.1,ud]) (λj hj=>by simp only[wq.1,uk j hj]) (by simp only[wq.1,seval,u4]) (by simp only[wq.1,seval,u5]) (by simp only[wq.1,seval,u6])
def QW(s:S):V:=match tkN (aa s) 0 s with
 |(L,aq)=> .tup [su L,vi 0,vi 0]
 |(_,al a)=> .tup [.nils,vi a,vi 2]
theorem UJ[MO](s:S)(hs:aa s<=1000000):Ev TE 28 [.str s] (QW s):=by
 have hM:=mLx;refine ai Tryz.func28 rfl (by simp[nts]) ?_;have hall:=IK s hs;refine vn ?_;simp only[wq.1,Nat.reduceLT,Tryz.results28];refine vn ?_;simp only[wq.1,seval];refine⟨by simp,hall.mono ?_⟩;rintro ae h' p hR;unfold Bl at hR;unfold QW;obtain⟨L,o⟩:∃L o,tkN (aa s) 0 s=(L,o):=⟨_,_,rfl⟩;obtain⟨o,hL⟩:=o;rw[hL]at hR ⊢;cases o with
 |none=>dsimp only at hR ⊢;obtain⟨rfl,x0,X,rfl⟩:=hR;simp only[wq.1,seval,bu];refine vm ?_;simp only[wq.1,seval];exact aC.tup (ax.cons (O4 rfl rfl) (ax.cons (aC.dat rfl) (ax.cons (aC.dat rfl) ax.nil)))
 |some a=>dsimp only at hR ⊢;subst hR;simp only[wq.1,seval,bu];refine vm ?_;simp only[wq.1,seval];exact aC.dat rfl
abbrev vV(a e:Int):V:= .iface 58 (.agg [vi a,vi e])
theorem fZ[MO](b:Bool)(a e:Int){h:H}{R:AEnd->H->(Nat->Bool)->Prop}(hok:b=ab->R (.ret (.tup [])) h (λ_=>ac))(hbad:b=ac->R (.pan (vV a e)) h (λ_=>ac)):ag TE 29 [.bool b,vi a,vi e] h R:=by
 cases b with
 |true=>refine ak Tryz.func29 rfl (by simp[nts]) (vm ?_);simp only[wq.1,seval,Tryz.results29];exact hok rfl
 |false=>refine ak Tryz.func29 rfl (by simp[nts]) (vm ?_);simp only[wq.1,seval,Tryz.results29];exact⟨by simp,hbad rfl⟩
theorem MK[MO](c:UInt8)(k:Nat)(t:Tk){h:H}(hk:h[k]? =al (am [.str [c]])){R:AEnd->H->(Nat->Bool)->Prop}(hr:∀X,R (.ret (.bool (isM c t))) (h++X) (λ_=>ac)):ag TE 248 [t.v,.lp k 0] h R:=by
 have hgE:∀x:O,(h++[x])[aa h]? =al x:=λx=>by simp
 have hk':∀x:O,(h++[x])[k]? =al (am [.str [c]]):=λx=>by rw[zqj (zqe hk).1];exact hk
 have e1:((t.k:Int)==1)=(t.k==1):=by rw[Bool.eq_iff_iff,beq_iff_eq,beq_iff_eq];omega
 unfold isM at hr;refine ak Tryz.func248 rfl (by simp[nts]) (vm ?_);cases hk1:(t.k==1)with
 |false=>rw[hk1]at hr;simp only[wq.1,seval,Tryz.results248,hgE,hk',e1,hk1];exact hr _
 |true=>rw[hk1]at hr;simp only[wq.1,seval,Tryz.results248,hgE,hk',e1,hk1];exact hr _
theorem IL[MO](t:Tk){h:H}{R:AEnd->H->(Nat->Bool)->Prop}(hr:∀X,R (.ret (.bool (ar (t.k=0)))) (h++X) (λ_=>ac)):ag TE 186 [t.v] h R:=by
 have hgE:∀x:O,(h++[x])[aa h]? =al x:=λx=>by simp
 have e1:((t.k:Int)==0)=ar (t.k=0):=by rw[Bool.eq_iff_iff,beq_iff_eq,zqb];omega
 refine ak Tryz.func186 rfl (by simp[nts]) (vm ?_);simp only[wq.1,seval,Tryz.results186,hgE,e1];exact hr _
abbrev tk0:Tk:=⟨0,[],0⟩
def GZ(q:Tk->Bool):List Tk->Bool×Tk×List Tk
 |[]=>(ac,tk0,[])
 |t::r=>if q t=ab then(ab,t,r)else(ac,tk0,t::r)
def QX:Plan:=tkZ [0,1,3,4]<| .one 2<| .one 5<| .take 6<| .take 7<| .fin
theorem Bo[MO](l:List Tk)(hl:aa l<=1000000)(g:FuncId)(caps:List V)(q:Tk->Bool)(he:ah P g=ab){G:H->Prop}(hG:∀h X,G h->G (h++X))(hq:∀t h (R:AEnd->H->(Nat->Bool)->Prop),G h->(∀X,R (.ret (.bool (q t))) (h++X) (λ_=>ac))->ag TE g (Tk.v t::caps) h R){h:H}(hh:G h){R:AEnd->H->(Nat->Bool)->Prop}
 (hr:∀X,R (.ret (.tup [(GZ q l).2.1.v,su (GZ q l).2.2,.bool (GZ q l).1])) (h++X) (λ_=>ac)):ag TE 185 [su l,.fn (.func g) [] caps] h R:=by
 have hM:=mLx;obtain⟨B,hB⟩:∃B,B=aa h:=⟨_,rfl⟩;have hgE:∀(x:O) X,(h++(x::X))[B]? =al x:=λx X=>by rw[hB];simp
 have hgS:∀(x y:O) X,(h++(x::X)).set B y=h++(y::X):=λx y X=>by rw[hB];simp
 have hgE1:∀(x x1:O) X,(h++(x::x1::X))[B+1]? =al x1:=λx x1 X=>by rw[hB];simp
 have hap:∀(x:O) X,h++[x]++X=h++(x::X):=λx X=>by simp
 have hlen:∀X:H,aa (h++X)=B+aa X:=λX=>by rw[hB];simp
 cases l with
 |nil=>have e0:(((0:Nat):Int)==0)=ab:=rfl;refine ak Tryz.func185 rfl (by simp[nts]) (vm ?_);simp only[wq.1,seval,Tryz.results185,<-hB,hap,e0];refine⟨.bool ab,?_⟩;simp only[wq.1,seval,hgE,hgS,hgE1];exact hr _
 |cons t r =>
  have e0:(((aa r+1:Nat):Int)==0)=ac:=by rw[beq_eq_false_iff_ne];omega
  refine ak Tryz.func185 rfl (by simp[nts]) ?_;refine vn ?_;simp only[wq.1,Nat.reduceLT,Tryz.results185,<-hB];refine vn ?_;simp only[wq.1,Nat.reduceLT,hap];refine vn ?_;simp only[wq.1,seval,e0,he];refine⟨by omega,hq t _ _ (hG _ _ hh) λX=> ?_⟩;have hB1:aa h+1=B+1:=by rw[hB]
  have hap2:∀(x y:O),h++[x,y]++X=h++(x::y::X):=λx y=>by simp
  cases hqt:q t with
  |true =>
   rw[show GZ q (t::r)=(ab,t,r)from if_pos hqt]at hr;simp only[wq.1,seval,hap2];show awp _ _ _ _ _ _ _;refine aj (dE mixed QX (λf' h'=>f'.t 4= .lp B 0/\f'.t 5=su r/\f'.t 6= .bool ab/\f'.d=[]/\f'.k=(λ_=>ac)/\∃X,h'=h++am [vi t.k,.str t.t,vi t.at']::X) (by rw[TEP];decide +kernel) (by decide +kernel) ?_ ?_)
   ·simp only[wq.1,seval,QX,hgE,hgS];exact⟨by omega,by omega,_,rfl⟩
   ·rintro f' h' ⟨t4,t5,t6,hd,hk,X,rfl⟩;show awp _ _ _ _ _ _ _;refine vm ?_;simp only[wq.1,seval,t4,t5,t6,hd,hk,hgE];exact hr _
  |false=>rw[show GZ q (t::r)=(ac,tk0,t::r)from if_neg (by rw[hqt];decide)]at hr;simp only[wq.1,seval,hgE,hgS,hgE1,hB1,hap2];exact hr _
structure PW(c0 c1 c2 c3:V)(e:Nat)(h0:H)(l:List Tk)(h:H):Prop where
 p:h[3]? =al (am [c0,c1,c2,c3,su l,vi e])
 k:∀j cs,j<aa h0->j≠3->h0[j]? =al (am cs)->aL cs=ab->h[j]? =al (am cs)
 lt:aa h0<=aa h
 l3:3<aa h0
 d:∀K,aa h0<=K->c0.drop (λj=>j==K)=c0/\c1.drop (λj=>j==K)=c1/\c2.drop (λj=>j==K)=c2/\c3.drop (λj=>j==K)=c3
theorem PW.app{c0 c1 c2 c3:V}{e:Nat}{h0:H}{l:List Tk}{h:H}(k:PW c0 c1 c2 c3 e h0 l h)(X:H):PW c0 c1 c2 c3 e h0 l (h++X):=by
 refine⟨?_,λj cs hj h3 hc hd=> ?_,?_,k.l3,k.d⟩
 ·rw[zqj (zqe k.p).1];exact k.p
 ·have:=k.lt;rw[zqj (by omega)];exact k.k j cs hj h3 hc hd
 ·have:=k.lt;rw[zqa];omega
theorem PW.set{c0 c1 c2 c3:V}{e:Nat}{h0:H}{l:List Tk}{h:H}(k:PW c0 c1 c2 c3 e h0 l h)(l':List Tk):PW c0 c1 c2 c3 e h0 l' (h.set 3 (am [c0,c1,c2,c3,su l',vi e])):=by
 refine⟨?_,λj cs hj h3 hc hd=> ?_,?_,k.l3,k.d⟩
 ·rw[zqt (zqe k.p).1]
 ·rw[zqn (Ne.symm h3)];exact k.k j cs hj h3 hc hd
 ·rw[zrn];exact k.lt
theorem PW.other{c0 c1 c2 c3:V}{e:Nat}{h0:H}{l:List Tk}{h:H}(k:PW c0 c1 c2 c3 e h0 l h){B:Nat}(o:O)(hB:aa h0<=B):PW c0 c1 c2 c3 e h0 l (h.set B o):=by
 have:=k.l3;refine⟨?_,λj cs hj hj3 hc hd=> ?_,?_,k.l3,k.d⟩
 ·rw[zqn (by omega)];exact k.p
 ·rw[zqn (by omega)];exact k.k j cs hj hj3 hc hd
 ·rw[zrn];exact k.lt
theorem PW.cellsD{c0 c1 c2 c3:V}{e:Nat}{h0:H}{l:List Tk}{h:H}(k:PW c0 c1 c2 c3 e h0 l h){K:Nat}(hK:aa h0<=K):ap (λj=>j==K) [c0,c1,c2,c3,su l,vi e]=[c0,c1,c2,c3,su l,vi e]:=by obtain⟨d0,d1,d2,d3⟩:=k.d K hK;show V.drop _ c0::V.drop _ c1::V.drop _ c2::V.drop _ c3::V.drop _ (su l)::V.drop _ (vi e)::[]=_;rw[d0,d1,d2,d3];rfl
theorem PW.drop{c0 c1 c2 c3:V}{e:Nat}{h0:H}{l:List Tk}{h:H}(k:PW c0 c1 c2 c3 e h0 l h){K:Nat}(hK:aa h0<=K):PW c0 c1 c2 c3 e h0 l (h.map (O.drop λj=>j==K)):=by
 refine⟨?_,λj cs hj hj3 hc hd=> ?_,?_,k.l3,k.d⟩
 ·rw[zqo,k.p,zrw];show al (am (ap _ _))=_;rw[k.cellsD hK]
 ·rw[zqo,k.k j cs hj hj3 hc hd,zrw];show al (am (ap _ cs))=_;rw[iR.dats_drops _ hd]
 ·rw[zra];exact k.lt
theorem PW.dropD{c0 c1 c2 c3:V}{e:Nat}{h0:H}{l:List Tk}{h:H}(k:PW c0 c1 c2 c3 e h0 l h){K:Nat}(hK:aa h0<=K):PW c0 c1 c2 c3 e h0 l (jv (λj=>j==K) 0 h):=by
 have l3:=k.l3;have ne:∀ {j:Nat},j<aa h0->(j==K)=ac:=λhj=>by rw[beq_eq_false_iff_ne];omega
 refine⟨?_,λj cs hj hj3 hc hd=> ?_,?_,k.l3,k.d⟩
 ·rw[gY,k.p,zrw];simp only[Nat.zero_add,ne l3,zrm,if_false];show al (am (ap _ _))=_;rw[k.cellsD hK]
 ·rw[gY,k.k j cs hj hj3 hc hd,zrw];simp only[Nat.zero_add,ne hj,zrm,if_false];show al (am (ap _ cs))=_;rw[iR.dats_drops _ hd]
 ·have:∀ {p:Nat->Bool} {h:H} {k:Nat},aa (jv p k h)=aa h:=λ{p h}=>by
   induction h with
   |nil=>intro k;rfl
   |cons o h ih=>intro k;rw[jv,zrt,zrt,ih]
  rw[this];exact k.lt
theorem PW.self{c0 c1 c2 c3:V}{e:Nat}{h0:H}{l:List Tk}{h:H}(k:PW c0 c1 c2 c3 e h0 l h):PW c0 c1 c2 c3 e h l h :=
 ⟨k.p,λ_ _ _ _ hc _=>hc,zrb _,by have:=k.l3;have:=k.lt;omega,λK hK=>k.d K (by have:=k.lt;omega)⟩
theorem PW.trans{c0 c1 c2 c3:V}{e:Nat}{h0:H}{l l':List Tk}{h h':H}(k:PW c0 c1 c2 c3 e h0 l h)(k':PW c0 c1 c2 c3 e h l' h'):PW c0 c1 c2 c3 e h0 l' h' :=
 ⟨k'.p,λj cs hj h3 hc hd=>k'.k j cs (by have:=k.lt;omega) h3 (k.k j cs hj h3 hc hd) hd,Nat.le_trans k.lt k'.lt,k.l3,k.d⟩
theorem Ku[MO]{c0 c1 c2 c3:V}{e:Nat}{l:List Tk}{h:H}(k:h[3]? =al (am [c0,c1,c2,c3,su l,vi e])){R:AEnd->H->(Nat->Bool)->Prop}(hr:R (.ret (vi (atN e l))) h (λ_=>ac)):ag TE 183 [.lp 3 0] h R:=by
 have e00:(((0:Nat):Int)==0)=ab:=rfl;cases l with
 |nil=>refine ak Tryz.func183 rfl (by simp[nts]) (vm ?_);simp only[wq.1,seval,Tryz.results183,k,e00];exact hr
 |cons t r =>
  have e0:(((aa r+1:Nat):Int)==0)=ac:=by rw[beq_eq_false_iff_ne];omega
  refine ak Tryz.func183 rfl (by simp[nts]) (vm ?_);simp only[wq.1,seval,Tryz.results183,k,e0];exact⟨by omega,hr⟩
theorem zJ[MO]{c0 c1 c2 c3:V}{e:Nat}{h0:H}{l:List Tk}{h:H}(k:PW c0 c1 c2 c3 e h0 l h)(hl:aa l<=1000000)(c:UInt8){R:AEnd->H->(Nat->Bool)->Prop}(hr:∀h',PW c0 c1 c2 c3 e h0 (rq c l).2 h'->R (.ret (.bool (rq c l).1)) h' (λ_=>ac)):ag TE 184 [.lp 3 0,.str [c]] h R:=by
 have kp:∀X,(h++X)[3]? =al (am [c0,c1,c2,c3,su l,vi e]):=λX=>(k.app X).p;have hT:rq c l=((GZ (isM c) l).1,(GZ (isM c) l).2.2):=by
  cases l with
  |nil=>rfl
  |cons t r =>
   by_cases hb:isM c t=ab
   ·rw[show rq c (t::r)=(ab,r)from if_pos hb,show GZ (isM c) (t::r)=(ab,t,r)from if_pos hb]
   ·rw[show rq c (t::r)=(ac,t::r)from if_neg hb,show GZ (isM c) (t::r)=(ac,tk0,t::r)from if_neg hb]
 rw[hT]at hr;obtain⟨B,hB⟩:∃B,B=aa h:=⟨_,rfl⟩;have hgE:∀(x:O) X,(h++(x::X))[B]? =al x:=λx X=>by rw[hB];simp
 have hap:∀(x:O) X,h++[x]++X=h++(x::X):=λx X=>by simp
 refine ak Tryz.func184 rfl (by simp[nts]) ?_;refine vn ?_;simp only[wq.1,Nat.reduceLT,Tryz.results184,<-hB];refine vn ?_;simp only[wq.1,seval,kp];refine Bo l hl 248 [.lp B 0] (isM c) (by simp[ens]) (G:=λh=>h[B]? =al (am [.str [c]])) (λh X hh=>by rw[zqj (zqe hh).1];exact hh) (λt h R hh hr=>MK c B t hh hr) (hgE _ []) λX=> ?_;obtain⟨Q,eQ⟩:∃Q,Q=GZ (isM c) l:=⟨_,rfl⟩;rw[<-eQ]at hr ⊢;generalize hh1:h++[am [V.str [c]]]++X=h1;have k1:PW c0 c1 c2 c3 e h0 l h1:=by rw[<-hh1];exact(k.app _).app _
 have g1:∀x:O,(h1++[x])[aa h1]? =al x:=λx=>by simp
 have s1:∀x y:O,(h1++[x]).set (aa h1) y=h1++[y]:=λx y=>by simp
 have kp1:∀X,(h1++X)[3]? =al (am [c0,c1,c2,c3,su l,vi e]):=λX=>(k1.app X).p;simp only[wq.1,seval,g1,s1];refine vn ?_;simp only[wq.1,seval,kp1];refine vm ?_;simp only[wq.1,seval];exact hr _ ((k1.app _).set _)
theorem nM[MO]{c0 c1 c2 c3:V}{e:Nat}{h0:H}{l:List Tk}{h:H}(k:PW c0 c1 c2 c3 e h0 l h)(hl:aa l<=1000000)(c:UInt8){R:AEnd->H->(Nat->Bool)->Prop}(hok:∀l' h',sO e c l= .ok l'->PW c0 c1 c2 c3 e h0 l' h'->R (.ret (.tup [])) h' (λ_=>ac))(hbad:∀x l' h',sO e c l= .error x->PW c0 c1 c2 c3 e h0 l' h'->R (.pan (vV x.1 x.2)) h' (λ_=>ac)):ag TE 119 [.lp 3 0,.str [c]] h R:=by
 refine ak Tryz.func119 rfl (by simp[nts]) ?_;refine vn ?_;simp only[wq.1,seval,Tryz.results119];refine Ku k.p ?_;simp only[wq.1,seval];refine vm ?_;simp only[wq.1,seval];refine zJ k hl c λh' k'=> ?_;unfold sO at hok hbad;simp only[wq.1,seval];refine fZ _ _ _ (λhb=> ?_) (λhb=> ?_)
 ·simp only[wq.1];exact hok _ _ (if_pos hb) k'
 ·simp only[wq.1,fG];exact hbad _ _ _ (if_neg (by rw[hb];decide)) k'
theorem Bq[MO]{c0 c1 c2 c3:V}{e:Nat}{h0:H}{l:List Tk}{h:H}(k:PW c0 c1 c2 c3 e h0 l h)(hl:aa l<=1000000){R:AEnd->H->(Nat->Bool)->Prop}(hok:∀t l' h',Dw e l= .ok (t,l')->PW c0 c1 c2 c3 e h0 l' h'->R (.ret t.v) h' (λ_=>ac))(hbad:∀x l' h',Dw e l= .error x->PW c0 c1 c2 c3 e h0 l' h'->R (.pan (vV x.1 x.2)) h' (λ_=>ac)):ag TE 121 [.lp 3 0] h R:=by
 have kp:∀X,(h++X)[3]? =al (am [c0,c1,c2,c3,su l,vi e]):=λX=>(k.app X).p;have hW:Dw e l=if(GZ (λt=>ar (t.k=0)) l).1=ab then .ok ((GZ (λt=>ar (t.k=0)) l).2.1,(GZ (λt=>ar (t.k=0)) l).2.2)else .error (atN e l,2):=by
  cases l with
  |nil=>rfl
  |cons t r =>
   by_cases hb:t.k=0
   ·rw[show GZ (λt=>ar (t.k=0)) (t::r)=(ab,t,r)from if_pos (decide_eq_true hb),if_pos rfl];exact if_pos hb
   ·rw[show GZ (λt=>ar (t.k=0)) (t::r)=(ac,tk0,t::r)from if_neg (by simpa using hb),if_neg (show ¬(ac=ab) by decide)];exact if_neg hb
 rw[hW]at hok hbad;obtain⟨Q,eQ⟩:∃Q,Q=GZ (λt=>ar (t.k=0)) l:=⟨_,rfl⟩;rw[<-eQ]at hok hbad;clear hW;obtain⟨B,hB⟩:∃B,B=aa h:=⟨_,rfl⟩;have hp:=k.p;refine ak Tryz.func121 rfl (by simp[nts]) ?_;refine vn ?_;simp only[wq.1,Nat.reduceLT,Tryz.results121,<-hB];refine vn ?_;simp only[wq.1,seval];refine Ku (kp _) ?_;simp only[wq.1,seval];refine vn ?_;simp only[wq.1,seval,kp];refine Bo l hl 186 [] (λt=>ar (t.k=0)) (by simp[ens]) (G:=λ_=>True) (λ_ _ _=>trivial) (λt h R hh hr=>IL t hr) trivial λX=> ?_;rw[<-eQ];have k1:PW c0 c1 c2 c3 e h0 l (h++[am [vi 0,V.str [],vi 0]]++X):=(k.app _).app _;have b1:(h++[am [vi 0,V.str [],vi 0]]++X)[B]? =al (am [vi 0,V.str [],vi 0]):=by rw[hB];simp
 obtain⟨h1,hh1⟩:∃h1,h1=h++[am [vi 0,V.str [],vi 0]]++X:=⟨_,rfl⟩;rw[<-hh1]at k1 b1;have hX:h++[am [vi 0,V.str [],vi 0]]++X=h1:=hh1.symm;rw[show h++[am [V.int IntKind.i64 0,V.str [],V.int IntKind.i64 0]]++X=h1 from hX];have g1:∀x:O,(h1++[x])[aa h1]? =al x:=λx=>by simp
 have s1:∀x y:O,(h1++[x]).set (aa h1) y=h1++[y]:=λx y=>by simp
 have kp1:∀X,(h1++X)[3]? =al (am [c0,c1,c2,c3,su l,vi e]):=λX=>(k1.app X).p;simp only[wq.1,seval,g1,s1];refine vn ?_;simp only[wq.1,seval];refine fZ _ _ _ (λhb=> ?_) (λhb=> ?_)
 ·obtain⟨q,r,eqr⟩:∃q r,Q.2=(q,r):=⟨_,_,rfl⟩;have hq1:Q.2.1=q:=by rw[eqr]
  have hq2:Q.2.2=r:=by rw[eqr]
  rw[hq1,hq2]at hok ⊢;simp only[wq.1];refine vn ?_;simp only[wq.1,seval,kp1];have k2:=(k1.app [am [vi q.k,.str q.t,vi q.at']]).set r;have hB1:B<aa h1:=(zqe b1).1;have hB3:3<B:=by rw[hB];exact(zqe k.p).1
  have g2:∀x y:O,((h1++[x]).set 3 y)[aa h1]? =al x:=λx y=>by rw[zqn (by omega)];exact g1 x
  have g3:∀x y:O,((h1++[x]).set 3 y)[B]? =al (am [vi 0,.str [],vi 0]):=λx y=>by rw[zqn (by omega),zqj hB1];exact b1
  have hlB:B<aa (((h1++[am [vi q.k,.str q.t,vi q.at']]).set 3 (am [c0,c1,c2,c3,su r,vi e]))):=by simp;omega
  have g4:∀x y z:O,(((h1++[x]).set 3 y).set B z)[B]? =al z:=λx y z=>zqt (by simp;omega);refine vm ?_;simp only[wq.1,seval,g2,g3,g4];refine hok q r _ ?_ (k2.other _ (by rw[hB];exact k.lt));rw[if_pos hb]
 ·simp only[wq.1,fG];simp only[XE.seq];exact bZ (R:=R) rfl (hbad _ _ _ (if_neg (by rw[hb];decide)) (k1.app _))
def tq(l:List Tk):Prop:=aa l<=1000000/\∀t∈l,aa t.t<=1000000
theorem tq.tail{t:Tk}{r:List Tk}(h:tq (t::r)):tq r:=⟨by have:=h.1;simp only[zrt]at this;omega,λx hx=>h.2 x (by simp[hx])⟩
theorem vW{c:UInt8}{l:List Tk}(h:tq l):tq (rq c l).2/\(rq c l).2.length<=aa l/\((rq c l).1=ab->(rq c l).2.length<aa l)/\((rq c l).1=ac->(rq c l).2=l):=by
 cases l with
 |nil=>exact⟨h,zrb _,λh=>(by cases h),λ_=>rfl⟩
 |cons t r =>
  by_cases hb:isM c t=ab
  ·rw[show rq c (t::r)=(ab,r)from if_pos hb];exact⟨h.tail,by simp,λ_=>(by simp),λh=>(by cases h)⟩
  ·rw[show rq c (t::r)=(ac,t::r)from if_neg hb];exact⟨h,zrb _,λh=>(by cases h),λ_=>rfl⟩
theorem lY{e:Nat}{c:UInt8}{l l':List Tk}(h:tq l)(hm:sO e c l= .ok l'):tq l'/\aa l'<aa l:=by
 unfold sO at hm;split at hm
 ·rename_i hb;injection hm with hm;subst hm;exact⟨(vW h).1,(vW h).2.2.1 hb⟩
 ·cases hm
theorem uP{e:Nat}{l l':List Tk}{t:Tk}(h:tq l)(hm:Dw e l= .ok (t,l')):tq l'/\aa l'<aa l/\t∈l/\t.k=0:=by
 cases l with
 |nil=>cases hm
 |cons u r =>
  simp only[Dw]at hm;split at hm
  ·rename_i hb;injection hm with hm;injection hm with h1 h2;subst h1 h2;exact⟨h.tail,by simp,by simp,hb⟩
  ·cases hm
theorem lZ{e:Nat}{l l':List Tk}{s:S}(h:tq l)(hm:vO e l= .ok (s,l')):tq l'/\aa l'<aa l:=by
 unfold vO at hm;cases hw:Dw e l with
 |error x=>rw[hw]at hm;cases hm
 |ok p =>
  obtain⟨t,r⟩:=p;rw[hw]at hm;dsimp only at hm;split at hm
  ·injection hm with hm;injection hm with h1 h2;subst h1 h2;exact⟨(uP h hw).1,(uP h hw).2.1⟩
  ·cases hm
theorem oI[MO]{c0 c1 c2 c3:V}{e:Nat}{h0:H}{l:List Tk}{h:H}(k:PW c0 c1 c2 c3 e h0 l h)(hl:tq l){R:AEnd->H->(Nat->Bool)->Prop}(hok:∀s l' h',vO e l= .ok (s,l')->PW c0 c1 c2 c3 e h0 l' h'->R (.ret (.str s)) h' (λ_=>ac))(hbad:∀x l' h',vO e l= .error x->PW c0 c1 c2 c3 e h0 l' h'->R (.pan (vV x.1 x.2)) h' (λ_=>ac)):ag TE 120 [.lp 3 0] h R:=by
 unfold vO at hok hbad;refine ak Tryz.func120 rfl (by simp[nts]) ?_;refine vn ?_;simp only[wq.1,seval,Tryz.results120];refine vn ?_;simp only[wq.1,seval];refine Bq k hl.1 (λt l' h' hw k'=> ?_) (λx l' h' hw k'=> ?_)
 ·rw[hw]at hok hbad;dsimp only at hok hbad;obtain⟨w1,w2,w3,w4⟩:=uP hl hw;have hW:=Kt t (hl.2 t w3);rw[show Bj t=Ah t.t from if_pos w4]at hW;obtain⟨B,hB⟩:∃B,B=aa h':=⟨_,rfl⟩;have hgE:∀x:O,(h'++[x])[B]? =al x:=λx=>by rw[hB];simp
  have hgS:∀x y:O,(h'++[x]).set B y=h'++[y]:=λx y=>by rw[hB];simp
  simp only[wq.1,seval,<-hB,hgE,hgS];refine vn ?_;simp only[wq.1,seval,hgE];refine ag.ev hW rfl ?_;simp only[wq.1,seval];refine vn ?_;simp only[wq.1,seval,hgE];refine fZ _ _ _ (λhb=> ?_) (λhb=> ?_)
  ·have hb:(Ah t.t).2=0:=by simpa using hb
   rw[if_pos hb]at hok;simp only[wq.1];refine vm ?_;simp only[wq.1,seval];exact hok _ _ _ rfl (k'.app _)
  ·have hb:¬(Ah t.t).2=0:=by simpa using hb
   rw[if_neg hb]at hbad;simp only[wq.1,fG];simp only[XE.seq];exact bZ (R:=R) rfl (hbad _ _ _ rfl (k'.app _))
 ·rw[hw]at hbad;simp only[wq.1,fG];simp only[XE.seq];exact bZ (R:=R) rfl (hbad _ _ _ rfl k')
theorem Kv{e:Nat}:∀ {f:Nat} {acc:List S} {l l':List Tk} {ns:List S},tq l->Iz e f acc l= .ok (ns,l')->tq l'/\aa l'<=aa l/\aa ns<=aa acc+aa l
 |0,acc,l,l',ns,h,hm=>by cases hm
 |f+1,acc,l,l',ns,h,hm=>by
  unfold Iz at hm;obtain⟨t1,t2,t3,t4⟩:=vW (c:=44) h;split at hm
  ·cases hn:vO e (rq 44 l).2 with
   |error x=>rw[hn]at hm;cases hm
   |ok p=>obtain⟨s,r⟩:=p;rw[hn]at hm;dsimp only at hm;obtain⟨n1,n2⟩:=lZ t1 hn;obtain⟨m1,m2,m3⟩:=Kv n1 hm;refine⟨m1,by omega,?_⟩;simp only[zqa,zrk]at m3;omega
  ·cases hn:sO e 41 l with
   |error x=>rw[hn]at hm;cases hm
   |ok r=>rw[hn]at hm;dsimp only at hm;injection hm with hm;injection hm with h1 h2;subst h1 h2;obtain⟨n1,n2⟩:=lY h hn;exact⟨n1,by omega,by omega⟩
theorem Gw[MO]{c0 c1 c2 c3:V}{e:Nat}{l:List Tk}{h:H}(k:PW c0 c1 c2 c3 e h l h)(hl:tq l){R:AEnd->H->(Nat->Bool)->Prop}(hok:∀ns l' h',ru e l= .ok (ns,l')->PW c0 c1 c2 c3 e h l' h'->R (.ret (aH ns)) h' (λ_=>ac))(hbad:∀x l' h',ru e l= .error x->PW c0 c1 c2 c3 e h l' h'->R (.pan (vV x.1 x.2)) h' (λ_=>ac)):ag TE 122 [.lp 3 0] h R:=by
 have hM:=mLx;unfold ru at hok hbad;refine ag.fresh ?_;refine ak Tryz.func122 rfl (by simp[nts]) ?_;refine vn ?_;simp only[wq.1,Nat.reduceLT,Tryz.results122];refine vn ?_;simp only[wq.1,Nat.reduceLT];refine vn ?_;simp only[wq.1,seval];refine nM k hl.1 40 (λl1 h1 hm k1=> ?_) (λx l1 h1 hm k1=> ?_)
 rotate_left
 ·rw[hm]at hbad;simp only[wq.1,fG];simp only[XE.seq];exact bZ (R:=λae h' p=>(∀i,i<aa h->p i=ac)/\R ae h' λ_=>ac) rfl ⟨λ_ _=>rfl,hbad _ _ _ rfl k1⟩
 rw[hm]at hok hbad;dsimp only at hok hbad;obtain⟨o1,o2⟩:=lY hl hm;simp only[wq.1];refine aj ?_;refine vn ?_;simp only[wq.1,seval];refine zJ k1 o1.1 41 λh2 k2=> ?_;obtain⟨p1,p2,p3,p4⟩:=vW (c:=41) o1;simp only[wq.1];refine bP (b:=(rq 41 l1).1) (by simp only[wq.1,↓reduceIte]) (by simp only[wq.1,↓reduceIte]) (λhb=> ?_) (λhb=> ?_)
 ·rw[if_pos hb]at hok;refine vn ?_;simp only[wq.1,Nat.reduceLT];refine Jg (FLe.one 2 (v:=aH []) (by simp only[wq.1,↓reduceIte];exact dw)) (HLe.refl _) ?_;refine vm ?_;simp only[wq.1,↓reduceIte];exact hok _ _ _ rfl k2
 rw[if_neg (by rw[hb];decide)]at hok hbad;rw[p4 hb]at k2;refine vm ?_;simp only[wq.1];show awp _ _ _ _ _ _ _;refine iG 3 1 (by simp only[wq.1,seval]) ?_;obtain⟨K,eK⟩:∃K,K=aa h2:=⟨_,rfl⟩;have k3:=k2.app [am []];have hK0:aa h<=K:=by rw[eK];exact k2.lt
 have hKc:(h2++[am []])[K]? =al (am []):=by rw[eK];simp
 rw[<-eK];obtain⟨h3,eh3⟩:∃h3,h3=h2++[am []]:=⟨_,rfl⟩;rw[<-eh3]at k3 hKc ⊢;refine vn ?_;simp only[wq.1,seval];refine oI k3.self o1 (λs l4 h4 hn k4'=> ?_) (λx l4 h4 hn k4'=> ?_)
 rotate_left
 ·have k4:=k3.trans k4';rw[hn]at hbad;simp only[wq.1,fG];simp only[XE.seq];exact bZ (R:=λae h' p=>(∀i,i<aa h->p i=ac)/\R ae h' λ_=>ac) rfl ⟨λ_ _=>rfl,hbad _ _ _ rfl k4⟩
 rw[hn]at hok hbad;dsimp only at hok hbad;obtain⟨n1,n2⟩:=lZ o1 hn;have l3:=k.l3;have hKl3:K<aa h3:=(zqe hKc).1;have hK4:h4[K]? =al (am []):=k4'.k K [] hKl3 (by omega) hKc rfl;have k4:=k3.trans k4';have hK4l:K<aa h4:=(zqe hK4).1;have k5:=(k4.drop hK0).other (am [.str s]) hK0;have hK5:((h4.map (O.drop λx=>x==K)).set K (am [.str s]))[K]? =al (am [.str s]):=zqt (by simpa using hK4l);have hl1:=hl.1;simp only[wq.1,↓reduceIte,Nat.reduceEqDiff,Nat.reduceLT,Nat.reduceLeDiff,reduceCtorEq,Nat.reduceMul,hK4];refine⟨⟨rfl,by decide⟩,by omega,?_⟩;have n3:(3==K)=ac:=by rw[beq_eq_false_iff_ne];omega
 obtain⟨Z,eZ⟩:∃Z,Z=Iz e (aa l4+1) [s] l4:=⟨_,rfl⟩;rw[<-eZ]at hok hbad;refine aj ?_;refine aB ?_;refine aF (λm f h'=>∃acc l' F,m=aa l'/\aa l'<F/\Iz e F acc l'=Z/\tq l'/\aa acc+aa l'<=1000001/\PW c0 c1 c2 c3 e h l' h'/\h'[K]? =al (am (acc.map V.str))/\f.t 0= .lp 3 0/\f.t 3= .ls K 1 0 (aa acc) (aa acc)/\f.d=[]/\(∀i,i<aa h->f.k i=ac)) (aa l4) ⟨[s],l4,aa l4+1,rfl,by omega,eZ.symm,n1,by simp only[zrk];omega,k5,hK5,by simp only[wq.1,seval,n3],by simp only[wq.1,↓reduceIte],by simp only[wq.1],λi hi=> ?_⟩ ?_
 ·show(ac||(i==K))=ac;rw[Bool.false_or,beq_eq_false_iff_ne];omega
 clear hK5 k5 hK4l hK4 k4 k4' hKl3 k3 k2 k1;rintro m f h' ⟨acc,l',F,hm,hF,hZ,hl',hal,k,hKa,t0,t3,hd,hk⟩;refine vn ?_;simp only[wq.1,seval,t0];obtain⟨F,rfl⟩:∃n,F=n+1:=⟨F-1,by omega⟩;rw[Iz]at hZ;obtain⟨q1,q2,q3,q4⟩:=vW (c:=44) hl';have hKh:K<aa h':=(zqe hKa).1;refine zJ k.self hl'.1 44 λh2 k2'=> ?_;have k2:=k.trans k2';have hKa2:=k2'.k K _ hKh (by omega) hKa au;simp only[wq.1,↓reduceIte];refine vcB.mk (λhb=> ?_) (λhb=> ?_)
 ·rw[if_pos hb]at hZ;obtain⟨l2,el2⟩:∃l2,l2=(rq 44 l').2:=⟨_,rfl⟩;have q3:=q3 hb;rw[<-el2]at hZ k2' k2 q1 q2 q3;simp only[wq.1];refine aB ?_;refine vm ?_;simp only[wq.1,seval,t0,t3];refine oI k2.self q1 (λs l4 h4 hn k4'=> ?_) (λx l4 h4 hn k4'=> ?_)
  rotate_left
  ·have k4:=k2.trans k4';rw[hn]at hZ;dsimp only at hZ;subst hZ;simp only[wq.1,fG,hd];simp only[XE.seq,XE.block];exact bZ (R:=λae h' p=>(∀i,i<aa h->p i=ac)/\R ae h' λ_=>ac) (by simp only[wq.1,hd]) ⟨λi hi=>by simp only[wq.1,hk i hi],hbad _ _ _ rfl k4⟩
  have k4:=k2.trans k4';have hKa4:=k4'.k K _ (zqe hKa2).1 (by omega) hKa2 au;have hK4l:K<aa h4:=(zqe hKa4).1;rw[hn]at hZ;dsimp only at hZ;obtain⟨n1,n2⟩:=lZ q1 hn;have k5:=(k4.drop hK0).other (am (acc.map V.str++[.str s])) hK0;have hK5:((h4.map (O.drop λx=>x==K)).set K (am (acc.map V.str++[.str s])))[K]? =al (am ((acc++[s]).map V.str)):=by rw[zqt (by simpa using hK4l),zql];rfl
  simp only[wq.1,↓reduceIte,Nat.reduceEqDiff,Nat.reduceLT,reduceCtorEq,Nat.reduceMul,hd,hKa4];refine⟨⟨rfl,by decide⟩,⟨by omega,by omega,by omega⟩,?_⟩;refine .inl ⟨aa l4,by omega,acc++[s],l4,F,rfl,by omega,hZ,n1,by simp only[zqa,zrk];omega,k5,hK5,by simp only[wq.1,seval,t0,n3],by simp only[wq.1,↓reduceIte],by simp only[wq.1,hd],λi hi=> ?_⟩;show(f.k i||(i==K))=ac;rw[hk i hi,Bool.false_or,beq_eq_false_iff_ne];omega
 ·rw[if_neg (by rw[hb];decide)]at hZ;rw[q4 hb]at k2;simp only[wq.1];show awp _ _ _ _ _ _ _;refine vn ?_;simp only[wq.1,seval,t0];refine nM k2.self hl'.1 41 (λl4 h4 hm k4'=> ?_) (λx l4 h4 hm k4'=> ?_)
  rotate_left
  ·have k4:=k2.trans k4';rw[hm]at hZ;dsimp only at hZ;subst hZ;simp only[wq.1,fG,hd];simp only[XE.seq,XE.block];exact bZ (R:=λae h' p=>(∀i,i<aa h->p i=ac)/\R ae h' λ_=>ac) (by simp only[wq.1,hd]) ⟨λi hi=>by simp only[wq.1,hk i hi],hbad _ _ _ rfl k4⟩
  have k4:=k2.trans k4';have hKa4:=k4'.k K _ (zqe hKa2).1 (by omega) hKa2 au;rw[hm]at hZ;dsimp only at hZ;subst hZ;simp only[wq.1];refine vn ?_;simp only[wq.1,seval,t3];refine yE K 2 (aH acc) (by simp only[wq.1,↓reduceIte]) (by
   simp only[wq.1,↓reduceIte];refine aV ?_ rfl;rw[fK,hKa4];simp only[Nat.zero_add,beq_self_eq_true,if_true,zrw,O.drop,aN]) (by simp only[wq.1,hd]) ?_
  refine vm ?_;simp only[wq.1,↓reduceIte,hd];refine⟨λi hi=> ?_,hok _ _ _ rfl (k4.dropD hK0)⟩;rw[hk i hi,Bool.false_or,beq_eq_false_iff_ne];omega
theorem wM[MO]{c0 c1 c2 c3:V}{e:Nat}{h0:H}{l:List Tk}{h:H}(k:PW c0 c1 c2 c3 e h0 l h)(hl:tq l){R:AEnd->H->(Nat->Bool)->Prop}(hok:∀ns l' h',ru e l= .ok (ns,l')->PW c0 c1 c2 c3 e h0 l' h'->R (.ret (aH ns)) h' (λ_=>ac))(hbad:∀x l' h',ru e l= .error x->PW c0 c1 c2 c3 e h0 l' h'->R (.pan (vV x.1 x.2)) h' (λ_=>ac)):ag TE 122 [.lp 3 0] h R :=
 Gw k.self hl (λns l' h' a b=>hok ns l' h' a (k.trans b)) (λx l' h' a b=>hbad x l' h' a (k.trans b))
theorem zK{e:Nat}{l l':List Tk}{ns:List S}(h:tq l)(hm:ru e l= .ok (ns,l')):tq l'/\aa l'<aa l/\aa ns<=aa l:=by
 unfold ru at hm;cases h1:sO e 40 l with
 |error x=>rw[h1]at hm;cases hm
 |ok l1 =>
  rw[h1]at hm;dsimp only at hm;obtain⟨a1,a2⟩:=lY h h1;split at hm
  ·injection hm with hm;injection hm with e1 e2;subst e1 e2;obtain⟨t1,t2,t3,t4⟩:=vW (c:=41) a1;exact⟨t1,by omega,by simp⟩
  ·cases h2:vO e l1 with
   |error x=>rw[h2]at hm;cases hm
   |ok p=>obtain⟨s,r⟩:=p;rw[h2]at hm;dsimp only at hm;obtain⟨b1,b2⟩:=lZ a1 h2;obtain⟨m1,m2,m3⟩:=Kv b1 hm;exact⟨m1,by omega,by simp only[zrk]at m3;omega⟩
def laX(q:La):List V:=[.str q.name,.str q.next,vi q.init]
theorem QY{p:Nat->Bool}(q:La):ap p (laX q)=laX q:=rfl
theorem Bv{p:Nat->Bool}(l:List La):ap p (l.flatMap laX)=l.flatMap laX:=nK QY l
theorem UK(l:List La):aa (l.flatMap laX)=aa l*3:=by
 induction l with
 |nil=>rfl
 |cons g l ih=>rw[List.flatMap_cons,zqa,ih,zrt];show 3+_=_;omega
theorem Gx:∀l:List La,aL (l.flatMap laX)=ab
 |[]=>rfl
 |q::l=>by show(aE (.str q.name)&&(aE (.str q.next)&&(aE (vi q.init)&&aL (l.flatMap laX))))=ab;rw[Gx l];rfl
theorem Gy:∀l:List Ga,aL (l.flatMap gaX)=ab
 |[]=>rfl
 |q::l=>by show(aE (.str q.name)&&(aE (vi q.op)&&(aE (aH q.ins)&&(aE (aH q.rows)&&(aE (.bool q.off)&&aL (l.flatMap gaX))))))=ab;rw[Gy l];simp only[aE,au,zre]
structure PC(c:Ci)(e:Nat)(l:List Tk)(h:H):Prop where
 p:h[3]? =al (am [.ls 4 1 0 (aa c.ins) (aa c.ins),.ls 5 1 0 (aa c.outs) (aa c.outs),.ls 6 3 0 (aa c.lat) (aa c.lat),.ls 7 5 0 (aa c.gates) (aa c.gates),su l,vi e])
 i:h[4]? =al (am (c.ins.map V.str))
 u:h[5]? =al (am (c.outs.map V.str))
 a:h[6]? =al (am (c.lat.flatMap laX))
 g:h[7]? =al (am (c.gates.flatMap gaX))
def K3(h h':H):Prop:=∀j cs,j<3->h[j]? =al (am cs)->aL cs=ab->h'[j]? =al (am cs)
theorem K3.trans{h h1 h2:H}(a:K3 h h1)(b:K3 h1 h2):K3 h h2:=λj cs hj hc hd=>b j cs hj (a j cs hj hc hd) hd
abbrev PWc(c:Ci)(e:Nat)(h0:H)(l:List Tk)(h:H):Prop:=PW (.ls 4 1 0 (aa c.ins) (aa c.ins)) (.ls 5 1 0 (aa c.outs) (aa c.outs)) (.ls 6 3 0 (aa c.lat) (aa c.lat)) (.ls 7 5 0 (aa c.gates) (aa c.gates)) e h0 l h
theorem PC.pw{c:Ci}{e:Nat}{l:List Tk}{h:H}(k:PC c e l h):PWc c e h l h:=by
 have l7:=(zqe k.g).1;refine⟨k.p,λ_ _ _ _ hc _=>hc,zrb _,by omega,λK hK=> ?_⟩;have n4:(4==K)=ac:=by rw[beq_eq_false_iff_ne];omega
 have n5:(5==K)=ac:=by rw[beq_eq_false_iff_ne];omega
 have n6:(6==K)=ac:=by rw[beq_eq_false_iff_ne];omega
 have n7:(7==K)=ac:=by rw[beq_eq_false_iff_ne];omega
 simp only[V.drop,n4,n5,n6,n7,zrm,if_false,and_self]
theorem PC.of{c:Ci}{e:Nat}{l l':List Tk}{h h':H}(k:PC c e l h)(w:PWc c e h l' h'):PC c e l' h'/\K3 h h':=by have l7:=(zqe k.g).1;exact⟨⟨w.p,w.k 4 _ (by omega) (by decide) k.i au,w.k 5 _ (by omega) (by decide) k.u au,w.k 6 _ (by omega) (by decide) k.a (Gx _),w.k 7 _ (by omega) (by decide) k.g (Gy _)⟩,λj cs hj hc hd=>w.k j cs (by omega) (by omega) hc hd⟩
abbrev x47:Nat->Bool:=λi=>i==4||i==5||i==6||i==7
theorem Bz:x47 0=ac/\x47 1=ac/\x47 2=ac/\x47 3=ac:=⟨rfl,rfl,rfl,rfl⟩
theorem sU{e:E}{g:FuncId}{args:List V}{h:H}{R:AEnd->H->(Nat->Bool)->Prop}(hc:ag e g args h λae h' p=>(∀i,i<aa h->p i=ab->x47 i=ab)/\R ae h' x47):ag e g args h R:=by
 intro ok pl w vs hs hl;refine(hc ok pl w vs hs hl).mono ?_;rintro en w' ⟨p,pl',h',ae,h1,h2,h3,h4,h5⟩;refine⟨x47,pl',h',ae,h1,⟨h2.os,h2.tape,h2.output,h2.size,h2.same,h2.loc,λi b hp hi=>h2.keep i b ?_ hi,h2.row⟩,h3,h5⟩;cases hpi:p i with
 |false=>rfl
 |true=>rw[h4 i (hs.pl_lt hi) hpi]at hp;cases hp
theorem PC.drop4{c:Ci}{e:Nat}{l:List Tk}{h:H}(k:PC c e l h)(J:Nat):(h.map (O.drop λj=>j==J))[4]? =al (am (c.ins.map V.str))/\(h.map (O.drop λj=>j==J))[5]? =al (am (c.outs.map V.str))/\(h.map (O.drop λj=>j==J))[6]? =al (am (c.lat.flatMap laX))/\(h.map (O.drop λj=>j==J))[7]? =al (am (c.gates.flatMap gaX)):=by
 refine⟨?_,?_,?_,?_⟩
 ·rw[zqo,k.i];show al (am (ap _ _))=_;rw[aN]
 ·rw[zqo,k.u];show al (am (ap _ _))=_;rw[aN]
 ·rw[zqo,k.a];show al (am (ap _ _))=_;rw[Bv]
 ·rw[zqo,k.g];show al (am (ap _ _))=_;rw[kH]
abbrev p4(c:Ci)(l:List Tk)(e n1 n2 n3 n4:Nat):O:=am [.ls 4 1 0 n1 n1,.ls 5 1 0 n2 n2,.ls 6 3 0 n3 n3,.ls 7 5 0 n4 n4,su l,vi e]
theorem PC.addIn{c:Ci}{e:Nat}{l:List Tk}{h:H}(k:PC c e l h)(s:S):PC {c with ins:=c.ins++[s]} e l (((h.map (O.drop λj=>j==4)).set 4 (am (c.ins.map V.str++[.str s]))).set 3 (p4 c l e (aa c.ins+1) (aa c.outs) (aa c.lat) (aa c.gates))):=by
 obtain⟨a,b,d,g⟩:=k.drop4 4;have l7:=(zqe k.g).1;refine⟨?_,?_,?_,?_,?_⟩
 ·rw[zqt (by simp;omega),zqa];rfl
 ·rw[zqn (by decide),zqt (by simp;omega),zql];rfl
 ·rw[zqn (by decide),zqn (by decide)];exact b
 ·rw[zqn (by decide),zqn (by decide)];exact d
 ·rw[zqn (by decide),zqn (by decide)];exact g
theorem PC.addOut{c:Ci}{e:Nat}{l:List Tk}{h:H}(k:PC c e l h)(s:S):PC {c with outs:=c.outs++[s]} e l (((h.map (O.drop λj=>j==5)).set 5 (am (c.outs.map V.str++[.str s]))).set 3 (p4 c l e (aa c.ins) (aa c.outs+1) (aa c.lat) (aa c.gates))):=by
 obtain⟨a,b,d,g⟩:=k.drop4 5;have l7:=(zqe k.g).1;refine⟨?_,?_,?_,?_,?_⟩
 ·rw[zqt (by simp;omega),zqa];rfl
 ·rw[zqn (by decide),zqn (by decide)];exact a
 ·rw[zqn (by decide),zqt (by simp;omega),zql];rfl
 ·rw[zqn (by decide),zqn (by decide)];exact d
 ·rw[zqn (by decide),zqn (by decide)];exact g
theorem PC.addLa{c:Ci}{e:Nat}{l:List Tk}{h:H}(k:PC c e l h)(q:La):PC {c with lat:=c.lat++[q]} e l (((h.map (O.drop λj=>j==6)).set 6 (am (c.lat.flatMap laX++laX q))).set 3 (p4 c l e (aa c.ins) (aa c.outs) (aa c.lat+1) (aa c.gates))):=by
 obtain⟨a,b,d,g⟩:=k.drop4 6;have l7:=(zqe k.g).1;refine⟨?_,?_,?_,?_,?_⟩
 ·rw[zqt (by simp;omega),zqa];rfl
 ·rw[zqn (by decide),zqn (by decide)];exact a
 ·rw[zqn (by decide),zqn (by decide)];exact b
 ·rw[zqn (by decide),zqt (by simp;omega),List.flatMap_append];simp
 ·rw[zqn (by decide),zqn (by decide)];exact g
theorem PC.addGa{c:Ci}{e:Nat}{l:List Tk}{h:H}(k:PC c e l h)(q:Ga):PC {c with gates:=c.gates++[q]} e l (((h.map (O.drop λj=>j==7)).set 7 (am (c.gates.flatMap gaX++gaX q))).set 3 (p4 c l e (aa c.ins) (aa c.outs) (aa c.lat) (aa c.gates+1))):=by
 obtain⟨a,b,d,g⟩:=k.drop4 7;have l7:=(zqe k.g).1;refine⟨?_,?_,?_,?_,?_⟩
 ·rw[zqt (by simp;omega),zqa];rfl
 ·rw[zqn (by decide),zqn (by decide)];exact a
 ·rw[zqn (by decide),zqn (by decide)];exact b
 ·rw[zqn (by decide),zqn (by decide)];exact d
 ·rw[zqn (by decide),zqt (by simp;omega),List.flatMap_append];simp
theorem K3.add{h h3:H}(k:K3 h h3)(J:Nat)(hJ:3<=J)(o o':O):K3 h (((h3.map (O.drop λj=>j==J)).set J o).set 3 o'):=λj cs hj hc hd=>by rw[zqn (by omega),zqn (by omega),zqo,k j cs hj hc hd];show al (am (ap _ cs))=_;rw[iR.dats_drops _ hd]
theorem ML[MO]{c:Ci}{e:Nat}{t:Tk}{r:List Tk}{h:H}(k:PC c e (t::r) h)(hl:tq (t::r))(hci:aa c.ins<=1000000)(hco:aa c.outs<=1000000)(w:S)(out:Bool)(hw:(w==jq)= !out){R:AEnd->H->(Nat->Bool)->Prop}
 (hok:∀c' l' h',Dx e c out r= .ok (c',l')->PC c' e l' h'->K3 h h'->R (.ret (.tup [])) h' x47) (hbad:∀x h',Dx e c out r= .error x->K3 h h'->R (.pan (vV x.1 x.2)) h' x47):ag TE 68 [.lp 3 0,.str w] h R:=by
 have hM:=mLx;unfold Dx at hok hbad;have w0:=k.pw;have hl':=hl.tail;refine sU ?_;refine ak Tryz.func68 rfl (by simp[nts]) ?_;refine vn ?_;simp only[wq.1,seval,Tryz.results68,k.p];refine⟨by omega,?_⟩;obtain⟨P1,eP1⟩:∃P1:AEnd->H->(Nat->Bool)->Prop,P1=λae h' p=>(∀i,i<aa h->p i=ab->x47 i=ab)/\R ae h' x47:=⟨_,rfl⟩;have hpan:∀(x:Nat×Int) l' h',Dx e c out r= .error x->PWc c e h l' h'->P1 (.pan (vV x.1 x.2)) h' (λ_=>ac):=λx l' h' he hw=>by rw[eP1];exact⟨λi _ h=>(by cases h),hbad _ _ he (k.of hw).2⟩
 unfold Dx at hpan;have w1:=w0.set r;rw[<-eP1];refine vn ?_;simp only[wq.1,seval];refine nM w1 hl'.1 40 (λl1 h1 hm k1=> ?_) (λx l1 h1 hm k1=> ?_)
 rotate_left
 ·rw[hm]at hpan;simp only[wq.1,fG];simp only[XE.seq];exact bZ (R:=P1) rfl (hpan _ _ _ rfl k1)
 rw[hm]at hok hpan;dsimp only at hok hpan;obtain⟨o1,o2⟩:=lY hl' hm;simp only[wq.1];refine vn ?_;simp only[wq.1,seval];refine oI k1 o1 (λs l2 h2 hn k2=> ?_) (λx l2 h2 hn k2=> ?_)
 rotate_left
 ·rw[hn]at hpan;simp only[wq.1,fG];simp only[XE.seq];exact bZ (R:=P1) rfl (hpan _ _ _ rfl k2)
 rw[hn]at hok hpan;dsimp only at hok hpan;obtain⟨q1,q2⟩:=lZ o1 hn;simp only[wq.1,seval];refine vn ?_;simp only[wq.1,seval];refine nM k2 q1.1 41 (λl3 h3 hm3 k3=> ?_) (λx l3 h3 hm3 k3=> ?_)
 rotate_left
 ·rw[hm3]at hpan;simp only[wq.1,fG];simp only[XE.seq];exact bZ (R:=P1) rfl (hpan _ _ _ rfl k3)
 rw[hm3]at hok;dsimp only at hok;obtain⟨kc,kk⟩:=k.of k3;rw[eP1];have lt7:=(zqe kc.g).1;cases out with
 |false =>
  rw[if_neg (by decide)]at hok;have kn:=kc.addIn s;have hw:(w==jq)=ab:=hw;have hw':(w==[73,78,80,85,84])=ab:=hw;have kp:=kc.p;have ki:=kc.i;have s3:∀X:O,((h3.map (O.drop λx=>x==4)).set 4 X)[3]? =al (am [.any,.ls 5 1 0 (aa c.outs) (aa c.outs),.ls 6 3 0 (aa c.lat) (aa c.lat),.ls 7 5 0 (aa c.gates) (aa c.gates),su l3,vi e]):=λX=>by
   rw[zqn (by decide),zqo,kp];rfl
  simp only[wq.1];refine vn ?_;simp only[wq.1,↓reduceIte,Nat.reduceEqDiff,Nat.reduceLT,Nat.reduceLeDiff,Nat.reduceAdd,hw'];refine vm ?_;simp only[wq.1,↓reduceIte,Nat.reduceEqDiff,Nat.reduceLT,Nat.reduceLeDiff,Nat.reduceAdd,Nat.reduceBEq,reduceCtorEq,Nat.reduceMul,kp,ki,s3];refine⟨⟨rfl,by decide⟩,⟨by omega,by omega,by omega⟩,λi _ hi=> ?_,hok _ _ _ rfl kn (kk.add 4 (by decide) _ _)⟩;have:i=4:=by simpa using hi
  subst this;rfl
 |true =>
  rw[if_pos rfl]at hok;have kn:=kc.addOut s;have hw:(w==jq)=ac:=hw;have hw':(w==[73,78,80,85,84])=ac:=hw;have kp:=kc.p;have ki:=kc.u;have s3:∀X:O,((h3.map (O.drop λx=>x==5)).set 5 X)[3]? =al (am [.ls 4 1 0 (aa c.ins) (aa c.ins),.any,.ls 6 3 0 (aa c.lat) (aa c.lat),.ls 7 5 0 (aa c.gates) (aa c.gates),su l3,vi e]):=λX=>by
   rw[zqn (by decide),zqo,kp];rfl
  simp only[wq.1];refine vn ?_;simp only[wq.1,↓reduceIte,Nat.reduceEqDiff,Nat.reduceLT,Nat.reduceLeDiff,Nat.reduceAdd,hw'];refine vm ?_;simp only[wq.1,↓reduceIte,Nat.reduceEqDiff,Nat.reduceLT,Nat.reduceLeDiff,Nat.reduceAdd,Nat.reduceBEq,reduceCtorEq,Nat.reduceMul,kp,ki,s3];refine⟨⟨rfl,by decide⟩,⟨by omega,by omega,by omega⟩,λi _ hi=> ?_,hok _ _ _ rfl kn (kk.add 5 (by decide) _ _)⟩;have:i=5:=by simpa using hi
  subst this;rfl
theorem zL(s:ByteArray)(c:Int):∀k:Nat,-1<=Lib.lastIdx s c k/\Lib.lastIdx s c k<k
 |0=>by simp[Lib.lastIdx]
 |k+1=>by have:=zL s c k;unfold Lib.lastIdx;split<;>omega
def Gz(a b:Int)(s:S):Int×Int:=if s.count 10=0 then(a,b+aa s)else(a+(s.count 10:Nat),aa s-Lib.lastIndexByte ⟨s.toArray⟩ 10)
def Vz:Plan:=tkZ [0,2,4,6]<| .alt 1 (.alt 3 (.alt 5 (onZ [7,8,9,10]<| .fin) (.one 7 (onZ [5,8,9,10]<| .fin))) (.alt 5 (.alt 3 (onZ [7,8,9,10]<| .fin) (.one 7 (.alt 3 (onZ [8,9,10]<| .fin) (.one 8 (onZ [3,9,10]<| .fin))))) (.one 7 (.alt 3 (onZ [5,8,9,10]<| .fin) (.one 5 (.alt 3 (onZ [8,9,10]<| .fin) (.one 8 (onZ [3,9,10]<| .fin)))))))) (.alt 5 (.alt 1 (.alt 3 (onZ [7,8,9,10]<| .fin) (.one 7 (.alt 3 (onZ [8,9,10]<| .fin) (.one 8 (onZ [3,9,10]<| .fin))))) (.one 7 (.alt 1 (.alt 3 (onZ [8,9,10]<| .fin) (.one 8 (onZ [3,9,10]<| .fin))) (.one 8 (onZ [1,3,9,10]<| .fin))))) (.one 7 (.alt 1 (.alt 3 (onZ [5,8,9,10]<| .fin) (.one 5 (.alt 3 (onZ [8,9,10]<| .fin) (.one 8 (onZ [3,9,10]<| .fin))))) (.one 5 (.alt 1 (.alt 3 (onZ [8,9,10]<| .fin) (.one 8 (onZ [3,9,10]<| .fin))) (.one 8 (onZ [1,3,9,10]<| .fin)))))))
theorem UL[MO](a b:Int)(s:S)(ha:0<=a/\a<=1000000000)(hb:0<=b/\b<=1000000000)(hs:aa s<=1000000000):Ev TE 117 [.agg [vi a,vi b],.str s] (.agg [vi (Gz a b s).1,vi (Gz a b s).2]):=by
 have hc:s.count 10<=aa s:=List.count_le_length;have hl:=zL ⟨s.toArray⟩ 10 (aa s);have hl':Lib.lastIndexByte ⟨s.toArray⟩ 10=Lib.lastIdx ⟨s.toArray⟩ 10 (aa s):=rfl;refine ai Tryz.func117 rfl (by simp[nts]) ?_;refine vn ?_;simp only[wq.1,Nat.reduceLT,Tryz.results117];refine vn ?_;simp only[wq.1,seval];refine ag.ev (O0 s 10) rfl ?_;simp only[wq.1,seval];refine vn ?_;simp only[wq.1,↓reduceIte,Nat.reduceLT];refine vcB.mk (λh0=> ?_) (λh0=> ?_)
 ·have h0:s.count 10=0:=by simpa using h0
  have w1:aD .i64 (b+(aa s:Int))=b+aa s:=iU (by omega) (by omega);simp only[wq.1,↓reduceIte,Nat.reduceEqDiff,Nat.reduceLT,Nat.reduceLeDiff,Nat.reduceAdd,Int.reduceToNat,Int.reduceLE,reduceCtorEq,Nat.reduceMul,w1];unfold Gz;rw[if_pos h0];exact⟨by decide,by decide,aC.dat rfl⟩
 ·have h0:s.count 10≠0:=by simpa using h0
  have w1:aD .i64 (a+((s.count 10:Nat):Int))=a+(s.count 10:Nat):=iU (by omega) (by omega);have w2:aD .i64 ((aa s:Int)-Lib.lastIndexByte ⟨s.toArray⟩ 10)=aa s-Lib.lastIndexByte ⟨s.toArray⟩ 10:=iU (by omega) (by omega);simp only[wq.1];refine aj ?_;refine dE mixed Vz (λf' h'=>f'.t 4= .lp 1 0/\f'.d=[]/\h'=[am [vi a,vi b],am [vi (a+(s.count 10:Nat)),vi (aa s-Lib.lastIndexByte ⟨s.toArray⟩ 10)]]) (by rw[TEP];decide +kernel) (by decide +kernel) ?_ ?_
  ·have hten:((10:UInt8).toNat:Int)=10:=rfl;simp only[wq.1,seval,Vz]
   repeat' apply zsa
   all_goals try(first|decide|rfl)
   all_goals (refine ag.ev (TA s 10 hs) rfl ?_)
   all_goals (simp only[wq.1,seval,w1,w2,hten])
   all_goals trace_state
  ·rintro f h ⟨h4,hd,rfl⟩;simp only[wq.1];refine vm ?_;simp only[wq.1,seval,h4,hd];unfold Gz;rw[if_neg h0];exact aC.dat rfl
theorem mx(a b:Int):Nv [vi a,vi b]=(True,vi (max a b)):=by simp only[Nv,Int.max_def];split<;>split<;>first|rfl|(congr 2;omega)
theorem mn(a b:Int):KH [vi a,vi b]=(True,vi (min a b)):=by simp only[KH,Int.min_def];split<;>split<;>first|rfl|(congr 2;omega)
def qh(s:S)(a:Int):Int×Int:=Gz 1 1 (s.take (min (max a 0) (aa s:Int)).toNat)
def QZ:Plan:= .take 0<| .take 2<| .alt 1 (.take 4<| .one 3<| .take 5<| .fin) (.one 3 (.one 1<| .take 4<| .take 5<| .fin))
def VA:Plan:=tkZ [1,2,4]<| .alt 0 (.alt 3 (.alt 5 (.alt 6 (.take 7<| .alt 8 (.one 9<| .one 10<| .fin) (.one 9 (.one 8<| .one 10<| .fin))) (.one 9 (.one 6<| .take 7<| .one 8<| .one 10<| .fin))) (.one 9 (.one 5<| .one 6<| .take 7<| .one 8<| .one 10<| .fin))) (.alt 5 (.alt 3 (.alt 6 (.take 7<| .alt 8 (.one 9<| .one 10<| .fin) (.one 9 (.one 8<| .one 10<| .fin))) (.one 9 (.one 6<| .take 7<| .one 8<| .one 10<| .fin))) (.one 9 (.one 3<| .one 6<| .take 7<| .one 8<| .one 10<| .fin))) (.one 9 (.alt 3 (.one 5<| .one 6<| .take 7<| .one 8<| .one 10<| .fin) (.one 5 (.one 3<| .one 6<| .take 7<| .one 8<| .one 10<| .fin)))))) (.alt 3 (.alt 0 (.alt 5 (.alt 6 (.take 7<| .alt 8 (.one 9<| .one 10<| .fin) (.one 9 (.one 8<| .one 10<| .fin))) (.one 9 (.one 6<| .take 7<| .one 8<| .one 10<| .fin))) (.one 9 (.one 5<| .one 6<| .take 7<| .one 8<| .one 10<| .fin))) (.alt 5 (.alt 0 (.alt 6 (.take 7<| .alt 8 (.one 9<| .one 10<| .fin) (.one 9 (.one 8<| .one 10<| .fin))) (.one 9 (.one 6<| .take 7<| .one 8<| .one 10<| .fin))) (.alt 6 (.take 7<| .alt 0 (.alt 8 (.one 9<| .one 10<| .fin) (.one 9 (.one 8<| .one 10<| .fin))) (.one 9 (onZ [0,8,10]<| .fin))) (.one 9 (.alt 0 (.one 6<| .take 7<| .one 8<| .one 10<| .fin) (.one 6 (.take 7<|onZ [0,8,10]<| .fin)))))) (.one 9 (.alt 0 (.one 5<| .one 6<| .take 7<| .one 8<| .one 10<| .fin) (.one 5 (.alt 0 (.one 6<| .take 7<| .one 8<| .one 10<| .fin) (.one 6 (.take 7<|onZ [0,8,10]<| .fin)))))))) (.alt 5 (.alt 0 (.alt 3 (.alt 6 (.take 7<| .alt 8 (.one 9<| .one 10<| .fin) (.one 9 (.one 8<| .one 10<| .fin))) (.one 9 (.one 6<| .take 7<| .one 8<| .one 10<| .fin))) (.one 9 (.one 3<| .one 6<| .take 7<| .one 8<| .one 10<| .fin))) (.alt 3 (.alt 0 (.alt 6 (.take 7<| .alt 8 (.one 9<| .one 10<| .fin) (.one 9 (.one 8<| .one 10<| .fin))) (.one 9 (.one 6<| .take 7<| .one 8<| .one 10<| .fin))) (.alt 6 (.take 7<| .alt 0 (.alt 8 (.one 9<| .one 10<| .fin) (.one 9 (.one 8<| .one 10<| .fin))) (.one 9 (onZ [0,8,10]<| .fin))) (.one 9 (.alt 0 (.one 6<| .take 7<| .one 8<| .one 10<| .fin) (.one 6 (.take 7<|onZ [0,8,10]<| .fin)))))) (.one 9 (.alt 0 (.one 3<| .one 6<| .take 7<| .one 8<| .one 10<| .fin) (.one 3 (.alt 0 (.one 6<| .take 7<| .one 8<| .one 10<| .fin) (.one 6 (.take 7<|onZ [0,8,10]<| .fin)))))))) (.one 9 (.alt 0 (.alt 3 (.one 5<| .one 6<| .take 7<| .one 8<| .one 10<| .fin) (.one 5 (.one 3<| .one 6<| .take 7<| .one 8<| .one 10<| .fin))) (.alt 3 (.alt 0 (.one 5<| .one 6<| .take 7<| .one 8<| .one 10<| .fin) (.one 5 (.alt 0 (.one 6<| .take 7<| .one 8<| .one 10<| .fin) (.one 6 (.take 7<|onZ [0,8,10]<| .fin))))) (.one 5 (.alt 0 (.one 3<| .one 6<| .take 7<| .one 8<| .one 10<| .fin) (.one 3 (.alt 0 (.one 6<| .take 7<| .one 8<| .one 10<| .fin) (.one 6 (.take 7<|onZ [0,8,10]<| .fin)))))))))))
theorem Q3[MO](s:S)(a:Int)(hs:aa s<=1000000000):Ev TE 66 [.str s,vi a] (.tup [vi (qh s a).1,vi (qh s a).2]):=by
 refine ai Tryz.func66 rfl (by simp[nts]) ?_;refine vn ?_;simp only[wq.1,Nat.reduceLT,Tryz.results66];refine vn ?_;refine dE mixed VA (λf' h'=>f'.t 6= .lp 0 0/\f'.d=[]/\h'=[am [vi (qh s a).1,vi (qh s a).2]]) (by rw[TEP];decide +kernel) (by decide +kernel) ?_ ?_
 ·have hm:0<=min (max a 0) (aa s:Int)/\min (max a 0) (aa s:Int)<=aa s:=by omega
  have hov:=UL 1 1 (s.take (min (max a 0) (aa s:Int)).toNat) (by decide) (by decide) (by rw[zrl];omega);simp only[wq.1,seval,VA,gl0,jf,mx,mn]
  repeat' apply zsa
  all_goals try omega
  all_goals (refine ag.ev hov rfl ?_)
  all_goals (simp only[wq.1,↓reduceIte,Nat.reduceEqDiff,Nat.reduceLT,Nat.reduceAdd])
  all_goals rfl
 ·rintro f h ⟨h6,hd,rfl⟩;refine aj ?_;refine dE mixed QZ (λf' h'=>f'.t 4=vi (qh s a).1/\f'.t 5=vi (qh s a).2/\f'.d=[]) (by rw[TEP];decide +kernel) (by decide +kernel) ?_ ?_
  ·simp only[wq.1,↓reduceIte,Nat.reduceEqDiff,Nat.reduceLT,Nat.reduceLeDiff,Nat.reduceAdd,Int.reduceToNat,Int.reduceLE,Nat.reduceMul,QZ,h6,hd];exact⟨by decide,by decide⟩
  ·rintro f h ⟨h4,h5,hd⟩;simp only[wq.1];refine vm ?_;simp only[wq.1,h4,h5,hd];exact aC.dat rfl
def lD(s:S)(a e:Int):V:=if e=0 then .agg [vi 0,vi 0,vi 0]else .agg [vi e,vi (qh s a).1,vi (qh s a).2]
theorem UM[MO](s:S)(a e:Int)(hs:aa s<=1000000000):Ev TE 27 [.str s,vi a,vi e] (lD s a e):=by
 unfold lD;refine ai Tryz.func27 rfl (by simp[nts]) (vm ?_);simp only[wq.1,seval,Tryz.results27];refine vcB.mk (λhc=> ?_) (λhc=> ?_)
 ·have hc:e=0:=by simpa using hc
  simp only[wq.1,seval];rw[if_pos hc];exact aC.dat rfl
 ·have hc:e≠0:=by simpa using hc
  simp only[wq.1,seval];refine ag.ev (Q3 s a hs) rfl ?_;simp only[wq.1,seval];rw[if_neg hc];exact aC.dat rfl
theorem IM:I8 P 30 [.i64,.i64,.i64]:=by
 refine⟨by kernel_rfl,λw xs ys hx hy=> ?_⟩
 match xs,hx with
 |[a,b,c],_ =>
 match ys,hy with
 |[a',b',c'],_ =>
 have p0:∀(x y z:Value),(part 28 #[x,y,z] 0).run P w= .ok x w:=λx y z=>jX Tryz.underlying28 (by simp);have p1:∀(x y z:Value),(part 3 #[x,y,z] 1).run P w= .ok y w:=λx y z=>jX Tryz.underlying3 (by simp);have p2:∀(x y z:Value),(part 3 #[x,y,z] 2).run P w= .ok z w:=λx y z=>jX Tryz.underlying3 (by simp);have hso:P.stoodInHeld 30=ac:=by kernel_rfl
 show(Op.equalIn 10000 30 (.agg #[.int .i64 a,.int .i64 b,.int .i64 c]) (.agg #[.int .i64 a',.int .i64 b',.int .i64 c'])).run P w= .ok ([a,b,c]==[a',b',c']) w;rw[Op.equalIn];have e31:=oW (P:=P) (w:=w) Tryz.underlying28 9998;have e3:=oW (P:=P) (w:=w) Tryz.underlying3 9998;simp only[Sem.run_bind,run_underlying Tryz.underlying30,aM];by_cases ha:a=a'
 ·subst ha;by_cases hb:b=b'
  ·subst hb;by_cases hc:c=c'
   ·subst hc;simp[hso,p0,p1,p2,e31,e3,Sem.run_bind,aM]
   ·have hc':(c==c')=ac:=by simpa using hc
    simp[hso,p0,p1,p2,e31,e3,Sem.run_bind,aM,hc',hc]
  ·have hb':(b==b')=ac:=by simpa using hb
   simp[hso,p0,p1,p2,e31,e3,Sem.run_bind,aM,hb',hb]
 ·have ha':(a==a')=ac:=by simpa using ha
  simp[hso,p0,p1,p2,e31,e3,Sem.run_bind,aM,ha',ha]
end Go.Proofs.YthaijohbpdabfaaGreatDoor
