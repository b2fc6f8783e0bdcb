/- Lemmas for this claim, part F13: each holds under what it names. -/
import Derived.Test.YthaijohbpdabfaaGreatDoorNF09
import Derived.Test.YthaijohbpdabfaaGreatDoorNA9
import Derived.Test.YthaijohbpdabfaaGreatDoorNF08
import Derived.Test.YthaijohbpdabfaaGreatDoorNF12
import Derived.Test.YthaijohbpdabfaaGreatDoorNF11
import Derived.Test.YthaijohbpdabfaaGreatDoorNF02
import Derived.Test.YthaijohbpdabfaaGreatDoorNF01
set_option linter.all false
set_option maxRecDepth 20000
set_option maxHeartbeats 8000000
namespace Go.Proofs.YthaijohbpdabfaaGreatDoor
open Go Go.Proofs Go.Abs
theorem FQ [MO] {h : H} {d : List Deferred} : WJ { TE with tl := d } h 126 (.agg []) "patchbay/token.read" 317 (.agg []) := by
 intro ok pl w x hs hx;have hx':=hx;simp only[VRel,VList]at hx;obtain⟨cs,rfl,hcs⟩:=hx;have:cs=#[]:=by cases cs;simp at hcs;rw[hcs]
 subst this;exact⟨_,by kernel_rfl,hx'⟩
theorem SQ[MO](s:S)(a:Nat)(c:UInt8)(r:S)(hr:s.drop a=c::r)(hs:s.length<=1000000000){o:Option Tk}{m:Nat}(ho:yL a (c::r)=some (o,m)):Ev TE 317 [.agg [],.str s,vi a] (.tup [tkO o,vi m]):=by refine jS ((yM s a c r hr hs).mono fun ae h p hq=> ?_);rw[ho]at hq;dsimp only at hq;subst hq;exact aG.dat (by cases o<;>rfl)
theorem PL[MO](s:S)(a:Nat)(c:UInt8)(r:S)(hr:s.drop a=c::r)(hs:s.length<=1000000000)(ho:yL a (c::r)=none){h:H}{R:AEnd->H->(Nat->Bool)->Prop}(hR:∀X,R (.pan (VD a)) (h++X) (fun _=>false)):ag TE 317 [.agg [],.str s,vi a] h R:=by refine pV (yM s a c r hr hs) rfl fun ae h' p hq=> ?_;rw[ho]at hq;dsimp only at hq;subst hq;exact hR _
def Ug:Plan:= .take 0<| .alt 1 (onZ [2,3,4]<| .fin) (.one 2 (onZ [1,3,4]<| .fin))
theorem PM[MO]{K:H->(Nat->Bool)->Prop}{d0 d1 d2:V}{G:H}(a:Nat)(hK:∀X,K (.cells [.nils]:: .cells [vi a]:: .cells [vi 2]::(G++[X])) (fun _=>false)):jr TE 118 [.lp 0 0,.lp 1 0,.lp 2 0] (VD a) (.cells [d0]:: .cells [d1]:: .cells [d2]::G) K:=by
 have hgE:∀x:O,(G++[x])[G.length]? =some x:=fun x=>by simp
 have hgS:∀x y:O,(G++[x]).set G.length y=G++[y]:=fun x y=>by simp
 refine lh rfl Tryz.func118 rfl rfl (by simp[nts]) rfl (fun ev w=>rfl) rfl (by decide) ?_;simp only[nts];refine az rfl rfl ?_;simp only[wq.1,↓reduceIte];refine⟨by decide,?_⟩;refine az rfl rfl ?_;simp only[wq.1,↓reduceIte];refine az rfl rfl ?_;simp only[wq.1,seval];refine az rfl rfl ?_;simp only[wq.1,seval];refine az rfl rfl ?_;simp only[wq.1];refine az rfl rfl ?_;simp only[wq.1,seval,hgE,hgS];refine az rfl rfl ?_;simp only[wq.1,seval];refine dX ?_;show awp _ _ _ _ _ _ _;refine vn ?_;simp only[wq.1,seval];refine vm ?_;simp only[wq.1,↓reduceIte];refine dW mixed Ug (fun f' h'=>f'.d=[]/\f'.k=(fun _=>false)/\∃X,h'= .cells [.nils]:: .cells [vi a]:: .cells [vi 2]::(G++[X])) (by rw[TEP];decide +kernel) (by decide +kernel) ?_ ?_
 ·simp only[wq.1,seval,Ug,hgE];exact⟨_,rfl⟩
 ·rintro f h ⟨hd,hk,X,rfl⟩;exact⟨.inl rfl,hd,by rw[hk];exact hK X⟩
theorem PN:∀(n p:Nat)(s:S),(tkN n p s).1.length<=n
 |0,_,_=>by simp[tkN]
 |n+1,p,[]=>by simp[tkN]
 |n+1,p,c::r=>by
  rw[Jk];cases hs:yL p (c::r)with
  |none=>simp
  |some x=>obtain⟨o,m⟩:=x;have:=PN n (p+m) ((c::r).drop m);dsimp only;rw[zqa];cases o<;>simp only[Option.toList,List.length_nil,zrk]<;>omega
def AO(s:S)(ae:AEnd)(h':H):Prop:=match tkN s.length 0 s with
 |(L,none)=>ae= .ret (.tup [.ls 3 3 0 L.length L.length,vi 0,vi 0])/\∃x0 X,h'=[x0,.cells [vi 0],.cells [vi 0],.cells (tkC L)]++X
 |(_,some a)=>ae= .ret (.tup [.nils,vi a,vi 2])
theorem H7[MO](s:S)(hs:s.length<=1000000):ag TE 67 [.iface 126 (.agg []),.str s] [] (fun ae h' _=>AO s ae h'):=by
 have hM:=mLx;refine lq rfl Tryz.func67 rfl (by simp[nts]) fun ok pl0 w0=> ?_;simp only[nts];refine BJ (Q:=fun _ _ _=>False) ?_ (fun _ _ _ h=>by obtain⟨_,_,_,_,_,_,h⟩:=h;exact h.elim);refine vm ?_;simp only[wq.1,seval];refine qV rfl (fn:=Tryz.f67) (q:=118) (caps:=[.lp 0 0,.lp 1 0,.lp 2 0]) (fx:= .tmp 10) rfl rfl (by simp only[wq.1,seval]) rfl rfl rfl rfl (by simp only[wq.1,seval]) (by simp only[wq.1,seval]) (by simp only[wq.1]) rfl fun dd=> ?_;simp only[nts];obtain⟨ee,hee⟩:∃ee:E,ee={TE with tl:=[dd]}:=⟨_,rfl⟩;have hP:ee.P=P:=by rw[hee];rfl
 have hmix:ee.P.follows .mixedOrders=true:=by rw[hP];exact mixed
 have hT:∀ {g:FuncId} {args:List V} {h:H} {R:AEnd->H->(Nat->Bool)->Prop},ag TE g args h R->ag ee g args h R:=fun hc=>by rw[hee];exact hc.tl _
 rw[<-hee];obtain⟨QP,eQP⟩:∃QP:XE->Fr->H->Prop,QP=fun xe f' h'=>f'.d=[]/\V.drops f'.k [V.lp 0 0,V.lp 1 0,V.lp 2 0]=[V.lp 0 0,V.lp 1 0,V.lp 2 0]/\(match xe with
  | .pan v=>jr TE 118 [V.lp 0 0,V.lp 1 0,V.lp 2 0] v h' fun h'' p=>qP TE.P Tryz.f67.results.toList (fun v h k=>AO s (AEnd.ret v) h) (f'.drop p) h''
  | .ret=>jv TE 118 [V.lp 0 0,V.lp 1 0,V.lp 2 0] h' fun h'' p=>qP TE.P Tryz.f67.results.toList (fun v h k=>AO s (AEnd.ret v) h) (f'.drop p) h''
  |_=>False):=⟨_,rfl⟩
 refine aX (Q:=QP) (fun xe f' h' hq=>by rw[eQP]at hq;exact hq) ?_;have hkd:∀ {k:Nat->Bool},(∀j,j<3->k j=false)->V.drops k [V.lp 0 0,V.lp 1 0,V.lp 2 0]=[V.lp 0 0,V.lp 1 0,V.lp 2 0]:=fun {k} h=>by
  have z0:=h 0 (by decide);have z1:=h 1 (by decide);have z2:=h 2 (by decide);simp only[V.drops,V.drop,z0,z1,z2,if_false,zrm]
 obtain⟨hA,ehA⟩:∃hA:List Tk->H,hA=fun L=>[.cells [.ls 3 3 0 L.length L.length],.cells [vi 0],.cells [vi 0],.cells (tkC L)]:=⟨_,rfl⟩;have hret:∀ {f':Fr} {L:List Tk} {X:H},tkN s.length 0 s=(L,none)->f'.d=[]->(∀j,j<3->f'.k j=false)->f'.t 4= .lp 0 0->f'.t 5= .lp 1 0->f'.t 6= .lp 2 0->QP .ret f' (hA L++X):=by intro f' L X hp hd hk t4 t5 t6;rw[eQP,ehA];refine⟨hd,hkd hk,?_⟩;refine NM fun Y=> ?_;unfold AO;rw[hp];simp only[Tryz.results67,nts];simp only[wq.1,↓reduceIte,hd,t4,t5,t6];exact⟨_,_,rfl⟩
 have hpan:∀ {f':Fr} {L:List Tk} {X:H} {a:Nat},(tkN s.length 0 s).2=some a->f'.d=[]->(∀j,j<3->f'.k j=false)->f'.t 4= .lp 0 0->f'.t 5= .lp 1 0->f'.t 6= .lp 2 0->QP (.pan (VD a)) f' (hA L++X):=by intro f' L X a hp hd hk t4 t5 t6;rw[eQP,ehA];refine⟨hd,hkd hk,?_⟩;refine PM (G:= .cells (tkC L)::X) a fun Y=> ?_;obtain⟨L2,o2⟩:∃L2 o2,tkN s.length 0 s=(L2,o2):=⟨_,_,rfl⟩;obtain⟨o2,hL2⟩:=o2;rw[hL2]at hp;dsimp only at hp;subst hp;unfold AO;rw[hL2];simp only[Tryz.results67,nts];simp only[wq.1,↓reduceIte,hd,t4,t5,t6]
 refine ai (bJ hmix _ _ _ _ ?_);simp only[wq.1,seval,hP];refine fQ ?_;refine lg (h':=hA []) (by rw[ehA];exact HLe.set (i:=0) (o':= .cells [.ls 3 3 0 0 0]) rfl (OLe.cells (by simp) (bW.cons dE bW.nil))) ?_;refine aC (fun mm f h'=>∃(a n:Nat)(L:List Tk)(X:H),mm+a=s.length/\a<=s.length/\s.length-a<=n/\L.length<=a/\tkN s.length 0 s=(L++(tkN n a (s.drop a)).1,(tkN n a (s.drop a)).2)/\f.t 0= .iface 126 (.agg [])/\f.t 1= .str s/\f.t 4= .lp 0 0/\f.t 5= .lp 1 0/\f.t 6= .lp 2 0/\f.t 7=vi a/\f.d=[]/\(∀j,j<3->f.k j=false)/\h'=hA L++X) s.length ⟨0,s.length,[],[],rfl,by omega,by omega,by simp,rfl,by simp only[wq.1,seval],by simp only[wq.1,seval],by simp only[wq.1,seval],by simp only[wq.1,seval],by simp only[wq.1,seval],by simp only[wq.1,↓reduceIte];rfl,rfl,fun j hj=>rfl,by rw[zqp]⟩ ?_;rintro mm f h' ⟨a,n,L,X,hmm,hal,hn,hLa,htk,t0,t1,t4,t5,t6,t7,hd,hk,rfl⟩;have hAl:(hA L).length=4:=by rw[ehA];rfl
 refine fD (by rw[hd];simp) ?_;rw[show(hA L).map (O.drop (Abs.fV (hA L).length))=hA L by
  rw[hAl,ehA];simp only[zrd,List.map_nil,O.drop,x8];rfl]
 rw[hAl];have hdk:∀v:V,v.drop (Abs.fV 4)=v->v.drop (Abs.fV 4)=v:=fun _ h=>h;obtain⟨f',hf'⟩:∃f',f'=f.drop (Abs.fV 4):=⟨_,rfl⟩;have u0:f'.t 0= .iface 126 (.agg []):=by rw[hf'];show(f.t 0).drop _=_;rw[t0];rfl
 have u1:f'.t 1= .str s:=by rw[hf'];show(f.t 1).drop _=_;rw[t1];rfl
 have u4:f'.t 4= .lp 0 0:=by rw[hf'];show(f.t 4).drop _=_;rw[t4];rfl
 have u5:f'.t 5= .lp 1 0:=by rw[hf'];show(f.t 5).drop _=_;rw[t5];rfl
 have u6:f'.t 6= .lp 2 0:=by rw[hf'];show(f.t 6).drop _=_;rw[t6];rfl
 have u7:f'.t 7=vi a:=by rw[hf'];show(f.t 7).drop _=_;rw[t7];rfl
 have ud:f'.d=[]:=by rw[hf'];exact hd
 have uk:∀j,j<3->f'.k j=false:=fun j hj=>by rw[hf'];show(f.k j||Abs.fV 4 j)=false;rw[hk j hj];simp[Abs.fV];omega
 rw[<-hf'];clear hf' hd hk t0 t1 t4 t5 t6 t7 X;refine ai (bJ hmix _ _ _ _ ?_);simp only[wq.1,seval,hP,u1,u7];refine vcB.mk (fun hlt=> ?_) (fun hlt=> ?_)
 ·have hlt:a<s.length:=by have:=zqs hlt;omega
  obtain⟨c,r,hcr⟩:∃c r,s.drop a=c::r:=by
   cases hd:s.drop a with
   |nil=>have:=congrArg List.length hd;simp at this;omega
   |cons c r=>exact⟨c,r,rfl⟩
  obtain⟨n,rfl⟩:∃m,n=m+1:=⟨n-1,by omega⟩;have hcl:(c::r).length=s.length-a:=by rw[<-hcr,List.length_drop]
  have dF:∀q,V.drops q (tkC L)=tkC L:=fun q=>x8 L;have hfl:=UY L;rw[hcr,Jk]at htk;cases hst:yL a (c::r)with
  |none =>
   rw[hst]at htk;have htk2:(tkN s.length 0 s).2=some a:=by rw[htk]
   have hrb:=fun {h:H} {R:AEnd->H->(Nat->Bool)->Prop} (hR:∀X,R (.pan (VD a)) (h++X) (fun _=>false))=>PL s a c r hcr (by omega) hst hR;rw[ehA];refine aA ?_;refine ai (bJ hmix _ _ _ _ ?_);simp only[wq.1,seval,hP,u0,u1,u7];refine bG rfl (t:=126) (v:= .agg []) (v':= .agg []) (g:=317) (by simp only[wq.1,seval]) (by simp only[wq.1,seval,dH,iZ]) (by rw[hee];exact FQ) (by simp only[wq.1,hP]) ?_;simp only[wq.1,seval];refine hT (hrb fun X=> ?_);simp only[wq.1,fB];simp only[XE.seq,XE.block];subst ehA;have hp':=fun {f':Fr} {X:H}=>hpan (f':=f') (L:=L) (X:=X) htk2;exact hp' (by simp only[wq.1,ud]) (fun j hj=>by simp only[wq.1,uk j hj]) (by simp only[wq.1,seval,u4]) (by simp only[wq.1,seval,u5]) (by simp only[wq.1,seval,u6])
  |some om =>
  obtain⟨o,m⟩:=om;have hrd:=SQ s a c r hcr (by omega) hst;obtain⟨l1,l2⟩:=OY hst;rw[hst]at htk;dsimp only at htk;have hdd:(c::r).drop m=s.drop (a+m):=by rw[<-hcr,List.drop_drop]
  rw[hdd]at htk;have w1:IntKind.i64.wrap ((a:Int)+m)=((a+m:Nat):Int):=by rw[iL (by omega) (by omega)];omega
  rw[ehA];refine aA ?_;refine ai (bJ hmix _ _ _ _ ?_);simp only[wq.1,seval,hP,u0,u1,u7];refine bG rfl (t:=126) (v:= .agg []) (v':= .agg []) (g:=317) (by simp only[wq.1,seval]) (by simp only[wq.1,seval,dH,iZ]) (by rw[hee];exact FQ) (by simp only[wq.1,hP]) ?_;simp only[wq.1,seval];refine hT (ag.ev hrd rfl ?_);cases o with
  |none=>simp only[wq.1,seval,hP];refine bJ hmix _ _ _ _ ?_;simp only[wq.1,seval,hP,u7,w1];exact .inl ⟨mm-m,by omega,a+m,n,L,[O.cells [vi (-1),.str [],vi 0]],by omega,by omega,by omega,by omega,htk,by simp only[wq.1,seval,u0],by simp only[wq.1,seval,u1],by simp only[wq.1,seval,u4],by simp only[wq.1,seval,u5],by simp only[wq.1,seval,u6],by simp only[wq.1,seval],by simp only[wq.1,Int.reduceNeg,ud],fun j hj=>by simp only[wq.1,Int.reduceNeg,uk j hj],rfl⟩
  |some t =>
   simp only[wq.1,seval,hP];have hk0:decide ((0:Int)<=(t.k:Int))=true:=by simp
   refine bJ hmix _ _ _ _ ?_;simp only[wq.1,↓reduceIte,Nat.reduceEqDiff,Nat.reduceLT,Nat.reduceLeDiff,Nat.reduceAdd,Nat.reduceBEq,reduceCtorEq,Nat.reduceMul,hP,u4,u7,ud,w1,hk0,dF,hfl];refine⟨⟨rfl,by decide⟩,rfl,⟨rfl,by omega,by omega⟩,.inl ⟨mm-m,by omega,a+m,n,L++[t],[O.cells (tkF t)],by omega,by omega,by omega,by simp;omega,by rw[htk];simp,by simp only[wq.1,↓reduceIte,Nat.reduceEqDiff,Nat.reduceLT,Nat.reduceLeDiff,Nat.reduceAdd,Nat.reduceSub,Int.reduceToNat,Nat.reduceDiv,Int.reduceLT,Int.reduceLE,Int.reduceNeg,Int.reduceBEq,Int.reduceBNe,Int.reduceAdd,Int.reduceSub,Nat.reduceBEq,reduceCtorEq,Nat.reduceMul,au,Tryz.results67,u0],by simp only[wq.1,↓reduceIte,Nat.reduceEqDiff,Nat.reduceLT,Nat.reduceLeDiff,Nat.reduceAdd,Nat.reduceSub,Int.reduceToNat,Nat.reduceDiv,Int.reduceLT,Int.reduceLE,Int.reduceNeg,Int.reduceBEq,Int.reduceBNe,Int.reduceAdd,Int.reduceSub,Nat.reduceBEq,reduceCtorEq,Nat.reduceMul,au,Tryz.results67,u1],by simp only[wq.1,↓reduceIte,Nat.reduceEqDiff,Nat.reduceLT,Nat.reduceLeDiff,Nat.reduceAdd,Nat.reduceSub,Int.reduceToNat,Nat.reduceDiv,Int.reduceLT,Int.reduceLE,Int.reduceNeg,Int.reduceBEq,Int.reduceBNe,Int.reduceAdd,Int.reduceSub,Nat.reduceBEq,reduceCtorEq,Nat.reduceMul,au,Tryz.results67,u4],by simp only[wq.1,↓reduceIte,Nat.reduceEqDiff,Nat.reduceLT,Nat.reduceLeDiff,Nat.reduceAdd,Nat.reduceSub,Int.reduceToNat,Nat.reduceDiv,Int.reduceLT,Int.reduceLE,Int.reduceNeg,Int.reduceBEq,Int.reduceBNe,Int.reduceAdd,Int.reduceSub,Nat.reduceBEq,reduceCtorEq,Nat.reduceMul,au,Tryz.results67,u5],by simp only[wq.1,↓reduceIte,Nat.reduceEqDiff,Nat.reduceLT,Nat.reduceLeDiff,Nat.reduceAdd,Nat.reduceSub,Int.reduceToNat,Nat.reduceDiv,Int.reduceLT,Int.reduceLE,Int.reduceNeg,Int.reduceBEq,Int.reduceBNe,Int.reduceAdd,Int.reduceSub,Nat.reduceBEq,reduceCtorEq,Nat.reduceMul,au,Tryz.results67,u6],by simp only[wq.1,↓reduceIte,Nat.reduceEqDiff,Nat.reduceLT,Nat.reduceLeDiff,Nat.reduceAdd,Nat.reduceSub,Int.reduceToNat,Nat.reduceDiv,Int.reduceLT,Int.reduceLE,Int.reduceNeg,Int.reduceBEq,Int.reduceBNe,Int.reduceAdd,Int.reduceSub,Nat.reduceBEq,reduceCtorEq,Nat.reduceMul,au,Tryz.results67],by simp only[wq.1,↓reduceIte,Nat.reduceEqDiff,Nat.reduceLT,Nat.reduceLeDiff,Nat.reduceAdd,Nat.reduceSub,Int.reduceToNat,Nat.reduceDiv,Int.reduceLT,Int.reduceLE,Int.reduceNeg,Int.reduceBEq,Int.reduceBNe,Int.reduceAdd,Int.reduceSub,Nat.reduceBEq,reduceCtorEq,Nat.reduceMul,au,Tryz.results67,ud],fun j hj=> ?_,?_⟩⟩
   ·simp only[wq.1,uk j hj];simp;omega
   ·rw[UX,zqa,zrk];rfl
 ·have hea:a=s.length:=by have:=of_decide_eq_false hlt;omega
  subst hea;rw[List.drop_length]at htk;have he:tkN s.length 0 s=(L,none):=by
   rw[htk];cases n<;>simp[tkN]
  subst ehA;refine bJ hmix _ _ _ _ ?_;simp only[wq.1,seval,hP,u4,u5,u6];exact hret (X:=[]) he (by simp only[wq.1,ud]) (fun j hj=>by simp only[wq.1,uk j hj]) (by simp only[wq.1,seval,u4]) (by simp only[wq.1,seval,u5]) (by simp only[wq.1,seval,u6])
def PO(s:S):V:=match tkN s.length 0 s with
 |(L,none)=> .tup [qZ L,vi 0,vi 0]
 |(_,some a)=> .tup [.nils,vi a,vi 2]
theorem SS[MO](s:S)(hs:s.length<=1000000):Ev TE 28 [.str s] (PO s):=by
 have hM:=mLx;refine ak Tryz.func28 rfl (by simp[nts]) ?_;have hall:=H7 s hs;refine vn ?_;simp only[wq.1,Nat.reduceLT,Tryz.results28];refine vn ?_;simp only[wq.1,seval];refine⟨by simp,hall.mono ?_⟩;rintro ae h' p hR;unfold AO at hR;unfold PO;obtain⟨L,o⟩:∃L o,tkN s.length 0 s=(L,o):=⟨_,_,rfl⟩;obtain⟨o,hL⟩:=o;rw[hL]at hR ⊢;cases o with
 |none=>dsimp only at hR ⊢;obtain⟨rfl,x0,X,rfl⟩:=hR;simp only[wq.1,seval,bu];refine vm ?_;simp only[wq.1,seval];exact aG.tup (ay.cons (NL rfl rfl) (ay.cons (aG.dat rfl) (ay.cons (aG.dat rfl) ay.nil)))
 |some a=>dsimp only at hR ⊢;subst hR;simp only[wq.1,seval,bu];refine vm ?_;simp only[wq.1,seval];exact aG.dat rfl
abbrev uZ(a e:Int):V:= .iface 58 (.agg [vi a,vi e])
theorem fK[MO](b:Bool)(a e:Int){h:H}{R:AEnd->H->(Nat->Bool)->Prop}(hok:b=true->R (.ret (.tup [])) h (fun _=>false))(hbad:b=false->R (.pan (uZ a e)) h (fun _=>false)):ag TE 29 [.bool b,vi a,vi e] h R:=by
 cases b with
 |true=>refine aj Tryz.func29 rfl (by simp[nts]) (vm ?_);simp only[wq.1,seval,Tryz.results29];exact hok rfl
 |false=>refine aj Tryz.func29 rfl (by simp[nts]) (vm ?_);simp only[wq.1,seval,Tryz.results29];exact⟨by simp,hbad rfl⟩
theorem KN[MO](c:UInt8)(k:Nat)(t:Tk){h:H}(hk:h[k]? =some (.cells [.str [c]])){R:AEnd->H->(Nat->Bool)->Prop}(hr:∀X,R (.ret (.bool (isM c t))) (h++X) (fun _=>false)):ag TE 248 [t.v,.lp k 0] h R:=by
 have hgE:∀x:O,(h++[x])[h.length]? =some x:=fun x=>by simp
 have hk':∀x:O,(h++[x])[k]? =some (.cells [.str [c]]):=fun x=>by rw[zqj (zqe hk).1];exact hk
 have e1:((t.k:Int)==1)=(t.k==1):=by rw[Bool.eq_iff_iff,beq_iff_eq,beq_iff_eq];omega
 unfold isM at hr;refine aj Tryz.func248 rfl (by simp[nts]) (vm ?_);cases hk1:(t.k==1)with
 |false=>rw[hk1]at hr;simp only[wq.1,seval,Tryz.results248,hgE,hk',e1,hk1];exact hr _
 |true=>rw[hk1]at hr;simp only[wq.1,seval,Tryz.results248,hgE,hk',e1,hk1];exact hr _
theorem H8[MO](t:Tk){h:H}{R:AEnd->H->(Nat->Bool)->Prop}(hr:∀X,R (.ret (.bool (decide (t.k=0)))) (h++X) (fun _=>false)):ag TE 186 [t.v] h R:=by
 have hgE:∀x:O,(h++[x])[h.length]? =some x:=fun x=>by simp
 have e1:((t.k:Int)==0)=decide (t.k=0):=by rw[Bool.eq_iff_iff,beq_iff_eq,zqb];omega
 refine aj Tryz.func186 rfl (by simp[nts]) (vm ?_);simp only[wq.1,seval,Tryz.results186,hgE,e1];exact hr _
abbrev tk0:Tk:=⟨0,[],0⟩
def Gg(q:Tk->Bool):List Tk->Bool×Tk×List Tk
 |[]=>(false,tk0,[])
 |t::r=>if q t=true then(true,t,r)else(false,tk0,t::r)
def PP:Plan:=tkZ [0,1,3,4]<| .one 2<| .one 5<| .take 6<| .take 7<| .fin
theorem AP[MO](l:List Tk)(hl:l.length<=1000000)(g:FuncId)(caps:List V)(q:Tk->Bool)(he:ah P g=true){G:H->Prop}(hG:∀h X,G h->G (h++X))(hq:∀t h (R:AEnd->H->(Nat->Bool)->Prop),G h->(∀X,R (.ret (.bool (q t))) (h++X) (fun _=>false))->ag TE g (Tk.v t::caps) h R){h:H}(hh:G h){R:AEnd->H->(Nat->Bool)->Prop}
 (hr:∀X,R (.ret (.tup [(Gg q l).2.1.v,qZ (Gg q l).2.2,.bool (Gg q l).1])) (h++X) (fun _=>false)):ag TE 185 [qZ l,.fn (.func g) [] caps] h R:=by
 have hM:=mLx;obtain⟨B,hB⟩:∃B,B=h.length:=⟨_,rfl⟩;have hgE:∀(x:O) X,(h++(x::X))[B]? =some x:=fun x X=>by rw[hB];simp
 have hgS:∀(x y:O) X,(h++(x::X)).set B y=h++(y::X):=fun x y X=>by rw[hB];simp
 have hgE1:∀(x x1:O) X,(h++(x::x1::X))[B+1]? =some x1:=fun x x1 X=>by rw[hB];simp
 have hap:∀(x:O) X,h++[x]++X=h++(x::X):=fun x X=>by simp
 have hlen:∀X:H,(h++X).length=B+X.length:=fun X=>by rw[hB];simp
 cases l with
 |nil=>have e0:(((0:Nat):Int)==0)=true:=rfl;refine aj Tryz.func185 rfl (by simp[nts]) (vm ?_);simp only[wq.1,seval,Tryz.results185,<-hB,hap,e0];refine⟨.bool true,?_⟩;simp only[wq.1,seval,hgE,hgS,hgE1];exact hr _
 |cons t r =>
  have e0:(((r.length+1:Nat):Int)==0)=false:=by rw[beq_eq_false_iff_ne];omega
  refine aj Tryz.func185 rfl (by simp[nts]) ?_;refine vn ?_;simp only[wq.1,Nat.reduceLT,Tryz.results185,<-hB];refine vn ?_;simp only[wq.1,Nat.reduceLT,hap];refine vn ?_;simp only[wq.1,seval,e0,he];refine⟨by omega,hq t _ _ (hG _ _ hh) fun X=> ?_⟩;have hB1:h.length+1=B+1:=by rw[hB]
  have hap2:∀(x y:O),h++[x,y]++X=h++(x::y::X):=fun x y=>by simp
  cases hqt:q t with
  |true =>
   rw[show Gg q (t::r)=(true,t,r)from if_pos hqt]at hr;simp only[wq.1,seval,hap2];show awp _ _ _ _ _ _ _;refine ai (dW mixed PP (fun f' h'=>f'.t 4= .lp B 0/\f'.t 5=qZ r/\f'.t 6= .bool true/\f'.d=[]/\f'.k=(fun _=>false)/\∃X,h'=h++O.cells [vi t.k,.str t.t,vi t.at']::X) (by rw[TEP];decide +kernel) (by decide +kernel) ?_ ?_)
   ·simp only[wq.1,seval,PP,hgE,hgS];exact⟨by omega,by omega,_,rfl⟩
   ·rintro f' h' ⟨t4,t5,t6,hd,hk,X,rfl⟩;show awp _ _ _ _ _ _ _;refine vm ?_;simp only[wq.1,seval,t4,t5,t6,hd,hk,hgE];exact hr _
  |false=>rw[show Gg q (t::r)=(false,tk0,t::r)from if_neg (by rw[hqt];decide)]at hr;simp only[wq.1,seval,hgE,hgS,hgE1,hB1,hap2];exact hr _
structure PW(c0 c1 c2 c3:V)(e:Nat)(h0:H)(l:List Tk)(h:H):Prop where
 p:h[3]? =some (.cells [c0,c1,c2,c3,qZ l,vi e])
 k:∀j cs,j<h0.length->j≠3->h0[j]? =some (.cells cs)->V.dats cs=true->h[j]? =some (.cells cs)
 lt:h0.length<=h.length
 l3:3<h0.length
 d:∀K,h0.length<=K->c0.drop (fun j=>j==K)=c0/\c1.drop (fun j=>j==K)=c1/\c2.drop (fun j=>j==K)=c2/\c3.drop (fun j=>j==K)=c3
theorem PW.app{c0 c1 c2 c3:V}{e:Nat}{h0:H}{l:List Tk}{h:H}(k:PW c0 c1 c2 c3 e h0 l h)(X:H):PW c0 c1 c2 c3 e h0 l (h++X):=by
 refine⟨?_,fun j cs hj h3 hc hd=> ?_,?_,k.l3,k.d⟩
 ·rw[zqj (zqe k.p).1];exact k.p
 ·have:=k.lt;rw[zqj (by omega)];exact k.k j cs hj h3 hc hd
 ·have:=k.lt;rw[zqa];omega
theorem PW.set{c0 c1 c2 c3:V}{e:Nat}{h0:H}{l:List Tk}{h:H}(k:PW c0 c1 c2 c3 e h0 l h)(l':List Tk):PW c0 c1 c2 c3 e h0 l' (h.set 3 (.cells [c0,c1,c2,c3,qZ l',vi e])):=by
 refine⟨?_,fun j cs hj h3 hc hd=> ?_,?_,k.l3,k.d⟩
 ·rw[zqt (zqe k.p).1]
 ·rw[zqn (Ne.symm h3)];exact k.k j cs hj h3 hc hd
 ·rw[zrn];exact k.lt
theorem PW.other{c0 c1 c2 c3:V}{e:Nat}{h0:H}{l:List Tk}{h:H}(k:PW c0 c1 c2 c3 e h0 l h){B:Nat}(o:O)(hB:h0.length<=B):PW c0 c1 c2 c3 e h0 l (h.set B o):=by
 have:=k.l3;refine⟨?_,fun j cs hj hj3 hc hd=> ?_,?_,k.l3,k.d⟩
 ·rw[zqn (by omega)];exact k.p
 ·rw[zqn (by omega)];exact k.k j cs hj hj3 hc hd
 ·rw[zrn];exact k.lt
theorem PW.cellsD{c0 c1 c2 c3:V}{e:Nat}{h0:H}{l:List Tk}{h:H}(k:PW c0 c1 c2 c3 e h0 l h){K:Nat}(hK:h0.length<=K):V.drops (fun j=>j==K) [c0,c1,c2,c3,qZ l,vi e]=[c0,c1,c2,c3,qZ l,vi e]:=by obtain⟨d0,d1,d2,d3⟩:=k.d K hK;show V.drop _ c0::V.drop _ c1::V.drop _ c2::V.drop _ c3::V.drop _ (qZ l)::V.drop _ (vi e)::[]=_;rw[d0,d1,d2,d3];rfl
theorem PW.drop{c0 c1 c2 c3:V}{e:Nat}{h0:H}{l:List Tk}{h:H}(k:PW c0 c1 c2 c3 e h0 l h){K:Nat}(hK:h0.length<=K):PW c0 c1 c2 c3 e h0 l (h.map (O.drop fun j=>j==K)):=by
 refine⟨?_,fun j cs hj hj3 hc hd=> ?_,?_,k.l3,k.d⟩
 ·rw[zqo,k.p,zrw];show some (O.cells (V.drops _ _))=_;rw[k.cellsD hK]
 ·rw[zqo,k.k j cs hj hj3 hc hd,zrw];show some (O.cells (V.drops _ cs))=_;rw[jE.dats_drops _ hd]
 ·rw[zra];exact k.lt
theorem PW.dropD{c0 c1 c2 c3:V}{e:Nat}{h0:H}{l:List Tk}{h:H}(k:PW c0 c1 c2 c3 e h0 l h){K:Nat}(hK:h0.length<=K):PW c0 c1 c2 c3 e h0 l (jk (fun j=>j==K) 0 h):=by
 have l3:=k.l3;have ne:∀ {j:Nat},j<h0.length->(j==K)=false:=fun hj=>by rw[beq_eq_false_iff_ne];omega
 refine⟨?_,fun j cs hj hj3 hc hd=> ?_,?_,k.l3,k.d⟩
 ·rw[iy,k.p,zrw];simp only[Nat.zero_add,ne l3,zrm,if_false];show some (O.cells (V.drops _ _))=_;rw[k.cellsD hK]
 ·rw[iy,k.k j cs hj hj3 hc hd,zrw];simp only[Nat.zero_add,ne hj,zrm,if_false];show some (O.cells (V.drops _ cs))=_;rw[jE.dats_drops _ hd]
 ·have:∀ {p:Nat->Bool} {h:H} {k:Nat},(jk p k h).length=h.length:=fun {p h}=>by
   induction h with
   |nil=>intro k;rfl
   |cons o h ih=>intro k;rw[jk,zrt,zrt,ih]
  rw[this];exact k.lt
theorem PW.self{c0 c1 c2 c3:V}{e:Nat}{h0:H}{l:List Tk}{h:H}(k:PW c0 c1 c2 c3 e h0 l h):PW c0 c1 c2 c3 e h l h :=
 ⟨k.p,fun _ _ _ _ hc _=>hc,zrb _,by have:=k.l3;have:=k.lt;omega,fun K hK=>k.d K (by have:=k.lt;omega)⟩
theorem PW.trans{c0 c1 c2 c3:V}{e:Nat}{h0:H}{l l':List Tk}{h h':H}(k:PW c0 c1 c2 c3 e h0 l h)(k':PW c0 c1 c2 c3 e h l' h'):PW c0 c1 c2 c3 e h0 l' h' :=
 ⟨k'.p,fun j cs hj h3 hc hd=>k'.k j cs (by have:=k.lt;omega) h3 (k.k j cs hj h3 hc hd) hd,Nat.le_trans k.lt k'.lt,k.l3,k.d⟩
theorem Jv[MO]{c0 c1 c2 c3:V}{e:Nat}{l:List Tk}{h:H}(k:h[3]? =some (.cells [c0,c1,c2,c3,qZ l,vi e])){R:AEnd->H->(Nat->Bool)->Prop}(hr:R (.ret (vi (atN e l))) h (fun _=>false)):ag TE 183 [.lp 3 0] h R:=by
 have e00:(((0:Nat):Int)==0)=true:=rfl;cases l with
 |nil=>refine aj Tryz.func183 rfl (by simp[nts]) (vm ?_);simp only[wq.1,seval,Tryz.results183,k,e00];exact hr
 |cons t r =>
  have e0:(((r.length+1:Nat):Int)==0)=false:=by rw[beq_eq_false_iff_ne];omega
  refine aj Tryz.func183 rfl (by simp[nts]) (vm ?_);simp only[wq.1,seval,Tryz.results183,k,e0];exact⟨by omega,hr⟩
theorem yU[MO]{c0 c1 c2 c3:V}{e:Nat}{h0:H}{l:List Tk}{h:H}(k:PW c0 c1 c2 c3 e h0 l h)(hl:l.length<=1000000)(c:UInt8){R:AEnd->H->(Nat->Bool)->Prop}(hr:∀h',PW c0 c1 c2 c3 e h0 (o7 c l).2 h'->R (.ret (.bool (o7 c l).1)) h' (fun _=>false)):ag TE 184 [.lp 3 0,.str [c]] h R:=by
 have kp:∀X,(h++X)[3]? =some (.cells [c0,c1,c2,c3,qZ l,vi e]):=fun X=>(k.app X).p;have hT:o7 c l=((Gg (isM c) l).1,(Gg (isM c) l).2.2):=by
  cases l with
  |nil=>rfl
  |cons t r =>
   by_cases hb:isM c t=true
   ·rw[show o7 c (t::r)=(true,r)from if_pos hb,show Gg (isM c) (t::r)=(true,t,r)from if_pos hb]
   ·rw[show o7 c (t::r)=(false,t::r)from if_neg hb,show Gg (isM c) (t::r)=(false,tk0,t::r)from if_neg hb]
 rw[hT]at hr;obtain⟨B,hB⟩:∃B,B=h.length:=⟨_,rfl⟩;have hgE:∀(x:O) X,(h++(x::X))[B]? =some x:=fun x X=>by rw[hB];simp
 have hap:∀(x:O) X,h++[x]++X=h++(x::X):=fun x X=>by simp
 refine aj Tryz.func184 rfl (by simp[nts]) ?_;refine vn ?_;simp only[wq.1,Nat.reduceLT,Tryz.results184,<-hB];refine vn ?_;simp only[wq.1,seval,kp];refine AP l hl 248 [.lp B 0] (isM c) (by simp[ens]) (G:=fun h=>h[B]? =some (.cells [.str [c]])) (fun h X hh=>by rw[zqj (zqe hh).1];exact hh) (fun t h R hh hr=>KN c B t hh hr) (hgE _ []) fun X=> ?_;obtain⟨Q,eQ⟩:∃Q,Q=Gg (isM c) l:=⟨_,rfl⟩;rw[<-eQ]at hr ⊢;generalize hh1:h++[O.cells [V.str [c]]]++X=h1;have k1:PW c0 c1 c2 c3 e h0 l h1:=by rw[<-hh1];exact(k.app _).app _
 have g1:∀x:O,(h1++[x])[h1.length]? =some x:=fun x=>by simp
 have s1:∀x y:O,(h1++[x]).set h1.length y=h1++[y]:=fun x y=>by simp
 have kp1:∀X,(h1++X)[3]? =some (.cells [c0,c1,c2,c3,qZ l,vi e]):=fun X=>(k1.app X).p;simp only[wq.1,seval,g1,s1];refine vn ?_;simp only[wq.1,seval,kp1];refine vm ?_;simp only[wq.1,seval];exact hr _ ((k1.app _).set _)
theorem mF[MO]{c0 c1 c2 c3:V}{e:Nat}{h0:H}{l:List Tk}{h:H}(k:PW c0 c1 c2 c3 e h0 l h)(hl:l.length<=1000000)(c:UInt8){R:AEnd->H->(Nat->Bool)->Prop}(hok:∀l' h',o8 e c l= .ok l'->PW c0 c1 c2 c3 e h0 l' h'->R (.ret (.tup [])) h' (fun _=>false))(hbad:∀x l' h',o8 e c l= .error x->PW c0 c1 c2 c3 e h0 l' h'->R (.pan (uZ x.1 x.2)) h' (fun _=>false)):ag TE 119 [.lp 3 0,.str [c]] h R:=by
 refine aj Tryz.func119 rfl (by simp[nts]) ?_;refine vn ?_;simp only[wq.1,seval,Tryz.results119];refine Jv k.p ?_;simp only[wq.1,seval];refine vm ?_;simp only[wq.1,seval];refine yU k hl c fun h' k'=> ?_;unfold o8 at hok hbad;simp only[wq.1,seval];refine fK _ _ _ (fun hb=> ?_) (fun hb=> ?_)
 ·simp only[wq.1];exact hok _ _ (if_pos hb) k'
 ·simp only[wq.1,fB];exact hbad _ _ _ (if_neg (by rw[hb];decide)) k'
theorem AU[MO]{c0 c1 c2 c3:V}{e:Nat}{h0:H}{l:List Tk}{h:H}(k:PW c0 c1 c2 c3 e h0 l h)(hl:l.length<=1000000){R:AEnd->H->(Nat->Bool)->Prop}(hok:∀t l' h',wE e l= .ok (t,l')->PW c0 c1 c2 c3 e h0 l' h'->R (.ret t.v) h' (fun _=>false))(hbad:∀x l' h',wE e l= .error x->PW c0 c1 c2 c3 e h0 l' h'->R (.pan (uZ x.1 x.2)) h' (fun _=>false)):ag TE 121 [.lp 3 0] h R:=by
 have kp:∀X,(h++X)[3]? =some (.cells [c0,c1,c2,c3,qZ l,vi e]):=fun X=>(k.app X).p;have hW:wE e l=if(Gg (fun t=>decide (t.k=0)) l).1=true then .ok ((Gg (fun t=>decide (t.k=0)) l).2.1,(Gg (fun t=>decide (t.k=0)) l).2.2)else .error (atN e l,2):=by
  cases l with
  |nil=>rfl
  |cons t r =>
   by_cases hb:t.k=0
   ·rw[show Gg (fun t=>decide (t.k=0)) (t::r)=(true,t,r)from if_pos (decide_eq_true hb),if_pos rfl];exact if_pos hb
   ·rw[show Gg (fun t=>decide (t.k=0)) (t::r)=(false,tk0,t::r)from if_neg (by simpa using hb),if_neg (show ¬(false=true) by decide)];exact if_neg hb
 rw[hW]at hok hbad;obtain⟨Q,eQ⟩:∃Q,Q=Gg (fun t=>decide (t.k=0)) l:=⟨_,rfl⟩;rw[<-eQ]at hok hbad;clear hW;obtain⟨B,hB⟩:∃B,B=h.length:=⟨_,rfl⟩;have hp:=k.p;refine aj Tryz.func121 rfl (by simp[nts]) ?_;refine vn ?_;simp only[wq.1,Nat.reduceLT,Tryz.results121,<-hB];refine vn ?_;simp only[wq.1,seval];refine Jv (kp _) ?_;simp only[wq.1,seval];refine vn ?_;simp only[wq.1,seval,kp];refine AP l hl 186 [] (fun t=>decide (t.k=0)) (by simp[ens]) (G:=fun _=>True) (fun _ _ _=>trivial) (fun t h R hh hr=>H8 t hr) trivial fun X=> ?_;rw[<-eQ];have k1:PW c0 c1 c2 c3 e h0 l (h++[O.cells [vi 0,V.str [],vi 0]]++X):=(k.app _).app _;have b1:(h++[O.cells [vi 0,V.str [],vi 0]]++X)[B]? =some (.cells [vi 0,V.str [],vi 0]):=by rw[hB];simp
 obtain⟨h1,hh1⟩:∃h1,h1=h++[O.cells [vi 0,V.str [],vi 0]]++X:=⟨_,rfl⟩;rw[<-hh1]at k1 b1;have hX:h++[O.cells [vi 0,V.str [],vi 0]]++X=h1:=hh1.symm;rw[show h++[O.cells [V.int IntKind.i64 0,V.str [],V.int IntKind.i64 0]]++X=h1 from hX];have g1:∀x:O,(h1++[x])[h1.length]? =some x:=fun x=>by simp
 have s1:∀x y:O,(h1++[x]).set h1.length y=h1++[y]:=fun x y=>by simp
 have kp1:∀X,(h1++X)[3]? =some (.cells [c0,c1,c2,c3,qZ l,vi e]):=fun X=>(k1.app X).p;simp only[wq.1,seval,g1,s1];refine vn ?_;simp only[wq.1,seval];refine fK _ _ _ (fun hb=> ?_) (fun hb=> ?_)
 ·obtain⟨q,r,eqr⟩:∃q r,Q.2=(q,r):=⟨_,_,rfl⟩;have hq1:Q.2.1=q:=by rw[eqr]
  have hq2:Q.2.2=r:=by rw[eqr]
  rw[hq1,hq2]at hok ⊢;simp only[wq.1];refine vn ?_;simp only[wq.1,seval,kp1];have k2:=(k1.app [O.cells [vi q.k,.str q.t,vi q.at']]).set r;have hB1:B<h1.length:=(zqe b1).1;have hB3:3<B:=by rw[hB];exact(zqe k.p).1
  have g2:∀x y:O,((h1++[x]).set 3 y)[h1.length]? =some x:=fun x y=>by rw[zqn (by omega)];exact g1 x
  have g3:∀x y:O,((h1++[x]).set 3 y)[B]? =some (.cells [vi 0,.str [],vi 0]):=fun x y=>by rw[zqn (by omega),zqj hB1];exact b1
  have hlB:B<(((h1++[O.cells [vi q.k,.str q.t,vi q.at']]).set 3 (.cells [c0,c1,c2,c3,qZ r,vi e]))).length:=by simp;omega
  have g4:∀x y z:O,(((h1++[x]).set 3 y).set B z)[B]? =some z:=fun x y z=>zqt (by simp;omega);refine vm ?_;simp only[wq.1,seval,g2,g3,g4];refine hok q r _ ?_ (k2.other _ (by rw[hB];exact k.lt));rw[if_pos hb]
 ·simp only[wq.1,fB];simp only[XE.seq];exact bU (R:=R) rfl (hbad _ _ _ (if_neg (by rw[hb];decide)) (k1.app _))
def rJ(l:List Tk):Prop:=l.length<=1000000/\∀t∈l,t.t.length<=1000000
theorem rJ.tail{t:Tk}{r:List Tk}(h:rJ (t::r)):rJ r:=⟨by have:=h.1;simp only[zrt]at this;omega,fun x hx=>h.2 x (by simp[hx])⟩
theorem ve{c:UInt8}{l:List Tk}(h:rJ l):rJ (o7 c l).2/\(o7 c l).2.length<=l.length/\((o7 c l).1=true->(o7 c l).2.length<l.length)/\((o7 c l).1=false->(o7 c l).2=l):=by
 cases l with
 |nil=>exact⟨h,zrb _,fun h=>(by cases h),fun _=>rfl⟩
 |cons t r =>
  by_cases hb:isM c t=true
  ·rw[show o7 c (t::r)=(true,r)from if_pos hb];exact⟨h.tail,by simp,fun _=>(by simp),fun h=>(by cases h)⟩
  ·rw[show o7 c (t::r)=(false,t::r)from if_neg hb];exact⟨h,zrb _,fun h=>(by cases h),fun _=>rfl⟩
theorem kT{e:Nat}{c:UInt8}{l l':List Tk}(h:rJ l)(hm:o8 e c l= .ok l'):rJ l'/\l'.length<l.length:=by
 unfold o8 at hm;split at hm
 ·rename_i hb;injection hm with hm;subst hm;exact⟨(ve h).1,(ve h).2.2.1 hb⟩
 ·cases hm
theorem uj{e:Nat}{l l':List Tk}{t:Tk}(h:rJ l)(hm:wE e l= .ok (t,l')):rJ l'/\l'.length<l.length/\t∈l/\t.k=0:=by
 cases l with
 |nil=>cases hm
 |cons u r =>
  simp only[wE]at hm;split at hm
  ·rename_i hb;injection hm with hm;injection hm with h1 h2;subst h1 h2;exact⟨h.tail,by simp,by simp,hb⟩
  ·cases hm
theorem kU{e:Nat}{l l':List Tk}{s:S}(h:rJ l)(hm:rC e l= .ok (s,l')):rJ l'/\l'.length<l.length:=by
 unfold rC at hm;cases hw:wE e l with
 |error x=>rw[hw]at hm;cases hm
 |ok p =>
  obtain⟨t,r⟩:=p;rw[hw]at hm;dsimp only at hm;split at hm
  ·injection hm with hm;injection hm with h1 h2;subst h1 h2;exact⟨(uj h hw).1,(uj h hw).2.1⟩
  ·cases hm
theorem nJ[MO]{c0 c1 c2 c3:V}{e:Nat}{h0:H}{l:List Tk}{h:H}(k:PW c0 c1 c2 c3 e h0 l h)(hl:rJ l){R:AEnd->H->(Nat->Bool)->Prop}(hok:∀s l' h',rC e l= .ok (s,l')->PW c0 c1 c2 c3 e h0 l' h'->R (.ret (.str s)) h' (fun _=>false))(hbad:∀x l' h',rC e l= .error x->PW c0 c1 c2 c3 e h0 l' h'->R (.pan (uZ x.1 x.2)) h' (fun _=>false)):ag TE 120 [.lp 3 0] h R:=by
 unfold rC at hok hbad;refine aj Tryz.func120 rfl (by simp[nts]) ?_;refine vn ?_;simp only[wq.1,seval,Tryz.results120];refine vn ?_;simp only[wq.1,seval];refine AU k hl.1 (fun t l' h' hw k'=> ?_) (fun x l' h' hw k'=> ?_)
 ·rw[hw]at hok hbad;dsimp only at hok hbad;obtain⟨w1,w2,w3,w4⟩:=uj hl hw;have hW:=Ju t (hl.2 t w3);rw[show AL t=uS t.t from if_pos w4]at hW;obtain⟨B,hB⟩:∃B,B=h'.length:=⟨_,rfl⟩;have hgE:∀x:O,(h'++[x])[B]? =some x:=fun x=>by rw[hB];simp
  have hgS:∀x y:O,(h'++[x]).set B y=h'++[y]:=fun x y=>by rw[hB];simp
  simp only[wq.1,seval,<-hB,hgE,hgS];refine vn ?_;simp only[wq.1,seval,hgE];refine ag.ev hW rfl ?_;simp only[wq.1,seval];refine vn ?_;simp only[wq.1,seval,hgE];refine fK _ _ _ (fun hb=> ?_) (fun hb=> ?_)
  ·have hb:(uS t.t).2=0:=by simpa using hb
   rw[if_pos hb]at hok;simp only[wq.1];refine vm ?_;simp only[wq.1,seval];exact hok _ _ _ rfl (k'.app _)
  ·have hb:¬(uS t.t).2=0:=by simpa using hb
   rw[if_neg hb]at hbad;simp only[wq.1,fB];simp only[XE.seq];exact bU (R:=R) rfl (hbad _ _ _ rfl (k'.app _))
 ·rw[hw]at hbad;simp only[wq.1,fB];simp only[XE.seq];exact bU (R:=R) rfl (hbad _ _ _ rfl k')
theorem Jw{e:Nat}:∀ {f:Nat} {acc:List S} {l l':List Tk} {ns:List S},rJ l->zF e f acc l= .ok (ns,l')->rJ l'/\l'.length<=l.length/\ns.length<=acc.length+l.length
 |0,acc,l,l',ns,h,hm=>by cases hm
 |f+1,acc,l,l',ns,h,hm=>by
  unfold zF at hm;obtain⟨t1,t2,t3,t4⟩:=ve (c:=44) h;split at hm
  ·cases hn:rC e (o7 44 l).2 with
   |error x=>rw[hn]at hm;cases hm
   |ok p=>obtain⟨s,r⟩:=p;rw[hn]at hm;dsimp only at hm;obtain⟨n1,n2⟩:=kU t1 hn;obtain⟨m1,m2,m3⟩:=Jw n1 hm;refine⟨m1,by omega,?_⟩;simp only[zqa,zrk]at m3;omega
  ·cases hn:o8 e 41 l with
   |error x=>rw[hn]at hm;cases hm
   |ok r=>rw[hn]at hm;dsimp only at hm;injection hm with hm;injection hm with h1 h2;subst h1 h2;obtain⟨n1,n2⟩:=kT h hn;exact⟨n1,by omega,by omega⟩
theorem FT[MO]{c0 c1 c2 c3:V}{e:Nat}{l:List Tk}{h:H}(k:PW c0 c1 c2 c3 e h l h)(hl:rJ l){R:AEnd->H->(Nat->Bool)->Prop}(hok:∀ns l' h',nV e l= .ok (ns,l')->PW c0 c1 c2 c3 e h l' h'->R (.ret (aN ns)) h' (fun _=>false))(hbad:∀x l' h',nV e l= .error x->PW c0 c1 c2 c3 e h l' h'->R (.pan (uZ x.1 x.2)) h' (fun _=>false)):ag TE 122 [.lp 3 0] h R:=by
 have hM:=mLx;unfold nV at hok hbad;refine ag.fresh ?_;refine aj Tryz.func122 rfl (by simp[nts]) ?_;refine vn ?_;simp only[wq.1,Nat.reduceLT,Tryz.results122];refine vn ?_;simp only[wq.1,Nat.reduceLT];refine vn ?_;simp only[wq.1,seval];refine mF k hl.1 40 (fun l1 h1 hm k1=> ?_) (fun x l1 h1 hm k1=> ?_)
 rotate_left
 ·rw[hm]at hbad;simp only[wq.1,fB];simp only[XE.seq];exact bU (R:=fun ae h' p=>(∀i,i<h.length->p i=false)/\R ae h' fun _=>false) rfl ⟨fun _ _=>rfl,hbad _ _ _ rfl k1⟩
 rw[hm]at hok hbad;dsimp only at hok hbad;obtain⟨o1,o2⟩:=kT hl hm;simp only[wq.1];refine ai ?_;refine vn ?_;simp only[wq.1,seval];refine yU k1 o1.1 41 fun h2 k2=> ?_;obtain⟨p1,p2,p3,p4⟩:=ve (c:=41) o1;simp only[wq.1];refine bF (b:=(o7 41 l1).1) (by simp only[wq.1,↓reduceIte]) (by simp only[wq.1,↓reduceIte]) (fun hb=> ?_) (fun hb=> ?_)
 ·rw[if_pos hb]at hok;refine vn ?_;simp only[wq.1,Nat.reduceLT];refine Iy (FLe.one 2 (v:=aN []) (by simp only[wq.1,↓reduceIte];exact dJ)) (HLe.refl _) ?_;refine vm ?_;simp only[wq.1,↓reduceIte];exact hok _ _ _ rfl k2
 rw[if_neg (by rw[hb];decide)]at hok hbad;rw[p4 hb]at k2;refine vm ?_;simp only[wq.1];show awp _ _ _ _ _ _ _;refine gV 3 1 (by simp only[wq.1,seval]) ?_;obtain⟨K,eK⟩:∃K,K=h2.length:=⟨_,rfl⟩;have k3:=k2.app [.cells []];have hK0:h.length<=K:=by rw[eK];exact k2.lt
 have hKc:(h2++[O.cells []])[K]? =some (.cells []):=by rw[eK];simp
 rw[<-eK];obtain⟨h3,eh3⟩:∃h3,h3=h2++[O.cells []]:=⟨_,rfl⟩;rw[<-eh3]at k3 hKc ⊢;refine vn ?_;simp only[wq.1,seval];refine nJ k3.self o1 (fun s l4 h4 hn k4'=> ?_) (fun x l4 h4 hn k4'=> ?_)
 rotate_left
 ·have k4:=k3.trans k4';rw[hn]at hbad;simp only[wq.1,fB];simp only[XE.seq];exact bU (R:=fun ae h' p=>(∀i,i<h.length->p i=false)/\R ae h' fun _=>false) rfl ⟨fun _ _=>rfl,hbad _ _ _ rfl k4⟩
 rw[hn]at hok hbad;dsimp only at hok hbad;obtain⟨n1,n2⟩:=kU o1 hn;have l3:=k.l3;have hKl3:K<h3.length:=(zqe hKc).1;have hK4:h4[K]? =some (.cells []):=k4'.k K [] hKl3 (by omega) hKc rfl;have k4:=k3.trans k4';have hK4l:K<h4.length:=(zqe hK4).1;have k5:=(k4.drop hK0).other (.cells [.str s]) hK0;have hK5:((h4.map (O.drop fun x=>x==K)).set K (.cells [.str s]))[K]? =some (.cells [.str s]):=zqt (by simpa using hK4l);have hl1:=hl.1;simp only[wq.1,↓reduceIte,Nat.reduceEqDiff,Nat.reduceLT,Nat.reduceLeDiff,reduceCtorEq,Nat.reduceMul,hK4];refine⟨⟨rfl,by decide⟩,by omega,?_⟩;have n3:(3==K)=false:=by rw[beq_eq_false_iff_ne];omega
 obtain⟨Z,eZ⟩:∃Z,Z=zF e (l4.length+1) [s] l4:=⟨_,rfl⟩;rw[<-eZ]at hok hbad;refine ai ?_;refine aA ?_;refine aC (fun m f h'=>∃acc l' F,m=l'.length/\l'.length<F/\zF e F acc l'=Z/\rJ l'/\acc.length+l'.length<=1000001/\PW c0 c1 c2 c3 e h l' h'/\h'[K]? =some (.cells (acc.map V.str))/\f.t 0= .lp 3 0/\f.t 3= .ls K 1 0 acc.length acc.length/\f.d=[]/\(∀i,i<h.length->f.k i=false)) l4.length ⟨[s],l4,l4.length+1,rfl,by omega,eZ.symm,n1,by simp only[zrk];omega,k5,hK5,by simp only[wq.1,seval,n3],by simp only[wq.1,↓reduceIte],by simp only[wq.1],fun i hi=> ?_⟩ ?_
 ·show(false||(i==K))=false;rw[Bool.false_or,beq_eq_false_iff_ne];omega
 clear hK5 k5 hK4l hK4 k4 k4' hKl3 k3 k2 k1;rintro m f h' ⟨acc,l',F,hm,hF,hZ,hl',hal,k,hKa,t0,t3,hd,hk⟩;refine vn ?_;simp only[wq.1,seval,t0];obtain⟨F,rfl⟩:∃n,F=n+1:=⟨F-1,by omega⟩;rw[zF]at hZ;obtain⟨q1,q2,q3,q4⟩:=ve (c:=44) hl';have hKh:K<h'.length:=(zqe hKa).1;refine yU k.self hl'.1 44 fun h2 k2'=> ?_;have k2:=k.trans k2';have hKa2:=k2'.k K _ hKh (by omega) hKa ax;simp only[wq.1,↓reduceIte];refine vcB.mk (fun hb=> ?_) (fun hb=> ?_)
 ·rw[if_pos hb]at hZ;obtain⟨l2,el2⟩:∃l2,l2=(o7 44 l').2:=⟨_,rfl⟩;have q3:=q3 hb;rw[<-el2]at hZ k2' k2 q1 q2 q3;simp only[wq.1];refine aA ?_;refine vm ?_;simp only[wq.1,seval,t0,t3];refine nJ k2.self q1 (fun s l4 h4 hn k4'=> ?_) (fun x l4 h4 hn k4'=> ?_)
  rotate_left
  ·have k4:=k2.trans k4';rw[hn]at hZ;dsimp only at hZ;subst hZ;simp only[wq.1,fB,hd];simp only[XE.seq,XE.block];exact bU (R:=fun ae h' p=>(∀i,i<h.length->p i=false)/\R ae h' fun _=>false) (by simp only[wq.1,hd]) ⟨fun i hi=>by simp only[wq.1,hk i hi],hbad _ _ _ rfl k4⟩
  have k4:=k2.trans k4';have hKa4:=k4'.k K _ (zqe hKa2).1 (by omega) hKa2 ax;have hK4l:K<h4.length:=(zqe hKa4).1;rw[hn]at hZ;dsimp only at hZ;obtain⟨n1,n2⟩:=kU q1 hn;have k5:=(k4.drop hK0).other (.cells (acc.map V.str++[.str s])) hK0;have hK5:((h4.map (O.drop fun x=>x==K)).set K (.cells (acc.map V.str++[.str s])))[K]? =some (.cells ((acc++[s]).map V.str)):=by rw[zqt (by simpa using hK4l),zql];rfl
  simp only[wq.1,↓reduceIte,Nat.reduceEqDiff,Nat.reduceLT,reduceCtorEq,Nat.reduceMul,hd,hKa4];refine⟨⟨rfl,by decide⟩,⟨by omega,by omega,by omega⟩,?_⟩;refine .inl ⟨l4.length,by omega,acc++[s],l4,F,rfl,by omega,hZ,n1,by simp only[zqa,zrk];omega,k5,hK5,by simp only[wq.1,seval,t0,n3],by simp only[wq.1,↓reduceIte],by simp only[wq.1,hd],fun i hi=> ?_⟩;show(f.k i||(i==K))=false;rw[hk i hi,Bool.false_or,beq_eq_false_iff_ne];omega
 ·rw[if_neg (by rw[hb];decide)]at hZ;rw[q4 hb]at k2;simp only[wq.1];show awp _ _ _ _ _ _ _;refine vn ?_;simp only[wq.1,seval,t0];refine mF k2.self hl'.1 41 (fun l4 h4 hm k4'=> ?_) (fun x l4 h4 hm k4'=> ?_)
  rotate_left
  ·have k4:=k2.trans k4';rw[hm]at hZ;dsimp only at hZ;subst hZ;simp only[wq.1,fB,hd];simp only[XE.seq,XE.block];exact bU (R:=fun ae h' p=>(∀i,i<h.length->p i=false)/\R ae h' fun _=>false) (by simp only[wq.1,hd]) ⟨fun i hi=>by simp only[wq.1,hk i hi],hbad _ _ _ rfl k4⟩
  have k4:=k2.trans k4';have hKa4:=k4'.k K _ (zqe hKa2).1 (by omega) hKa2 ax;rw[hm]at hZ;dsimp only at hZ;subst hZ;simp only[wq.1];refine vn ?_;simp only[wq.1,seval,t3];refine xP K 2 (aN acc) (by simp only[wq.1,↓reduceIte]) (by
   simp only[wq.1,↓reduceIte];refine aV ?_ rfl;rw[gz,hKa4];simp only[Nat.zero_add,beq_self_eq_true,if_true,zrw,O.drop,aJ]) (by simp only[wq.1,hd]) ?_
  refine vm ?_;simp only[wq.1,↓reduceIte,hd];refine⟨fun i hi=> ?_,hok _ _ _ rfl (k4.dropD hK0)⟩;rw[hk i hi,Bool.false_or,beq_eq_false_iff_ne];omega
theorem vU[MO]{c0 c1 c2 c3:V}{e:Nat}{h0:H}{l:List Tk}{h:H}(k:PW c0 c1 c2 c3 e h0 l h)(hl:rJ l){R:AEnd->H->(Nat->Bool)->Prop}(hok:∀ns l' h',nV e l= .ok (ns,l')->PW c0 c1 c2 c3 e h0 l' h'->R (.ret (aN ns)) h' (fun _=>false))(hbad:∀x l' h',nV e l= .error x->PW c0 c1 c2 c3 e h0 l' h'->R (.pan (uZ x.1 x.2)) h' (fun _=>false)):ag TE 122 [.lp 3 0] h R :=
 FT k.self hl (fun ns l' h' a b=>hok ns l' h' a (k.trans b)) (fun x l' h' a b=>hbad x l' h' a (k.trans b))
theorem yV{e:Nat}{l l':List Tk}{ns:List S}(h:rJ l)(hm:nV e l= .ok (ns,l')):rJ l'/\l'.length<l.length/\ns.length<=l.length:=by
 unfold nV at hm;cases h1:o8 e 40 l with
 |error x=>rw[h1]at hm;cases hm
 |ok l1 =>
  rw[h1]at hm;dsimp only at hm;obtain⟨a1,a2⟩:=kT h h1;split at hm
  ·injection hm with hm;injection hm with e1 e2;subst e1 e2;obtain⟨t1,t2,t3,t4⟩:=ve (c:=41) a1;exact⟨t1,by omega,by simp⟩
  ·cases h2:rC e l1 with
   |error x=>rw[h2]at hm;cases hm
   |ok p=>obtain⟨s,r⟩:=p;rw[h2]at hm;dsimp only at hm;obtain⟨b1,b2⟩:=kU a1 h2;obtain⟨m1,m2,m3⟩:=Jw b1 hm;exact⟨m1,by omega,by simp only[zrk]at m3;omega⟩
def laX(q:La):List V:=[.str q.name,.str q.next,vi q.init]
theorem PQ{p:Nat->Bool}(q:La):V.drops p (laX q)=laX q:=rfl
theorem AV{p:Nat->Bool}(l:List La):V.drops p (l.flatMap laX)=l.flatMap laX:=mD PQ l
theorem SV(l:List La):(l.flatMap laX).length=l.length*3:=by
 induction l with
 |nil=>rfl
 |cons g l ih=>rw[List.flatMap_cons,zqa,ih,zrt];show 3+_=_;omega
theorem FU:∀l:List La,V.dats (l.flatMap laX)=true
 |[]=>rfl
 |q::l=>by show(V.dat (.str q.name)&&(V.dat (.str q.next)&&(V.dat (vi q.init)&&V.dats (l.flatMap laX))))=true;rw[FU l];rfl
theorem FV:∀l:List Ga,V.dats (l.flatMap gaX)=true
 |[]=>rfl
 |q::l=>by show(V.dat (.str q.name)&&(V.dat (vi q.op)&&(V.dat (aN q.ins)&&(V.dat (aN q.rows)&&(V.dat (.bool q.off)&&V.dats (l.flatMap gaX))))))=true;rw[FV l];simp only[V.dat,ax,zre]
structure PC(c:Ci)(e:Nat)(l:List Tk)(h:H):Prop where
 p:h[3]? =some (.cells [.ls 4 1 0 c.ins.length c.ins.length,.ls 5 1 0 c.outs.length c.outs.length,.ls 6 3 0 c.lat.length c.lat.length,.ls 7 5 0 c.gates.length c.gates.length,qZ l,vi e])
 i:h[4]? =some (.cells (c.ins.map V.str))
 u:h[5]? =some (.cells (c.outs.map V.str))
 a:h[6]? =some (.cells (c.lat.flatMap laX))
 g:h[7]? =some (.cells (c.gates.flatMap gaX))
def K3(h h':H):Prop:=∀j cs,j<3->h[j]? =some (.cells cs)->V.dats cs=true->h'[j]? =some (.cells cs)
theorem K3.trans{h h1 h2:H}(a:K3 h h1)(b:K3 h1 h2):K3 h h2:=fun j cs hj hc hd=>b j cs hj (a j cs hj hc hd) hd
abbrev PWc(c:Ci)(e:Nat)(h0:H)(l:List Tk)(h:H):Prop:=PW (.ls 4 1 0 c.ins.length c.ins.length) (.ls 5 1 0 c.outs.length c.outs.length) (.ls 6 3 0 c.lat.length c.lat.length) (.ls 7 5 0 c.gates.length c.gates.length) e h0 l h
theorem PC.pw{c:Ci}{e:Nat}{l:List Tk}{h:H}(k:PC c e l h):PWc c e h l h:=by
 have l7:=(zqe k.g).1;refine⟨k.p,fun _ _ _ _ hc _=>hc,zrb _,by omega,fun K hK=> ?_⟩;have n4:(4==K)=false:=by rw[beq_eq_false_iff_ne];omega
 have n5:(5==K)=false:=by rw[beq_eq_false_iff_ne];omega
 have n6:(6==K)=false:=by rw[beq_eq_false_iff_ne];omega
 have n7:(7==K)=false:=by rw[beq_eq_false_iff_ne];omega
 simp only[V.drop,n4,n5,n6,n7,zrm,if_false,and_self]
theorem PC.of{c:Ci}{e:Nat}{l l':List Tk}{h h':H}(k:PC c e l h)(w:PWc c e h l' h'):PC c e l' h'/\K3 h h':=by have l7:=(zqe k.g).1;exact⟨⟨w.p,w.k 4 _ (by omega) (by decide) k.i ax,w.k 5 _ (by omega) (by decide) k.u ax,w.k 6 _ (by omega) (by decide) k.a (FU _),w.k 7 _ (by omega) (by decide) k.g (FV _)⟩,fun j cs hj hc hd=>w.k j cs (by omega) (by omega) hc hd⟩
abbrev x47:Nat->Bool:=fun i=>i==4||i==5||i==6||i==7
theorem AX:x47 0=false/\x47 1=false/\x47 2=false/\x47 3=false:=⟨rfl,rfl,rfl,rfl⟩
theorem rF{e:E}{g:FuncId}{args:List V}{h:H}{R:AEnd->H->(Nat->Bool)->Prop}(hc:ag e g args h fun ae h' p=>(∀i,i<h.length->p i=true->x47 i=true)/\R ae h' x47):ag e g args h R:=by
 intro ok pl w vs hs hl;refine(hc ok pl w vs hs hl).mono ?_;rintro en w' ⟨p,pl',h',ae,h1,h2,h3,h4,h5⟩;refine⟨x47,pl',h',ae,h1,⟨h2.os,h2.tape,h2.output,h2.size,h2.same,h2.loc,fun i b hp hi=>h2.keep i b ?_ hi,h2.row⟩,h3,h5⟩;cases hpi:p i with
 |false=>rfl
 |true=>rw[h4 i (hs.pl_lt hi) hpi]at hp;cases hp
theorem PC.drop4{c:Ci}{e:Nat}{l:List Tk}{h:H}(k:PC c e l h)(J:Nat):(h.map (O.drop fun j=>j==J))[4]? =some (.cells (c.ins.map V.str))/\(h.map (O.drop fun j=>j==J))[5]? =some (.cells (c.outs.map V.str))/\(h.map (O.drop fun j=>j==J))[6]? =some (.cells (c.lat.flatMap laX))/\(h.map (O.drop fun j=>j==J))[7]? =some (.cells (c.gates.flatMap gaX)):=by
 refine⟨?_,?_,?_,?_⟩
 ·rw[zqo,k.i];show some (O.cells (V.drops _ _))=_;rw[aJ]
 ·rw[zqo,k.u];show some (O.cells (V.drops _ _))=_;rw[aJ]
 ·rw[zqo,k.a];show some (O.cells (V.drops _ _))=_;rw[AV]
 ·rw[zqo,k.g];show some (O.cells (V.drops _ _))=_;rw[jK]
abbrev p4(c:Ci)(l:List Tk)(e n1 n2 n3 n4:Nat):O:= .cells [.ls 4 1 0 n1 n1,.ls 5 1 0 n2 n2,.ls 6 3 0 n3 n3,.ls 7 5 0 n4 n4,qZ l,vi e]
theorem PC.addIn{c:Ci}{e:Nat}{l:List Tk}{h:H}(k:PC c e l h)(s:S):PC {c with ins:=c.ins++[s]} e l (((h.map (O.drop fun j=>j==4)).set 4 (.cells (c.ins.map V.str++[.str s]))).set 3 (p4 c l e (c.ins.length+1) c.outs.length c.lat.length c.gates.length)):=by
 obtain⟨a,b,d,g⟩:=k.drop4 4;have l7:=(zqe k.g).1;refine⟨?_,?_,?_,?_,?_⟩
 ·rw[zqt (by simp;omega),zqa];rfl
 ·rw[zqn (by decide),zqt (by simp;omega),zql];rfl
 ·rw[zqn (by decide),zqn (by decide)];exact b
 ·rw[zqn (by decide),zqn (by decide)];exact d
 ·rw[zqn (by decide),zqn (by decide)];exact g
theorem PC.addOut{c:Ci}{e:Nat}{l:List Tk}{h:H}(k:PC c e l h)(s:S):PC {c with outs:=c.outs++[s]} e l (((h.map (O.drop fun j=>j==5)).set 5 (.cells (c.outs.map V.str++[.str s]))).set 3 (p4 c l e c.ins.length (c.outs.length+1) c.lat.length c.gates.length)):=by
 obtain⟨a,b,d,g⟩:=k.drop4 5;have l7:=(zqe k.g).1;refine⟨?_,?_,?_,?_,?_⟩
 ·rw[zqt (by simp;omega),zqa];rfl
 ·rw[zqn (by decide),zqn (by decide)];exact a
 ·rw[zqn (by decide),zqt (by simp;omega),zql];rfl
 ·rw[zqn (by decide),zqn (by decide)];exact d
 ·rw[zqn (by decide),zqn (by decide)];exact g
theorem PC.addLa{c:Ci}{e:Nat}{l:List Tk}{h:H}(k:PC c e l h)(q:La):PC {c with lat:=c.lat++[q]} e l (((h.map (O.drop fun j=>j==6)).set 6 (.cells (c.lat.flatMap laX++laX q))).set 3 (p4 c l e c.ins.length c.outs.length (c.lat.length+1) c.gates.length)):=by
 obtain⟨a,b,d,g⟩:=k.drop4 6;have l7:=(zqe k.g).1;refine⟨?_,?_,?_,?_,?_⟩
 ·rw[zqt (by simp;omega),zqa];rfl
 ·rw[zqn (by decide),zqn (by decide)];exact a
 ·rw[zqn (by decide),zqn (by decide)];exact b
 ·rw[zqn (by decide),zqt (by simp;omega),List.flatMap_append];simp
 ·rw[zqn (by decide),zqn (by decide)];exact g
theorem PC.addGa{c:Ci}{e:Nat}{l:List Tk}{h:H}(k:PC c e l h)(q:Ga):PC {c with gates:=c.gates++[q]} e l (((h.map (O.drop fun j=>j==7)).set 7 (.cells (c.gates.flatMap gaX++gaX q))).set 3 (p4 c l e c.ins.length c.outs.length c.lat.length (c.gates.length+1))):=by
 obtain⟨a,b,d,g⟩:=k.drop4 7;have l7:=(zqe k.g).1;refine⟨?_,?_,?_,?_,?_⟩
 ·rw[zqt (by simp;omega),zqa];rfl
 ·rw[zqn (by decide),zqn (by decide)];exact a
 ·rw[zqn (by decide),zqn (by decide)];exact b
 ·rw[zqn (by decide),zqn (by decide)];exact d
 ·rw[zqn (by decide),zqt (by simp;omega),List.flatMap_append];simp
theorem K3.add{h h3:H}(k:K3 h h3)(J:Nat)(hJ:3<=J)(o o':O):K3 h (((h3.map (O.drop fun j=>j==J)).set J o).set 3 o'):=fun j cs hj hc hd=>by rw[zqn (by omega),zqn (by omega),zqo,k j cs hj hc hd];show some (O.cells (V.drops _ cs))=_;rw[jE.dats_drops _ hd]
theorem KO[MO]{c:Ci}{e:Nat}{t:Tk}{r:List Tk}{h:H}(k:PC c e (t::r) h)(hl:rJ (t::r))(hci:c.ins.length<=1000000)(hco:c.outs.length<=1000000)(w:S)(out:Bool)(hw:(w==iK)= !out){R:AEnd->H->(Nat->Bool)->Prop}
 (hok:∀c' l' h',zH e c out r= .ok (c',l')->PC c' e l' h'->K3 h h'->R (.ret (.tup [])) h' x47) (hbad:∀x h',zH e c out r= .error x->K3 h h'->R (.pan (uZ x.1 x.2)) h' x47):ag TE 68 [.lp 3 0,.str w] h R:=by
 have hM:=mLx;unfold zH at hok hbad;have w0:=k.pw;have hl':=hl.tail;refine rF ?_;refine aj Tryz.func68 rfl (by simp[nts]) ?_;refine vn ?_;simp only[wq.1,seval,Tryz.results68,k.p];refine⟨by omega,?_⟩;obtain⟨P1,eP1⟩:∃P1:AEnd->H->(Nat->Bool)->Prop,P1=fun ae h' p=>(∀i,i<h.length->p i=true->x47 i=true)/\R ae h' x47:=⟨_,rfl⟩;have hpan:∀(x:Nat×Int) l' h',zH e c out r= .error x->PWc c e h l' h'->P1 (.pan (uZ x.1 x.2)) h' (fun _=>false):=fun x l' h' he hw=>by rw[eP1];exact⟨fun i _ h=>(by cases h),hbad _ _ he (k.of hw).2⟩
 unfold zH at hpan;have w1:=w0.set r;rw[<-eP1];refine vn ?_;simp only[wq.1,seval];refine mF w1 hl'.1 40 (fun l1 h1 hm k1=> ?_) (fun x l1 h1 hm k1=> ?_)
 rotate_left
 ·rw[hm]at hpan;simp only[wq.1,fB];simp only[XE.seq];exact bU (R:=P1) rfl (hpan _ _ _ rfl k1)
 rw[hm]at hok hpan;dsimp only at hok hpan;obtain⟨o1,o2⟩:=kT hl' hm;simp only[wq.1];refine vn ?_;simp only[wq.1,seval];refine nJ k1 o1 (fun s l2 h2 hn k2=> ?_) (fun x l2 h2 hn k2=> ?_)
 rotate_left
 ·rw[hn]at hpan;simp only[wq.1,fB];simp only[XE.seq];exact bU (R:=P1) rfl (hpan _ _ _ rfl k2)
 rw[hn]at hok hpan;dsimp only at hok hpan;obtain⟨q1,q2⟩:=kU o1 hn;simp only[wq.1,seval];refine vn ?_;simp only[wq.1,seval];refine mF k2 q1.1 41 (fun l3 h3 hm3 k3=> ?_) (fun x l3 h3 hm3 k3=> ?_)
 rotate_left
 ·rw[hm3]at hpan;simp only[wq.1,fB];simp only[XE.seq];exact bU (R:=P1) rfl (hpan _ _ _ rfl k3)
 rw[hm3]at hok;dsimp only at hok;obtain⟨kc,kk⟩:=k.of k3;rw[eP1];have lt7:=(zqe kc.g).1;cases out with
 |false =>
  rw[if_neg (by decide)]at hok;have kn:=kc.addIn s;have hw:(w==iK)=true:=hw;have hw':(w==[73,78,80,85,84])=true:=hw;have kp:=kc.p;have ki:=kc.i;have s3:∀X:O,((h3.map (O.drop fun x=>x==4)).set 4 X)[3]? =some (.cells [.any,.ls 5 1 0 c.outs.length c.outs.length,.ls 6 3 0 c.lat.length c.lat.length,.ls 7 5 0 c.gates.length c.gates.length,qZ l3,vi e]):=fun X=>by
   rw[zqn (by decide),zqo,kp];rfl
  simp only[wq.1];refine vn ?_;simp only[wq.1,↓reduceIte,Nat.reduceEqDiff,Nat.reduceLT,Nat.reduceLeDiff,Nat.reduceAdd,hw'];refine vm ?_;simp only[wq.1,↓reduceIte,Nat.reduceEqDiff,Nat.reduceLT,Nat.reduceLeDiff,Nat.reduceAdd,Nat.reduceBEq,reduceCtorEq,Nat.reduceMul,kp,ki,s3];refine⟨⟨rfl,by decide⟩,⟨by omega,by omega,by omega⟩,fun i _ hi=> ?_,hok _ _ _ rfl kn (kk.add 4 (by decide) _ _)⟩;have:i=4:=by simpa using hi
  subst this;rfl
 |true =>
  rw[if_pos rfl]at hok;have kn:=kc.addOut s;have hw:(w==iK)=false:=hw;have hw':(w==[73,78,80,85,84])=false:=hw;have kp:=kc.p;have ki:=kc.u;have s3:∀X:O,((h3.map (O.drop fun x=>x==5)).set 5 X)[3]? =some (.cells [.ls 4 1 0 c.ins.length c.ins.length,.any,.ls 6 3 0 c.lat.length c.lat.length,.ls 7 5 0 c.gates.length c.gates.length,qZ l3,vi e]):=fun X=>by
   rw[zqn (by decide),zqo,kp];rfl
  simp only[wq.1];refine vn ?_;simp only[wq.1,↓reduceIte,Nat.reduceEqDiff,Nat.reduceLT,Nat.reduceLeDiff,Nat.reduceAdd,hw'];refine vm ?_;simp only[wq.1,↓reduceIte,Nat.reduceEqDiff,Nat.reduceLT,Nat.reduceLeDiff,Nat.reduceAdd,Nat.reduceBEq,reduceCtorEq,Nat.reduceMul,kp,ki,s3];refine⟨⟨rfl,by decide⟩,⟨by omega,by omega,by omega⟩,fun i _ hi=> ?_,hok _ _ _ rfl kn (kk.add 5 (by decide) _ _)⟩;have:i=5:=by simpa using hi
  subst this;rfl
theorem yX(s:ByteArray)(c:Int):∀k:Nat,-1<=Lib.lastIdx s c k/\Lib.lastIdx s c k<k
 |0=>by simp[Lib.lastIdx]
 |k+1=>by have:=yX s c k;unfold Lib.lastIdx;split<;>omega
def FW(a b:Int)(s:S):Int×Int:=if s.count 10=0 then(a,b+s.length)else(a+(s.count 10:Nat),s.length-Lib.lastIndexByte ⟨s.toArray⟩ 10)
def Uh:Plan:=tkZ [0,2,4,6]<| .alt 1 (.alt 3 (.alt 5 (onZ [7,8,9,10]<| .fin) (.one 7 (onZ [5,8,9,10]<| .fin))) (.alt 5 (.alt 3 (onZ [7,8,9,10]<| .fin) (.one 7 (.alt 3 (onZ [8,9,10]<| .fin) (.one 8 (onZ [3,9,10]<| .fin))))) (.one 7 (.alt 3 (onZ [5,8,9,10]<| .fin) (.one 5 (.alt 3 (onZ [8,9,10]<| .fin) (.one 8 (onZ [3,9,10]<| .fin)))))))) (.alt 5 (.alt 1 (.alt 3 (onZ [7,8,9,10]<| .fin) (.one 7 (.alt 3 (onZ [8,9,10]<| .fin) (.one 8 (onZ [3,9,10]<| .fin))))) (.one 7 (.alt 1 (.alt 3 (onZ [8,9,10]<| .fin) (.one 8 (onZ [3,9,10]<| .fin))) (.one 8 (onZ [1,3,9,10]<| .fin))))) (.one 7 (.alt 1 (.alt 3 (onZ [5,8,9,10]<| .fin) (.one 5 (.alt 3 (onZ [8,9,10]<| .fin) (.one 8 (onZ [3,9,10]<| .fin))))) (.one 5 (.alt 1 (.alt 3 (onZ [8,9,10]<| .fin) (.one 8 (onZ [3,9,10]<| .fin))) (.one 8 (onZ [1,3,9,10]<| .fin)))))))
theorem SX[MO](a b:Int)(s:S)(ha:0<=a/\a<=1000000000)(hb:0<=b/\b<=1000000000)(hs:s.length<=1000000000):Ev TE 117 [.agg [vi a,vi b],.str s] (.agg [vi (FW a b s).1,vi (FW a b s).2]):=by
 have hc:s.count 10<=s.length:=List.count_le_length;have hl:=yX ⟨s.toArray⟩ 10 s.length;have hl':Lib.lastIndexByte ⟨s.toArray⟩ 10=Lib.lastIdx ⟨s.toArray⟩ 10 s.length:=rfl;refine ak Tryz.func117 rfl (by simp[nts]) ?_;refine vn ?_;simp only[wq.1,Nat.reduceLT,Tryz.results117];refine vn ?_;simp only[wq.1,seval];refine ag.ev (NI s 10) rfl ?_;simp only[wq.1,seval];refine vn ?_;simp only[wq.1,↓reduceIte,Nat.reduceLT];refine vcB.mk (fun h0=> ?_) (fun h0=> ?_)
 ·have h0:s.count 10=0:=by simpa using h0
  have w1:IntKind.i64.wrap (b+(s.length:Int))=b+s.length:=iL (by omega) (by omega);simp only[wq.1,↓reduceIte,Nat.reduceEqDiff,Nat.reduceLT,Nat.reduceLeDiff,Nat.reduceAdd,Int.reduceToNat,Int.reduceLE,reduceCtorEq,Nat.reduceMul,w1];unfold FW;rw[if_pos h0];exact⟨by decide,by decide,aG.dat rfl⟩
 ·have h0:s.count 10≠0:=by simpa using h0
  have w1:IntKind.i64.wrap (a+((s.count 10:Nat):Int))=a+(s.count 10:Nat):=iL (by omega) (by omega);have w2:IntKind.i64.wrap ((s.length:Int)-Lib.lastIndexByte ⟨s.toArray⟩ 10)=s.length-Lib.lastIndexByte ⟨s.toArray⟩ 10:=iL (by omega) (by omega);simp only[wq.1];refine ai ?_;refine dW mixed Uh (fun f' h'=>f'.t 4= .lp 1 0/\f'.d=[]/\h'=[.cells [vi a,vi b],.cells [vi (a+(s.count 10:Nat)),vi (s.length-Lib.lastIndexByte ⟨s.toArray⟩ 10)]]) (by rw[TEP];decide +kernel) (by decide +kernel) ?_ ?_
  ·have hten:((10:UInt8).toNat:Int)=10:=rfl;simp only[wq.1,seval,Uh]
   repeat' apply zsa
   all_goals try(first|decide|rfl)
   all_goals (refine ag.ev (Q4 s 10 hs) rfl ?_)
   all_goals (simp only[wq.1,seval,w1,w2,hten])
   all_goals trace_state
  ·rintro f h ⟨h4,hd,rfl⟩;simp only[wq.1];refine vm ?_;simp only[wq.1,seval,h4,hd];unfold FW;rw[if_neg h0];exact aG.dat rfl
theorem mx(a b:Int):LC [vi a,vi b]=(True,vi (max a b)):=by simp only[LC,Int.max_def];split<;>split<;>first|rfl|(congr 2;omega)
theorem mn(a b:Int):JG [vi a,vi b]=(True,vi (min a b)):=by simp only[JG,Int.min_def];split<;>split<;>first|rfl|(congr 2;omega)
def pF(s:S)(a:Int):Int×Int:=FW 1 1 (s.take (min (max a 0) (s.length:Int)).toNat)
def PR:Plan:= .take 0<| .take 2<| .alt 1 (.take 4<| .one 3<| .take 5<| .fin) (.one 3 (.one 1<| .take 4<| .take 5<| .fin))
def Ui:Plan:=tkZ [1,2,4]<| .alt 0 (.alt 3 (.alt 5 (.alt 6 (.take 7<| .alt 8 (.one 9<| .one 10<| .fin) (.one 9 (.one 8<| .one 10<| .fin))) (.one 9 (.one 6<| .take 7<| .one 8<| .one 10<| .fin))) (.one 9 (.one 5<| .one 6<| .take 7<| .one 8<| .one 10<| .fin))) (.alt 5 (.alt 3 (.alt 6 (.take 7<| .alt 8 (.one 9<| .one 10<| .fin) (.one 9 (.one 8<| .one 10<| .fin))) (.one 9 (.one 6<| .take 7<| .one 8<| .one 10<| .fin))) (.one 9 (.one 3<| .one 6<| .take 7<| .one 8<| .one 10<| .fin))) (.one 9 (.alt 3 (.one 5<| .one 6<| .take 7<| .one 8<| .one 10<| .fin) (.one 5 (.one 3<| .one 6<| .take 7<| .one 8<| .one 10<| .fin)))))) (.alt 3 (.alt 0 (.alt 5 (.alt 6 (.take 7<| .alt 8 (.one 9<| .one 10<| .fin) (.one 9 (.one 8<| .one 10<| .fin))) (.one 9 (.one 6<| .take 7<| .one 8<| .one 10<| .fin))) (.one 9 (.one 5<| .one 6<| .take 7<| .one 8<| .one 10<| .fin))) (.alt 5 (.alt 0 (.alt 6 (.take 7<| .alt 8 (.one 9<| .one 10<| .fin) (.one 9 (.one 8<| .one 10<| .fin))) (.one 9 (.one 6<| .take 7<| .one 8<| .one 10<| .fin))) (.alt 6 (.take 7<| .alt 0 (.alt 8 (.one 9<| .one 10<| .fin) (.one 9 (.one 8<| .one 10<| .fin))) (.one 9 (onZ [0,8,10]<| .fin))) (.one 9 (.alt 0 (.one 6<| .take 7<| .one 8<| .one 10<| .fin) (.one 6 (.take 7<|onZ [0,8,10]<| .fin)))))) (.one 9 (.alt 0 (.one 5<| .one 6<| .take 7<| .one 8<| .one 10<| .fin) (.one 5 (.alt 0 (.one 6<| .take 7<| .one 8<| .one 10<| .fin) (.one 6 (.take 7<|onZ [0,8,10]<| .fin)))))))) (.alt 5 (.alt 0 (.alt 3 (.alt 6 (.take 7<| .alt 8 (.one 9<| .one 10<| .fin) (.one 9 (.one 8<| .one 10<| .fin))) (.one 9 (.one 6<| .take 7<| .one 8<| .one 10<| .fin))) (.one 9 (.one 3<| .one 6<| .take 7<| .one 8<| .one 10<| .fin))) (.alt 3 (.alt 0 (.alt 6 (.take 7<| .alt 8 (.one 9<| .one 10<| .fin) (.one 9 (.one 8<| .one 10<| .fin))) (.one 9 (.one 6<| .take 7<| .one 8<| .one 10<| .fin))) (.alt 6 (.take 7<| .alt 0 (.alt 8 (.one 9<| .one 10<| .fin) (.one 9 (.one 8<| .one 10<| .fin))) (.one 9 (onZ [0,8,10]<| .fin))) (.one 9 (.alt 0 (.one 6<| .take 7<| .one 8<| .one 10<| .fin) (.one 6 (.take 7<|onZ [0,8,10]<| .fin)))))) (.one 9 (.alt 0 (.one 3<| .one 6<| .take 7<| .one 8<| .one 10<| .fin) (.one 3 (.alt 0 (.one 6<| .take 7<| .one 8<| .one 10<| .fin) (.one 6 (.take 7<|onZ [0,8,10]<| .fin)))))))) (.one 9 (.alt 0 (.alt 3 (.one 5<| .one 6<| .take 7<| .one 8<| .one 10<| .fin) (.one 5 (.one 3<| .one 6<| .take 7<| .one 8<| .one 10<| .fin))) (.alt 3 (.alt 0 (.one 5<| .one 6<| .take 7<| .one 8<| .one 10<| .fin) (.one 5 (.alt 0 (.one 6<| .take 7<| .one 8<| .one 10<| .fin) (.one 6 (.take 7<|onZ [0,8,10]<| .fin))))) (.one 5 (.alt 0 (.one 3<| .one 6<| .take 7<| .one 8<| .one 10<| .fin) (.one 3 (.alt 0 (.one 6<| .take 7<| .one 8<| .one 10<| .fin) (.one 6 (.take 7<|onZ [0,8,10]<| .fin)))))))))))
theorem PS[MO](s:S)(a:Int)(hs:s.length<=1000000000):Ev TE 66 [.str s,vi a] (.tup [vi (pF s a).1,vi (pF s a).2]):=by
 refine ak Tryz.func66 rfl (by simp[nts]) ?_;refine vn ?_;simp only[wq.1,Nat.reduceLT,Tryz.results66];refine vn ?_;refine dW mixed Ui (fun f' h'=>f'.t 6= .lp 0 0/\f'.d=[]/\h'=[.cells [vi (pF s a).1,vi (pF s a).2]]) (by rw[TEP];decide +kernel) (by decide +kernel) ?_ ?_
 ·have hm:0<=min (max a 0) (s.length:Int)/\min (max a 0) (s.length:Int)<=s.length:=by omega
  have hov:=SX 1 1 (s.take (min (max a 0) (s.length:Int)).toNat) (by decide) (by decide) (by rw[zrl];omega);simp only[wq.1,seval,Ui,gl0,iQ,mx,mn]
  repeat' apply zsa
  all_goals try omega
  all_goals (refine ag.ev hov rfl ?_)
  all_goals (simp only[wq.1,↓reduceIte,Nat.reduceEqDiff,Nat.reduceLT,Nat.reduceAdd])
  all_goals rfl
 ·rintro f h ⟨h6,hd,rfl⟩;refine ai ?_;refine dW mixed PR (fun f' h'=>f'.t 4=vi (pF s a).1/\f'.t 5=vi (pF s a).2/\f'.d=[]) (by rw[TEP];decide +kernel) (by decide +kernel) ?_ ?_
  ·simp only[wq.1,↓reduceIte,Nat.reduceEqDiff,Nat.reduceLT,Nat.reduceLeDiff,Nat.reduceAdd,Int.reduceToNat,Int.reduceLE,Nat.reduceMul,PR,h6,hd];exact⟨by decide,by decide⟩
  ·rintro f h ⟨h4,h5,hd⟩;simp only[wq.1];refine vm ?_;simp only[wq.1,h4,h5,hd];exact aG.dat rfl
def kF(s:S)(a e:Int):V:=if e=0 then .agg [vi 0,vi 0,vi 0]else .agg [vi e,vi (pF s a).1,vi (pF s a).2]
theorem SY[MO](s:S)(a e:Int)(hs:s.length<=1000000000):Ev TE 27 [.str s,vi a,vi e] (kF s a e):=by
 unfold kF;refine ak Tryz.func27 rfl (by simp[nts]) (vm ?_);simp only[wq.1,seval,Tryz.results27];refine vcB.mk (fun hc=> ?_) (fun hc=> ?_)
 ·have hc:e=0:=by simpa using hc
  simp only[wq.1,seval];rw[if_pos hc];exact aG.dat rfl
 ·have hc:e≠0:=by simpa using hc
  simp only[wq.1,seval];refine ag.ev (PS s a hs) rfl ?_;simp only[wq.1,seval];rw[if_neg hc];exact aG.dat rfl
theorem Dj:Ik P 30 [.i64,.i64,.i64]:=by
 refine⟨by kernel_rfl,fun w xs ys hx hy=> ?_⟩
 match xs,hx with
 |[a,b,c],_ =>
 match ys,hy with
 |[a',b',c'],_ =>
 have p0:∀(x y z:Value),(part 28 #[x,y,z] 0).run P w= .ok x w:=fun x y z=>jD Tryz.underlying28 (by simp);have p1:∀(x y z:Value),(part 3 #[x,y,z] 1).run P w= .ok y w:=fun x y z=>jD Tryz.underlying3 (by simp);have p2:∀(x y z:Value),(part 3 #[x,y,z] 2).run P w= .ok z w:=fun x y z=>jD Tryz.underlying3 (by simp);have hso:P.stoodInHeld 30=false:=by kernel_rfl
 show(Op.equalIn 10000 30 (.agg #[.int .i64 a,.int .i64 b,.int .i64 c]) (.agg #[.int .i64 a',.int .i64 b',.int .i64 c'])).run P w= .ok ([a,b,c]==[a',b',c']) w;rw[Op.equalIn];have e31:=oq (P:=P) (w:=w) Tryz.underlying28 9998;have e3:=oq (P:=P) (w:=w) Tryz.underlying3 9998;simp only[Sem.run_bind,run_underlying Tryz.underlying30,Result.andThen];by_cases ha:a=a'
 ·subst ha;by_cases hb:b=b'
  ·subst hb;by_cases hc:c=c'
   ·subst hc;simp[hso,p0,p1,p2,e31,e3,Sem.run_bind,Result.andThen]
   ·have hc':(c==c')=false:=by simpa using hc
    simp[hso,p0,p1,p2,e31,e3,Sem.run_bind,Result.andThen,hc',hc]
  ·have hb':(b==b')=false:=by simpa using hb
   simp[hso,p0,p1,p2,e31,e3,Sem.run_bind,Result.andThen,hb',hb]
 ·have ha':(a==a')=false:=by simpa using ha
  simp[hso,p0,p1,p2,e31,e3,Sem.run_bind,Result.andThen,ha',ha]
end Go.Proofs.YthaijohbpdabfaaGreatDoor
