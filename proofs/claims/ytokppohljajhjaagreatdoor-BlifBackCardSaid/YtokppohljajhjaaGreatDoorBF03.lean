/- Lemmas for this claim, part F03: each holds under what it names. -/
import Derived.Test.YtokppohljajhjaaGreatDoorBF02
import Derived.Test.YtokppohljajhjaaGreatDoorBA9
import Derived.Test.YtokppohljajhjaaGreatDoorBA8
import Derived.Test.YtokppohljajhjaaGreatDoorBA10
set_option linter.all false
set_option maxRecDepth 20000
set_option maxHeartbeats 4000000
namespace Go.Proofs.YtokppohljajhjaaGreatDoor
open Go Go.Proofs Go.Abs
abbrev tkF(t:Tk):List V:=[vi t.k,.str t.t,vi t.at']
def tkC(l:List Tk):List V:=l.flatMap tkF
theorem zt(l:List Tk)(t:Tk):tkC (l++[t])=tkC l++tkF t:=by simp[tkC]
theorem Em(l:List Tk):(tkC l).length=l.length*3:=by
 induction l with
 |nil=>rfl
 |cons t l ih=>show(_::_::_::tkC l).length=_;simp only[zrt,ih];omega
theorem lq{p:Nat->Bool}:∀l:List Tk,V.drops p (tkC l)=tkC l
 |[]=>rfl
 |t::l=>by show V.drop p (vi t.k)::V.drop p (.str t.t)::V.drop p (vi t.at')::V.drops p (tkC l)=_;rw[lq l];rfl
theorem FM:∀l:List Tk,V.dats (tkC l)=true
 |[]=>rfl
 |t::l=>by show(V.dat (vi t.k)&&(V.dat (.str t.t)&&(V.dat (vi t.at')&&V.dats (tkC l))))=true;rw[FM l];rfl
theorem PO:∀l:List Tk,dL 3 (l.map Tk.v)=true
 |[]=>rfl
 |t::l=>by show(_&&dL 3 (l.map Tk.v))=true;rw[PO l];rfl
theorem TG:∀l:List Tk,(l.map Tk.v).flatMap V.vc=tkC l
 |[]=>rfl
 |t::l=>by show V.vc (Tk.v t)++(l.map Tk.v).flatMap V.vc=_;rw[TG l];rfl
theorem BM[MO]{h:H}{id len cap:Nat}{l:List Tk}(hc:h[id]? =some (.cells (tkC l)))(hl:len=l.length):aG TE h (.ls id 3 0 len cap) (iM l) :=
 aG.ls hc (ay.dat (FM l)) (PO l) (TG l) (by rw[zra];exact hl)
theorem N8 [MO] {h : H} {d : List Deferred} : SV { TE with tl := d } h 135 (.agg []) "patchbay/token.read" 197 (.agg []) := by
 intro ok pl w x hs hx;have hx':=hx;simp only[VRel,VList]at hx;obtain⟨cs,rfl,hcs⟩:=hx;have:cs=#[]:=by cases cs;simp at hcs;rw[hcs]
 subst this;exact⟨_,by kernel_rfl,hx'⟩
theorem Kr[MO]{h:H}{K:H->(Nat->Bool)->Prop}(hK:∀X,K (h++[X]) (fun _=>false)):iU TE 111 [.lp 0 0,.lp 1 0,.lp 2 0] h K:=by
 have hgE:∀x:O,(h++[x])[h.length]? =some x:=fun x=>by simp
 have hgS:∀x y:O,(h++[x]).set h.length y=h++[y]:=fun x y=>by simp
 refine kH rfl Tryz.func111 rfl rfl (by simp[nts]) rfl (fun ev w=>rfl) rfl (by decide) ?_;simp only[nts];refine gK rfl rfl ?_;refine jJ (x:= .tmp 6) (t:=191) (q:=⟨.struct [(0,3)],1,8,.agg [vi 0]⟩) rfl (by simp only[wq.1]) (by simp only[wq.1,↓reduceIte]) (by simp only[wq.1,↓reduceIte]) ?_;refine ax rfl rfl ?_;simp only[wq.1,↓reduceIte];refine ax rfl rfl ?_;simp only[wq.1,seval];refine ax rfl rfl ?_;simp only[wq.1,seval];refine ax rfl rfl ?_;simp only[wq.1];refine ax rfl rfl ?_;simp only[wq.1,seval,hgE,hgS];refine ax rfl rfl ?_;simp only[wq.1,seval];refine fE ?_;show awp _ _ _ _ _ _ _;refine vm ?_;simp only[wq.1,seval];exact hK _
theorem N9{p:Nat}{c:UInt8}{r:S}:1<=(oL p (c::r)).2/\(oL p (c::r)).2<=(c::r).length:=by
 have hw:∀q:UInt8->Bool,q c=true->1<=BK q (c::r)/\BK q (c::r)<=(c::r).length:=fun q hq=>by unfold BK;refine⟨by rw[List.takeWhile_cons,if_pos hq];simp,(List.takeWhile_sublist _).length_le⟩
 rw[oL];by_cases h1:c=35
 ·rw[if_pos h1];exact hw _ (by rw[h1];decide)
 rw[if_neg h1];by_cases h2:c=92/\r.head? =some 10
 ·rw[if_pos h2];refine⟨by show 1<=2;omega,?_⟩;cases r with
  |nil=>exact absurd h2.2 (by simp)
  |cons d r=>show 2<=_;simp only[zrt];omega
 rw[if_neg h2];by_cases h3:oV c=true
 ·rw[if_pos h3];exact⟨zrb 1,by show 1<=_;simp only[zrt];omega⟩
 rw[if_neg h3];by_cases h4:c=10
 ·rw[if_pos h4];exact⟨zrb 1,by show 1<=_;simp only[zrt];omega⟩
 rw[if_neg h4];by_cases h5:c=92
 ·rw[if_pos h5];exact⟨zrb 1,by show 1<=_;simp only[zrt];omega⟩
 rw[if_neg h5];refine hw _ ?_;unfold gG;simp at h3;simp[h1,h3,h4,h5]
theorem Ht[MO](s:S)(hs:s.length<=1000000):ag TE 72 [.iface 135 (.agg []),.str s] [] (fun ae h' _=>ae= .ret (.tup [.ls 3 3 0 (tkB s.length 0 s).length (tkB s.length 0 s).length,vi 0,vi 0])/\∃x0 X,h'=[x0,.cells [vi 0],.cells [vi 0],.cells (tkC (tkB s.length 0 s))]++X):=by
 have hM:=mLx;refine kF rfl Tryz.func72 rfl (by simp[nts]) fun ok pl0 w0=> ?_;simp only[nts];refine y7 (Q:=fun _ _ _=>False) ?_ (fun _ _ _ h=>by obtain⟨_,_,_,_,_,_,h⟩:=h;exact h.elim);refine vm ?_;simp only[wq.1,seval];refine vJ rfl (fn:=Tryz.f72) (q:=111) (caps:=[.lp 0 0,.lp 1 0,.lp 2 0]) (fx:= .tmp 10) rfl rfl (by simp only[wq.1,seval]) rfl rfl rfl rfl (by simp only[wq.1,seval]) (by simp only[wq.1,seval]) (by simp only[wq.1]) rfl fun dd=> ?_;simp only[nts];obtain⟨ee,hee⟩:∃ee:E,ee={TE with tl:=[dd]}:=⟨_,rfl⟩;have hP:ee.P=P:=by rw[hee];rfl
 have hmix:ee.P.follows .mixedOrders=true:=by rw[hP];exact mixed
 have hT:∀ {g:FuncId} {args:List V} {h:H} {R:AEnd->H->(Nat->Bool)->Prop},ag TE g args h R->ag ee g args h R:=fun hc=>by rw[hee];exact hc.tl _
 rw[<-hee];obtain⟨QP,eQP⟩:∃QP:XE->Fr->H->Prop,QP=fun xe f' h'=>f'.d=[]/\V.drops f'.k [V.lp 0 0,V.lp 1 0,V.lp 2 0]=[V.lp 0 0,V.lp 1 0,V.lp 2 0]/\(match xe with
  | .pan v=>jH TE 111 [V.lp 0 0,V.lp 1 0,V.lp 2 0] v h' fun h'' p=>lX TE.P Tryz.f72.results.toList (fun v h k=>AEnd.ret v= .ret (.tup [.ls 3 3 0 (tkB s.length 0 s).length (tkB s.length 0 s).length,vi 0,vi 0])/\∃x0 X,h=[x0,.cells [vi 0],.cells [vi 0],.cells (tkC (tkB s.length 0 s))]++X) (f'.drop p) h''
  | .ret=>iU TE 111 [V.lp 0 0,V.lp 1 0,V.lp 2 0] h' fun h'' p=>lX TE.P Tryz.f72.results.toList (fun v h k=>AEnd.ret v= .ret (.tup [.ls 3 3 0 (tkB s.length 0 s).length (tkB s.length 0 s).length,vi 0,vi 0])/\∃x0 X,h=[x0,.cells [vi 0],.cells [vi 0],.cells (tkC (tkB s.length 0 s))]++X) (f'.drop p) h''
  |_=>False):=⟨_,rfl⟩
 refine bi (Q:=QP) (fun xe f' h' hq=>by rw[eQP]at hq;exact hq) ?_;have hkd:∀ {k:Nat->Bool},(∀j,j<3->k j=false)->V.drops k [V.lp 0 0,V.lp 1 0,V.lp 2 0]=[V.lp 0 0,V.lp 1 0,V.lp 2 0]:=fun {k} h=>by
  have z0:=h 0 (by decide);have z1:=h 1 (by decide);have z2:=h 2 (by decide);simp only[V.drops,V.drop,z0,z1,z2,if_false,zrm]
 obtain⟨hA,ehA⟩:∃hA:List Tk->H,hA=fun L=>[.cells [.ls 3 3 0 L.length L.length],.cells [vi 0],.cells [vi 0],.cells (tkC L)]:=⟨_,rfl⟩;have hret:∀ {f':Fr} {L:List Tk} {X:H},tkB s.length 0 s=L->f'.d=[]->(∀j,j<3->f'.k j=false)->f'.t 4= .lp 0 0->f'.t 5= .lp 1 0->f'.t 6= .lp 2 0->QP .ret f' (hA L++X):=by intro f' L X hp hd hk t4 t5 t6;rw[eQP,ehA];refine⟨hd,hkd hk,?_⟩;refine Kr fun Y=> ?_;rw[hp];simp only[Tryz.results72,nts];simp only[wq.1,↓reduceIte,hd,t4,t5,t6];exact⟨_,_,rfl⟩
 refine ak (bT hmix _ _ _ _ ?_);simp only[wq.1,seval,hP];refine iw ?_;refine jF (h':=hA []) (by rw[ehA];exact HLe.set (i:=0) (o':= .cells [.ls 3 3 0 0 0]) rfl (OLe.cells (by simp) (gJ.cons dX gJ.nil))) ?_;refine aN (fun mm f h'=>∃(a n:Nat)(L:List Tk)(X:H),mm+a=s.length/\a<=s.length/\s.length-a<=n/\L.length<=a/\tkB s.length 0 s=L++tkB n a (s.drop a)/\f.t 0= .iface 135 (.agg [])/\f.t 1= .str s/\f.t 4= .lp 0 0/\f.t 5= .lp 1 0/\f.t 6= .lp 2 0/\f.t 7=vi a/\f.d=[]/\(∀j,j<3->f.k j=false)/\h'=hA L++X) s.length ⟨0,s.length,[],[],rfl,by omega,by omega,by simp,rfl,by simp only[wq.1,seval],by simp only[wq.1,seval],by simp only[wq.1,seval],by simp only[wq.1,seval],by simp only[wq.1,seval],by simp only[wq.1,↓reduceIte];rfl,rfl,fun j hj=>rfl,by rw[zqp]⟩ ?_;rintro mm f h' ⟨a,n,L,X,hmm,hal,hn,hLa,htk,t0,t1,t4,t5,t6,t7,hd,hk,rfl⟩;have hAl:(hA L).length=4:=by rw[ehA];rfl
 refine dY (by rw[hd];simp) ?_;rw[show(hA L).map (O.drop (Abs.eQ (hA L).length))=hA L by
  rw[hAl,ehA];simp only[zrd,List.map_nil,O.drop,lq];rfl]
 rw[hAl];have hdk:∀v:V,v.drop (Abs.eQ 4)=v->v.drop (Abs.eQ 4)=v:=fun _ h=>h;obtain⟨f',hf'⟩:∃f',f'=f.drop (Abs.eQ 4):=⟨_,rfl⟩;have u0:f'.t 0= .iface 135 (.agg []):=by rw[hf'];show(f.t 0).drop _=_;rw[t0];rfl
 have u1:f'.t 1= .str s:=by rw[hf'];show(f.t 1).drop _=_;rw[t1];rfl
 have u4:f'.t 4= .lp 0 0:=by rw[hf'];show(f.t 4).drop _=_;rw[t4];rfl
 have u5:f'.t 5= .lp 1 0:=by rw[hf'];show(f.t 5).drop _=_;rw[t5];rfl
 have u6:f'.t 6= .lp 2 0:=by rw[hf'];show(f.t 6).drop _=_;rw[t6];rfl
 have u7:f'.t 7=vi a:=by rw[hf'];show(f.t 7).drop _=_;rw[t7];rfl
 have ud:f'.d=[]:=by rw[hf'];exact hd
 have uk:∀j,j<3->f'.k j=false:=fun j hj=>by rw[hf'];show(f.k j||Abs.eQ 4 j)=false;rw[hk j hj];simp[Abs.eQ];omega
 rw[<-hf'];clear hf' hd hk t0 t1 t4 t5 t6 t7 X;refine ak (bT hmix _ _ _ _ ?_);simp only[wq.1,seval,hP,u1,u7];refine vcB.mk (fun hlt=> ?_) (fun hlt=> ?_)
 ·have hlt:a<s.length:=by have:=zqs hlt;omega
  obtain⟨c,r,hcr⟩:∃c r,s.drop a=c::r:=by
   cases hd:s.drop a with
   |nil=>have:=congrArg List.length hd;simp at this;omega
   |cons c r=>exact⟨c,r,rfl⟩
  have hrd:=QI s a c r hcr (by omega);obtain⟨n,rfl⟩:∃m,n=m+1:=⟨n-1,by omega⟩;rw[hcr,FK]at htk;obtain⟨l1,l2⟩:=N9 (p:=a) (c:=c) (r:=r);have hcl:(c::r).length=s.length-a:=by rw[<-hcr,List.length_drop]
  obtain⟨o,m,hom⟩:∃o m,oL a (c::r)=(o,m):=⟨_,_,rfl⟩;rw[hom]at hrd htk l1 l2;dsimp only at hrd htk l1 l2;have hdd:(c::r).drop m=s.drop (a+m):=by rw[<-hcr,List.drop_drop]
  rw[hdd]at htk;have w1:IntKind.i64.wrap ((a:Int)+m)=((a+m:Nat):Int):=by rw[iy (by omega) (by omega)];omega
  have dF:∀q,V.drops q (tkC L)=tkC L:=fun q=>lq L;have hfl:=Em L;rw[ehA];refine aB ?_;refine ak (bT hmix _ _ _ _ ?_);simp only[wq.1,seval,hP,u0,u1,u7];refine bV rfl (t:=135) (v:= .agg []) (v':= .agg []) (g:=197) (by simp only[wq.1,seval]) (by simp only[wq.1,seval,dB,iT]) (by rw[hee];exact N8) (by simp only[wq.1,hP]) ?_;simp only[wq.1,seval];refine hT (ag.ev hrd rfl ?_);cases o with
  |none=>simp only[wq.1,seval,hP];refine bT hmix _ _ _ _ ?_;simp only[wq.1,seval,hP,u7,w1];exact .inl ⟨mm-m,by omega,a+m,n,L,[O.cells [vi (-1),.str [],vi 0]],by omega,by omega,by omega,by omega,htk,by simp only[wq.1,seval,u0],by simp only[wq.1,seval,u1],by simp only[wq.1,seval,u4],by simp only[wq.1,seval,u5],by simp only[wq.1,seval,u6],by simp only[wq.1,seval],by simp only[wq.1,Int.reduceNeg,ud],fun j hj=>by simp only[wq.1,Int.reduceNeg,uk j hj],rfl⟩
  |some t =>
   simp only[wq.1,seval,hP];have hk0:decide ((0:Int)<=(t.k:Int))=true:=by simp
   refine bT hmix _ _ _ _ ?_;simp only[wq.1,↓reduceIte,Nat.reduceEqDiff,Nat.reduceLT,Nat.reduceLeDiff,Nat.reduceAdd,Nat.reduceBEq,reduceCtorEq,Nat.reduceMul,hP,u4,u7,ud,w1,hk0,dF,hfl];refine⟨⟨rfl,by decide⟩,rfl,⟨rfl,by omega,by omega⟩,.inl ⟨mm-m,by omega,a+m,n,L++[t],[O.cells (tkF t)],by omega,by omega,by omega,by simp;omega,by rw[htk];simp,by simp only[wq.1,↓reduceIte,Nat.reduceEqDiff,Nat.reduceLT,Nat.reduceLeDiff,Nat.reduceAdd,Nat.reduceSub,Int.reduceToNat,Nat.reduceDiv,Int.reduceLT,Int.reduceLE,Int.reduceNeg,Int.reduceBEq,Int.reduceBNe,Int.reduceAdd,Int.reduceSub,Nat.reduceBEq,reduceCtorEq,Nat.reduceMul,aj,Tryz.results72,u0],by simp only[wq.1,↓reduceIte,Nat.reduceEqDiff,Nat.reduceLT,Nat.reduceLeDiff,Nat.reduceAdd,Nat.reduceSub,Int.reduceToNat,Nat.reduceDiv,Int.reduceLT,Int.reduceLE,Int.reduceNeg,Int.reduceBEq,Int.reduceBNe,Int.reduceAdd,Int.reduceSub,Nat.reduceBEq,reduceCtorEq,Nat.reduceMul,aj,Tryz.results72,u1],by simp only[wq.1,↓reduceIte,Nat.reduceEqDiff,Nat.reduceLT,Nat.reduceLeDiff,Nat.reduceAdd,Nat.reduceSub,Int.reduceToNat,Nat.reduceDiv,Int.reduceLT,Int.reduceLE,Int.reduceNeg,Int.reduceBEq,Int.reduceBNe,Int.reduceAdd,Int.reduceSub,Nat.reduceBEq,reduceCtorEq,Nat.reduceMul,aj,Tryz.results72,u4],by simp only[wq.1,↓reduceIte,Nat.reduceEqDiff,Nat.reduceLT,Nat.reduceLeDiff,Nat.reduceAdd,Nat.reduceSub,Int.reduceToNat,Nat.reduceDiv,Int.reduceLT,Int.reduceLE,Int.reduceNeg,Int.reduceBEq,Int.reduceBNe,Int.reduceAdd,Int.reduceSub,Nat.reduceBEq,reduceCtorEq,Nat.reduceMul,aj,Tryz.results72,u5],by simp only[wq.1,↓reduceIte,Nat.reduceEqDiff,Nat.reduceLT,Nat.reduceLeDiff,Nat.reduceAdd,Nat.reduceSub,Int.reduceToNat,Nat.reduceDiv,Int.reduceLT,Int.reduceLE,Int.reduceNeg,Int.reduceBEq,Int.reduceBNe,Int.reduceAdd,Int.reduceSub,Nat.reduceBEq,reduceCtorEq,Nat.reduceMul,aj,Tryz.results72,u6],by simp only[wq.1,↓reduceIte,Nat.reduceEqDiff,Nat.reduceLT,Nat.reduceLeDiff,Nat.reduceAdd,Nat.reduceSub,Int.reduceToNat,Nat.reduceDiv,Int.reduceLT,Int.reduceLE,Int.reduceNeg,Int.reduceBEq,Int.reduceBNe,Int.reduceAdd,Int.reduceSub,Nat.reduceBEq,reduceCtorEq,Nat.reduceMul,aj,Tryz.results72],by simp only[wq.1,↓reduceIte,Nat.reduceEqDiff,Nat.reduceLT,Nat.reduceLeDiff,Nat.reduceAdd,Nat.reduceSub,Int.reduceToNat,Nat.reduceDiv,Int.reduceLT,Int.reduceLE,Int.reduceNeg,Int.reduceBEq,Int.reduceBNe,Int.reduceAdd,Int.reduceSub,Nat.reduceBEq,reduceCtorEq,Nat.reduceMul,aj,Tryz.results72,ud],fun j hj=> ?_,?_⟩⟩
   ·simp only[wq.1,uk j hj];simp;omega
   ·rw[zt,zqa,zrk];rfl
 ·have hea:a=s.length:=by have:=of_decide_eq_false hlt;omega
  subst hea;rw[List.drop_length]at htk;have he:tkB s.length 0 s=L:=by
   rw[htk];cases n<;>simp[tkB]
  subst ehA;refine bT hmix _ _ _ _ ?_;simp only[wq.1,seval,hP,u4,u5,u6];exact hret (X:=[]) he (by simp only[wq.1,ud]) (fun j hj=>by simp only[wq.1,uk j hj]) (by simp only[wq.1,seval,u4]) (by simp only[wq.1,seval,u5]) (by simp only[wq.1,seval,u6])
theorem En:∀(l:List Tk)(b:Bool),(mr b l).length<=l.length
 |[],b=>by rw[mr];exact zrb _
 |t::r,b=>by
  have h1:=En r true;have h2:=En r false;rw[mr];split
  ·split
   ·simp only[zrt];omega
   ·simp only[zrt];omega
  ·simp only[zrt];omega
theorem Eo:∀(n p:Nat)(s:S),(tkB n p s).length<=n
 |0,_,_=>by simp[tkB]
 |n+1,p,[]=>by simp[tkB]
 |n+1,p,c::r=>by rw[FK,zqa];have:=Eo n (p+(oL p (c::r)).2) ((c::r).drop (oL p (c::r)).2);cases(oL p (c::r)).1<;>simp only[Option.toList,List.length_nil,zrk]<;>omega
theorem QJ[MO](s:S)(hs:s.length<=1000000):Ev TE 31 [.str s] (iM (iP s)):=by
 have hM:=mLx;have hl1:=Eo s.length 0 s;refine ai Tryz.func31 rfl (by simp[nts]) ?_;have hall:=Ht s hs;obtain⟨L0,hL0⟩:∃L0,L0=tkB s.length 0 s:=⟨_,rfl⟩;obtain⟨L,hL⟩:∃L,L=L0++[⟨3,[],s.length⟩]:=⟨_,rfl⟩;have hbl:iP s=mr true L:=by rw[hL,hL0];rfl
 rw[<-hL0]at hall hl1;rw[hbl];have hLl:L.length<=1000001:=by rw[hL];simp;omega
 have hL0l:L0.length+1=L.length:=by rw[hL];simp
 have dF:∀q,V.drops q (tkC L0)=tkC L0:=fun q=>lq L0;have hfl:=Em L0;refine vn ?_;simp only[wq.1,Nat.reduceLT,Tryz.results31];refine vn ?_;simp only[wq.1,seval];refine⟨by simp,hall.mono ?_⟩;rintro ae h' p ⟨rfl,x0,X,rfl⟩;simp only[wq.1,↓reduceIte,Nat.reduceEqDiff,Nat.reduceLT,Nat.reduceAdd,bn];refine vn ?_;simp only[wq.1,↓reduceIte,Nat.reduceEqDiff,Nat.reduceLT,Nat.reduceLeDiff,Nat.reduceAdd,reduceCtorEq,Nat.reduceMul,dF,hfl];refine⟨⟨rfl,by decide⟩,rfl,⟨rfl,by omega,by omega⟩,?_⟩;refine GM 3 (iM L) (by simp only[wq.1]) (by
  simp only[wq.1,↓reduceIte];refine BM (l:=L) ?_ (by rw[hL0l]);rw[hL,zt];rfl) ?_
 refine JE (fun f'=>f'.t 3=iM L/\f'.d=[]) [] (fun hk=>hk _ ⟨by simp only[wq.1,↓reduceIte],rfl⟩) ?_;rintro f ⟨t3,hd⟩;refine vn ?_;simp only[wq.1,Nat.reduceLT];refine kV 6 3 (by simp only[wq.1,↓reduceIte]) ?_;refine vn ?_;simp only[wq.1,seval,t3,hd];refine aN (fun mm f h=>∃(i:Nat)(U:List Tk)(X:H),mm+i=L.length/\U.length<=i/\i<=L.length/\mr true L=U++mr (decide (i=0)||decide ((L.getD (i-1) ⟨3,[],0⟩).k=3)) (L.drop i)/\f.t 3=iM L/\f.t 6= .ls 0 3 0 U.length U.length/\f.t 23=iM L/\f.t 24=vi L.length/\f.t 25=vi i/\f.d=[]/\h=[.cells (tkC U)]++X) L.length ⟨0,[],[],by omega,zrb _,by omega,rfl,by simp only[wq.1,seval,t3],by simp only[wq.1,seval],by simp only[wq.1,seval],by simp only[wq.1,seval],by simp only[wq.1,↓reduceIte];rfl,by simp only[wq.1],rfl⟩ ?_;clear t3 hd;rintro mm f h ⟨i,U,X,hmm,hOi,hiL,hfl2,t3,t6,t23,t24,t25,hd,rfl⟩;refine dY (h0:=[.cells (tkC U)]) (by rw[hd];simp) ?_;rw[show([.cells (tkC U)]:H).map (O.drop (Abs.eQ ([.cells (tkC U)]:H).length))=[.cells (tkC U)] by
  simp only[zrd,List.map_nil,O.drop,lq]]
 obtain⟨f',hf'⟩:∃f',f'=f.drop (Abs.eQ ([.cells (tkC U)]:H).length):=⟨_,rfl⟩;have u3:f'.t 3=iM L:=by rw[hf'];show(f.t 3).drop _=_;rw[t3];rfl
 have u6:f'.t 6= .ls 0 3 0 U.length U.length:=by rw[hf'];show(f.t 6).drop _=_;rw[t6];rfl
 have u23:f'.t 23=iM L:=by rw[hf'];show(f.t 23).drop _=_;rw[t23];rfl
 have u24:f'.t 24=vi L.length:=by rw[hf'];show(f.t 24).drop _=_;rw[t24];rfl
 have u25:f'.t 25=vi i:=by rw[hf'];show(f.t 25).drop _=_;rw[t25];rfl
 have ud:f'.d=[]:=by rw[hf'];exact hd
 rw[<-hf'];clear hf' hd t3 t6 t23 t24 t25 X;have dU:∀q,V.drops q (tkC U)=tkC U:=fun q=>lq U;have hul:=Em U;have hw:=aC (show i<maxLen by omega);refine vn ?_;simp only[wq.1,Nat.reduceLT,u24,u25];refine vn ?_;simp only[wq.1,↓reduceIte];refine vcB.mk (fun hlt=> ?_) (fun hlt=> ?_)
 ·have hlt:i<L.length:=by have:=zqs hlt;omega
  obtain⟨t,ht⟩:∃t,t=L[i]:=⟨_,rfl⟩;have hgt:(L.map Tk.v).getD i .any=Tk.v t:=by rw[ht];exact dS hlt _
  have hgd:L.getD i ⟨3,[],0⟩=t:=by rw[ht,zqg,zqk hlt];rfl
  rw[List.drop_eq_getElem_cons hlt,<-ht]at hfl2;have hnx:(decide (i+1=0)||decide ((L.getD (i+1-1) ⟨3,[],0⟩).k=3))=decide (t.k=3):=by
   rw[Nat.add_sub_cancel,hgd];simp
  have hL':L.length<=1000001:=hLl;have step:∀ {V1:List Tk},mr true L=V1++mr (decide (t.k=3)) (L.drop (i+1))->V1.length<=i+1->∃i' U',mm-1+i'=L.length/\U'.length<=i'/\i'<=L.length/\mr true L=U'++mr (decide (i'=0)||decide ((L.getD (i'-1) ⟨3,[],0⟩).k=3)) (L.drop i')/\U'=V1/\i'=i+1:=fun {V1} h1 h2=>⟨i+1,V1,by omega,h2,by omega,by rw[hnx];exact h1,rfl,rfl⟩;have hgz:∃z:Tk,(L.map Tk.v).getD (IntKind.i64.wrap ((i:Int)-1)).toNat .any=Tk.v z:=by
   by_cases hi0:i=0
   ·subst hi0;exact⟨_,dS (by show 0<_;omega) _⟩
   ·have hwi:IntKind.i64.wrap ((i:Int)-1)=((i-1:Nat):Int):=by rw[iy (by omega) (by omega)];omega
    rw[hwi,zsg];exact⟨_,dS (by omega) _⟩
  obtain⟨z,hgz⟩:=hgz;by_cases hk3:t.k=3
  ·have e3:((t.k:Int) != 3)=false:=by rw[hk3];rfl
   by_cases hi0:i=0
   ·have h0i:decide ((0:Int)<(i:Int))=false:=by simp;omega
    rw[decide_eq_true hi0,Bool.true_or,mr,if_pos hk3,if_pos rfl]at hfl2;have hfl3:mr true L=U++mr (decide (t.k=3)) (L.drop (i+1)):=by rw[decide_eq_true hk3];exact hfl2
    obtain⟨i',U',q1,q2,q3,q4,rfl,rfl⟩:=step hfl3 (by omega);refine vn ?_;simp only[wq.1,seval,u3,u23,u25,hgt,hgz,e3,h0i];refine⟨⟨by omega,by omega⟩,?_⟩;refine vm ?_;simp only[wq.1,seval,u25,hw];exact .inl ⟨mm-1,by omega,i+1,U',_,q1,q2,q3,q4,by simp only[wq.1,seval,u3],by simp only[wq.1,seval,u6],by simp only[wq.1,seval,u23],by simp only[wq.1,seval,u24],by simp only[wq.1,↓reduceIte],by simp only[wq.1,ud],rfl⟩
   ·have h0i:decide ((0:Int)<(i:Int))=true:=by simp;omega
    have hwi:IntKind.i64.wrap ((i:Int)-1)=((i-1:Nat):Int):=by rw[iy (by omega) (by omega)];omega
    have hj:i-1<L.length:=by omega
    obtain⟨v,hv⟩:∃v,v=L[i-1]:=⟨_,rfl⟩;have hgj:(L.map Tk.v).getD (i-1) .any=Tk.v v:=by rw[hv];exact dS hj _
    have hgk:L.getD (i-1) ⟨3,[],0⟩=v:=by rw[hv,zqg,zqk hj];rfl
    rw[decide_eq_false hi0,Bool.false_or,hgk,mr,if_pos hk3]at hfl2;by_cases hv3:v.k=3
    ·have v3:((v.k:Int) != 3)=false:=by rw[hv3];rfl
     rw[if_pos (decide_eq_true hv3)]at hfl2;have hfl3:mr true L=U++mr (decide (t.k=3)) (L.drop (i+1)):=by rw[decide_eq_true hk3];exact hfl2
     obtain⟨i',U',q1,q2,q3,q4,rfl,rfl⟩:=step hfl3 (by omega);refine vn ?_;simp only[wq.1,seval,u3,u23,u25,hgt,e3,h0i,hwi,hgj,v3];refine⟨⟨by omega,by omega⟩,⟨by omega,by omega⟩,?_⟩;refine vm ?_;simp only[wq.1,seval,u25,hw];exact .inl ⟨mm-1,by omega,i+1,U',_,q1,q2,q3,q4,by simp only[wq.1,seval,u3],by simp only[wq.1,seval,u6],by simp only[wq.1,seval,u23],by simp only[wq.1,seval,u24],by simp only[wq.1,↓reduceIte],by simp only[wq.1,ud],rfl⟩
    ·have v3:((v.k:Int) != 3)=true:=by simp;omega
     rw[if_neg (by simp[hv3])]at hfl2;have hfl3:mr true L=(U++[t])++mr (decide (t.k=3)) (L.drop (i+1)):=by rw[decide_eq_true hk3,hfl2];simp
     obtain⟨i',U',q1,q2,q3,q4,hU',rfl⟩:=step hfl3 (by simp;omega);refine vn ?_;simp only[wq.1,↓reduceIte,Nat.reduceEqDiff,Nat.reduceLT,Nat.reduceLeDiff,Nat.reduceAdd,reduceCtorEq,Nat.reduceMul,u3,u6,u23,u25,ud,hgt,e3,h0i,hwi,hgj,v3,dU];refine⟨⟨by omega,by omega⟩,⟨by omega,by omega⟩,⟨rfl,by decide⟩,rfl,⟨hul,rfl,by omega,by omega⟩,?_⟩;refine vm ?_;simp only[wq.1,seval,u25,hw];refine .inl ⟨mm-1,by omega,i+1,U',[O.cells (tkF t)],q1,q2,q3,q4,by simp only[wq.1,seval,u3],by simp only[wq.1,seval,hU'],by simp only[wq.1,seval,u23],by simp only[wq.1,seval,u24],by simp only[wq.1,↓reduceIte],by simp only[wq.1,ud],?_⟩;rw[hU',zt];rfl
  ·have e3:((t.k:Int) != 3)=true:=by simp;omega
   rw[mr,if_neg hk3]at hfl2;have hfl3:mr true L=(U++[t])++mr (decide (t.k=3)) (L.drop (i+1)):=by rw[decide_eq_false hk3,hfl2];simp
   obtain⟨i',U',q1,q2,q3,q4,hU',rfl⟩:=step hfl3 (by simp;omega);refine vn ?_;simp only[wq.1,↓reduceIte,Nat.reduceEqDiff,Nat.reduceLT,Nat.reduceLeDiff,Nat.reduceAdd,reduceCtorEq,Nat.reduceMul,u3,u6,u23,u25,ud,hgt,hgz,e3,dU];refine⟨⟨by omega,by omega⟩,⟨rfl,by decide⟩,rfl,⟨hul,rfl,by omega,by omega⟩,?_⟩;refine vm ?_;simp only[wq.1,seval,u25,hw];refine .inl ⟨mm-1,by omega,i+1,U',[O.cells (tkF t)],q1,q2,q3,q4,by simp only[wq.1,seval,u3],by simp only[wq.1,seval,hU'],by simp only[wq.1,seval,u23],by simp only[wq.1,seval,u24],by simp only[wq.1,↓reduceIte],by simp only[wq.1,ud],?_⟩;rw[hU',zt];rfl
 ·have hea:i=L.length:=by have:=of_decide_eq_false hlt;omega
  subst hea;rw[List.drop_length,mr,zqp]at hfl2;rw[hfl2];refine vm ?_;simp only[wq.1,seval,u6,ud];exact BM rfl rfl
abbrev Ga.v(g:Ga):V:= .agg [.str g.name,vi g.op,aW g.ins,aW g.rows,.bool g.off]
abbrev La.v(q:La):V:= .agg [.str q.name,.str q.next,vi q.init]
abbrev iK(l:List Ga):V:= .is false 5 (l.map Ga.v)
abbrev lu(l:List La):V:= .is false 3 (l.map La.v)
abbrev Ci.v(c:Ci):V:= .agg [aW c.ins,aW c.outs,lu c.lat,iK c.gates]
def gaC(l:List Ga):List V:=l.flatMap fun g=>[.str g.name,vi g.op,aW g.ins,aW g.rows,.bool g.off]
def laC(l:List La):List V:=l.flatMap fun q=>[.str q.name,.str q.next,vi q.init]
theorem FN:∀l:List La,V.dats (laC l)=true
 |[]=>rfl
 |t::l=>by show(V.dat (.str t.name)&&(V.dat (.str t.next)&&(V.dat (vi t.init)&&V.dats (laC l))))=true;rw[FN l];rfl
theorem PQ:∀l:List La,dL 3 (l.map La.v)=true
 |[]=>rfl
 |t::l=>by show(_&&dL 3 (l.map La.v))=true;rw[PQ l];rfl
theorem TJ:∀l:List La,(l.map La.v).flatMap V.vc=laC l
 |[]=>rfl
 |t::l=>by show V.vc (La.v t)++(l.map La.v).flatMap V.vc=_;rw[TJ l];rfl
theorem BN[MO]{h:H}{id len cap:Nat}{l:List La}(hc:h[id]? =some (.cells (laC l)))(hl:len=l.length):aG TE h (.ls id 3 0 len cap) (lu l) :=
 aG.ls hc (ay.dat (FN l)) (PQ l) (TJ l) (by rw[zra];exact hl)
theorem wz{p:Nat->Bool}:∀l:List Ga,V.drops p (gaC l)=gaC l
 |[]=>rfl
 |t::l=>by show V.drop p (.str t.name)::V.drop p (vi t.op)::V.drop p (aW t.ins)::V.drop p (aW t.rows)::V.drop p (.bool t.off)::V.drops p (gaC l)=_;rw[wz l];rfl
theorem zu:∀l:List Ga,V.dats (gaC l)=true
 |[]=>rfl
 |t::l=>by show(V.dat (.str t.name)&&(V.dat (vi t.op)&&(V.dat (aW t.ins)&&(V.dat (aW t.rows)&&(V.dat (.bool t.off)&&V.dats (gaC l))))))=true;rw[zu l];simp only[V.dat,aJ,zre]
theorem nO:∀l:List Ga,V.dats (l.map Ga.v)=true
 |[]=>rfl
 |t::l=>by show(V.dat (Ga.v t)&&V.dats (l.map Ga.v))=true;rw[nO l];simp only[V.dat,V.dats,aJ,zre]
theorem nP:∀l:List La,V.dats (l.map La.v)=true
 |[]=>rfl
 |t::l=>by show(V.dat (La.v t)&&V.dats (l.map La.v))=true;rw[nP l];rfl
theorem zy:∀l:List Tk,V.dats (l.map Tk.v)=true
 |[]=>rfl
 |t::l=>by show(V.dat (Tk.v t)&&V.dats (l.map Tk.v))=true;rw[zy l];rfl
theorem mG(c:Ci):V.dat c.v=true:=by simp only[Ci.v,V.dat,V.dats,aJ,nP,nO,zre]
theorem Kt:∀l:List Ga,dL 5 (l.map Ga.v)=true
 |[]=>rfl
 |t::l=>by show(_&&dL 5 (l.map Ga.v))=true;rw[Kt l];rfl
theorem QK:∀l:List Ga,(l.map Ga.v).flatMap V.vc=gaC l
 |[]=>rfl
 |t::l=>by show V.vc (Ga.v t)++(l.map Ga.v).flatMap V.vc=_;rw[QK l];rfl
theorem BO[MO]{h:H}{id len cap:Nat}{l:List Ga}(hc:h[id]? =some (.cells (gaC l)))(hl:len=l.length):aG TE h (.ls id 5 0 len cap) (iK l) :=
 aG.ls hc (ay.dat (zu l)) (Kt l) (QK l) (by rw[zra];exact hl)
theorem FO{c:List Ga}{r:List V}(hb:V.bnds (iK c::r)):c.length<=maxLen:=by simp only[V.bnds,V.bnd,zra]at hb;exact hb.1.1
theorem Oa{c:List Tk}{r:List V}(hb:V.bnds (iM c::r)):c.length<=maxLen:=by simp only[V.bnds,V.bnd,zra]at hb;exact hb.1.1
theorem Ku{c:List S}{r:List V}(hb:V.bnds (aW c::r)):c.length<=maxLen:=by simp only[V.bnds,V.bnd,zra]at hb;exact hb.1.1
theorem rJ{c:List Ga}{i:Nat}(h:i<c.length)(d:V):(c.map Ga.v).getD i d=Ga.v c[i]:=dS h _
theorem Ob{c:List Tk}{i:Nat}(h:i<c.length)(d:V):(c.map Tk.v).getD i d=Tk.v c[i]:=dS h _
theorem Ep{c:List La}{i:Nat}(h:i<c.length)(d:V):(c.map La.v).getD i d=La.v c[i]:=dS h _
theorem wB:∀l:S,eP (l.map vb)=some l
 |[]=>rfl
 |a::l=>by
  simp only[zrd,eP,wB l,zrw]
  congr 2
  exact UInt8.ofNat_toNat
theorem rM{h:H}{l:S}{k cap:Nat}(hc:h[k]? =some (.cells (l.map vb))):(fK P h 58 9 (.ls k 1 0 l.length cap)).1=True/\(fK P h 58 9 (.ls k 1 0 l.length cap)).2= .str l:=by
 have h1:dJ h k=l.map vb:=by simp only[dJ,hc]
 have h2:eP (((dJ h k).drop 0).take l.length)=some l:=by rw[h1,List.drop_zero,zqh (by simp),wB]
 have h3:0+l.length<=(dJ h k).length:=by rw[h1];simp
 unfold fK;simp only[tis,h2];exact⟨eq_true ⟨trivial,trivial,h3⟩,trivial⟩
theorem QL[MO](c:List S)(q:FuncId)(caps:List V)(p:S->Bool)(he:ah P q=true)(hd:V.dats caps=true)(hq:∀x∈c,Ev TE q (.str x::caps) (.bool (p x))):Ev TE 85 [aW c,.fn (.func q) [] caps] (vi (idx c p)):=by
 refine Ev.bnd fun hb=> ?_;have hlen:=Ku hb;refine ai Tryz.func85 rfl (by simp[nts]) (vm ?_);simp only[wq.1,seval,Tryz.results85];refine aN (fun m f h=>∃i,m+i=c.length/\f.t 0=aW c/\f.t 1= .fn (.func q) [] caps/\f.t 7= .int .i64 (c.length:Int)/\f.t 8= .int .i64 (i:Int)/\f.d=[]/\∀x∈c.take i,p x=false) c.length ⟨0,by simp,rfl,rfl,by simp only[wq.1,seval],rfl,rfl,by simp⟩ ?_;rintro m f h ⟨i,hm,h0,h1,h7,h8,hdd,hall⟩;refine vm ?_;simp only[wq.1,seval,h7,h8];refine vcB.mk (fun hc=> ?_) (fun hc=> ?_)
 ·simp only[zqb,zqi]at hc;simp only[wq.1,seval,h0,h1,h8,LU hc,he];refine⟨⟨by omega,by omega⟩,ag.ev (hq _ (zqu _)) (by simp[V.dats,V.dat,hd,aJ]) ?_⟩;simp only[wq.1,seval];refine vcB.mk (fun hc'=> ?_) (fun hc'=> ?_)
  ·simp only[wq.1,seval,hdd];rw[zh hc hall hc'];exact aG.dat rfl
  ·simp only[wq.1,seval,h8,aC (show i<maxLen by omega)];exact .inl ⟨m-1,by omega,i+1,by omega,h0,h1,h7,rfl,hdd,dm hc hall hc'⟩
 ·simp only[zqd,zqi]at hc;simp only[wq.1,seval,hdd];rw[zqh (by omega)]at hall;rw[uq hall];exact aG.dat rfl
theorem QM[MO](c:List S)(q:FuncId)(caps:List V)(p:S->Bool)(he:ah P q=true)(hd:V.dats caps=true)(hq:∀x∈c,Ev TE q (.str x::caps) (.bool (p x))):Ev TE 44 [aW c,.fn (.func q) [] caps] (.bool (c.any p)):=by refine ai Tryz.func44 rfl (by simp[nts]) (vm ?_);simp only[wq.1,seval,Tryz.results44];refine ag.ev (QL c q caps p he hd hq) (by simp[V.dats,V.dat,hd,aJ]) ?_;simp only[wq.1,seval];exact dW rfl (by rw[JS])
theorem QN[MO](c:List Ga)(q:FuncId)(caps:List V)(p:Ga->Bool)(he:ah P q=true)(hd:V.dats caps=true)(hq:∀x∈c,Ev TE q (Ga.v x::caps) (.bool (p x))):Ev TE 96 [iK c,.fn (.func q) [] caps] (vi (idx c p)):=by
 refine Ev.bnd fun hb=> ?_;have hlen:=FO hb;refine ai Tryz.func96 rfl (by simp[nts]) (vm ?_);simp only[wq.1,seval,Tryz.results96];refine aN (fun m f h=>∃i,m+i=c.length/\f.t 0=iK c/\f.t 1= .fn (.func q) [] caps/\f.t 7= .int .i64 (c.length:Int)/\f.t 8= .int .i64 (i:Int)/\f.d=[]/\∀x∈c.take i,p x=false) c.length ⟨0,by simp,rfl,rfl,by simp only[wq.1,seval],rfl,rfl,by simp⟩ ?_;rintro m f h ⟨i,hm,h0,h1,h7,h8,hdd,hall⟩;refine vm ?_;simp only[wq.1,seval,h7,h8];refine vcB.mk (fun hc=> ?_) (fun hc=> ?_)
 ·simp only[zqb,zqi]at hc;simp only[wq.1,seval,h0,h1,h8,rJ hc,he];refine⟨⟨by omega,by omega⟩,ag.ev (hq _ (zqu _)) (by simp[V.dats,V.dat,hd,aJ]) ?_⟩;simp only[wq.1,seval];refine vcB.mk (fun hc'=> ?_) (fun hc'=> ?_)
  ·simp only[wq.1,seval,hdd];rw[zh hc hall hc'];exact aG.dat rfl
  ·simp only[wq.1,seval,h8,aC (show i<maxLen by omega)];exact .inl ⟨m-1,by omega,i+1,by omega,h0,h1,h7,rfl,hdd,dm hc hall hc'⟩
 ·simp only[zqd,zqi]at hc;simp only[wq.1,seval,hdd];rw[zqh (by omega)]at hall;rw[uq hall];exact aG.dat rfl
theorem QO[MO](c:List Ga)(q:FuncId)(caps:List V)(p:Ga->Bool)(he:ah P q=true)(hd:V.dats caps=true)(hq:∀x∈c,Ev TE q (Ga.v x::caps) (.bool (p x))):Ev TE 56 [iK c,.fn (.func q) [] caps] (.bool (c.any p)):=by refine ai Tryz.func56 rfl (by simp[nts]) (vm ?_);simp only[wq.1,seval,Tryz.results56];refine ag.ev (QN c q caps p he hd hq) (by simp[V.dats,V.dat,hd,nO]) ?_;simp only[wq.1,seval];exact dW rfl (by rw[JS])
theorem QQ[MO](c:List Tk)(q:FuncId)(caps:List V)(p:Tk->Bool)(he:ah P q=true)(hd:V.dats caps=true)(hq:∀x∈c,Ev TE q (Tk.v x::caps) (.bool (p x))):Ev TE 75 [iM c,.fn (.func q) [] caps] (vi (idx c p)):=by
 refine Ev.bnd fun hb=> ?_;have hlen:=Oa hb;refine ai Tryz.func75 rfl (by simp[nts]) (vm ?_);simp only[wq.1,seval,Tryz.results75];refine aN (fun m f h=>∃i,m+i=c.length/\f.t 0=iM c/\f.t 1= .fn (.func q) [] caps/\f.t 7= .int .i64 (c.length:Int)/\f.t 8= .int .i64 (i:Int)/\f.d=[]/\∀x∈c.take i,p x=false) c.length ⟨0,by simp,rfl,rfl,by simp only[wq.1,seval],rfl,rfl,by simp⟩ ?_;rintro m f h ⟨i,hm,h0,h1,h7,h8,hdd,hall⟩;refine vm ?_;simp only[wq.1,seval,h7,h8];refine vcB.mk (fun hc=> ?_) (fun hc=> ?_)
 ·simp only[zqb,zqi]at hc;simp only[wq.1,seval,h0,h1,h8,Ob hc,he];refine⟨⟨by omega,by omega⟩,ag.ev (hq _ (zqu _)) (by simp[V.dats,V.dat,hd,aJ]) ?_⟩;simp only[wq.1,seval];refine vcB.mk (fun hc'=> ?_) (fun hc'=> ?_)
  ·simp only[wq.1,seval,hdd];rw[zh hc hall hc'];exact aG.dat rfl
  ·simp only[wq.1,seval,h8,aC (show i<maxLen by omega)];exact .inl ⟨m-1,by omega,i+1,by omega,h0,h1,h7,rfl,hdd,dm hc hall hc'⟩
 ·simp only[zqd,zqi]at hc;simp only[wq.1,seval,hdd];rw[zqh (by omega)]at hall;rw[uq hall];exact aG.dat rfl
theorem wC[MO]:Ev TE 89 [vi 2] (.bool true):=by refine ai Tryz.func89 rfl (by simp[nts]) (vm ?_);simp only[wq.1,seval,Tryz.results89];exact aG.dat rfl
theorem x9(cs:S):∀s:S,Lib.containsAny s cs=s.any (cs.contains ·)
 |[]=>rfl
 |c::s=>by
  have ih:=x9 cs s;have hg:=Lib.indexAny_ge cs s;unfold Lib.containsAny at ih ⊢;rw[List.any_cons,<-ih];show decide (0<=if cs.contains c then 0 else if Lib.indexAny s cs==-1 then -1 else Lib.indexAny s cs+1)=_;cases cs.contains c with
  |true=>rfl
  |false =>
   rw[if_neg (by decide),Bool.false_or];by_cases h:Lib.indexAny s cs=-1
   ·rw[h];rfl
   ·rw[if_neg (by simpa using h)];exact decide_eq_decide.2 (by omega)
theorem Kv(s:S):(!(s.any (([35,92]:S).contains ·)))= !(s.contains 35||s.contains 92):=by
 congr 1
 rw[Bool.eq_iff_iff];simp only[List.any_eq_true,Bool.or_eq_true,List.contains_iff_mem,zrj,zrp,or_false];constructor
 ·rintro⟨x,hx,rfl|rfl⟩
  ·exact .inl hx
  ·exact .inr hx
 ·rintro(h|h)
  ·exact⟨_,h,.inl rfl⟩
  ·exact⟨_,h,.inr rfl⟩
theorem zA{s:S}(h:aT s=true):s.length<=40:=by unfold aT at h;simp only[zqf,zqb]at h;exact h.2.2
theorem Oc[MO](s:S)(h:aT s=true):Ev TE 115 [.str s] (.bool (jb s)):=by
 obtain⟨h1,h2⟩:=xZ h;have hl:=zA h;have hlen:0<s.length:=List.length_pos_iff.2 h1;have ha:=NV s [35,92] (by omega) (by decide) (fun b hb=>by
  have:=h2 b hb;unfold iE at this;simp only[zqf,zqb]at this;omega) (by decide)
 rw[x9]at ha;have e46:((((s.getD 0 0).toNat:Nat):Int) != 46)=(s.getD 0 0 != 46):=TF _ 46;refine ai Tryz.func115 rfl (by simp[nts]) (vm ?_);simp only[wq.1,seval,Tryz.results115,e46];refine⟨by omega,Aj.ev (q:=143) (vs:=[.str s,.str [35,92]]) (by simp only[wq.1,seval]) (by simp only[wq.1,seval]) rfl (fun _=>ha) (fun _=>rfl) ?_⟩;simp only[wq.1,seval];refine dW rfl ?_;rw[Kv];unfold jb
 congr 1
 cases s<;>rfl
theorem FP[MO](s:S):Ev TE 90 [vi 2,.str s] (.bool (aT s&&jb s)):=by
 have hn:=uu s;refine ai Tryz.func90 rfl (by simp[nts]) (vm ?_);simp only[wq.1,seval,Tryz.results90];refine ag.ev wC rfl ?_;simp only[wq.1,seval];refine ag.ev hn rfl ?_;cases hok:aT s with
 |false=>simp only[wq.1,↓reduceIte,Nat.reduceEqDiff,Nat.reduceLT];exact aG.dat rfl
 |true=>simp only[wq.1,↓reduceIte,Nat.reduceEqDiff,Nat.reduceLT,Nat.reduceLeDiff,Nat.reduceAdd,Nat.reduceSub,Int.reduceToNat,Nat.reduceDiv,Int.reduceLT,Int.reduceLE,Int.reduceNeg,Int.reduceBEq,Int.reduceBNe,Int.reduceAdd,Int.reduceSub,Nat.reduceBEq,reduceCtorEq,Nat.reduceMul,aj,Tryz.results90,bn];refine⟨by decide,ag.ev (Oc s hok) rfl ?_⟩;simp only[wq.1,↓reduceIte,Nat.reduceLT];exact dW rfl (by simp)
theorem TK:∀n:Nat,((n:Nat):Int).fdiv (2^(min 4 IntKind.u8.bits))=((n/16:Nat):Int):=fun n=>by show((n:Nat):Int).fdiv 16=_;rw[Int.fdiv_eq_ediv_of_nonneg _ (by decide)];omega
theorem TL:∀n:Nat,n<256->IntKind.u8.wrap ((BitVec.ofInt IntKind.u8.bits (n:Int) &&& BitVec.ofInt IntKind.u8.bits 15).toNat:Int)=((n%16:Nat):Int):=by decide +kernel
theorem BP{s:S}{i:Nat}(h:i<s.length):aY (s.take (i+1))=aY (s.take i)++JX s[i]:=by unfold aY;rw[List.take_succ_eq_append_getElem h,List.flatMap_append,zqc];simp
theorem wE:∀s:S,(aY s).length=3+2*s.length:=fun s=>by
 unfold aY;have:∀s:S,(s.flatMap JX).length=2*s.length:=fun s=>by
  induction s with
  |nil=>rfl
  |cons c s ih=>rw[List.flatMap_cons,zqa,ih];simp[JX];omega
 rw[zqa,this];rfl
theorem Hu[MO](s:S)(hs:s.length<=1000000):Ev TE 91 [.str s] (.str (aY s)):=by
 have hM:=mLx;refine ai Tryz.func91 rfl (by simp[nts]) ?_;refine vn ?_;simp only[wq.1,seval,Tryz.results91];refine ak (jo ?_);refine DY rfl rfl rfl rfl rfl rfl (by decide) (by decide) (q:=⟨.slice 5,1,24,.nils⟩) (by simp only[wq.1]) rfl (re:=⟨.int .u8,1,1,.int .u8 0⟩) (by simp only[wq.1]) rfl rfl ?_;refine ax rfl rfl ?_;simp only[wq.1,↓reduceIte];refine fE ?_;show awp _ _ _ _ _ _ _;refine vn ?_;simp only[wq.1,seval];refine aN (fun m f h=>∃i,m+i=s.length/\i<=s.length/\f.t 0= .str s/\f.t 3= .ls 0 1 0 (aY (s.take i)).length (aY (s.take i)).length/\f.t 8=vi s.length/\f.t 9=vi i/\f.d=[]/\h=[.cells ((aY (s.take i)).map vb)]) s.length ⟨0,rfl,by omega,by simp only[wq.1,seval],by simp only[wq.1,seval];rfl,by simp only[wq.1,seval],by simp only[wq.1,↓reduceIte];rfl,rfl,rfl⟩ ?_;rintro m f h ⟨i,hm,hil,h0,h3,h8,h9,hd,rfl⟩;have hw:=aC (show i<maxLen by omega);refine vn ?_;simp only[wq.1,Nat.reduceLT,h8,h9];refine vn ?_;simp only[wq.1,↓reduceIte];refine vcB.mk (fun hlt=> ?_) (fun hlt=> ?_)
 ·have hlt:i<s.length:=by have:=zqs hlt;omega
  obtain⟨c,hc⟩:∃c,c=s[i]:=⟨_,rfl⟩;have hgc:s.getD i 0=c:=by rw[hc];exact Qx hlt
  have hcl:=c.toNat_lt;have e1:=TK c.toNat;have e2:=TL c.toNat hcl;have hst:=BP hlt;rw[<-hc]at hst;have hsl:=wE (s.take i);have htl:(s.take i).length=i:=by rw[zrl];omega
  obtain⟨T,hT⟩:∃T,T=aY (s.take i):=⟨_,rfl⟩;rw[<-hT]at hst hsl h3 ⊢;have dv:∀p,V.drops p (T.map vb)=T.map vb:=fun p=>oq T;refine ak ?_;refine aB ?_;refine vn ?_;simp only[wq.1,↓reduceIte,Nat.reduceEqDiff,Nat.reduceLT,h9];refine JJ mixed 12 (.one 12<| .take 13<| .fin) (fun f' h'=>f'.t 0= .str s/\f'.t 3= .ls 0 1 0 (aY (s.take (i+1))).length (aY (s.take (i+1))).length/\f'.t 8=vi s.length/\f'.t 9=vi i/\f'.d=[]/\h'=[.cells ((aY (s.take (i+1))).map vb)]) (by rw[show TE.P=P from rfl];decide +kernel) ?_ ?_
  ·intro K hK;simp only[List.take_succ_cons,List.take_zero];have hx:∀k,([48,49,50,51,52,53,54,55,56,57,97,98,99,100,101,102]:S).getD k 0=NE k:=fun k=>rfl;simp only[wq.1,↓reduceIte,Nat.reduceEqDiff,Nat.reduceLT,Nat.reduceLeDiff,Nat.reduceAdd,Int.reduceToNat,Int.reduceLE,reduceCtorEq,Nat.reduceMul,h0,h3,hgc,e1,e2,hx];refine⟨⟨by omega,by omega⟩,⟨by omega,by omega⟩,⟨by omega,by omega⟩,⟨by omega,by omega⟩,⟨rfl,by decide⟩,hK _ ?_⟩;simp only[wq.1,seval,h0,h8,h9,hd,dv];have hmap:T.map vb++[vb (NE (c.toNat/16)),vb (NE (c.toNat%16))]=(aY (s.take (i+1))).map vb:=by rw[hst,zql];rfl
   have hlen:T.length+2=(aY (s.take (i+1))).length:=by rw[hst,zqa];rfl
   refine⟨⟨by omega,by omega,by omega⟩,by rw[hlen],?_⟩;rw[<-hmap]
  ·rintro f h ⟨h0,h3,h8,h9,hd,rfl⟩;show awp _ _ _ _ _ _ _;refine vm ?_;simp only[wq.1,seval,h9,hw];exact .inl ⟨m-1,by omega,i+1,by omega,by omega,by simp only[wq.1,seval,h0],by simp only[wq.1,seval,h3],by simp only[wq.1,seval,h8],by simp only[wq.1,↓reduceIte],by simp only[wq.1,hd],rfl⟩
 ·have hi:i=s.length:=by have:=of_decide_eq_false hlt;omega
  rw[hi,zrx]at h3 ⊢;obtain⟨e1,e2⟩:=rM (h:=[.cells ((aY s).map vb)]) (l:=aY s) (k:=0) (cap:=(aY s).length) rfl;have hsl:=wE s;refine vm ?_;simp only[wq.1,seval,h3,hd,e1,e2];exact aG.dat rfl
theorem zB[MO](s:S):Ev TE 49 [vi 2,.str s] (.tup [.str (spV s),vi (if aT s then 0 else 4)]):=by
 have hn:=uu s;have hL:=FP s;have hm:=Ko s mM;refine ai Tryz.func49 rfl (by simp[nts]) (vm ?_);simp only[wq.1,seval,Tryz.results49];refine ag.ev hn rfl ?_;unfold spV;cases hok:aT s with
 |false=>simp only[wq.1,seval];exact aG.dat rfl
 |true =>
  have hl:=zA hok;have hsp:=Hu s (by omega);rw[hok]at hL;simp only[wq.1,seval];refine ag.ev wC rfl ?_;simp only[wq.1,seval];refine⟨.bool true,?_⟩;simp only[wq.1,seval];refine ag.ev hm rfl ?_;have e:bf s=if(mM.isPrefixOf s|| !jb s)=true then aY s else s:=rfl
  cases hmm:mM.isPrefixOf s with
  |true=>rw[hmm,Bool.true_or,if_pos rfl]at e;simp only[wq.1,seval];refine⟨.bool true,?_⟩;simp only[wq.1,seval];refine ag.ev hsp rfl ?_;simp only[wq.1,seval];rw[e];exact aG.dat rfl
  |false =>
   simp only[wq.1,seval];refine ag.ev hL rfl ?_;cases hll:jb s with
   |true=>rw[hmm,hll]at e;simp only[wq.1,seval];have e:bf s=s:=e;rw[e];exact aG.dat rfl
   |false=>rw[hmm,hll]at e;have e:bf s=aY s:=e;simp only[wq.1,seval];refine ag.ev hsp rfl ?_;simp only[wq.1,seval];rw[e];exact aG.dat rfl
theorem QR[MO](s p:S)(hs:s.length<=1000000):Ev TE 159 [.str s,.str p] (.tup [.str (if p.isPrefixOf s=true then s.drop p.length else s),.bool (p.isPrefixOf s)]):=by
 have h:=BJ s p;have h2:Ev TE 172 [.str s,.str p] (.tup [.str (if p.isPrefixOf s=true then s.drop p.length else s),.bool (p.isPrefixOf s)]):=by
  have hpl:p.isPrefixOf s=true->p.length<=s.length:=fun h=>(List.isPrefixOf_iff_prefix.1 h).length_le;refine ai Tryz.func172 rfl (by simp[nts]) (vm ?_);simp only[wq.1,seval,Tryz.results172];refine ag.ev h rfl ?_;cases hp:p.isPrefixOf s with
  |true=>have:=hpl hp;simp only[wq.1,seval];exact⟨by omega,aG.dat rfl⟩
  |false=>simp only[wq.1,seval];exact aG.dat rfl
 refine ai Tryz.func159 rfl (by simp[nts]) (vm ?_);simp only[wq.1,seval,Tryz.results159];refine ag.ev h2 rfl ?_;simp only[wq.1,seval];exact aG.dat rfl
theorem Kw:∀n:Nat,n<256->Lib.indexByte Tv (UInt8.ofNat n)=wZ (UInt8.ofNat n)/\-1<=wZ (UInt8.ofNat n)/\wZ (UInt8.ofNat n)<=15:=by decide +kernel
theorem QS(n:Int)(h0:-17<=n)(h1:n<=255):V.int .u8 (IntKind.u8.wrap n)=vb (UInt8.ofNat (n%256).toNat):=by
 have:∀k:Nat,k<273->IntKind.u8.wrap ((k:Int)-17)=((UInt8.ofNat (((k:Int)-17)%256).toNat).toNat:Int):=by decide +kernel
 have h:=this (n+17).toNat (by omega);have e:(((n+17).toNat:Nat):Int)-17=n:=by omega
 rw[e]at h;rw[h]
theorem BQ[MO](s:S)(hs:s.length<=1000000):Ev TE 141 [.str s] (.str (bK s)):=by
 have hM:=mLx;have hcp:=QR s mM hs;obtain⟨u,hu⟩:∃u,u=if mM.isPrefixOf s=true then s.drop 3 else s:=⟨_,rfl⟩
 have hul:u.length<=1000000:=by
  rw[hu];split
  ·rw[List.length_drop];omega
  ·exact hs
 have hV:bK s=jK u:=by unfold bK;rw[hu]
 rw[show mM.length=3 from rfl,<-hu]at hcp;rw[hV];refine ai Tryz.func141 rfl (by simp[nts]) ?_;refine vn ?_;simp only[wq.1,seval,Tryz.results141];refine vn ?_;simp only[wq.1,Nat.reduceLT];refine kV 3 1 (by simp only[wq.1,↓reduceIte]) ?_;refine vn ?_;simp only[wq.1,seval];refine ag.ev hcp rfl ?_;simp only[wq.1,seval];refine vn ?_;simp only[wq.1];refine aN (fun m f h=>∃(r b:S),m=r.length/\r.length<=u.length/\jK u=b++jK r/\b.length<=u.length-r.length/\f.t 4= .str r/\f.t 3= .ls 0 1 0 b.length b.length/\f.d=[]/\h=[.cells (b.map vb)]) u.length ⟨u,[],rfl,zrb _,rfl,by simp,by simp only[wq.1,seval],by simp only[wq.1,seval],rfl,rfl⟩ ?_;rintro m f h ⟨r,b,rfl,hru,hub,hbl,h4,h3,hd,rfl⟩;refine vn ?_;simp only[wq.1,seval,h4];refine vcB.mk (fun hlt=> ?_) (fun hlt=> ?_)
 ·obtain⟨x,y,r,rfl⟩:∃x y r',r=x::y::r':=by
   have:=zqs hlt
   match r,this with
   |x::y::r',_=>exact⟨x,y,r',rfl⟩
   |[x],h=>simp at h
   |[],h=>simp at h
  have i1:=FD Tv x.toNat x.toNat_lt;have i2:=FD Tv y.toNat y.toNat_lt;obtain⟨p1,p2,p3⟩:=Kw x.toNat x.toNat_lt;obtain⟨q1,q2,q3⟩:=Kw y.toNat y.toNat_lt;rw[UInt8.ofNat_toNat]at i1 p1 p2 p3;rw[UInt8.ofNat_toNat]at i2 q1 q2 q3;rw[p1]at i1;rw[q1]at i2;have w1:IntKind.i64.wrap (wZ x*16)=wZ x*16:=iy (by omega) (by omega);have w2:IntKind.i64.wrap (wZ x*16+wZ y)=wZ x*16+wZ y:=iy (by omega) (by omega);have w3:=QS (wZ x*16+wZ y) (by omega) (by omega);have hun:jK u=(b++[UInt8.ofNat ((wZ x*16+wZ y)%256).toNat])++jK r:=by rw[hub];simp[jK]
  have dv:∀p,V.drops p (b.map vb)=b.map vb:=fun p=>oq b;simp only[zrt]at hru hbl;refine ak ?_;refine aB ?_;refine vn ?_;simp only[wq.1,seval,h4];refine⟨by decide +kernel,by omega,Iq.mk i1 rfl rfl ?_⟩;simp only[wq.1,seval,h4];refine⟨by omega,Iq.mk i2 rfl rfl ?_⟩;simp only[wq.1,↓reduceIte,Nat.reduceEqDiff,Nat.reduceLT,w1,w2];obtain⟨B,hB⟩:∃B,B=UInt8.ofNat ((wZ x*16+wZ y)%256).toNat:=⟨_,rfl⟩;rw[<-hB]at hun w3;have hcv:fK P [.cells (b.map vb)] 3 5 (vi (wZ x*16+wZ y))=(True,vb B):=by rw[<-w3];unfold fK;simp only[tis]
  have hdr:(x::y::r).drop 2=r:=rfl;refine vm ?_;simp only[wq.1,↓reduceIte,Nat.reduceEqDiff,Nat.reduceLT,reduceCtorEq,Nat.reduceMul,h3,hd,hcv,dv];refine⟨⟨rfl,by decide⟩,⟨by omega,by omega,by omega⟩,?_⟩;refine vm ?_;simp only[wq.1,seval,h4];refine⟨by omega,.inl ⟨r.length,by omega,r,b++[B],rfl,by omega,hun,by simp;omega,by simp only[wq.1,↓reduceIte],by simp only[wq.1,seval],by simp only[wq.1,hd],by simp⟩⟩
 ·have hlt2:r.length<2:=by have:=of_decide_eq_false hlt;omega
  have hur:jK r=[]:=by
   match r,hlt2 with
   |[],_=>rfl
   |[_],_=>rfl
   |_::_::_,h=>simp only[zrt]at h;omega
  rw[hur,zqp]at hub;obtain⟨e1,e2⟩:=rM (h:=[.cells (b.map vb)]) (l:=b) (k:=0) (cap:=b.length) rfl;rw[hub];refine vm ?_;simp only[wq.1,seval,h3,hd,e1,e2];exact aG.dat rfl
theorem QT[MO](s:S)(hs:s.length<=1000000):Ev TE 113 [vi 2,.str s] (.tup [.str (xC aT s).1,vi (xC aT s).2]):=by
 have hu:=BQ s hs;have hn:=uu s;have hL:=FP s;obtain⟨u,eu⟩:∃u,u=bK s:=⟨_,rfl⟩;have hsp:=zB u;unfold xC;rw[<-eu]at hu ⊢;have tail:∀(R:S×Int),R=(if(aT s&&jb s)=true then(s,0)else([],4))->R=R:=fun _ _=>rfl;obtain⟨T,hT⟩:∃T:S×Int,T=(if(aT s&&jb s)=true then(s,0)else([],4)):=⟨_,rfl⟩;rw[<-hT];refine ai Tryz.func113 rfl (by simp[nts]) (vm ?_);simp only[wq.1,seval,Tryz.results113];refine ag.ev wC rfl ?_;simp only[wq.1,seval];refine ag.ev hu rfl ?_;simp only[wq.1,seval];by_cases h0:u=[]
 ·have e0:(u==[])=true:=by rw[h0];rfl
  rw[if_neg (fun h=>h.1 h0)];simp only[wq.1,seval,e0];refine ag.ev hL rfl ?_;cases hok:aT s with
  |false=>rw[hok]at hT hL;have hT:T=([],4):=hT;rw[hT];simp only[wq.1,seval];exact aG.dat rfl
  |true =>
   rw[hok]at hT hn;cases hll:jb s with
   |false=>rw[hll]at hT;have hT:T=([],4):=hT;rw[hT];simp only[wq.1,seval];exact aG.dat rfl
   |true=>rw[hll]at hT;have hT:T=(s,0):=hT;rw[hT];simp only[wq.1,seval];refine ag.ev hn rfl ?_;simp only[wq.1,seval];exact aG.dat rfl
 ·have e0:(u==[])=false:=by simpa using h0
  unfold spV at hsp;simp only[wq.1,seval,e0];refine ag.ev hsp rfl ?_;cases hku:aT u with
  |false =>
   rw[if_neg (fun h=>absurd h.2.1 (by decide))];simp only[wq.1,seval];refine ag.ev hL rfl ?_;cases hok:aT s with
   |false=>rw[hok]at hT hL;have hT:T=([],4):=hT;rw[hT];simp only[wq.1,seval];exact aG.dat rfl
   |true =>
    rw[hok]at hT hn;cases hll:jb s with
    |false=>rw[hll]at hT;have hT:T=([],4):=hT;rw[hT];simp only[wq.1,seval];exact aG.dat rfl
    |true=>rw[hll]at hT;have hT:T=(s,0):=hT;rw[hT];simp only[wq.1,seval];refine ag.ev hn rfl ?_;simp only[wq.1,seval];exact aG.dat rfl
  |true =>
   by_cases hsu:bf u=s
   ·rw[if_pos ⟨h0,rfl,hsu⟩];have e1:(bf u==s)=true:=by simpa using hsu
    simp only[wq.1,seval,e1];exact aG.dat rfl
   ·rw[if_neg (fun h=>hsu h.2.2)];have e1:(bf u==s)=false:=by simpa using hsu
    simp only[wq.1,seval,e1];refine ag.ev hL rfl ?_;cases hok:aT s with
    |false=>rw[hok]at hT hL;have hT:T=([],4):=hT;rw[hT];simp only[wq.1,seval];exact aG.dat rfl
    |true =>
     rw[hok]at hT hn;cases hll:jb s with
     |false=>rw[hll]at hT;have hT:T=([],4):=hT;rw[hT];simp only[wq.1,seval];exact aG.dat rfl
     |true=>rw[hll]at hT;have hT:T=(s,0):=hT;rw[hT];simp only[wq.1,seval];refine ag.ev hn rfl ?_;simp only[wq.1,seval];exact aG.dat rfl
theorem Ky[MO](t:Tk)(hs:t.t.length<=1000000):Ev TE 77 [vi 2,t.v] (.tup [.str (xH t).1,vi (xH t).2]):=by
 have hr:=QT t.t hs;unfold xH;refine ai Tryz.func77 rfl (by simp[nts]) (vm ?_);simp only[wq.1,seval,Tryz.results77];by_cases hk:t.k=0
 ·have e0:((t.k:Int) != 0)=false:=by rw[hk];rfl
  have e2:((t.k:Int)==2)=false:=by rw[hk];rfl
  rw[if_pos hk];simp only[wq.1,seval,e0,e2];refine⟨.bool true,?_⟩;simp only[wq.1,seval];refine ag.ev hr rfl ?_;simp only[wq.1,seval];exact aG.dat rfl
 ·have e0:((t.k:Int) != 0)=true:=by simp;omega
  rw[if_neg hk];cases e2:((t.k:Int)==2)with
  |true=>simp only[wq.1,seval,e0];exact aG.dat rfl
  |false=>simp only[wq.1,seval,e0];exact aG.dat rfl
theorem Oe(t:Tk):iF t=if(xH t).2=0 then .ok (xH t).1 else .error (t.at',(xH t).2):=by
 unfold iF xH;split
 ·rfl
 ·rfl
theorem Og[MO](t:Tk)(s:S)(hs:t.t.length<=1000000):Ev TE 76 [t.v,.ip (vi 2),.ip (.str s)] (.bool (isT s t)):=by have hw:=Ky t hs;unfold isT;refine ai Tryz.func76 rfl (by simp[nts]) (vm ?_);simp only[wq.1,seval,Tryz.results76];refine ag.ev hw rfl ?_;simp only[wq.1,seval];exact dW rfl rfl
theorem QU[MO](l:List Tk)(s:S)(hl:∀t∈l,t.t.length<=1000000):Ev TE 35 [vi 2,iM l,.str s] (vi (J5 l s)):=by
 have hix:=QQ l 76 [.ip (vi 2),.ip (.str s)] (isT s) rfl rfl fun t ht=>Og t s (hl t ht);have hidx:idx l (isT s)=match l.findIdx? (isT s)with|some i=>(i:Int)|none=>-1:=rfl
 have hlen:l.length<=l.length:=zrb _;unfold J5;refine ai Tryz.func35 rfl (by simp[nts]) (vm ?_);simp only[wq.1,seval,Tryz.results35];refine ag.lend hix (ay.cons (aG.dat (by simp only[V.dat,zy])) (ay.cons (aG.fn ay.nil (ay.cons (aG.lp rfl (ay.dat rfl) rfl rfl (by simp[V.vc]) rfl) (ay.cons (aG.lp rfl (ay.dat rfl) rfl rfl (by simp[V.vc]) rfl) ay.nil))) ay.nil)) rfl ?_;rw[hidx];cases hfi:l.findIdx? (isT s)with
 |none=>simp only[wq.1,seval];exact aG.dat rfl
 |some i =>
  have hi:i<l.length:=(List.findIdx?_eq_some_iff_getElem.1 hfi).1;have hge:decide ((i:Int)<0)=false:=by simp
  have hgd:l.getD i ⟨0,[],0⟩=l[i]:=by rw[zqg,zqk hi];rfl
  simp only[wq.1,seval,hge,Ob hi];rw[hgd];exact⟨⟨by omega,by omega⟩,aG.dat rfl⟩
theorem Kz[MO](op:Int)(n:Nat)(hn:n<=maxLen):Ev TE 65 [vi op,vi n] (.bool (vO op n)):=by
 have hm:=MO.ins op (.agg [vi 0,vi 0]);by_cases hr:0<=op/\op<=10
 ·rw[if_pos hr]at hm;obtain⟨k,rfl⟩:∃k:Nat,op=k:=⟨op.toNat,by omega⟩;have hk:k<=10:=by omega
  have hv:vO (k:Int) n=(decide ((n:Int)>=if(k:Int)<=1 then 0 else if(k:Int)<=3 then 1 else if(k:Int)<=9 then 2 else 0)&&decide ((n:Int)<=if(k:Int)<=1 then 0 else if(k:Int)<=3 then 1 else 8)):=by
   unfold vO;rw[decide_eq_true (by omega),decide_eq_true (by omega),zsg,Bool.true_and,Bool.true_and];have:k=0\/k=1\/k=2\/k=3\/k=4\/k=5\/k=6\/k=7\/k=8\/k=9\/k=10:=by omega
   rw[Bool.eq_iff_iff];rcases this with rfl|rfl|rfl|rfl|rfl|rfl|rfl|rfl|rfl|rfl|rfl<;>simp[Ea]<;>omega
  rw[hv];refine ai Tryz.func65 rfl (by simp[nts]) (vm ?_);simp only[wq.1,↓reduceIte,Nat.reduceEqDiff,Nat.reduceLT,Nat.reduceLeDiff,Nat.reduceAdd,Int.reduceToNat,Int.reduceLE,reduceCtorEq,Nat.reduceMul,Tryz.results65,gl1,fQ,hm];exact⟨by decide,fun _=>by decide,aG.dat rfl⟩
 ·rw[if_neg hr]at hm;have hv:vO op n=false:=by
   unfold vO;by_cases h0:0<=op
   ·rw[decide_eq_false (show ¬op<=10 by omega)];simp
   ·rw[decide_eq_false h0];rfl
  rw[hv];refine ai Tryz.func65 rfl (by simp[nts]) (vm ?_);simp only[wq.1,seval,Tryz.results65,gl1,fQ,hm];exact aG.dat rfl
theorem wF{p:UInt8->Bool}:∀l:S,l.dropWhile p=[]↔∀x∈l,p x=true
 |[]=>by simp
 |a::l=>by
  rw[List.dropWhile_cons];cases h:p a with
  |true=>rw[if_pos rfl,wF l];simp[h]
  |false=>rw[if_neg (by decide)];simp[h]
theorem yc{p:UInt8->Bool}:∀ {l:S} {a:UInt8} {r:S},l.dropWhile p=a::r->p a=false
 |b::l,a,r,h=>by
  rw[List.dropWhile_cons]at h;split at h
  ·exact yc h
  ·rename_i hb;injection h with h1 _;subst h1;simpa using hb
theorem Oh(s cs:S):(Lib.trimS s cs=[])↔∀x∈s,cs.contains x=true:=by
 unfold Lib.trimS Lib.trimLeftS Lib.trimRightS;rw[wF];constructor
 ·intro h;cases hd:s.reverse.dropWhile (cs.contains ·)with
  |nil=>exact fun x hx=>(wF _).1 hd x (List.mem_reverse.2 hx)
  |cons a r=>exfalso;have ha:=yc hd;have:=h a (by rw[hd];simp);rw[this]at ha;cases ha
 ·intro h x hx;exact h x (List.mem_reverse.1 ((List.dropWhile_sublist _).mem (List.mem_reverse.1 hx)))
theorem FQ(n:Nat)(s:S):(((s.length:Int)==(n:Int))&&Lib.trimS s [48,49,45]==[])=jc n s:=by
 unfold jc
 congr 1
 ·rw[Bool.eq_iff_iff,beq_iff_eq,beq_iff_eq];omega
 ·rw[Bool.eq_iff_iff,beq_iff_eq,Oh,zrs];refine forall_congr' fun x=>forall_congr' fun _=> ?_;rw[List.contains_iff_mem];unfold Uk;simp[or_assoc]
theorem QV[MO](s:S)(n:Nat):Ev TE 79 [.str s,vi n] (.bool (jc n s)):=by have ht:=FH s [48,49,45] (by decide) (by decide);rw[<-FQ];refine ai Tryz.func79 rfl (by simp[nts]) (vm ?_);simp only[wq.1,seval,Tryz.results79];refine Aj.ev (q:=112) (vs:=[.str s,.str [48,49,45]]) (by simp only[wq.1,seval]) (by simp only[wq.1,seval]) rfl (fun _=>ht) (fun _=>rfl) ?_;simp only[wq.1,seval];exact dW rfl rfl
theorem KA[MO](s:S)(g:Ga):Ev TE 78 [.str s,.ip g.v] (.bool (!jc g.ins.length s)):=by have hr:=QV s g.ins.length;refine ai Tryz.func78 rfl (by simp[nts]) (vm ?_);simp only[wq.1,seval,Tryz.results78];refine ag.ev hr rfl ?_;simp only[wq.1,seval];exact dW rfl rfl
theorem PR{g:Ga}{r:List V}(hb:V.bnds (g.v::r)):g.ins.length<=maxLen/\g.rows.length<=maxLen:=by simp only[V.bnds,V.bnd,zra]at hb;exact⟨hb.1.2.2.1.1,hb.1.2.2.2.1.1⟩
theorem Oi[MO](g:Ga):Ev TE 41 [g.v] (.bool (gU g)):=by
 refine Ev.bnd fun hb=> ?_;obtain⟨hl1,hl2⟩:=PR hb;have hh:=Kz g.op g.ins.length hl1;have hct:=QM g.rows 78 [.ip g.v] (fun r=> !jc g.ins.length r) rfl (by simp only[V.dats,V.dat,aJ,zre]) fun r _=>KA r g;have e1:(g.op != 10&&(decide ((0:Int)<(g.rows.length:Int))||g.off))= !(g.op==10||(g.rows.isEmpty&& !g.off)):=by
  have:decide ((0:Int)<(g.rows.length:Int))= !g.rows.isEmpty:=by cases g.rows<;>simp
  rw[this,bne];cases g.op==10<;>cases g.rows.isEmpty<;>cases g.off<;>rfl
 have e2:g.rows.any (fun r=> !jc g.ins.length r)= !g.rows.all (jc g.ins.length):=by rw[List.not_all_eq_any_not]
 rw[e2]at hct;refine ai Tryz.func41 rfl (by simp[nts]) (vm ?_);simp only[wq.1,seval,Tryz.results41];refine⟨fun h=>⟨h,fun h2=>by rw[h,h2];rfl⟩,vcB.mk (fun hc=> ?_) (fun hc=> ?_)⟩
 ·rw[e1]at hc;have hg:gU g=false:=by
   unfold gU;rw[Bool.not_eq_true']at hc;rw[hc,Bool.false_and]
  rw[hg];simp only[wq.1,seval];exact aG.dat rfl
 ·rw[e1]at hc;have hg:gU g=(vO g.op g.ins.length&&(decide (g.rows.length<=128)&&g.rows.all (jc g.ins.length))):=by
   unfold gU;rw[Bool.not_eq_false']at hc;rw[hc,Bool.true_and]
  have e3:decide ((g.rows.length:Int)<=128)=decide (g.rows.length<=128):=decide_eq_decide.2 (by omega);rw[hg];simp only[wq.1,seval];refine ag.ev hh rfl ?_;cases vO g.op g.ins.length with
  |false=>simp only[wq.1,seval];refine⟨.bool true,?_⟩;simp only[wq.1];exact aG.dat rfl
  |true =>
   cases h128:decide (g.rows.length<=128)with
   |false=>rw[h128]at e3;simp only[wq.1,seval,e3];refine⟨.bool true,?_⟩;simp only[wq.1];exact aG.dat rfl
   |true=>rw[h128]at e3;simp only[wq.1,seval,e3];refine ag.lend hct (ay.cons (aG.dat (by simp only[V.dat,aJ])) (ay.cons (aG.fn ay.nil (ay.cons (aG.lp rfl (ay.dat (by simp only[V.dats,V.dat,aJ,zre])) rfl (by simp only[V.dat,V.dats,aJ,zre]) (by simp[V.vc]) rfl) ay.nil)) ay.nil)) rfl ?_;simp only[wq.1,seval];exact dW rfl (by rw[Bool.not_not])
theorem KC{l:List S}{r:List V}(hb:V.bnds (aW l::r)):l.length<=maxLen:=by simp only[V.bnds,V.bnd,zra]at hb;exact hb.1.1
theorem QW[MO](a b:List S):Ev TE 36 [aW a,aW b] (.bool (a==b)):=by
 refine Ev.bnd fun hb=> ?_;have hlen:=KC hb;refine ai Tryz.func36 rfl (by simp[nts]) (vm ?_);simp only[wq.1,seval,Tryz.results36];refine vcB.mk (fun hc=> ?_) (fun hc=> ?_)
 ·simp only[wq.1,seval];refine dW rfl ?_;simp only[bne_iff_ne,ne_eq,Int.natCast_inj]at hc;have:¬a=b:=fun h=>hc (by rw[h]);simp[this]
 ·have hl:a.length=b.length:=by simpa [Int.natCast_inj]using hc
  simp only[wq.1,seval];refine aN (fun m f h=>∃i,m+i=a.length/\f.t 0=aW a/\f.t 1=aW b/\f.t 12= .int .i64 (a.length:Int)/\f.t 13= .int .i64 (i:Int)/\f.d=[]/\a.take i=b.take i) a.length ⟨0,by simp,rfl,rfl,rfl,rfl,rfl,by simp⟩ ?_;rintro m f h ⟨i,hm,h0,h1,h12,h13,hd,hall⟩;refine vm ?_;simp only[wq.1,seval,h12,h13];refine vcB.mk (fun hc=> ?_) (fun hc=> ?_)
  ·simp only[zqb,zqi]at hc;have hc2:i<b.length:=by omega
   simp only[wq.1,seval,h0,h1,h13,LU hc,LU hc2];refine⟨by decide +kernel,⟨by omega,by omega⟩,⟨by omega,by omega⟩,vcB.mk (fun hc=> ?_) (fun hc=> ?_)⟩
   ·simp only[wq.1,seval,hd];refine dW rfl ?_;have:¬a=b:=fun h=>by subst h;simp at hc
    simp[this]
   ·simp only[wq.1,seval,h13,aC (show i<maxLen by omega)];exact .inl ⟨m-1,by omega,i+1,by omega,h0,h1,h12,rfl,hd,JR hall (by omega) (by omega) (by simpa using hc)⟩
  ·simp only[zqd,zqi]at hc;simp only[wq.1,seval,hd];refine dW rfl ?_;rw[zqh (by omega),zqh (by omega)]at hall;simp[hall]
end Go.Proofs.YtokppohljajhjaaGreatDoor
