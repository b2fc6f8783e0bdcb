/- Lemmas for this claim, part F03: each holds under what it names. -/
import Derived.Test.YthaijohbpdabfaaGreatDoorNF02
import Derived.Test.YthaijohbpdabfaaGreatDoorNF01
import Derived.Test.YthaijohbpdabfaaGreatDoorNA9
import Derived.Test.YthaijohbpdabfaaGreatDoorNA8
set_option linter.all false
set_option maxRecDepth 20000
set_option maxHeartbeats 4000000
namespace Go.Proofs.YthaijohbpdabfaaGreatDoor
open Go Go.Proofs Go.Abs
def Xk(a b:Int):Int:=IntKind.u64.wrap ((BitVec.ofInt IntKind.u64.bits a &&& BitVec.ofInt IntKind.u64.bits b).toNat:Int)
def XV(a:Int)(k:Nat):Int:=a.fdiv (2^(min k IntKind.u64.bits))
def XW(a b:Int):Int:=IntKind.u64.wrap (a+b)
def oc1(x:Int):Int:=XW (Xk (XV x 1) 6148914691236517205) (Xk x 6148914691236517205)
def oc2(x:Int):Int:=XW (Xk (XV x 2) 3689348814741910323) (Xk x 3689348814741910323)
def oc3(x:Int):Int:=Xk (XW (XV x 4) x) 1085102592571150095
def oc4(x:Int)(k:Nat):Int:=XW x (XV x k)
theorem Ya:∀k:Nat,k<256->IntKind.i64.wrap ((BitVec.ofInt IntKind.i64.bits (IntKind.i64.wrap (oc4 (oc4 (oc4 (oc3 (oc2 (oc1 (k:Int)))) 8) 16) 32)) &&& BitVec.ofInt IntKind.i64.bits 127).toNat:Int)=(zu k:Nat):=by decide +kernel
theorem Xl{h:H}(z:Int):ja P h 313 3 (.int .u64 z)=(True,.int .i64 (IntKind.i64.wrap z)):=by unfold ja;simp only[tis]
theorem Yb{h:H}(z:Int):ja P h 3 156 (.int .i64 z)=(True,.int .u64 (IntKind.u64.wrap z)):=by unfold ja;simp only[tis]
theorem Yc{h:H}(z:Int):ja P h 3 5 (.int .i64 z)=(True,.int .u8 (IntKind.u8.wrap z)):=by unfold ja;simp only[tis]
theorem Yd:∀k:Nat,k<256->IntKind.u64.wrap (k:Int)=k:=by decide +kernel
theorem Xm:∀z:Nat,z<256->IntKind.u8.wrap (48+IntKind.u8.wrap (IntKind.i64.wrap ((BitVec.ofInt IntKind.i64.bits (z:Int) &&& BitVec.ofInt IntKind.i64.bits 1).toNat:Int)))=((UInt8.ofNat (48+z%2)).toNat:Int):=by decide +kernel
theorem Xn(k j:Nat)(hj:j<=60):(k:Int).fdiv (2^(min j IntKind.i64.bits))=((k/2^j:Nat):Int):=by
 rw[Nat.min_eq_left (show j<=IntKind.i64.bits by show j<=64;omega)];have e:((2:Int)^j)=((2^j:Nat):Int):=by simp
 rw[e,Int.fdiv_eq_ediv_of_nonneg _ (Int.natCast_nonneg _)];rfl
theorem U7{r:S}{i n:Nat}{z:V}(hi:i<n)(hl:r.length=n):List.take (i*1) ((r.take i).map vb++List.replicate (n-i) z)++[vb (r[i]'(by omega))]++List.drop (i*1+1) ((r.take i).map vb++List.replicate (n-i) z)=(r.take (i+1)).map vb++List.replicate (n-(i+1)) z:=by
 have e1:((r.take i).map vb).length=i:=by rw[zra,zrl];omega
 obtain⟨d,hd⟩:∃d,n-i=d+1:=⟨n-i-1,by omega⟩;rw[show n-(i+1)=d by omega,hd,Nat.mul_one,List.take_append_of_le_length (by omega),zqh (by omega),List.drop_append,e1,List.drop_of_length_le (by omega),show i+1-i=1 by omega,List.replicate_succ,List.drop_succ_cons,List.drop_zero,List.nil_append,List.take_succ_eq_append_getElem (by omega),zql];rfl
theorem Rj(n k:Nat):(Kt n k).length=n:=by simp[Kt]
theorem NY[MO](k:Nat)(hk:k<256):Ev TE 256 [.int .u64 k] (vi (zu k)):=by rw[<-Ya k hk];refine ak Tryz.func256 rfl (by simp[nts]) (vm ?_);simp only[wq.1,seval,Tryz.results256,Xl];exact aG.eq rfl rfl
theorem U8[MO](k:Nat)(hk:k<256):Ev TE 201 [.int .u64 k] (vi (zu k)):=by refine ak Tryz.func201 rfl (by simp[nts]) (vm ?_);simp only[wq.1,seval,Tryz.results201];refine ag.ev (NY k hk) rfl ?_;simp only[wq.1,seval];exact aG.dat rfl
theorem Ae[MO](n:Nat)(odd:Bool):Ev TE 152 [vi n,.bool odd] (.fn (.func 200) [] [.ip (vi n),.ip (.bool odd)]):=by refine ak Tryz.func152 rfl (by simp[nts]) (vm ?_);simp only[wq.1,seval,Tryz.results152];exact aG.fn ay.nil (ay.cons (aG.lp rfl (ay.dat rfl) rfl rfl (by simp[V.vc]) rfl) (ay.cons (aG.lp rfl (ay.dat rfl) rfl rfl (by simp[V.vc]) rfl) ay.nil))
def HPr(L:(Nat->V)->LoopState->Option Code->O)(out:List S)(st:LoopState)(h:H):Prop :=
 ∃t X,t 8= .lp 0 0/\h=[.cells [.ls 1 1 0 out.length out.length],.cells (out.map V.str),.misc .dfd,L t st none]++X
def zB(n:Nat)(odd:Bool)(k:Nat):List S:=((List.range k).filter fun k=>(zu k%2==1)==odd).map (Kt n)
theorem NZ{n:Nat}{odd:Bool}{k:Nat}:zB n odd (k+1)=if((zu k%2==1)==odd)=true then zB n odd k++[Kt n k]else zB n odd k:=by
 unfold zB;rw[List.range_succ,List.filter_append,zql];split
 ·rename_i h;simp[List.filter,h]
 ·rename_i h;simp[List.filter,h]
theorem Rk{n:Nat}{odd:Bool}{k:Nat}:(zB n odd k).length<=k:=by unfold zB;rw[zra];exact Nat.le_trans (List.length_filter_le _ _) (by rw[List.length_range];exact zrb _)
theorem tq[MO](L:(Nat->V)->LoopState->Option Code->O)(hL:∀p t st c,(L t st c).drop p=L (fun i=>(t i).drop p) st c)(n:Nat)(odd:Bool)(hn:n<=8)(h:H)(h0:HPr L [] .ready h)
 (step:∀out s h,HPr L out .ready h->out.length<=300->V5 TE 3 [.str s] h fun j h'' p=>j=none/\(∀i,i<4->i≠1->p i=false)/\HPr L (out++[s]) .ready h'') :
 ag TE 200 ([]++[.yd 3]++[.ip (vi n),.ip (.bool odd)]) h fun ae h' p=>(∀i,i<4->i≠1->p i=false)/\match ae with
  | .ret _=>HPr L (XU n odd) .ready h'
  | .pan _=>False:=by
 have hM:=mLx;have hp2:2^n<=256:=Nat.pow_le_pow_right (n:=2) (by decide) hn;have hmin:min n IntKind.i64.bits=n:=Nat.min_eq_left (by show n<=64;omega);obtain⟨N,hN⟩:∃N,N=2^n:=⟨_,rfl⟩;rw[<-hN]at hp2;have w0:IntKind.i64.wrap (1*2^n)=(N:Int):=by
  rw[Int.one_mul];have e:((2:Int)^n)=(N:Int):=by rw[hN];simp
  rw[e];exact iL (by omega) (by omega)
 have hpar:XU n odd=zB n odd N:=by rw[hN];rfl
 rw[hpar];refine aj Tryz.func200 rfl (by simp[nts]) (vm ?_);simp only[wq.1,seval,Tryz.results200,hmin,w0];refine⟨by omega,?_⟩;refine aC (fun m f h=>∃k,m+k=N/\f.t 0= .yd 3/\f.t 1= .ip (vi n)/\f.t 2= .ip (.bool odd)/\f.t 8=vi N/\f.t 9=vi k/\f.d=[]/\(∀i,i<4->i≠1->f.k i=false)/\HPr L (zB n odd k) .ready h) N ⟨0,by omega,rfl,rfl,rfl,by simp only[wq.1,seval],by simp only[wq.1,↓reduceIte];rfl,rfl,fun _ _ _=>rfl,h0⟩ ?_;clear h0 h;rintro m f h ⟨k,hm,g0,g1,g2,g8,g9,hd,hk,t,X,ht,rfl⟩;have hwk:=aB (show k<maxLen by omega)
 -- what lies behind is forgotten
 refine fD (h0:=[.cells [.ls 1 1 0 (zB n odd k).length (zB n odd k).length],.cells ((zB n odd k).map V.str),.misc .dfd,L t .ready none]) (by rw[hd];simp) ?_;have hcl:([.cells [.ls 1 1 0 (zB n odd k).length (zB n odd k).length],.cells ((zB n odd k).map V.str),.misc .dfd,L t .ready none]:H).map (O.drop (Abs.fV 4))=[.cells [.ls 1 1 0 (zB n odd k).length (zB n odd k).length],.cells ((zB n odd k).map V.str),.misc .dfd,L (fun i=>(t i).drop (Abs.fV 4)) .ready none]:=by
  simp only[zrd,List.map_nil,hL];simp only[O.drop,aJ];rfl
 show awp _ _ _ _ _ (f.drop (Abs.fV 4)) (([.cells [.ls 1 1 0 (zB n odd k).length (zB n odd k).length],.cells ((zB n odd k).map V.str),.misc .dfd,L t .ready none]:H).map (O.drop (Abs.fV 4)));rw[hcl];obtain⟨out,hout⟩:∃out,out=zB n odd k:=⟨_,rfl⟩;have hol:out.length<=k:=by rw[hout];exact Rk
 obtain⟨t',ht'⟩:∃t',t'=fun i=>(t i).drop (Abs.fV 4):=⟨_,rfl⟩;have ht8:t' 8= .lp 0 0:=by rw[ht'];show(t 8).drop _=_;rw[ht];rfl
 rw[<-hout,<-ht'];obtain⟨B,hB⟩:∃B:H,B=[.cells [.ls 1 1 0 out.length out.length],.cells (out.map V.str),.misc .dfd,L t' .ready none]:=⟨_,rfl⟩;have hBl:B.length=4:=by rw[hB];rfl
 have hBX:∀X,HPr L out .ready (B++X):=fun X=>⟨t',X,ht8,by rw[hB]⟩;have hg:∀x:O,(B++[x])[4]? =some x:=fun x=>by rw[hB];rfl
 have hgs:∀x y:O,(B++[x]).set 4 y=B++[y]:=fun x y=>by rw[hB];rfl
 rw[<-hB];obtain⟨f',hf'⟩:∃f',f'=f.drop (Abs.fV 4):=⟨_,rfl⟩;have u0:f'.t 0= .yd 3:=by rw[hf'];show(f.t 0).drop _=_;rw[g0];rfl
 have u1:f'.t 1= .ip (vi n):=by rw[hf'];show(f.t 1).drop _=_;rw[g1];rfl
 have u2:f'.t 2= .ip (.bool odd):=by rw[hf'];show(f.t 2).drop _=_;rw[g2];rfl
 have u8:f'.t 8=vi N:=by rw[hf'];show(f.t 8).drop _=_;rw[g8];rfl
 have u9:f'.t 9=vi k:=by rw[hf'];show(f.t 9).drop _=_;rw[g9];rfl
 have ud:f'.d=[]:=by rw[hf'];exact hd
 have uk:∀i,i<4->i≠1->f'.k i=false:=fun i hi h1=>by rw[hf'];show(f.k i||Abs.fV 4 i)=false;rw[hk i hi h1];simp[Abs.fV];omega
 rw[<-hf'];clear hf' g0 g1 g2 g8 g9 hd hk hcl ht';refine vn ?_;simp only[wq.1,Nat.reduceLT,u8,u9];refine vn ?_;simp only[wq.1,↓reduceIte];refine vcB.mk (fun hlt=> ?_) (fun hlt=> ?_)
 ·have hlt:k<N:=by have:=zqs hlt;omega
  have hps:=NZ (n:=n) (odd:=odd) (k:=k);have hon:=U8 k (by omega);have wu:=Yd k (by omega);have hod:(((zu k:Nat):Int).tmod 2==1)=(zu k%2==1):=by rw[Bool.eq_iff_iff,beq_iff_eq,beq_iff_eq,Int.tmod_eq_emod_of_nonneg (by omega)];omega
  simp only[wq.1];refine ai ?_;refine aA ?_;refine vn ?_;simp only[wq.1,seval,u9];refine ai ?_;refine vn ?_;simp only[wq.1,↓reduceIte,Nat.reduceEqDiff,Nat.reduceLT,Nat.reduceLeDiff,Nat.reduceAdd,Nat.reduceSub,Int.reduceToNat,Nat.reduceDiv,Int.reduceLT,Int.reduceLE,Int.reduceNeg,Int.reduceBEq,Int.reduceBNe,Int.reduceAdd,Int.reduceSub,Nat.reduceBEq,reduceCtorEq,Nat.reduceMul,au,Tryz.results200,u0,u1,u2,u8,u9,ud,Yb,wu];refine⟨by decide +kernel,uw.mk hon rfl rfl ?_⟩;simp only[wq.1,↓reduceIte,Nat.reduceEqDiff,Nat.reduceLT,Nat.reduceLeDiff,Nat.reduceAdd,Nat.reduceSub,Int.reduceToNat,Nat.reduceDiv,Int.reduceLT,Int.reduceLE,Int.reduceNeg,Int.reduceBEq,Int.reduceBNe,Int.reduceAdd,Int.reduceSub,Nat.reduceBEq,reduceCtorEq,Nat.reduceMul,au,Tryz.results200,u0,u1,u2,u8,u9,ud,hod];refine⟨by decide,?_⟩;obtain⟨b,hb⟩:∃b,b=(zu k%2==1):=⟨_,rfl⟩;rw[<-hb]at hps ⊢;cases hbo:(b==odd)with
  |false =>
   rw[hbo,if_neg (by decide)]at hps;have hne:(b != odd)=true:=by rw[bne,hbo];rfl
   refine vm ?_;simp only[wq.1,↓reduceIte];refine vm ?_;simp only[wq.1,seval,u9,hwk];have hx:=hBX [];rw[zqp]at hx;exact .inl ⟨m-1,by omega,k+1,by omega,by simp only[wq.1,seval,u0],by simp only[wq.1,seval,u1],by simp only[wq.1,seval,u2],by simp only[wq.1,seval,u8],by simp only[wq.1,↓reduceIte],by simp only[wq.1,ud],fun i hi h1=>by simp only[wq.1,uk i hi h1],by rw[hps,<-hout];exact hx⟩
  |true =>
   rw[hbo,if_pos rfl]at hps;have hne:(b != odd)=false:=by rw[bne,hbo];rfl
   refine vm ?_;simp only[wq.1,↓reduceIte];refine vn ?_;simp only[wq.1,seval,u1,hBl];refine⟨⟨by omega,by omega⟩,?_⟩;refine vn ?_;simp only[wq.1,seval];refine aC (fun mm f h=>∃i,mm+i=n/\f.t 0= .yd 3/\f.t 1= .ip (vi n)/\f.t 2= .ip (.bool odd)/\f.t 4=vi k/\f.t 5= .ls 4 1 0 n n/\f.t 8=vi N/\f.t 9=vi k/\f.t 22=vi n/\f.t 23=vi i/\f.d=[]/\(∀i,i<4->i≠1->f.k i=false)/\h=B++[.cells (((Kt n k).take i).map vb++List.replicate (n-i) (.int .u8 0))]) n ⟨0,by omega,by simp only[wq.1,seval,u0],by simp only[wq.1,seval,u1],by simp only[wq.1,seval,u2],by simp only[wq.1,seval],by simp only[wq.1,seval],by simp only[wq.1,seval,u8],by simp only[wq.1,seval,u9],by simp only[wq.1,seval],by simp only[wq.1,↓reduceIte];rfl,by simp only[wq.1,ud],fun i hi h1=>by simp only[wq.1,uk i hi h1],rfl⟩ ?_;clear u0 u1 u2 u8 u9 ud uk;rintro mm f h ⟨i,hmm,u0,u1,u2,u4,u5,u8,u9,u22,u23,ud,uk,rfl⟩;have hwi:=aB (show i<maxLen by omega);have hrl:=Rj n k;refine vn ?_;simp only[wq.1,Nat.reduceLT,u22,u23];refine vn ?_;simp only[wq.1,↓reduceIte];refine vcB.mk (fun hin=> ?_) (fun hin=> ?_)
   ·have hin:i<n:=by have:=zqs hin;omega
    have w1:IntKind.i64.wrap ((n:Int)-1)=(n:Int)-1:=iL (by omega) (by omega);have w2:IntKind.i64.wrap ((n:Int)-1-i)=((n-1-i:Nat):Int):=by rw[iL (by omega) (by omega)];omega
    have w3:=Xn k (n-1-i) (by omega);have hz:k/2^(n-1-i)<256:=Nat.lt_of_le_of_lt (Nat.div_le_self _ _) (by omega);have w4:=Xm _ hz;obtain⟨z,hzz⟩:∃z,z=k/2^(n-1-i):=⟨_,rfl⟩;rw[<-hzz]at w3 w4;have hrow:(Kt n k)[i]'(by omega)=UInt8.ofNat (48+z%2):=by simp[Kt,hzz]
    simp only[wq.1];refine ai ?_;refine aA ?_;refine vm ?_;simp only[wq.1,seval,u1,u4,u5,u23,w1,w2,w3,w4,Yc,hg,hgs];have hfa:=U7 (r:=Kt n k) (z:= .int .u8 0) hin hrl;rw[hrow]at hfa;refine⟨by omega,⟨by omega,by omega⟩,by rw[zrl,zsc];omega,?_⟩;rw[hfa];refine vm ?_;simp only[wq.1,seval,u23,hwi];exact .inl ⟨mm-1,by omega,i+1,by omega,by simp only[wq.1,seval,u0],by simp only[wq.1,seval,u1],by simp only[wq.1,seval,u2],by simp only[wq.1,seval,u4],by simp only[wq.1,seval,u5],by simp only[wq.1,seval,u8],by simp only[wq.1,seval,u9],by simp only[wq.1,seval,u22],by simp only[wq.1,↓reduceIte],by simp only[wq.1,ud],fun i hi h1=>by simp only[wq.1,uk i hi h1],rfl⟩
   ·have hin:i=n:=by have:=of_decide_eq_false hin;omega
    subst hin;rw[Nat.sub_self,List.replicate_zero,zqp,zqh (by omega)]at *;obtain⟨c1,c2⟩:=pW (h:=B++[.cells ((Kt i k).map vb)]) (l:=Kt i k) (k:=4) (cap:=i) (hg _);rw[hrl]at c1 c2;obtain⟨t2,n',ps,asg,body,pend,hLL,hsz,hps2,hw⟩:=step out (Kt i k) (B++[.cells ((Kt i k).map vb)]) (hBX _) (by omega);refine vm ?_;simp only[wq.1,seval,u0,u5,c1,c2,hLL];refine⟨⟨by simpa using hsz,hps2⟩,oH hw ?_⟩;rintro j h' p hp ⟨rfl,hp4,hHD'⟩;refine⟨by simp[rU,ud],?_⟩;simp only[wq.1,seval,Option.isNone_none];refine vm ?_;simp only[wq.1,seval,u9,hwk];exact .inl ⟨m-1,by omega,k+1,by omega,by simp only[wq.1,seval,u0,hp],by simp only[wq.1,seval,u1],by simp only[wq.1,seval,u2],by simp only[wq.1,seval,u8],by simp only[wq.1,↓reduceIte],by simp only[wq.1,ud],fun i hi h1=>by simp only[wq.1,uk i hi h1,hp4 i hi h1],by rw[hps,<-hout];exact hHD'⟩
 ·have hkN:k=N:=by have:=of_decide_eq_false hlt;omega
  subst hkN;simp only[wq.1,ud];exact⟨uk,by rw[<-hout];have:=hBX [];rwa [zqp]at this⟩
theorem aG.ex{e:E}{h:H}{k:Nat}{es:List V}(hd:V.dat (.is true k es)=true):aG e h (.is true k es) (.is false k es):=fun ok pl w x hs hv=>cO _ _ (aG.dat hd ok pl w x hs hv)
theorem Rl(n:Nat)(c:UInt8):Lib.repeatL [c] n=List.replicate n c:=by
 induction n with
 |zero=>rfl
 |succ n ih=>rw[List.replicate_succ,<-ih];rfl
theorem Rn[MO](op:Int)(n:Nat)(h0:0<=op)(h10:op<10)(hn:n<=8):Ev TE 88 [vi op,vi n] (.tup [aN (xU op.toNat n).1,.bool (xU op.toNat n).2]):=by
 have hM:=mLx;have hr1:=EE [49] n (by decide) (by omega);have hr0:=EE [48] n (by decide) (by omega);rw[Rl]at hr1 hr0;refine ak Tryz.func88 rfl (by simp[nts]) ?_;refine vn ?_;simp only[wq.1,Nat.reduceLT,Tryz.results88];refine vn ?_;simp only[wq.1,seval];refine ag.ev hr1 rfl ?_;simp only[wq.1,seval];refine ag.ev hr0 rfl ?_;simp only[wq.1,seval];have hop:op=0\/op=1\/op=2\/op=3\/op=4\/op=5\/op=6\/op=7\/op=8\/op=9:=by omega
 rcases hop with rfl|rfl|rfl|rfl|rfl|rfl|rfl|rfl|rfl|rfl
 ·refine vm ?_;simp only[wq.1,↓reduceIte,Nat.reduceEqDiff,Nat.reduceLT,Nat.reduceLeDiff,Nat.reduceAdd,Nat.reduceSub,Int.reduceToNat,Nat.reduceDiv,Int.reduceLT,Int.reduceLE,Int.reduceNeg,Int.reduceBEq,Int.reduceBNe,Int.reduceAdd,Int.reduceSub,Nat.reduceBEq,reduceCtorEq,Nat.reduceMul,au,Tryz.results88];exact aG.tup (ay.cons aG.nils (ay.cons (aG.dat rfl) ay.nil))
 iterate 7
  ·refine vm ?_;simp only[wq.1,↓reduceIte,Nat.reduceEqDiff,Nat.reduceLT,Nat.reduceLeDiff,Nat.reduceAdd,Nat.reduceSub,Int.reduceToNat,Nat.reduceDiv,Int.reduceLT,Int.reduceLE,Int.reduceNeg,Int.reduceBEq,Int.reduceBNe,Int.reduceAdd,Int.reduceSub,Nat.reduceBEq,reduceCtorEq,Nat.reduceMul,au,Tryz.results88];exact⟨⟨rfl,by decide⟩,aG.tup (ay.cons (aG.ex rfl) (ay.cons (aG.dat rfl) ay.nil))⟩
 ·refine vn ?_;simp only[wq.1,seval];refine vn ?_;simp only[wq.1,Nat.reduceLT];refine fQ ?_;refine lg (h':=[.cells [.ls 1 1 0 0 0],.cells []]) (HLe.set (i:=0) (o':= .cells [.ls 1 1 0 0 0]) rfl (OLe.cells (zrb _) (bW.cons dE bW.nil))) ?_;refine vn ?_;simp only[wq.1,seval];refine ag.ev (Ae n true) rfl ?_;simp only[wq.1];refine jc (n:=46) (q:=200) (first:=[]) (captured:=[.ip (vi n),.ip (.bool true)]) (by simp only[wq.1,↓reduceIte]) (by simp only[wq.1,↓reduceIte]) rfl (by decide) ?_;intro L hLd gets;refine ag.mono (tq L hLd n true hn _ ⟨_,[],?_,rfl⟩ ?_) ?_
  ·rfl
  ·rintro out s h ⟨t,X,ht,rfl⟩ hol;refine gets _ _ _ t rfl rfl (fun lb=> ?_);have hds:∀p,V.drops p (out.map V.str)=out.map V.str:=fun p=>aJ;refine vm ?_;simp only[wq.1,↓reduceIte,Nat.reduceLT,Nat.reduceAdd,rZ];refine⟨t,rfl,?_⟩;refine vm ?_;simp only[wq.1,↓reduceIte,Nat.reduceEqDiff,Nat.reduceLT,Nat.reduceBEq,reduceCtorEq,Nat.reduceMul,ht,nR,XE.jump,hLd];refine⟨⟨rfl,by decide⟩,⟨by omega,by omega,by omega⟩,_,_,rfl,fun i hi h1=>by simpa using h1,fun i=>(t i).drop fun x=>x==1,X.map (O.drop fun x=>x==1),?_,?_⟩
   ·show(t 8).drop _=_;rw[ht];rfl
   ·rw[zql,zqa];rfl
  ·rintro ae h' p ⟨hp4,hr⟩;cases ae with
   |pan v=>exact hr.elim
   |ret v =>
    obtain⟨t,X,ht,rfl⟩:=hr;have k0:=hp4 0 (by omega) (by omega);have k2:=hp4 2 (by omega) (by omega);have k3:=hp4 3 (by omega) (by omega);refine⟨?_,hp4 3 (by omega) (by omega),t,_,none,(by decide),rfl,?_⟩
    ·intro i hi;have hi:i=2:=by simpa [rU,rV]using hi
     subst hi;exact k2
    ·simp only[wq.1,Nat.reduceAdd,zl];refine vm ?_;simp only[wq.1,seval,k0];exact aG.tup (ay.cons (aV rfl rfl) (ay.cons (aG.dat rfl) ay.nil))
 ·refine vn ?_;simp only[wq.1,seval];refine vn ?_;simp only[wq.1,Nat.reduceLT];refine fQ ?_;refine lg (h':=[.cells [.ls 1 1 0 0 0],.cells []]) (HLe.set (i:=0) (o':= .cells [.ls 1 1 0 0 0]) rfl (OLe.cells (zrb _) (bW.cons dE bW.nil))) ?_;refine vn ?_;simp only[wq.1,seval];refine ag.ev (Ae n false) rfl ?_;simp only[wq.1];refine jc (n:=46) (q:=200) (first:=[]) (captured:=[.ip (vi n),.ip (.bool false)]) (by simp only[wq.1,↓reduceIte]) (by simp only[wq.1,↓reduceIte]) rfl (by decide) ?_;intro L hLd gets;refine ag.mono (tq L hLd n false hn _ ⟨_,[],?_,rfl⟩ ?_) ?_
  ·rfl
  ·rintro out s h ⟨t,X,ht,rfl⟩ hol;refine gets _ _ _ t rfl rfl (fun lb=> ?_);have hds:∀p,V.drops p (out.map V.str)=out.map V.str:=fun p=>aJ;refine vm ?_;simp only[wq.1,↓reduceIte,Nat.reduceLT,Nat.reduceAdd,rZ];refine⟨t,rfl,?_⟩;refine vm ?_;simp only[wq.1,↓reduceIte,Nat.reduceEqDiff,Nat.reduceLT,Nat.reduceBEq,reduceCtorEq,Nat.reduceMul,ht,nR,XE.jump,hLd];refine⟨⟨rfl,by decide⟩,⟨by omega,by omega,by omega⟩,_,_,rfl,fun i hi h1=>by simpa using h1,fun i=>(t i).drop fun x=>x==1,X.map (O.drop fun x=>x==1),?_,?_⟩
   ·show(t 8).drop _=_;rw[ht];rfl
   ·rw[zql,zqa];rfl
  ·rintro ae h' p ⟨hp4,hr⟩;cases ae with
   |pan v=>exact hr.elim
   |ret v =>
    obtain⟨t,X,ht,rfl⟩:=hr;have k0:=hp4 0 (by omega) (by omega);have k2:=hp4 2 (by omega) (by omega);have k3:=hp4 3 (by omega) (by omega);refine⟨?_,hp4 3 (by omega) (by omega),t,_,none,(by decide),rfl,?_⟩
    ·intro i hi;have hi:i=2:=by simpa [rU,rV]using hi
     subst hi;exact k2
    ·simp only[wq.1,Nat.reduceAdd,zl];refine vm ?_;simp only[wq.1,seval,k0];exact aG.tup (ay.cons (aV rfl rfl) (ay.cons (aG.dat rfl) ay.nil))
abbrev gaF(g:Ga):List V:=[.str g.name,vi g.op,aN g.ins,aN g.rows,.bool g.off]
def yh(n:Nat)(rows:List S)(off:Bool)(op:Nat):Bool:=Lh op n&&(off==(xU op n).2&&(xU op n).1==rows)
theorem U9{n:Nat}{rows:List S}{off:Bool}{i:Nat}(hi:i<10)(hn:∀j,j<i->yh n rows off j=false)(h:yh n rows off i=true):jY n rows off=some i:=by unfold jY;rw[List.find?_eq_some_iff_getElem];refine⟨h,i,by rw[List.length_range];exact hi,by simp,fun j hj=> ?_⟩;have:=hn j hj;unfold yh at this;simp only[List.getElem_range,this];rfl
theorem Va{n:Nat}{rows:List S}{off:Bool}(hn:∀j,j<10->yh n rows off j=false):jY n rows off=none:=by unfold jY;rw[List.find?_eq_none];intro j hj;have:=hn j (List.mem_range.1 hj);unfold yh at this;simp only[this];decide
theorem Ro{i n:Nat}(hi:i<10):uJ (i:Int) n=Lh i n:=by unfold uJ;rw[decide_eq_true (by omega),decide_eq_true (by omega),zsg];rfl
theorem Rq{g:Ga}(h:(jm g).op≠10):aZ g=jm g:=by unfold aZ;rw[if_pos h]
theorem Kz{g:Ga}{i:Nat}(h:(jm g).op=10)(hf:jY g.ins.length g.rows g.off=some i):aZ g=⟨g.name,i,g.ins,[],false⟩:=by unfold aZ;rw[if_neg (fun e=>e h),hf]
theorem KA{g:Ga}(h:(jm g).op=10)(hf:jY g.ins.length g.rows g.off=none):aZ g=jm g:=by unfold aZ;rw[if_neg (fun e=>e h),hf]
theorem IW[MO](g:Ga):Ev TE 45 [g.v] ((aZ g).v):=by
 have hM:=mLx;refine Ev.bnd fun hb=> ?_;obtain⟨hl1,hl2⟩:=TT hb;refine ak Tryz.func45 rfl (by simp[nts]) ?_;refine vn ?_;simp only[wq.1,Nat.reduceLT,Tryz.results45];refine ai (aX (Q:=fun xe f h=>xe= .normal/\f.t 1= .lp 0 0/\f.t 2= .lp 1 0/\f.d=[]/\h=[.cells (gaF (jm g)),.cells [.str [],vi 0,.nils,.nils,.bool false]]) ?_ ?_)
 ·rintro xe f h ⟨rfl,t1,t2,hd,rfl⟩;show awp _ _ _ _ _ _ _;have ho:(jm g).ins=g.ins/\(jm g).rows=g.rows/\(jm g).off=g.off/\(jm g).name=g.name:=by
   unfold jm
   repeat' split
   all_goals exact⟨rfl,rfl,rfl,rfl⟩
  obtain⟨o,hoo⟩:∃o,o=jm g:=⟨_,rfl⟩;rw[<-hoo]at ho ⊢;obtain⟨o1,o2,o3,o4⟩:=ho;by_cases h10:o.op=10
  ·have e10:(o.op != 10)=false:=by rw[h10];rfl
   have hsome:∀i,jY g.ins.length g.rows g.off=some i->aZ g=⟨g.name,i,g.ins,[],false⟩:=fun i hf=>Kz (by rw[<-hoo];exact h10) hf;have hnone:jY g.ins.length g.rows g.off=none->aZ g=o:=fun hf=>by rw[hoo];exact KA (by rw[<-hoo];exact h10) hf
   refine vn ?_;simp only[wq.1,seval,t1,e10];refine vn ?_;simp only[wq.1,Nat.reduceLT];refine aC (fun m f h=>∃i:Nat,m+i=10/\f.t 1= .lp 0 0/\f.t 2= .lp 1 0/\f.t 3=vi i/\f.d=[]/\h=[.cells (gaF o),.cells [.str [],vi 0,.nils,.nils,.bool false]]/\∀j,j<i->yh g.ins.length g.rows g.off j=false) 10 ⟨0,rfl,by simp only[wq.1,seval,t1],by simp only[wq.1,seval,t2],by simp only[wq.1,↓reduceIte];rfl,by simp only[wq.1,hd],rfl,fun j hj=>absurd hj (by omega)⟩ ?_;clear t1 t2 hd;rintro m f h ⟨i,hm,t1,t2,t3,hd,rfl,hall⟩;have hwi:=aB (show i<maxLen by omega);refine vn ?_;simp only[wq.1,seval,t3];refine vcB.mk (fun hlt=> ?_) (fun hlt=> ?_)
   ·have hlt:i<10:=by have:=zqs hlt;omega
    have hh:=NU (i:Int) g.ins.length hl1;rw[Ro hlt]at hh;simp only[wq.1];refine ai ?_;refine aA ?_;refine vn ?_;simp only[wq.1,seval,t1,t3,o1];refine ag.ev hh rfl ?_;cases hhn:Lh i g.ins.length with
    |false =>
     have hf:yh g.ins.length g.rows g.off i=false:=by unfold yh;rw[hhn];rfl
     simp only[wq.1,seval];refine vm ?_;simp only[wq.1,seval,t3,hwi];refine .inl ⟨m-1,by omega,i+1,by omega,by simp only[wq.1,seval,t1],by simp only[wq.1,seval,t2],by simp only[wq.1,↓reduceIte],by simp only[wq.1,hd],rfl,fun j hj=> ?_⟩;by_cases hji:j=i
     ·rw[hji];exact hf
     ·exact hall j (by omega)
    |true =>
     have hn8:=UM hhn;have hr:=Rn (i:Int) g.ins.length (by omega) (by omega) (by omega);rw[zsg]at hr;have hq:=U6 (xU i g.ins.length).1 g.rows;have hfe:yh g.ins.length g.rows g.off i=(g.off==(xU i g.ins.length).2&&(xU i g.ins.length).1==g.rows):=by unfold yh;rw[hhn];rfl
     generalize xU i g.ins.length=RB at hr hq hfe;obtain⟨R,B⟩:=RB;dsimp only at hr hq hfe;have hcomm:(B==g.off)=(g.off==B):=by cases B<;>cases g.off<;>rfl
     simp only[wq.1,seval];refine vn ?_;simp only[wq.1,seval,t1,t3,o1];refine ag.ev hr (by simp only[V.dats,V.dat,zre]) ?_;simp only[wq.1,seval];refine vn ?_;simp only[wq.1,seval,t1,o1,o2,o3,hcomm];refine Gf.ev (q:=54) (vs:=[aN R,aN g.rows]) (by simp only[wq.1,seval]) (by simp only[wq.1,seval]) rfl (fun _=>hq) (fun _=>by simp only[V.dats,V.dat,ax,zre]) ?_;simp only[wq.1,seval];rw[<-hfe];cases hfi:yh g.ins.length g.rows g.off i with
     |false =>
      refine vm ?_;simp only[wq.1,↓reduceIte];refine vm ?_;simp only[wq.1,seval,t3,hwi];refine .inl ⟨m-1,by omega,i+1,by omega,by simp only[wq.1,seval,t1],by simp only[wq.1,seval,t2],by simp only[wq.1,↓reduceIte],by simp only[wq.1,hd],rfl,fun j hj=> ?_⟩;by_cases hji:j=i
      ·rw[hji];exact hfi
      ·exact hall j (by omega)
     |true=>rw[hsome i (U9 hlt hall hfi)];refine vm ?_;simp only[wq.1,seval,t1,t2,t3,hd,o1,o4];exact aG.agg (ay.cons (aG.dat rfl) (ay.cons (aG.dat rfl) (ay.cons (aG.dat (by simp only[V.dat,ax])) (ay.cons aG.nils (ay.cons (aG.dat rfl) ay.nil)))))
   ·have hi:i=10:=by have:=of_decide_eq_false hlt;omega
    subst hi;rw[hnone (Va hall)];refine vm ?_;simp only[wq.1,seval,t1,t2,hd];exact aG.dat (by simp only[V.dat,V.dats,ax,zre])
  ·have e10:(o.op != 10)=true:=by simpa using h10
   rw[Rq (by rw[<-hoo];exact h10),<-hoo];refine vm ?_;simp only[wq.1,seval,t1,t2,hd,e10];exact aG.dat (by simp only[V.dat,V.dats,ax,zre])
 ·have hone:jm g=if g.ins.length=1/\g.rows=[]/\g.off=false then if g.op=4\/g.op=6\/g.op=8 then {g with op:=2} else if g.op=5\/g.op=7\/g.op=9 then {g with op:=3} else g else g:=rfl
  have e1:((((g.ins.length:Int)==1)&&((g.rows.length:Int)==0))&& !g.off)=decide (g.ins.length=1/\g.rows=[]/\g.off=false):=by rw[Bool.eq_iff_iff,zqb];simp only[zqf,beq_iff_eq,Bool.not_eq_true',and_assoc];refine and_congr (by omega) (and_congr ?_ Iff.rfl);rw[show((g.rows.length:Int)=0)↔g.rows.length=0 by omega,List.length_eq_zero_iff]
  refine vn ?_;simp only[wq.1,seval,e1];by_cases hc:g.ins.length=1/\g.rows=[]/\g.off=false
  ·rw[if_pos hc]at hone;rw[decide_eq_true hc];have key:∀k:Int,(g.op==k)=decide (g.op=k):=fun k=>by rw[Bool.eq_iff_iff];simp
   by_cases h4:g.op=4\/g.op=6\/g.op=8
   ·rw[if_pos h4]at hone;rw[hone];rcases h4 with h4|h4|h4
    all_goals
     have a4:(g.op==4)=decide (g.op=4):=key 4;have a6:(g.op==6)=decide (g.op=6):=key 6;have a8:(g.op==8)=decide (g.op=8):=key 8;rw[h4]at a4 a6 a8;refine vm ?_;simp only[wq.1,seval,h4]
   ·rw[if_neg h4]at hone;have b4:(g.op==4)=false:=by simp;omega
    have b6:(g.op==6)=false:=by simp;omega
    have b8:(g.op==8)=false:=by simp;omega
    by_cases h5:g.op=5\/g.op=7\/g.op=9
    ·rw[if_pos h5]at hone;rw[hone];rcases h5 with h5|h5|h5
     all_goals
      refine vm ?_;simp only[wq.1,seval,h5]
    ·rw[if_neg h5]at hone;have b5:(g.op==5)=false:=by simp;omega
     have b7:(g.op==7)=false:=by simp;omega
     have b9:(g.op==9)=false:=by simp;omega
     rw[hone];refine vm ?_;simp only[wq.1,seval,b4,b6,b8,b5,b7,b9]
  ·rw[if_neg hc]at hone;rw[decide_eq_false hc,hone];refine vm ?_;simp only[wq.1,seval]
def at? :List S->S->Option Nat
 |[],_=>none
 |x::l,s=>if x=s then some 0 else(at? l s).map (·+1)
theorem bK(s:S):∀(ks:List S),iY .str (.str s) (ks.map V.str)=some (at? ks s)
 |[]=>rfl
 |k::ks=>by
  simp only[zrd,iY,keq,at?];by_cases h:k=s
  ·subst h;simp
  ·have:(s==k)=false:=by simpa using fun h'=>h h'.symm
   rw[this,bK s ks,if_neg h];cases at? ks s<;>rfl
theorem qI:∀ {l:List S} {s:S} {n:Nat},at? l s=some n->∃h:n<l.length,l[n]=s
 |[],s,n,h=>by cases h
 |x::l,s,n,h=>by
  simp only[at?]at h;split at h
  ·rename_i he;cases h;exact⟨by simp,he⟩
  ·cases hl:at? l s with
   |none=>rw[hl]at h;cases h
   |some k=>rw[hl]at h;cases h;obtain⟨h1,h2⟩:=qI hl;exact⟨by simpa using h1,by simpa using h2⟩
theorem GZ:∀ {l:List S} {s:S},s∈l->∃n,at? l s=some n
 |x::l,s,h=>by
  by_cases hx:x=s
  ·exact⟨0,by simp[at?,hx]⟩
  ·have:s∈l:=by
    rcases zrj.1 h with h|h
    ·exact absurd h.symm hx
    ·exact h
   obtain⟨n,hn⟩:=GZ this;exact⟨n+1,by simp[at?,hx,hn]⟩
theorem Rt{l:List S}{s:S}(h:s∉l):at? l s=none:=by
 cases hh:at? l s with
 |none=>rfl
 |some n=>obtain⟨h1,h2⟩:=qI hh;exact absurd (h2▸zqu h1) h
theorem yj:∀l:List S,(l.map V.str).flatMap V.vc=l.map V.str
 |[]=>rfl
 |a::l=>by rw[zrd,List.flatMap_cons,yj l];rfl
theorem pX[MO](c:List S)(hc:c.length<=1000000):EvF TE 48 [aN c] 1 c.length (c.map V.str):=by
 have hM:=mLx;have ho:=mZ c;have hv:=yj c;unfold EvF;refine aj Tryz.func48 rfl (by simp[nts]) (vm ?_);simp only[wq.1,seval,Tryz.results48];intro b hb;cases b with
 |true =>
  have:c=[]:=by simpa using hb rfl
  subst this;simp only[wq.1,↓reduceIte,Nat.reduceLT,reduceCtorEq]
  all_goals try exact .inl ⟨rfl,rfl,rfl⟩
 |false=>simp only[wq.1,↓reduceIte,Nat.reduceEqDiff,Nat.reduceLT,reduceCtorEq,Nat.reduceMul,ho];refine⟨⟨rfl,by decide⟩,⟨by omega,by omega⟩,.inr ⟨0,_,rfl,zrb _,rfl⟩⟩
def Af(e:Int)(s:S):V:= .iface 172 (.agg [vi e,.str s])
theorem iI[MO]{h:H}{R:AEnd->H->(Nat->Bool)->Prop}(b:Bool)(e:Int)(s:S)(ht:b=true->R (.ret (.tup [])) h (fun _=>false))(hf:b=false->R (.pan (Af e s)) h (fun _=>false)):ag TE 102 [.bool b,vi e,.str s] h R:=by
 refine aj Tryz.func102 rfl (by simp[nts]) (vm ?_);cases b with
 |true=>simp only[wq.1,seval,Tryz.results102];exact ht rfl
 |false=>simp only[wq.1,seval,Tryz.results102];exact⟨by simp,hf rfl⟩
structure LimC(c:Ci):Prop where
 ins:c.ins.length<=200
 outs:c.outs.length<=200
 lat:c.lat.length<=200
 gates:c.gates.length<=200
 gins:∀g∈c.gates,g.ins.length<=8
theorem Vb{c:Ci}(h:Lj c=true):LimC c:=by unfold Lj at h;simp only[zqf,zqb,Bool.not_eq_true',List.any_eq_false]at h;obtain⟨h1,h2,h3⟩:=h;refine⟨by omega,h2,by omega,by omega,fun g hg=> ?_⟩;have:=h3 g hg;unfold zY at this;simp only[Bool.or_eq_true,zqb,not_or,Nat.not_lt]at this;exact this.1
theorem fJ{α:Type}{F:α->List S}{k:Nat}:∀l:List α,(∀x∈l,(F x).length<=k)->(l.flatMap F).length<=l.length*k
 |[],_=>by simp
 |x::l,h=>by have h1:=h x (by simp);have h2:=fJ l fun y hy=>h y (by simp[hy]);rw[List.flatMap_cons,zqa,zrt,Nat.succ_mul];omega
theorem lX{α:Type}{F:α->List S}{l:List α}{i:Nat}(h:i<l.length):(l.take (i+1)).flatMap F=(l.take i).flatMap F++F l[i]:=by rw[List.take_succ_eq_append_getElem h,List.flatMap_append];simp
theorem uK{α:Type}{P:α->Prop}{l:List α}{i:Nat}(h:∀x∈l,P x):∀x∈l.take i,P x:=fun x hx=>h x (zsh hx)
def IX:Plan:=tkZ [0,1,5]<| .alt 2 (.alt 3 (.alt 4 (.one 6<| .one 7<| .take 8<| .fin) (.one 6 (.one 4<| .one 7<| .take 8<| .fin))) (.one 6 (onZ [3,4,7]<| .take 8<| .fin))) (.one 6 (onZ [2,3,4,7]<| .take 8<| .fin))
theorem Ru[MO](c:Ci)(hl:LimC c):EvF TE 104 [c.v] 1 (dG c).length ((dG c).map V.str):=by
 have hM:=mLx;obtain⟨l1,l2,l3,l4,l5⟩:=hl;have hL:∀i,((c.lat.take i).flatMap (fun q=>[q.name,q.next])).length<=200*2:=fun i=>Nat.le_trans (fJ (k:=2) _ fun x _=>(by simp)) (Nat.mul_le_mul_right _ (by rw[zrl];omega));have hG:∀i,((c.gates.take i).flatMap (fun g=>g.name::g.ins)).length<=200*9:=fun i=>Nat.le_trans (fJ (k:=9) _ (uK fun x hx=>by have:=l5 x hx;simp;try omega)) (Nat.mul_le_mul_right _ (by rw[zrl];omega));obtain⟨r0,hr0⟩:∃r0:List S,r0=[c.ins,c.outs].flatten:=⟨_,rfl⟩;have hrl:r0.length<=400:=by rw[hr0];simp;omega
 obtain⟨RL,hRL⟩:∃RL:Nat->List S,RL=fun i=>r0++(c.lat.take i).flatMap (fun q=>[q.name,q.next]):=⟨_,rfl⟩;have R15:RL 0=r0:=by rw[hRL];simp
 have RLl:∀i,(RL i).length<=400+200*2:=fun i=>by have:=hL i;rw[hRL];simp only[zqa];omega
 have RLs:∀i (h:i<c.lat.length),RL (i+1)=RL i++(fun q=>[q.name,q.next]) c.lat[i]:=fun i h=>by rw[hRL];simp only[lX h,zqc]
 obtain⟨RG,hRG⟩:∃RG:Nat->List S,RG=fun i=>RL c.lat.length++(c.gates.take i).flatMap (fun g=>g.name::g.ins):=⟨_,rfl⟩;have R30:RG 0=RL c.lat.length:=by rw[hRG];simp
 have RGl:∀i,(RG i).length<=400+200*2+200*9:=fun i=>by have:=hG i;have:=RLl c.lat.length;rw[hRG];simp only[zqa];omega
 have RGs:∀i (h:i<c.gates.length),RG (i+1)=RG i++(fun g=>g.name::g.ins) c.gates[i]:=fun i h=>by rw[hRG];simp only[lX h,zqc]
 have hdef:RG c.gates.length=dG c:=by rw[hRG,hRL,hr0];simp only[zrx];simp[dG,List.flatMap_singleton',<-List.map_eq_flatMap]
 obtain⟨DD,hDD⟩:∃DD,DD=dG c:=⟨_,rfl⟩;rw[<-hDD]at hdef ⊢;clear hRL hRG hL hG hDD;obtain⟨BX,hBX⟩:∃BX:O,BX= .cells [aN c.ins,aN c.outs,kG c.lat,iG c.gates]:=⟨_,rfl⟩;have hBd:∀p,BX.drop p=BX:=fun p=>by rw[hBX];rfl
 have hcl:∀(p:Nat->Bool)(row:List S),([BX,.cells (row.map V.str)]:H).map (O.drop p)=[BX,.cells (row.map V.str)]:=fun p row=>by show [BX.drop p,O.cells (V.drops p (row.map V.str))]=_;rw[hBd,aJ]
 unfold EvF;refine aj Tryz.func104 rfl (by simp[nts]) ?_;refine vn ?_;simp only[wq.1,Nat.reduceLT,Tryz.results104];refine vn ?_;simp only[wq.1,↓reduceIte,Nat.reduceEqDiff,Nat.reduceLT,Nat.reduceLeDiff,Nat.reduceAdd,reduceCtorEq,Nat.reduceMul];refine⟨⟨rfl,by decide⟩,jI (GM [c.ins,c.outs] (by simp;omega) (by simp)) (by simp only[V.dats,V.dat,ax,zre]) ax ?_⟩;rw[<-hr0];simp only[wq.1,seval];rw[<-hBX];rw[<-R15];refine ai (aX (Q:=fun xe f h=>xe= .normal/\∃X,f.t 1= .lp 0 0/\f.t 3= .ls 1 1 0 (RL c.lat.length).length (RL c.lat.length).length/\f.d=[]/\h=[BX,.cells ((RL c.lat.length).map V.str)]++X) ?_ ?_)
 ·rintro xe f h ⟨rfl,X,t1,t3,hd,rfl⟩;show awp _ _ _ _ _ _ _;refine ai (aX (Q:=fun xe f h=>xe= .normal/\∃X,f.t 1= .lp 0 0/\f.t 3= .ls 1 1 0 (RG c.gates.length).length (RG c.gates.length).length/\f.d=[]/\h=[BX,.cells ((RG c.gates.length).map V.str)]++X) ?_ ?_)
  ·rintro xe f h ⟨rfl,X,t1,t3,hd,rfl⟩;show awp _ _ _ _ _ _ _;rw[hdef]at t3 ⊢;refine vm ?_;simp only[wq.1,seval,t3,hd];exact .inr ⟨1,_,rfl,zrb _,rfl⟩
  ·rw[<-R30]at t3 ⊢;refine vn ?_;simp only[wq.1,seval,t1,hBX];rw[<-hBX];refine aA ?_;refine aC (fun m f h=>∃(i:Nat)(X:H),m+i=c.gates.length/\i<=c.gates.length/\f.t 1= .lp 0 0/\f.t 3= .ls 1 1 0 (RG i).length (RG i).length/\f.t 30=iG c.gates/\f.t 31=vi c.gates.length/\f.t 32=vi i/\f.d=[]/\h=[BX,.cells ((RG i).map V.str)]++X) c.gates.length ⟨0,X,by omega,by omega,by simp only[wq.1,seval,t1],by simp only[wq.1,seval,t3],by simp only[wq.1,seval],by simp only[wq.1,seval],by simp only[wq.1,↓reduceIte];rfl,by simp only[wq.1,hd],rfl⟩ ?_;clear t1 t3 hd X;rintro m f h ⟨i,X,hm,hil,t1,t3,t30,t31,t32,hd,rfl⟩;obtain⟨row,hrow⟩:∃row,row=RG i:=⟨_,rfl⟩;have hrwl:row.length<=400+200*2+200*9:=by rw[hrow];exact RGl i
   rw[<-hrow]at t3 ⊢;refine fD (h0:=[BX,.cells (row.map V.str)]) (by rw[hd];simp) ?_;rw[hcl];obtain⟨f',hf'⟩:∃f',f'=f.drop (Abs.fV ([BX,.cells (row.map V.str)]:H).length):=⟨_,rfl⟩;have u1:f'.t 1= .lp 0 0:=by rw[hf'];show(f.t 1).drop _=_;rw[t1];rfl
   have u3:f'.t 3= .ls 1 1 0 row.length row.length:=by rw[hf'];show(f.t 3).drop _=_;rw[t3];rfl
   have u30:f'.t 30=iG c.gates:=by rw[hf'];show(f.t 30).drop _=_;rw[t30];rfl
   have u31:f'.t 31=vi c.gates.length:=by rw[hf'];show(f.t 31).drop _=_;rw[t31];rfl
   have u32:f'.t 32=vi i:=by rw[hf'];show(f.t 32).drop _=_;rw[t32];rfl
   have ud:f'.d=[]:=by rw[hf'];exact hd
   rw[<-hf'];clear hf' hd t1 t3 t30 t31 t32 X;have hw:=aB (show i<maxLen by omega);have dR:∀p,V.drops p (row.map V.str)=row.map V.str:=fun p=>aJ;refine vn ?_;simp only[wq.1,Nat.reduceLT,u31,u32];refine vn ?_;simp only[wq.1,↓reduceIte];refine vcB.mk (fun hlt=> ?_) (fun hlt=> ?_)
   ·have hlt:i<c.gates.length:=by have:=zqs hlt;omega
    have hft:=RGs i hlt;rw[<-hrow]at hft;obtain⟨g,hg⟩:∃g,g=c.gates[i]:=⟨_,rfl⟩;have hgg:=sZ hlt .any;rw[<-hg]at hgg hft;have hg8:g.ins.length<=8:=by rw[hg];exact l5 _ (zqu hlt)
    have aI:=mZ g.ins;have vI:=yj g.ins;simp only[wq.1];refine ai ?_;refine aA ?_;refine vn ?_;simp only[wq.1,↓reduceIte,Nat.reduceEqDiff,Nat.reduceLT,Nat.reduceAdd,u30,u32,hgg,hBX];rw[<-hBX];refine⟨⟨by omega,by omega⟩,?_⟩;refine dW mixed IX (fun f' h'=>f'.t 1= .lp 0 0/\f'.t 3= .ls 1 1 0 (row++g.name::g.ins).length (row++g.name::g.ins).length/\f'.t 30=iG c.gates/\f'.t 31=vi c.gates.length/\f'.t 32=vi i/\f'.d=[]/\h'=[BX,.cells ((row++g.name::g.ins).map V.str),O.cells [.str g.name,vi g.op,aN g.ins,aN g.rows,.bool g.off]]) (by rw[show TE.P=P from rfl];decide +kernel) (by decide +kernel) ?_ ?_
    ·simp only[wq.1,↓reduceIte,Nat.reduceEqDiff,Nat.reduceLT,Nat.reduceLeDiff,Nat.reduceAdd,Nat.reduceBEq,reduceCtorEq,Nat.reduceMul,IX,u1,u3,u30,u31,u32,ud];refine⟨⟨rfl,by decide⟩,⟨by omega,by omega,by omega⟩,aI,⟨by omega,aI,by omega,by omega⟩,by rw[Nat.add_assoc,Nat.add_comm 1],?_⟩;rw[hBd,hBd,zqc];rfl
    ·rintro f h ⟨u1,u3,u30,u31,u32,ud,rfl⟩;show awp _ _ _ _ _ _ _;refine vm ?_;simp only[wq.1,seval,u32,hw];refine .inl ⟨m-1,by omega,i+1,[O.cells [.str g.name,vi g.op,aN g.ins,aN g.rows,.bool g.off]],by omega,by omega,by simp only[wq.1,seval,u1],by rw[hft];simp only[wq.1,seval,u3],by simp only[wq.1,seval,u30],by simp only[wq.1,seval,u31],by simp only[wq.1,↓reduceIte],by simp only[wq.1,ud],?_⟩;rw[hft,zql];rfl
   ·have hi:i=c.gates.length:=by have:=of_decide_eq_false hlt;omega
    subst hrow;subst hi;simp only[wq.1,seval,u1,u3,ud];exact⟨[],rfl⟩
 ·refine vn ?_;simp only[wq.1,seval,hBX];rw[<-hBX];refine aA ?_;refine aC (fun m f h=>∃(i:Nat)(X:H),m+i=c.lat.length/\i<=c.lat.length/\f.t 1= .lp 0 0/\f.t 3= .ls 1 1 0 (RL i).length (RL i).length/\f.t 15=kG c.lat/\f.t 16=vi c.lat.length/\f.t 17=vi i/\f.d=[]/\h=[BX,.cells ((RL i).map V.str)]++X) c.lat.length ⟨0,[],by omega,by omega,by simp only[wq.1,seval],by simp only[wq.1,seval],by simp only[wq.1,seval],by simp only[wq.1,seval],by simp only[wq.1,↓reduceIte];rfl,by simp only[wq.1],rfl⟩ ?_;rintro m f h ⟨i,X,hm,hil,t1,t3,t30,t31,t32,hd,rfl⟩;obtain⟨row,hrow⟩:∃row,row=RL i:=⟨_,rfl⟩;have hrwl:row.length<=400+200*2:=by rw[hrow];exact RLl i
  rw[<-hrow]at t3 ⊢;refine fD (h0:=[BX,.cells (row.map V.str)]) (by rw[hd];simp) ?_;rw[hcl];obtain⟨f',hf'⟩:∃f',f'=f.drop (Abs.fV ([BX,.cells (row.map V.str)]:H).length):=⟨_,rfl⟩;have u1:f'.t 1= .lp 0 0:=by rw[hf'];show(f.t 1).drop _=_;rw[t1];rfl
  have u3:f'.t 3= .ls 1 1 0 row.length row.length:=by rw[hf'];show(f.t 3).drop _=_;rw[t3];rfl
  have u30:f'.t 15=kG c.lat:=by rw[hf'];show(f.t 15).drop _=_;rw[t30];rfl
  have u31:f'.t 16=vi c.lat.length:=by rw[hf'];show(f.t 16).drop _=_;rw[t31];rfl
  have u32:f'.t 17=vi i:=by rw[hf'];show(f.t 17).drop _=_;rw[t32];rfl
  have ud:f'.d=[]:=by rw[hf'];exact hd
  rw[<-hf'];clear hf' hd t1 t3 t30 t31 t32 X;have hw:=aB (show i<maxLen by omega);have dR:∀p,V.drops p (row.map V.str)=row.map V.str:=fun p=>aJ;refine vn ?_;simp only[wq.1,Nat.reduceLT,u31,u32];refine vn ?_;simp only[wq.1,↓reduceIte];refine vcB.mk (fun hlt=> ?_) (fun hlt=> ?_)
  ·have hlt:i<c.lat.length:=by have:=zqs hlt;omega
   have hft:=RLs i hlt;rw[<-hrow]at hft;obtain⟨q,hq⟩:∃q,q=c.lat[i]:=⟨_,rfl⟩;have hgg:=GX hlt .any;rw[<-hq]at hgg hft;simp only[wq.1];refine vn ?_;simp only[wq.1,↓reduceIte,Nat.reduceEqDiff,Nat.reduceLT,Nat.reduceLeDiff,Nat.reduceAdd,reduceCtorEq,Nat.reduceMul,u3,u30,u32,ud,hgg,hBX];rw[<-hBX];refine⟨⟨by omega,by omega⟩,⟨rfl,by decide⟩,⟨by omega,by omega,by omega⟩,?_⟩;refine vm ?_;simp only[wq.1,seval,u32,hw];refine .inl ⟨m-1,by omega,i+1,[O.cells [.str q.name,.str q.next,vi q.init]],by omega,by omega,by simp only[wq.1,seval,u1],by simp only[wq.1,seval,hft],by simp only[wq.1,seval,u30],by simp only[wq.1,seval,u31],by simp only[wq.1,↓reduceIte],by simp only[wq.1,ud],?_⟩;rw[hft,zql];rfl
  ·have hi:i=c.lat.length:=by have:=of_decide_eq_false hlt;omega
   subst hrow;subst hi;simp only[wq.1,seval,u1,u3,ud];exact⟨[],rfl⟩
theorem Vd[MO](c:Ci)(hl:LimC c):Ev TE 104 [c.v] (aN (dG c)):=(Ru c hl).ev (fun _ he=>by rw[show aN (dG c)= .is false 1 [] by rw[List.map_eq_nil_iff.1 he];rfl];exact VLe.nils) (fun h' id cap _ hid=>aV hid rfl) (fun _ he _=>by rw[List.map_eq_nil_iff.1 he];exact aG.nils)
theorem IY[MO](c:Ci)(hl:LimC c):EvF TE 20 [c.v] 1 (bf c).length ((bf c).map V.str):=by
 have hM:=mLx;obtain⟨l1,l2,l3,l4,l5⟩:=hl;have hL:∀i,((c.lat.take i).flatMap (fun q=>[q.name])).length<=200*1:=fun i=>Nat.le_trans (fJ (k:=1) _ fun x _=>(by simp)) (Nat.mul_le_mul_right _ (by rw[zrl];omega));have hG:∀i,((c.gates.take i).flatMap (fun g=>[g.name])).length<=200*1:=fun i=>Nat.le_trans (fJ (k:=1) _ (uK fun x hx=>by have:=l5 x hx;simp;try omega)) (Nat.mul_le_mul_right _ (by rw[zrl];omega));obtain⟨r0,hr0⟩:∃r0:List S,r0=c.ins:=⟨_,rfl⟩;have hrl:r0.length<=400:=by rw[hr0];omega
 obtain⟨RL,hRL⟩:∃RL:Nat->List S,RL=fun i=>r0++(c.lat.take i).flatMap (fun q=>[q.name]):=⟨_,rfl⟩;have R12:RL 0=r0:=by rw[hRL];simp
 have RLl:∀i,(RL i).length<=400+200*1:=fun i=>by have:=hL i;rw[hRL];simp only[zqa];omega
 have RLs:∀i (h:i<c.lat.length),RL (i+1)=RL i++(fun q=>[q.name]) c.lat[i]:=fun i h=>by rw[hRL];simp only[lX h,zqc]
 obtain⟨RG,hRG⟩:∃RG:Nat->List S,RG=fun i=>RL c.lat.length++(c.gates.take i).flatMap (fun g=>[g.name]):=⟨_,rfl⟩;have R25:RG 0=RL c.lat.length:=by rw[hRG];simp
 have RGl:∀i,(RG i).length<=400+200*1+200*1:=fun i=>by have:=hG i;have:=RLl c.lat.length;rw[hRG];simp only[zqa];omega
 have RGs:∀i (h:i<c.gates.length),RG (i+1)=RG i++(fun g=>[g.name]) c.gates[i]:=fun i h=>by rw[hRG];simp only[lX h,zqc]
 have hdef:RG c.gates.length=bf c:=by rw[hRG,hRL,hr0];simp only[zrx];simp[bf,List.flatMap_singleton',<-List.map_eq_flatMap]
 obtain⟨DD,hDD⟩:∃DD,DD=bf c:=⟨_,rfl⟩;rw[<-hDD]at hdef ⊢;clear hRL hRG hL hG hDD;obtain⟨BX,hBX⟩:∃BX:O,BX= .cells [aN c.ins,aN c.outs,kG c.lat,iG c.gates]:=⟨_,rfl⟩;have hBd:∀p,BX.drop p=BX:=fun p=>by rw[hBX];rfl
 have hcl:∀(p:Nat->Bool)(row:List S),([BX,.cells (row.map V.str)]:H).map (O.drop p)=[BX,.cells (row.map V.str)]:=fun p row=>by show [BX.drop p,O.cells (V.drops p (row.map V.str))]=_;rw[hBd,aJ]
 unfold EvF;refine aj Tryz.func20 rfl (by simp[nts]) ?_;refine vn ?_;simp only[wq.1,Nat.reduceLT,Tryz.results20];refine vn ?_;simp only[wq.1,seval];refine jI (pX c.ins (by omega)) (by simp only[V.dats,V.dat,ax,zre]) ax ?_;simp only[wq.1,seval];rw[<-hBX,<-hr0];rw[<-R12];refine ai (aX (Q:=fun xe f h=>xe= .normal/\∃X,f.t 1= .lp 0 0/\f.t 3= .ls 1 1 0 (RL c.lat.length).length (RL c.lat.length).length/\f.d=[]/\h=[BX,.cells ((RL c.lat.length).map V.str)]++X) ?_ ?_)
 ·rintro xe f h ⟨rfl,X,t1,t3,hd,rfl⟩;show awp _ _ _ _ _ _ _;refine ai (aX (Q:=fun xe f h=>xe= .normal/\∃X,f.t 1= .lp 0 0/\f.t 3= .ls 1 1 0 (RG c.gates.length).length (RG c.gates.length).length/\f.d=[]/\h=[BX,.cells ((RG c.gates.length).map V.str)]++X) ?_ ?_)
  ·rintro xe f h ⟨rfl,X,t1,t3,hd,rfl⟩;show awp _ _ _ _ _ _ _;rw[hdef]at t3 ⊢;refine vm ?_;simp only[wq.1,seval,t3,hd];exact .inr ⟨1,_,rfl,zrb _,rfl⟩
  ·rw[<-R25]at t3 ⊢;refine vn ?_;simp only[wq.1,seval,t1,hBX];rw[<-hBX];refine aA ?_;refine aC (fun m f h=>∃(i:Nat)(X:H),m+i=c.gates.length/\i<=c.gates.length/\f.t 1= .lp 0 0/\f.t 3= .ls 1 1 0 (RG i).length (RG i).length/\f.t 25=iG c.gates/\f.t 26=vi c.gates.length/\f.t 27=vi i/\f.d=[]/\h=[BX,.cells ((RG i).map V.str)]++X) c.gates.length ⟨0,X,by omega,by omega,by simp only[wq.1,seval,t1],by simp only[wq.1,seval,t3],by simp only[wq.1,seval],by simp only[wq.1,seval],by simp only[wq.1,↓reduceIte];rfl,by simp only[wq.1,hd],rfl⟩ ?_;clear t1 t3 hd X;rintro m f h ⟨i,X,hm,hil,t1,t3,t25,t26,t27,hd,rfl⟩;obtain⟨row,hrow⟩:∃row,row=RG i:=⟨_,rfl⟩;have hrwl:row.length<=400+200*1+200*1:=by rw[hrow];exact RGl i
   rw[<-hrow]at t3 ⊢;refine fD (h0:=[BX,.cells (row.map V.str)]) (by rw[hd];simp) ?_;rw[hcl];obtain⟨f',hf'⟩:∃f',f'=f.drop (Abs.fV ([BX,.cells (row.map V.str)]:H).length):=⟨_,rfl⟩;have u1:f'.t 1= .lp 0 0:=by rw[hf'];show(f.t 1).drop _=_;rw[t1];rfl
   have u3:f'.t 3= .ls 1 1 0 row.length row.length:=by rw[hf'];show(f.t 3).drop _=_;rw[t3];rfl
   have u25:f'.t 25=iG c.gates:=by rw[hf'];show(f.t 25).drop _=_;rw[t25];rfl
   have u26:f'.t 26=vi c.gates.length:=by rw[hf'];show(f.t 26).drop _=_;rw[t26];rfl
   have u27:f'.t 27=vi i:=by rw[hf'];show(f.t 27).drop _=_;rw[t27];rfl
   have ud:f'.d=[]:=by rw[hf'];exact hd
   rw[<-hf'];clear hf' hd t1 t3 t25 t26 t27 X;have hw:=aB (show i<maxLen by omega);have dR:∀p,V.drops p (row.map V.str)=row.map V.str:=fun p=>aJ;refine vn ?_;simp only[wq.1,Nat.reduceLT,u26,u27];refine vn ?_;simp only[wq.1,↓reduceIte];refine vcB.mk (fun hlt=> ?_) (fun hlt=> ?_)
   ·have hlt:i<c.gates.length:=by have:=zqs hlt;omega
    have hft:=RGs i hlt;rw[<-hrow]at hft;obtain⟨g,hg⟩:∃g,g=c.gates[i]:=⟨_,rfl⟩;have hgg:=sZ hlt .any;rw[<-hg]at hgg hft;have hg8:g.ins.length<=8:=by rw[hg];exact l5 _ (zqu hlt)
    have aI:=mZ g.ins;have vI:=yj g.ins;simp only[wq.1];refine vn ?_;simp only[wq.1,↓reduceIte,Nat.reduceEqDiff,Nat.reduceLT,Nat.reduceLeDiff,Nat.reduceAdd,reduceCtorEq,Nat.reduceMul,u3,u25,u27,ud,hgg,hBX];rw[<-hBX];refine⟨⟨by omega,by omega⟩,⟨rfl,by decide⟩,⟨by omega,by omega,by omega⟩,?_⟩;refine vm ?_;simp only[wq.1,seval,u27,hw];refine .inl ⟨m-1,by omega,i+1,[O.cells [.str g.name,vi g.op,aN g.ins,aN g.rows,.bool g.off]],by omega,by omega,by simp only[wq.1,seval,u1],by simp only[wq.1,seval,hft],by simp only[wq.1,seval,u25],by simp only[wq.1,seval,u26],by simp only[wq.1,↓reduceIte],by simp only[wq.1,ud],?_⟩;rw[hft,zql]
    all_goals rfl
   ·have hi:i=c.gates.length:=by have:=of_decide_eq_false hlt;omega
    subst hrow;subst hi;simp only[wq.1,seval,u1,u3,ud];exact⟨[],rfl⟩
 ·refine vn ?_;simp only[wq.1,seval,hBX];rw[<-hBX];refine aA ?_;refine aC (fun m f h=>∃(i:Nat)(X:H),m+i=c.lat.length/\i<=c.lat.length/\f.t 1= .lp 0 0/\f.t 3= .ls 1 1 0 (RL i).length (RL i).length/\f.t 12=kG c.lat/\f.t 13=vi c.lat.length/\f.t 14=vi i/\f.d=[]/\h=[BX,.cells ((RL i).map V.str)]++X) c.lat.length ⟨0,[],by omega,by omega,by simp only[wq.1,seval],by simp only[wq.1,seval],by simp only[wq.1,seval],by simp only[wq.1,seval],by simp only[wq.1,↓reduceIte];rfl,by simp only[wq.1],rfl⟩ ?_;rintro m f h ⟨i,X,hm,hil,t1,t3,t25,t26,t27,hd,rfl⟩;obtain⟨row,hrow⟩:∃row,row=RL i:=⟨_,rfl⟩;have hrwl:row.length<=400+200*1:=by rw[hrow];exact RLl i
  rw[<-hrow]at t3 ⊢;refine fD (h0:=[BX,.cells (row.map V.str)]) (by rw[hd];simp) ?_;rw[hcl];obtain⟨f',hf'⟩:∃f',f'=f.drop (Abs.fV ([BX,.cells (row.map V.str)]:H).length):=⟨_,rfl⟩;have u1:f'.t 1= .lp 0 0:=by rw[hf'];show(f.t 1).drop _=_;rw[t1];rfl
  have u3:f'.t 3= .ls 1 1 0 row.length row.length:=by rw[hf'];show(f.t 3).drop _=_;rw[t3];rfl
  have u25:f'.t 12=kG c.lat:=by rw[hf'];show(f.t 12).drop _=_;rw[t25];rfl
  have u26:f'.t 13=vi c.lat.length:=by rw[hf'];show(f.t 13).drop _=_;rw[t26];rfl
  have u27:f'.t 14=vi i:=by rw[hf'];show(f.t 14).drop _=_;rw[t27];rfl
  have ud:f'.d=[]:=by rw[hf'];exact hd
  rw[<-hf'];clear hf' hd t1 t3 t25 t26 t27 X;have hw:=aB (show i<maxLen by omega);have dR:∀p,V.drops p (row.map V.str)=row.map V.str:=fun p=>aJ;refine vn ?_;simp only[wq.1,Nat.reduceLT,u26,u27];refine vn ?_;simp only[wq.1,↓reduceIte];refine vcB.mk (fun hlt=> ?_) (fun hlt=> ?_)
  ·have hlt:i<c.lat.length:=by have:=zqs hlt;omega
   have hft:=RLs i hlt;rw[<-hrow]at hft;obtain⟨q,hq⟩:∃q,q=c.lat[i]:=⟨_,rfl⟩;have hgg:=GX hlt .any;rw[<-hq]at hgg hft;simp only[wq.1];refine vn ?_;simp only[wq.1,↓reduceIte,Nat.reduceEqDiff,Nat.reduceLT,Nat.reduceLeDiff,Nat.reduceAdd,reduceCtorEq,Nat.reduceMul,u3,u25,u27,ud,hgg,hBX];rw[<-hBX];refine⟨⟨by omega,by omega⟩,⟨rfl,by decide⟩,⟨by omega,by omega,by omega⟩,?_⟩;refine vm ?_;simp only[wq.1,seval,u27,hw];refine .inl ⟨m-1,by omega,i+1,[O.cells [.str q.name,.str q.next,vi q.init]],by omega,by omega,by simp only[wq.1,seval,u1],by simp only[wq.1,seval,hft],by simp only[wq.1,seval,u25],by simp only[wq.1,seval,u26],by simp only[wq.1,↓reduceIte],by simp only[wq.1,ud],?_⟩;rw[hft,zql];rfl
  ·have hi:i=c.lat.length:=by have:=of_decide_eq_false hlt;omega
   subst hrow;subst hi;simp only[wq.1,seval,u1,u3,ud];exact⟨[],rfl⟩
theorem Ve[MO](c:Ci)(hl:LimC c):Ev TE 20 [c.v] (aN (bf c)):=(IY c hl).ev (fun _ he=>by rw[show aN (bf c)= .is false 1 [] by rw[List.map_eq_nil_iff.1 he];rfl];exact VLe.nils) (fun h' id cap _ hid=>aV hid rfl) (fun _ he _=>by rw[List.map_eq_nil_iff.1 he];exact aG.nils)
theorem Rw[MO](c:Ci)(hl:LimC c):EvF TE 108 [c.v] 1 (fZ c).length ((fZ c).map V.str):=by
 have hM:=mLx;obtain⟨l1,l2,l3,l4,l5⟩:=hl;have hL:∀i,((c.lat.take i).flatMap (fun q=>[q.next])).length<=200*1:=fun i=>Nat.le_trans (fJ (k:=1) _ fun x _=>(by simp)) (Nat.mul_le_mul_right _ (by rw[zrl];omega));have hG:∀i,((c.gates.take i).flatMap (fun g=>g.ins)).length<=200*8:=fun i=>Nat.le_trans (fJ (k:=8) _ (uK fun x hx=>by have:=l5 x hx;simp;try omega)) (Nat.mul_le_mul_right _ (by rw[zrl];omega));obtain⟨r0,hr0⟩:∃r0:List S,r0=c.outs:=⟨_,rfl⟩;have hrl:r0.length<=400:=by rw[hr0];omega
 obtain⟨RL,hRL⟩:∃RL:Nat->List S,RL=fun i=>r0++(c.lat.take i).flatMap (fun q=>[q.next]):=⟨_,rfl⟩;have R12:RL 0=r0:=by rw[hRL];simp
 have RLl:∀i,(RL i).length<=400+200*1:=fun i=>by have:=hL i;rw[hRL];simp only[zqa];omega
 have RLs:∀i (h:i<c.lat.length),RL (i+1)=RL i++(fun q=>[q.next]) c.lat[i]:=fun i h=>by rw[hRL];simp only[lX h,zqc]
 obtain⟨RG,hRG⟩:∃RG:Nat->List S,RG=fun i=>RL c.lat.length++(c.gates.take i).flatMap (fun g=>g.ins):=⟨_,rfl⟩;have R25:RG 0=RL c.lat.length:=by rw[hRG];simp
 have RGl:∀i,(RG i).length<=400+200*1+200*8:=fun i=>by have:=hG i;have:=RLl c.lat.length;rw[hRG];simp only[zqa];omega
 have RGs:∀i (h:i<c.gates.length),RG (i+1)=RG i++(fun g=>g.ins) c.gates[i]:=fun i h=>by rw[hRG];simp only[lX h,zqc]
 have hdef:RG c.gates.length=fZ c:=by rw[hRG,hRL,hr0];simp only[zrx];simp[fZ,List.flatMap_singleton',<-List.map_eq_flatMap]
 obtain⟨DD,hDD⟩:∃DD,DD=fZ c:=⟨_,rfl⟩;rw[<-hDD]at hdef ⊢;clear hRL hRG hL hG hDD;obtain⟨BX,hBX⟩:∃BX:O,BX= .cells [aN c.ins,aN c.outs,kG c.lat,iG c.gates]:=⟨_,rfl⟩;have hBd:∀p,BX.drop p=BX:=fun p=>by rw[hBX];rfl
 have hcl:∀(p:Nat->Bool)(row:List S),([BX,.cells (row.map V.str)]:H).map (O.drop p)=[BX,.cells (row.map V.str)]:=fun p row=>by show [BX.drop p,O.cells (V.drops p (row.map V.str))]=_;rw[hBd,aJ]
 unfold EvF;refine aj Tryz.func108 rfl (by simp[nts]) ?_;refine vn ?_;simp only[wq.1,Nat.reduceLT,Tryz.results108];refine vn ?_;simp only[wq.1,seval];refine jI (pX c.outs (by omega)) (by simp only[V.dats,V.dat,ax,zre]) ax ?_;simp only[wq.1,seval];rw[<-hBX,<-hr0];rw[<-R12];refine ai (aX (Q:=fun xe f h=>xe= .normal/\∃X,f.t 1= .lp 0 0/\f.t 3= .ls 1 1 0 (RL c.lat.length).length (RL c.lat.length).length/\f.d=[]/\h=[BX,.cells ((RL c.lat.length).map V.str)]++X) ?_ ?_)
 ·rintro xe f h ⟨rfl,X,t1,t3,hd,rfl⟩;show awp _ _ _ _ _ _ _;refine ai (aX (Q:=fun xe f h=>xe= .normal/\∃X,f.t 1= .lp 0 0/\f.t 3= .ls 1 1 0 (RG c.gates.length).length (RG c.gates.length).length/\f.d=[]/\h=[BX,.cells ((RG c.gates.length).map V.str)]++X) ?_ ?_)
  ·rintro xe f h ⟨rfl,X,t1,t3,hd,rfl⟩;show awp _ _ _ _ _ _ _;rw[hdef]at t3 ⊢;refine vm ?_;simp only[wq.1,seval,t3,hd];exact .inr ⟨1,_,rfl,zrb _,rfl⟩
  ·rw[<-R25]at t3 ⊢;refine vn ?_;simp only[wq.1,seval,t1,hBX];rw[<-hBX];refine aA ?_;refine aC (fun m f h=>∃(i:Nat)(X:H),m+i=c.gates.length/\i<=c.gates.length/\f.t 1= .lp 0 0/\f.t 3= .ls 1 1 0 (RG i).length (RG i).length/\f.t 25=iG c.gates/\f.t 26=vi c.gates.length/\f.t 27=vi i/\f.d=[]/\h=[BX,.cells ((RG i).map V.str)]++X) c.gates.length ⟨0,X,by omega,by omega,by simp only[wq.1,seval,t1],by simp only[wq.1,seval,t3],by simp only[wq.1,seval],by simp only[wq.1,seval],by simp only[wq.1,↓reduceIte];rfl,by simp only[wq.1,hd],rfl⟩ ?_;clear t1 t3 hd X;rintro m f h ⟨i,X,hm,hil,t1,t3,t25,t26,t27,hd,rfl⟩;obtain⟨row,hrow⟩:∃row,row=RG i:=⟨_,rfl⟩;have hrwl:row.length<=400+200*1+200*8:=by rw[hrow];exact RGl i
   rw[<-hrow]at t3 ⊢;refine fD (h0:=[BX,.cells (row.map V.str)]) (by rw[hd];simp) ?_;rw[hcl];obtain⟨f',hf'⟩:∃f',f'=f.drop (Abs.fV ([BX,.cells (row.map V.str)]:H).length):=⟨_,rfl⟩;have u1:f'.t 1= .lp 0 0:=by rw[hf'];show(f.t 1).drop _=_;rw[t1];rfl
   have u3:f'.t 3= .ls 1 1 0 row.length row.length:=by rw[hf'];show(f.t 3).drop _=_;rw[t3];rfl
   have u25:f'.t 25=iG c.gates:=by rw[hf'];show(f.t 25).drop _=_;rw[t25];rfl
   have u26:f'.t 26=vi c.gates.length:=by rw[hf'];show(f.t 26).drop _=_;rw[t26];rfl
   have u27:f'.t 27=vi i:=by rw[hf'];show(f.t 27).drop _=_;rw[t27];rfl
   have ud:f'.d=[]:=by rw[hf'];exact hd
   rw[<-hf'];clear hf' hd t1 t3 t25 t26 t27 X;have hw:=aB (show i<maxLen by omega);have dR:∀p,V.drops p (row.map V.str)=row.map V.str:=fun p=>aJ;refine vn ?_;simp only[wq.1,Nat.reduceLT,u26,u27];refine vn ?_;simp only[wq.1,↓reduceIte];refine vcB.mk (fun hlt=> ?_) (fun hlt=> ?_)
   ·have hlt:i<c.gates.length:=by have:=zqs hlt;omega
    have hft:=RGs i hlt;rw[<-hrow]at hft;obtain⟨g,hg⟩:∃g,g=c.gates[i]:=⟨_,rfl⟩;have hgg:=sZ hlt .any;rw[<-hg]at hgg hft;have hg8:g.ins.length<=8:=by rw[hg];exact l5 _ (zqu hlt)
    have aI:=mZ g.ins;have vI:=yj g.ins;simp only[wq.1];refine vn ?_;simp only[wq.1,seval,u3,u25,u27,ud,hgg,hBX];rw[<-hBX];refine⟨⟨by omega,by omega⟩,aI,⟨by omega,aI,by omega,by omega⟩,?_⟩;refine vm ?_;simp only[wq.1,seval,u27,hw];refine .inl ⟨m-1,by omega,i+1,[O.cells [.str g.name,vi g.op,aN g.ins,aN g.rows,.bool g.off]],by omega,by omega,by simp only[wq.1,seval,u1],by simp only[wq.1,seval,hft],by simp only[wq.1,seval,u25],by simp only[wq.1,seval,u26],by simp only[wq.1,↓reduceIte],by simp only[wq.1,ud],?_⟩;rw[hft,zql]
    all_goals rfl
   ·have hi:i=c.gates.length:=by have:=of_decide_eq_false hlt;omega
    subst hrow;subst hi;simp only[wq.1,seval,u1,u3,ud];exact⟨[],rfl⟩
 ·refine vn ?_;simp only[wq.1,seval,hBX];rw[<-hBX];refine aA ?_;refine aC (fun m f h=>∃(i:Nat)(X:H),m+i=c.lat.length/\i<=c.lat.length/\f.t 1= .lp 0 0/\f.t 3= .ls 1 1 0 (RL i).length (RL i).length/\f.t 12=kG c.lat/\f.t 13=vi c.lat.length/\f.t 14=vi i/\f.d=[]/\h=[BX,.cells ((RL i).map V.str)]++X) c.lat.length ⟨0,[],by omega,by omega,by simp only[wq.1,seval],by simp only[wq.1,seval],by simp only[wq.1,seval],by simp only[wq.1,seval],by simp only[wq.1,↓reduceIte];rfl,by simp only[wq.1],rfl⟩ ?_;rintro m f h ⟨i,X,hm,hil,t1,t3,t25,t26,t27,hd,rfl⟩;obtain⟨row,hrow⟩:∃row,row=RL i:=⟨_,rfl⟩;have hrwl:row.length<=400+200*1:=by rw[hrow];exact RLl i
  rw[<-hrow]at t3 ⊢;refine fD (h0:=[BX,.cells (row.map V.str)]) (by rw[hd];simp) ?_;rw[hcl];obtain⟨f',hf'⟩:∃f',f'=f.drop (Abs.fV ([BX,.cells (row.map V.str)]:H).length):=⟨_,rfl⟩;have u1:f'.t 1= .lp 0 0:=by rw[hf'];show(f.t 1).drop _=_;rw[t1];rfl
  have u3:f'.t 3= .ls 1 1 0 row.length row.length:=by rw[hf'];show(f.t 3).drop _=_;rw[t3];rfl
  have u25:f'.t 12=kG c.lat:=by rw[hf'];show(f.t 12).drop _=_;rw[t25];rfl
  have u26:f'.t 13=vi c.lat.length:=by rw[hf'];show(f.t 13).drop _=_;rw[t26];rfl
  have u27:f'.t 14=vi i:=by rw[hf'];show(f.t 14).drop _=_;rw[t27];rfl
  have ud:f'.d=[]:=by rw[hf'];exact hd
  rw[<-hf'];clear hf' hd t1 t3 t25 t26 t27 X;have hw:=aB (show i<maxLen by omega);have dR:∀p,V.drops p (row.map V.str)=row.map V.str:=fun p=>aJ;refine vn ?_;simp only[wq.1,Nat.reduceLT,u26,u27];refine vn ?_;simp only[wq.1,↓reduceIte];refine vcB.mk (fun hlt=> ?_) (fun hlt=> ?_)
  ·have hlt:i<c.lat.length:=by have:=zqs hlt;omega
   have hft:=RLs i hlt;rw[<-hrow]at hft;obtain⟨q,hq⟩:∃q,q=c.lat[i]:=⟨_,rfl⟩;have hgg:=GX hlt .any;rw[<-hq]at hgg hft;simp only[wq.1];refine vn ?_;simp only[wq.1,↓reduceIte,Nat.reduceEqDiff,Nat.reduceLT,Nat.reduceLeDiff,Nat.reduceAdd,reduceCtorEq,Nat.reduceMul,u3,u25,u27,ud,hgg,hBX];rw[<-hBX];refine⟨⟨by omega,by omega⟩,⟨rfl,by decide⟩,⟨by omega,by omega,by omega⟩,?_⟩;refine vm ?_;simp only[wq.1,seval,u27,hw];refine .inl ⟨m-1,by omega,i+1,[O.cells [.str q.name,.str q.next,vi q.init]],by omega,by omega,by simp only[wq.1,seval,u1],by simp only[wq.1,seval,hft],by simp only[wq.1,seval,u25],by simp only[wq.1,seval,u26],by simp only[wq.1,↓reduceIte],by simp only[wq.1,ud],?_⟩;rw[hft,zql];rfl
  ·have hi:i=c.lat.length:=by have:=of_decide_eq_false hlt;omega
   subst hrow;subst hi;simp only[wq.1,seval,u1,u3,ud];exact⟨[],rfl⟩
theorem Vf[MO](c:Ci)(hl:LimC c):Ev TE 108 [c.v] (aN (fZ c)):=(Rw c hl).ev (fun _ he=>by rw[show aN (fZ c)= .is false 1 [] by rw[List.map_eq_nil_iff.1 he];rfl];exact VLe.nils) (fun h' id cap _ hid=>aV hid rfl) (fun _ he _=>by rw[List.map_eq_nil_iff.1 he];exact aG.nils)
end Go.Proofs.YthaijohbpdabfaaGreatDoor
