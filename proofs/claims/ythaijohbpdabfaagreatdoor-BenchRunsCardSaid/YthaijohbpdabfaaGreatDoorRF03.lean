/- Lemmas for this claim, part F03: each holds under what it names. -/
import Derived.Test.YthaijohbpdabfaaGreatDoorRF02
import Derived.Test.YthaijohbpdabfaaGreatDoorRF01
import Derived.Test.YthaijohbpdabfaaGreatDoorRA9
import Derived.Test.YthaijohbpdabfaaGreatDoorRA8
set_option linter.all false
set_option maxRecDepth 20000
set_option maxHeartbeats 4000000
namespace Go.Proofs.YthaijohbpdabfaaGreatDoor
open Go Go.Proofs Go.Abs
open List renaming length → aa, replicate → ao
open Bool renaming true → ab, false → ac
open Option renaming some → al, none → aq
open Decidable renaming decide → ar
open Go.IntKind renaming wrap → aD
open Go.Result renaming andThen → aM
open Go.Abs.O renaming cells → am
open Go.Abs.V renaming drops → ap, dat → aE, dats → aL
def Zr(a b:Int):Int:=IntKind.u64.wrap ((BitVec.ofInt IntKind.u64.bits a &&& BitVec.ofInt IntKind.u64.bits b).toNat:Int)
def Z9(a:Int)(k:Nat):Int:=a.fdiv (2^(min k IntKind.u64.bits))
def zaa(a b:Int):Int:=IntKind.u64.wrap (a+b)
def oc1(x:Int):Int:=zaa (Zr (Z9 x 1) 6148914691236517205) (Zr x 6148914691236517205)
def oc2(x:Int):Int:=zaa (Zr (Z9 x 2) 3689348814741910323) (Zr x 3689348814741910323)
def oc3(x:Int):Int:=Zr (zaa (Z9 x 4) x) 1085102592571150095
def oc4(x:Int)(k:Nat):Int:=zaa x (Z9 x k)
theorem zak:∀k:Nat,k<256->aD .i64 ((BitVec.ofInt IntKind.i64.bits (aD .i64 (oc4 (oc4 (oc4 (oc3 (oc2 (oc1 (k:Int)))) 8) 16) 32)) &&& BitVec.ofInt IntKind.i64.bits 127).toNat:Int)=(AU k:Nat):=by decide +kernel
theorem Zt{h:H}(z:Int):jq P h 313 3 (.int .u64 z)=(True,.int .i64 (aD .i64 z)):=by unfold jq;simp only[tis]
theorem zal{h:H}(z:Int):jq P h 3 156 (.int .i64 z)=(True,.int .u64 (IntKind.u64.wrap z)):=by unfold jq;simp only[tis]
theorem zam{h:H}(z:Int):jq P h 3 5 (.int .i64 z)=(True,.int .u8 (IntKind.u8.wrap z)):=by unfold jq;simp only[tis]
theorem zan:∀k:Nat,k<256->IntKind.u64.wrap (k:Int)=k:=by decide +kernel
theorem Zu:∀z:Nat,z<256->IntKind.u8.wrap (48+IntKind.u8.wrap (aD .i64 ((BitVec.ofInt IntKind.i64.bits (z:Int) &&& BitVec.ofInt IntKind.i64.bits 1).toNat:Int)))=((UInt8.ofNat (48+z%2)).toNat:Int):=by decide +kernel
theorem Zv(k j:Nat)(hj:j<=60):(k:Int).fdiv (2^(min j IntKind.i64.bits))=((k/2^j:Nat):Int):=by
 rw[Nat.min_eq_left (show j<=IntKind.i64.bits by show j<=64;omega)];have e:((2:Int)^j)=((2^j:Nat):Int):=by simp
 rw[e,Int.fdiv_eq_ediv_of_nonneg _ (Int.natCast_nonneg _)];rfl
theorem Xz{r:S}{i n:Nat}{z:V}(hi:i<n)(hl:aa r=n):List.take (i*1) ((r.take i).map vb++ao (n-i) z)++[vb (r[i]'(by omega))]++List.drop (i*1+1) ((r.take i).map vb++ao (n-i) z)=(r.take (i+1)).map vb++ao (n-(i+1)) z:=by
 have e1:aa ((r.take i).map vb)=i:=by rw[zra,zrl];omega
 obtain⟨d,hd⟩:∃d,n-i=d+1:=⟨n-i-1,by omega⟩;rw[show n-(i+1)=d by omega,hd,Nat.mul_one,List.take_append_of_le_length (by omega),zqh (by omega),List.drop_append,e1,List.drop_of_length_le (by omega),show i+1-i=1 by omega,List.replicate_succ,List.drop_succ_cons,List.drop_zero,List.nil_append,List.take_succ_eq_append_getElem (by omega),zql];rfl
theorem UD(n k:Nat):aa (Nc n k)=n:=by simp[Nc]
theorem P7[MO](k:Nat)(hk:k<256):Ev TE 256 [.int .u64 k] (vi (AU k)):=by rw[<-zak k hk];refine ai Tryz.func256 rfl (by simp[nts]) (vm ?_);simp only[wq.1,seval,Tryz.results256,Zt];exact aC.eq rfl rfl
theorem XA[MO](k:Nat)(hk:k<256):Ev TE 201 [.int .u64 k] (vi (AU k)):=by refine ai Tryz.func201 rfl (by simp[nts]) (vm ?_);simp only[wq.1,seval,Tryz.results201];refine ag.ev (P7 k hk) rfl ?_;simp only[wq.1,seval];exact aC.dat rfl
theorem BH[MO](n:Nat)(odd:Bool):Ev TE 152 [vi n,.bool odd] (.fn (.func 200) [] [.ip (vi n),.ip (.bool odd)]):=by refine ai Tryz.func152 rfl (by simp[nts]) (vm ?_);simp only[wq.1,seval,Tryz.results152];exact aC.fn au.nil (au.cons (aC.lp rfl (au.dat rfl) rfl rfl (by simp[V.vc]) rfl) (au.cons (aC.lp rfl (au.dat rfl) rfl rfl (by simp[V.vc]) rfl) au.nil))
def HPr(L:(Nat->V)->LoopState->Option Code->O)(out:List S)(st:LoopState)(h:H):Prop :=
 ∃t X,t 8= .lp 0 0/\h=[am [.ls 1 1 0 (aa out) (aa out)],am (out.map V.str),.misc .dfd,L t st aq]++X
def AX(n:Nat)(odd:Bool)(k:Nat):List S:=((List.range k).filter λk=>(AU k%2==1)==odd).map (Nc n)
theorem P8{n:Nat}{odd:Bool}{k:Nat}:AX n odd (k+1)=if((AU k%2==1)==odd)=ab then AX n odd k++[Nc n k]else AX n odd k:=by
 unfold AX;rw[List.range_succ,List.filter_append,zql];split
 ·rename_i h;simp[List.filter,h]
 ·rename_i h;simp[List.filter,h]
theorem UE{n:Nat}{odd:Bool}{k:Nat}:aa (AX n odd k)<=k:=by unfold AX;rw[zra];exact Nat.le_trans (List.length_filter_le _ _) (by rw[List.length_range];exact zrb _)
theorem uI[MO](L:(Nat->V)->LoopState->Option Code->O)(hL:∀p t st c,(L t st c).drop p=L (λi=>(t i).drop p) st c)(n:Nat)(odd:Bool)(hn:n<=8)(h:H)(h0:HPr L [] .ready h)
 (step:∀out s h,HPr L out .ready h->aa out<=300->YC TE 3 [.str s] h λj h'' p=>j=aq/\(∀i,i<4->i≠1->p i=ac)/\HPr L (out++[s]) .ready h'') :
 ag TE 200 ([]++[.yd 3]++[.ip (vi n),.ip (.bool odd)]) h λae h' p=>(∀i,i<4->i≠1->p i=ac)/\match ae with
  | .ret _=>HPr L (Z8 n odd) .ready h'
  | .pan _=>False:=by
 have hM:=mLx;have hp2:2^n<=256:=Nat.pow_le_pow_right (n:=2) (by decide) hn;have hmin:min n IntKind.i64.bits=n:=Nat.min_eq_left (by show n<=64;omega);obtain⟨N,hN⟩:∃N,N=2^n:=⟨_,rfl⟩;rw[<-hN]at hp2;have w0:aD .i64 (1*2^n)=(N:Int):=by
  rw[Int.one_mul];have e:((2:Int)^n)=(N:Int):=by rw[hN];simp
  rw[e];exact iW (by omega) (by omega)
 have hpar:Z8 n odd=AX n odd N:=by rw[hN];rfl
 rw[hpar];refine aj Tryz.func200 rfl (by simp[nts]) (vm ?_);simp only[wq.1,seval,Tryz.results200,hmin,w0];refine⟨by omega,?_⟩;refine aF (λm f h=>∃k,m+k=N/\f.t 0= .yd 3/\f.t 1= .ip (vi n)/\f.t 2= .ip (.bool odd)/\f.t 8=vi N/\f.t 9=vi k/\f.d=[]/\(∀i,i<4->i≠1->f.k i=ac)/\HPr L (AX n odd k) .ready h) N ⟨0,by omega,rfl,rfl,rfl,by simp only[wq.1,seval],by simp only[wq.1,↓reduceIte];rfl,rfl,λ_ _ _=>rfl,h0⟩ ?_;clear h0 h;rintro m f h ⟨k,hm,g0,g1,g2,g8,g9,hd,hk,t,X,ht,rfl⟩;have hwk:=aA (show k<maxLen by omega)
 -- what lies behind is forgotten
 refine fB (h0:=[am [.ls 1 1 0 (aa (AX n odd k)) (aa (AX n odd k))],am ((AX n odd k).map V.str),.misc .dfd,L t .ready aq]) (by rw[hd];simp) ?_;have hcl:([am [.ls 1 1 0 (aa (AX n odd k)) (aa (AX n odd k))],am ((AX n odd k).map V.str),.misc .dfd,L t .ready aq]:H).map (O.drop (Abs.fK 4))=[am [.ls 1 1 0 (aa (AX n odd k)) (aa (AX n odd k))],am ((AX n odd k).map V.str),.misc .dfd,L (λi=>(t i).drop (Abs.fK 4)) .ready aq]:=by
  simp only[zrd,List.map_nil,hL];simp only[O.drop,aN];rfl
 show awp _ _ _ _ _ (f.drop (Abs.fK 4)) (([am [.ls 1 1 0 (aa (AX n odd k)) (aa (AX n odd k))],am ((AX n odd k).map V.str),.misc .dfd,L t .ready aq]:H).map (O.drop (Abs.fK 4)));rw[hcl];obtain⟨out,hout⟩:∃out,out=AX n odd k:=⟨_,rfl⟩;have hol:aa out<=k:=by rw[hout];exact UE
 obtain⟨t',ht'⟩:∃t',t'=λi=>(t i).drop (Abs.fK 4):=⟨_,rfl⟩;have ht8:t' 8= .lp 0 0:=by rw[ht'];show(t 8).drop _=_;rw[ht];rfl
 rw[<-hout,<-ht'];obtain⟨B,hB⟩:∃B:H,B=[am [.ls 1 1 0 (aa out) (aa out)],am (out.map V.str),.misc .dfd,L t' .ready aq]:=⟨_,rfl⟩;have hBl:aa B=4:=by rw[hB];rfl
 have hBX:∀X,HPr L out .ready (B++X):=λX=>⟨t',X,ht8,by rw[hB]⟩;have hg:∀x:O,(B++[x])[4]? =al x:=λx=>by rw[hB];rfl
 have hgs:∀x y:O,(B++[x]).set 4 y=B++[y]:=λx y=>by rw[hB];rfl
 rw[<-hB];obtain⟨f',hf'⟩:∃f',f'=f.drop (Abs.fK 4):=⟨_,rfl⟩;have u0:f'.t 0= .yd 3:=by rw[hf'];show(f.t 0).drop _=_;rw[g0];rfl
 have u1:f'.t 1= .ip (vi n):=by rw[hf'];show(f.t 1).drop _=_;rw[g1];rfl
 have u2:f'.t 2= .ip (.bool odd):=by rw[hf'];show(f.t 2).drop _=_;rw[g2];rfl
 have u8:f'.t 8=vi N:=by rw[hf'];show(f.t 8).drop _=_;rw[g8];rfl
 have u9:f'.t 9=vi k:=by rw[hf'];show(f.t 9).drop _=_;rw[g9];rfl
 have ud:f'.d=[]:=by rw[hf'];exact hd
 have uk:∀i,i<4->i≠1->f'.k i=ac:=λi hi h1=>by rw[hf'];show(f.k i||Abs.fK 4 i)=ac;rw[hk i hi h1];simp[Abs.fK];omega
 rw[<-hf'];clear hf' g0 g1 g2 g8 g9 hd hk hcl ht';refine vn ?_;simp only[wq.1,Nat.reduceLT,u8,u9];refine vn ?_;simp only[wq.1,↓reduceIte];refine vcB.mk (λhlt=> ?_) (λhlt=> ?_)
 ·have hlt:k<N:=by have:=zqs hlt;omega
  have hps:=P8 (n:=n) (odd:=odd) (k:=k);have hon:=XA k (by omega);have wu:=zan k (by omega);have hod:(((AU k:Nat):Int).tmod 2==1)=(AU k%2==1):=by rw[Bool.eq_iff_iff,beq_iff_eq,beq_iff_eq,Int.tmod_eq_emod_of_nonneg (by omega)];omega
  simp only[wq.1];refine ak ?_;refine aB ?_;refine vn ?_;simp only[wq.1,seval,u9];refine ak ?_;refine vn ?_;simp only[wq.1,↓reduceIte,Nat.reduceEqDiff,Nat.reduceLT,Nat.reduceLeDiff,Nat.reduceAdd,Nat.reduceSub,Int.reduceToNat,Nat.reduceDiv,Int.reduceLT,Int.reduceLE,Int.reduceNeg,Int.reduceBEq,Int.reduceBNe,Int.reduceAdd,Int.reduceSub,Nat.reduceBEq,reduceCtorEq,Nat.reduceMul,ay,Tryz.results200,u0,u1,u2,u8,u9,ud,zal,wu];refine⟨by decide +kernel,uh.mk hon rfl rfl ?_⟩;simp only[wq.1,↓reduceIte,Nat.reduceEqDiff,Nat.reduceLT,Nat.reduceLeDiff,Nat.reduceAdd,Nat.reduceSub,Int.reduceToNat,Nat.reduceDiv,Int.reduceLT,Int.reduceLE,Int.reduceNeg,Int.reduceBEq,Int.reduceBNe,Int.reduceAdd,Int.reduceSub,Nat.reduceBEq,reduceCtorEq,Nat.reduceMul,ay,Tryz.results200,u0,u1,u2,u8,u9,ud,hod];refine⟨by decide,?_⟩;obtain⟨b,hb⟩:∃b,b=(AU k%2==1):=⟨_,rfl⟩;rw[<-hb]at hps ⊢;cases hbo:(b==odd)with
  |false =>
   rw[hbo,if_neg (by decide)]at hps;have hne:(b != odd)=ab:=by rw[bne,hbo];rfl
   refine vm ?_;simp only[wq.1,↓reduceIte];refine vm ?_;simp only[wq.1,seval,u9,hwk];have hx:=hBX [];rw[zqp]at hx;exact .inl ⟨m-1,by omega,k+1,by omega,by simp only[wq.1,seval,u0],by simp only[wq.1,seval,u1],by simp only[wq.1,seval,u2],by simp only[wq.1,seval,u8],by simp only[wq.1,↓reduceIte],by simp only[wq.1,ud],λi hi h1=>by simp only[wq.1,uk i hi h1],by rw[hps,<-hout];exact hx⟩
  |true =>
   rw[hbo,if_pos rfl]at hps;have hne:(b != odd)=ac:=by rw[bne,hbo];rfl
   refine vm ?_;simp only[wq.1,↓reduceIte];refine vn ?_;simp only[wq.1,seval,u1,hBl];refine⟨⟨by omega,by omega⟩,?_⟩;refine vn ?_;simp only[wq.1,seval];refine aF (λmm f h=>∃i,mm+i=n/\f.t 0= .yd 3/\f.t 1= .ip (vi n)/\f.t 2= .ip (.bool odd)/\f.t 4=vi k/\f.t 5= .ls 4 1 0 n n/\f.t 8=vi N/\f.t 9=vi k/\f.t 22=vi n/\f.t 23=vi i/\f.d=[]/\(∀i,i<4->i≠1->f.k i=ac)/\h=B++[am (((Nc n k).take i).map vb++ao (n-i) (.int .u8 0))]) n ⟨0,by omega,by simp only[wq.1,seval,u0],by simp only[wq.1,seval,u1],by simp only[wq.1,seval,u2],by simp only[wq.1,seval],by simp only[wq.1,seval],by simp only[wq.1,seval,u8],by simp only[wq.1,seval,u9],by simp only[wq.1,seval],by simp only[wq.1,↓reduceIte];rfl,by simp only[wq.1,ud],λi hi h1=>by simp only[wq.1,uk i hi h1],rfl⟩ ?_;clear u0 u1 u2 u8 u9 ud uk;rintro mm f h ⟨i,hmm,u0,u1,u2,u4,u5,u8,u9,u22,u23,ud,uk,rfl⟩;have hwi:=aA (show i<maxLen by omega);have hrl:=UD n k;refine vn ?_;simp only[wq.1,Nat.reduceLT,u22,u23];refine vn ?_;simp only[wq.1,↓reduceIte];refine vcB.mk (λhin=> ?_) (λhin=> ?_)
   ·have hin:i<n:=by have:=zqs hin;omega
    have w1:aD .i64 ((n:Int)-1)=(n:Int)-1:=iW (by omega) (by omega);have w2:aD .i64 ((n:Int)-1-i)=((n-1-i:Nat):Int):=by rw[iW (by omega) (by omega)];omega
    have w3:=Zv k (n-1-i) (by omega);have hz:k/2^(n-1-i)<256:=Nat.lt_of_le_of_lt (Nat.div_le_self _ _) (by omega);have w4:=Zu _ hz;obtain⟨z,hzz⟩:∃z,z=k/2^(n-1-i):=⟨_,rfl⟩;rw[<-hzz]at w3 w4;have hrow:(Nc n k)[i]'(by omega)=UInt8.ofNat (48+z%2):=by simp[Nc,hzz]
    simp only[wq.1];refine ak ?_;refine aB ?_;refine vm ?_;simp only[wq.1,seval,u1,u4,u5,u23,w1,w2,w3,w4,zam,hg,hgs];have hfa:=Xz (r:=Nc n k) (z:= .int .u8 0) hin hrl;rw[hrow]at hfa;refine⟨by omega,⟨by omega,by omega⟩,by rw[zrl,zsc];omega,?_⟩;rw[hfa];refine vm ?_;simp only[wq.1,seval,u23,hwi];exact .inl ⟨mm-1,by omega,i+1,by omega,by simp only[wq.1,seval,u0],by simp only[wq.1,seval,u1],by simp only[wq.1,seval,u2],by simp only[wq.1,seval,u4],by simp only[wq.1,seval,u5],by simp only[wq.1,seval,u8],by simp only[wq.1,seval,u9],by simp only[wq.1,seval,u22],by simp only[wq.1,↓reduceIte],by simp only[wq.1,ud],λi hi h1=>by simp only[wq.1,uk i hi h1],rfl⟩
   ·have hin:i=n:=by have:=of_decide_eq_false hin;omega
    subst hin;rw[Nat.sub_self,List.replicate_zero,zqp,zqh (by omega)]at *;obtain⟨c1,c2⟩:=qO (h:=B++[am ((Nc i k).map vb)]) (l:=Nc i k) (k:=4) (cap:=i) (hg _);rw[hrl]at c1 c2;obtain⟨t2,n',ps,asg,body,pend,hLL,hsz,hps2,hw⟩:=step out (Nc i k) (B++[am ((Nc i k).map vb)]) (hBX _) (by omega);refine vm ?_;simp only[wq.1,seval,u0,u5,c1,c2,hLL];refine⟨⟨by simpa using hsz,hps2⟩,pJ hw ?_⟩;rintro j h' p hp ⟨rfl,hp4,hHD'⟩;refine⟨by simp[ui,ud],?_⟩;simp only[wq.1,seval,Option.isNone_none];refine vm ?_;simp only[wq.1,seval,u9,hwk];exact .inl ⟨m-1,by omega,k+1,by omega,by simp only[wq.1,seval,u0,hp],by simp only[wq.1,seval,u1],by simp only[wq.1,seval,u2],by simp only[wq.1,seval,u8],by simp only[wq.1,↓reduceIte],by simp only[wq.1,ud],λi hi h1=>by simp only[wq.1,uk i hi h1,hp4 i hi h1],by rw[hps,<-hout];exact hHD'⟩
 ·have hkN:k=N:=by have:=of_decide_eq_false hlt;omega
  subst hkN;simp only[wq.1,ud];exact⟨uk,by rw[<-hout];have:=hBX [];rwa [zqp]at this⟩
theorem aC.ex{e:E}{h:H}{k:Nat}{es:List V}(hd:aE (.is ab k es)=ab):aC e h (.is ab k es) (.is ac k es):=λok pl w x hs hv=>dH _ _ (aC.dat hd ok pl w x hs hv)
theorem UF(n:Nat)(c:UInt8):Lib.repeatL [c] n=ao n c:=by
 induction n with
 |zero=>rfl
 |succ n ih=>rw[List.replicate_succ,<-ih];rfl
theorem UG[MO](op:Int)(n:Nat)(h0:0<=op)(h10:op<10)(hn:n<=8):Ev TE 88 [vi op,vi n] (.tup [aJ (sS op.toNat n).1,.bool (sS op.toNat n).2]):=by
 have hM:=mLx;have hr1:=FY [49] n (by decide) (by omega);have hr0:=FY [48] n (by decide) (by omega);rw[UF]at hr1 hr0;refine ai Tryz.func88 rfl (by simp[nts]) ?_;refine vn ?_;simp only[wq.1,Nat.reduceLT,Tryz.results88];refine vn ?_;simp only[wq.1,seval];refine ag.ev hr1 rfl ?_;simp only[wq.1,seval];refine ag.ev hr0 rfl ?_;simp only[wq.1,seval];have hop:op=0\/op=1\/op=2\/op=3\/op=4\/op=5\/op=6\/op=7\/op=8\/op=9:=by omega
 rcases hop with rfl|rfl|rfl|rfl|rfl|rfl|rfl|rfl|rfl|rfl
 ·refine vm ?_;simp only[wq.1,↓reduceIte,Nat.reduceEqDiff,Nat.reduceLT,Nat.reduceLeDiff,Nat.reduceAdd,Nat.reduceSub,Int.reduceToNat,Nat.reduceDiv,Int.reduceLT,Int.reduceLE,Int.reduceNeg,Int.reduceBEq,Int.reduceBNe,Int.reduceAdd,Int.reduceSub,Nat.reduceBEq,reduceCtorEq,Nat.reduceMul,ay,Tryz.results88];exact aC.tup (au.cons aC.nils (au.cons (aC.dat rfl) au.nil))
 iterate 7
  ·refine vm ?_;simp only[wq.1,↓reduceIte,Nat.reduceEqDiff,Nat.reduceLT,Nat.reduceLeDiff,Nat.reduceAdd,Nat.reduceSub,Int.reduceToNat,Nat.reduceDiv,Int.reduceLT,Int.reduceLE,Int.reduceNeg,Int.reduceBEq,Int.reduceBNe,Int.reduceAdd,Int.reduceSub,Nat.reduceBEq,reduceCtorEq,Nat.reduceMul,ay,Tryz.results88];exact⟨⟨rfl,by decide⟩,aC.tup (au.cons (aC.ex rfl) (au.cons (aC.dat rfl) au.nil))⟩
 ·refine vn ?_;simp only[wq.1,seval];refine vn ?_;simp only[wq.1,Nat.reduceLT];refine gI ?_;refine mF (h':=[am [.ls 1 1 0 0 0],am []]) (HLe.set (i:=0) (o':=am [.ls 1 1 0 0 0]) rfl (OLe.cells (zrb _) (dm.cons dV dm.nil))) ?_;refine vn ?_;simp only[wq.1,seval];refine ag.ev (BH n ab) rfl ?_;simp only[wq.1];refine jr (n:=46) (q:=200) (first:=[]) (captured:=[.ip (vi n),.ip (.bool ab)]) (by simp only[wq.1,↓reduceIte]) (by simp only[wq.1,↓reduceIte]) rfl (by decide) ?_;intro L hLd gets;refine ag.mono (uI L hLd n ab hn _ ⟨_,[],?_,rfl⟩ ?_) ?_
  ·rfl
  ·rintro out s h ⟨t,X,ht,rfl⟩ hol;refine gets _ _ _ t rfl rfl (λlb=> ?_);have hds:∀p,ap p (out.map V.str)=out.map V.str:=λp=>aN;refine vm ?_;simp only[wq.1,↓reduceIte,Nat.reduceLT,Nat.reduceAdd,uq];refine⟨t,rfl,?_⟩;refine vm ?_;simp only[wq.1,↓reduceIte,Nat.reduceEqDiff,Nat.reduceLT,Nat.reduceBEq,reduceCtorEq,Nat.reduceMul,ht,oQ,XE.jump,hLd];refine⟨⟨rfl,by decide⟩,⟨by omega,by omega,by omega⟩,_,_,rfl,λi hi h1=>by simpa using h1,λi=>(t i).drop λx=>x==1,X.map (O.drop λx=>x==1),?_,?_⟩
   ·show(t 8).drop _=_;rw[ht];rfl
   ·rw[zql,zqa];rfl
  ·rintro ae h' p ⟨hp4,hr⟩;cases ae with
   |pan v=>exact hr.elim
   |ret v =>
    obtain⟨t,X,ht,rfl⟩:=hr;have k0:=hp4 0 (by omega) (by omega);have k2:=hp4 2 (by omega) (by omega);have k3:=hp4 3 (by omega) (by omega);refine⟨?_,hp4 3 (by omega) (by omega),t,_,aq,(by decide),rfl,?_⟩
    ·intro i hi;have hi:i=2:=by simpa [ui,uj]using hi
     subst hi;exact k2
    ·simp only[wq.1,Nat.reduceAdd,AC];refine vm ?_;simp only[wq.1,seval,k0];exact aC.tup (au.cons (aX rfl rfl) (au.cons (aC.dat rfl) au.nil))
 ·refine vn ?_;simp only[wq.1,seval];refine vn ?_;simp only[wq.1,Nat.reduceLT];refine gI ?_;refine mF (h':=[am [.ls 1 1 0 0 0],am []]) (HLe.set (i:=0) (o':=am [.ls 1 1 0 0 0]) rfl (OLe.cells (zrb _) (dm.cons dV dm.nil))) ?_;refine vn ?_;simp only[wq.1,seval];refine ag.ev (BH n ac) rfl ?_;simp only[wq.1];refine jr (n:=46) (q:=200) (first:=[]) (captured:=[.ip (vi n),.ip (.bool ac)]) (by simp only[wq.1,↓reduceIte]) (by simp only[wq.1,↓reduceIte]) rfl (by decide) ?_;intro L hLd gets;refine ag.mono (uI L hLd n ac hn _ ⟨_,[],?_,rfl⟩ ?_) ?_
  ·rfl
  ·rintro out s h ⟨t,X,ht,rfl⟩ hol;refine gets _ _ _ t rfl rfl (λlb=> ?_);have hds:∀p,ap p (out.map V.str)=out.map V.str:=λp=>aN;refine vm ?_;simp only[wq.1,↓reduceIte,Nat.reduceLT,Nat.reduceAdd,uq];refine⟨t,rfl,?_⟩;refine vm ?_;simp only[wq.1,↓reduceIte,Nat.reduceEqDiff,Nat.reduceLT,Nat.reduceBEq,reduceCtorEq,Nat.reduceMul,ht,oQ,XE.jump,hLd];refine⟨⟨rfl,by decide⟩,⟨by omega,by omega,by omega⟩,_,_,rfl,λi hi h1=>by simpa using h1,λi=>(t i).drop λx=>x==1,X.map (O.drop λx=>x==1),?_,?_⟩
   ·show(t 8).drop _=_;rw[ht];rfl
   ·rw[zql,zqa];rfl
  ·rintro ae h' p ⟨hp4,hr⟩;cases ae with
   |pan v=>exact hr.elim
   |ret v =>
    obtain⟨t,X,ht,rfl⟩:=hr;have k0:=hp4 0 (by omega) (by omega);have k2:=hp4 2 (by omega) (by omega);have k3:=hp4 3 (by omega) (by omega);refine⟨?_,hp4 3 (by omega) (by omega),t,_,aq,(by decide),rfl,?_⟩
    ·intro i hi;have hi:i=2:=by simpa [ui,uj]using hi
     subst hi;exact k2
    ·simp only[wq.1,Nat.reduceAdd,AC];refine vm ?_;simp only[wq.1,seval,k0];exact aC.tup (au.cons (aX rfl rfl) (au.cons (aC.dat rfl) au.nil))
abbrev gaF(g:Ga):List V:=[.str g.name,vi g.op,aJ g.ins,aJ g.rows,.bool g.off]
def zy(n:Nat)(rows:List S)(off:Bool)(op:Nat):Bool:=JV op n&&(off==(sS op n).2&&(sS op n).1==rows)
theorem XB{n:Nat}{rows:List S}{off:Bool}{i:Nat}(hi:i<10)(hn:∀j,j<i->zy n rows off j=ac)(h:zy n rows off i=ab):jI n rows off=al i:=by unfold jI;rw[List.find?_eq_some_iff_getElem];refine⟨h,i,by rw[List.length_range];exact hi,by simp,λj hj=> ?_⟩;have:=hn j hj;unfold zy at this;simp only[List.getElem_range,this];rfl
theorem XC{n:Nat}{rows:List S}{off:Bool}(hn:∀j,j<10->zy n rows off j=ac):jI n rows off=aq:=by unfold jI;rw[List.find?_eq_none];intro j hj;have:=hn j (List.mem_range.1 hj);unfold zy at this;simp only[this];decide
theorem UH{i n:Nat}(hi:i<10):vJ (i:Int) n=JV i n:=by unfold vJ;rw[decide_eq_true (by omega),decide_eq_true (by omega),zsg];rfl
theorem UI{g:Ga}(h:(jJ g).op≠10):aZ g=jJ g:=by unfold aZ;rw[if_pos h]
theorem Np{g:Ga}{i:Nat}(h:(jJ g).op=10)(hf:jI (aa g.ins) g.rows g.off=al i):aZ g=⟨g.name,i,g.ins,[],ac⟩:=by unfold aZ;rw[if_neg (λe=>e h),hf]
theorem Nq{g:Ga}(h:(jJ g).op=10)(hf:jI (aa g.ins) g.rows g.off=aq):aZ g=jJ g:=by unfold aZ;rw[if_neg (λe=>e h),hf]
theorem Kq[MO](g:Ga):Ev TE 45 [g.v] ((aZ g).v):=by
 have hM:=mLx;refine Ev.bnd λhb=> ?_;obtain⟨hl1,hl2⟩:=V7 hb;refine ai Tryz.func45 rfl (by simp[nts]) ?_;refine vn ?_;simp only[wq.1,Nat.reduceLT,Tryz.results45];refine ak (bf (Q:=λxe f h=>xe= .normal/\f.t 1= .lp 0 0/\f.t 2= .lp 1 0/\f.d=[]/\h=[am (gaF (jJ g)),am [.str [],vi 0,.nils,.nils,.bool ac]]) ?_ ?_)
 ·rintro xe f h ⟨rfl,t1,t2,hd,rfl⟩;show awp _ _ _ _ _ _ _;have ho:(jJ g).ins=g.ins/\(jJ g).rows=g.rows/\(jJ g).off=g.off/\(jJ g).name=g.name:=by
   unfold jJ
   repeat' split
   all_goals exact⟨rfl,rfl,rfl,rfl⟩
  obtain⟨o,hoo⟩:∃o,o=jJ g:=⟨_,rfl⟩;rw[<-hoo]at ho ⊢;obtain⟨o1,o2,o3,o4⟩:=ho;by_cases h10:o.op=10
  ·have e10:(o.op != 10)=ac:=by rw[h10];rfl
   have hsome:∀i,jI (aa g.ins) g.rows g.off=al i->aZ g=⟨g.name,i,g.ins,[],ac⟩:=λi hf=>Np (by rw[<-hoo];exact h10) hf;have hnone:jI (aa g.ins) g.rows g.off=aq->aZ g=o:=λhf=>by rw[hoo];exact Nq (by rw[<-hoo];exact h10) hf
   refine vn ?_;simp only[wq.1,seval,t1,e10];refine vn ?_;simp only[wq.1,Nat.reduceLT];refine aF (λm f h=>∃i:Nat,m+i=10/\f.t 1= .lp 0 0/\f.t 2= .lp 1 0/\f.t 3=vi i/\f.d=[]/\h=[am (gaF o),am [.str [],vi 0,.nils,.nils,.bool ac]]/\∀j,j<i->zy (aa g.ins) g.rows g.off j=ac) 10 ⟨0,rfl,by simp only[wq.1,seval,t1],by simp only[wq.1,seval,t2],by simp only[wq.1,↓reduceIte];rfl,by simp only[wq.1,hd],rfl,λj hj=>absurd hj (by omega)⟩ ?_;clear t1 t2 hd;rintro m f h ⟨i,hm,t1,t2,t3,hd,rfl,hall⟩;have hwi:=aA (show i<maxLen by omega);refine vn ?_;simp only[wq.1,seval,t3];refine vcB.mk (λhlt=> ?_) (λhlt=> ?_)
   ·have hlt:i<10:=by have:=zqs hlt;omega
    have hh:=PZ (i:Int) (aa g.ins) hl1;rw[UH hlt]at hh;simp only[wq.1];refine ak ?_;refine aB ?_;refine vn ?_;simp only[wq.1,seval,t1,t3,o1];refine ag.ev hh rfl ?_;cases hhn:JV i (aa g.ins)with
    |false =>
     have hf:zy (aa g.ins) g.rows g.off i=ac:=by unfold zy;rw[hhn];rfl
     simp only[wq.1,seval];refine vm ?_;simp only[wq.1,seval,t3,hwi];refine .inl ⟨m-1,by omega,i+1,by omega,by simp only[wq.1,seval,t1],by simp only[wq.1,seval,t2],by simp only[wq.1,↓reduceIte],by simp only[wq.1,hd],rfl,λj hj=> ?_⟩;by_cases hji:j=i
     ·rw[hji];exact hf
     ·exact hall j (by omega)
    |true =>
     have hn8:=PK hhn;have hr:=UG (i:Int) (aa g.ins) (by omega) (by omega) (by omega);rw[zsg]at hr;have hq:=Xy (sS i (aa g.ins)).1 g.rows;have hfe:zy (aa g.ins) g.rows g.off i=(g.off==(sS i (aa g.ins)).2&&(sS i (aa g.ins)).1==g.rows):=by unfold zy;rw[hhn];rfl
     generalize sS i (aa g.ins)=RB at hr hq hfe;obtain⟨R,B⟩:=RB;dsimp only at hr hq hfe;have hcomm:(B==g.off)=(g.off==B):=by cases B<;>cases g.off<;>rfl
     simp only[wq.1,seval];refine vn ?_;simp only[wq.1,seval,t1,t3,o1];refine ag.ev hr (by simp only[aL,aE,zre]) ?_;simp only[wq.1,seval];refine vn ?_;simp only[wq.1,seval,t1,o1,o2,o3,hcomm];refine ET.ev (q:=54) (vs:=[aJ R,aJ g.rows]) (by simp only[wq.1,seval]) (by simp only[wq.1,seval]) rfl (λ_=>hq) (λ_=>by simp only[aL,aE,ax,zre]) ?_;simp only[wq.1,seval];rw[<-hfe];cases hfi:zy (aa g.ins) g.rows g.off i with
     |false =>
      refine vm ?_;simp only[wq.1,↓reduceIte];refine vm ?_;simp only[wq.1,seval,t3,hwi];refine .inl ⟨m-1,by omega,i+1,by omega,by simp only[wq.1,seval,t1],by simp only[wq.1,seval,t2],by simp only[wq.1,↓reduceIte],by simp only[wq.1,hd],rfl,λj hj=> ?_⟩;by_cases hji:j=i
      ·rw[hji];exact hfi
      ·exact hall j (by omega)
     |true=>rw[hsome i (XB hlt hall hfi)];refine vm ?_;simp only[wq.1,seval,t1,t2,t3,hd,o1,o4];exact aC.agg (au.cons (aC.dat rfl) (au.cons (aC.dat rfl) (au.cons (aC.dat (by simp only[aE,ax])) (au.cons aC.nils (au.cons (aC.dat rfl) au.nil)))))
   ·have hi:i=10:=by have:=of_decide_eq_false hlt;omega
    subst hi;rw[hnone (XC hall)];refine vm ?_;simp only[wq.1,seval,t1,t2,hd];exact aC.dat (by simp only[aE,aL,ax,zre])
  ·have e10:(o.op != 10)=ab:=by simpa using h10
   rw[UI (by rw[<-hoo];exact h10),<-hoo];refine vm ?_;simp only[wq.1,seval,t1,t2,hd,e10];exact aC.dat (by simp only[aE,aL,ax,zre])
 ·have hone:jJ g=if aa g.ins=1/\g.rows=[]/\g.off=ac then if g.op=4\/g.op=6\/g.op=8 then {g with op:=2} else if g.op=5\/g.op=7\/g.op=9 then {g with op:=3} else g else g:=rfl
  have e1:((((aa g.ins:Int)==1)&&((aa g.rows:Int)==0))&& !g.off)=ar (aa g.ins=1/\g.rows=[]/\g.off=ac):=by rw[Bool.eq_iff_iff,zqb];simp only[zqf,beq_iff_eq,Bool.not_eq_true',and_assoc];refine and_congr (by omega) (and_congr ?_ Iff.rfl);rw[show((aa g.rows:Int)=0)↔aa g.rows=0 by omega,List.length_eq_zero_iff]
  refine vn ?_;simp only[wq.1,seval,e1];by_cases hc:aa g.ins=1/\g.rows=[]/\g.off=ac
  ·rw[if_pos hc]at hone;rw[decide_eq_true hc];have key:∀k:Int,(g.op==k)=ar (g.op=k):=λk=>by rw[Bool.eq_iff_iff];simp
   by_cases h4:g.op=4\/g.op=6\/g.op=8
   ·rw[if_pos h4]at hone;rw[hone];rcases h4 with h4|h4|h4
    all_goals
     have a4:(g.op==4)=ar (g.op=4):=key 4;have a6:(g.op==6)=ar (g.op=6):=key 6;have a8:(g.op==8)=ar (g.op=8):=key 8;rw[h4]at a4 a6 a8;refine vm ?_;simp only[wq.1,seval,h4]
   ·rw[if_neg h4]at hone;have b4:(g.op==4)=ac:=by simp;omega
    have b6:(g.op==6)=ac:=by simp;omega
    have b8:(g.op==8)=ac:=by simp;omega
    by_cases h5:g.op=5\/g.op=7\/g.op=9
    ·rw[if_pos h5]at hone;rw[hone];rcases h5 with h5|h5|h5
     all_goals
      refine vm ?_;simp only[wq.1,seval,h5]
    ·rw[if_neg h5]at hone;have b5:(g.op==5)=ac:=by simp;omega
     have b7:(g.op==7)=ac:=by simp;omega
     have b9:(g.op==9)=ac:=by simp;omega
     rw[hone];refine vm ?_;simp only[wq.1,seval,b4,b6,b8,b5,b7,b9]
  ·rw[if_neg hc]at hone;rw[decide_eq_false hc,hone];refine vm ?_;simp only[wq.1,seval]
def at? :List S->S->Option Nat
 |[],_=>aq
 |x::l,s=>if x=s then al 0 else(at? l s).map (·+1)
theorem bF(s:S):∀(ks:List S),jm .str (.str s) (ks.map V.str)=al (at? ks s)
 |[]=>rfl
 |k::ks=>by
  simp only[zrd,jm,keq,at?];by_cases h:k=s
  ·subst h;simp
  ·have:(s==k)=ac:=by simpa using λh'=>h h'.symm
   rw[this,bF s ks,if_neg h];cases at? ks s<;>rfl
theorem lh:∀ {l:List S} {s:S} {n:Nat},at? l s=al n->∃h:n<aa l,l[n]=s
 |[],s,n,h=>by cases h
 |x::l,s,n,h=>by
  simp only[at?]at h;split at h
  ·rename_i he;cases h;exact⟨by simp,he⟩
  ·cases hl:at? l s with
   |none=>rw[hl]at h;cases h
   |some k=>rw[hl]at h;cases h;obtain⟨h1,h2⟩:=lh hl;exact⟨by simpa using h1,by simpa using h2⟩
theorem IZ:∀ {l:List S} {s:S},s∈l->∃n,at? l s=al n
 |x::l,s,h=>by
  by_cases hx:x=s
  ·exact⟨0,by simp[at?,hx]⟩
  ·have:s∈l:=by
    rcases zrj.1 h with h|h
    ·exact absurd h.symm hx
    ·exact h
   obtain⟨n,hn⟩:=IZ this;exact⟨n+1,by simp[at?,hx,hn]⟩
theorem UJ{l:List S}{s:S}(h:s∉l):at? l s=aq:=by
 cases hh:at? l s with
 |none=>rfl
 |some n=>obtain⟨h1,h2⟩:=lh hh;exact absurd (h2▸zqu h1) h
theorem zA:∀l:List S,(l.map V.str).flatMap V.vc=l.map V.str
 |[]=>rfl
 |a::l=>by rw[zrd,List.flatMap_cons,zA l];rfl
theorem qP[MO](c:List S)(hc:aa c<=1000000):EvF TE 48 [aJ c] 1 (aa c) (c.map V.str):=by
 have hM:=mLx;have ho:=oq c;have hv:=zA c;unfold EvF;refine aj Tryz.func48 rfl (by simp[nts]) (vm ?_);simp only[wq.1,seval,Tryz.results48];intro b hb;cases b with
 |true =>
  have:c=[]:=by simpa using hb rfl
  subst this;simp only[wq.1,↓reduceIte,Nat.reduceLT,reduceCtorEq]
  all_goals try exact .inl ⟨rfl,rfl,rfl⟩
 |false=>simp only[wq.1,↓reduceIte,Nat.reduceEqDiff,Nat.reduceLT,reduceCtorEq,Nat.reduceMul,ho];refine⟨⟨rfl,by decide⟩,⟨by omega,by omega⟩,.inr ⟨0,_,rfl,zrb _,rfl⟩⟩
def BI(e:Int)(s:S):V:= .iface 172 (.agg [vi e,.str s])
theorem iY[MO]{h:H}{R:AEnd->H->(Nat->Bool)->Prop}(b:Bool)(e:Int)(s:S)(ht:b=ab->R (.ret (.tup [])) h (λ_=>ac))(hf:b=ac->R (.pan (BI e s)) h (λ_=>ac)):ag TE 102 [.bool b,vi e,.str s] h R:=by
 refine aj Tryz.func102 rfl (by simp[nts]) (vm ?_);cases b with
 |true=>simp only[wq.1,seval,Tryz.results102];exact ht rfl
 |false=>simp only[wq.1,seval,Tryz.results102];exact⟨by simp,hf rfl⟩
structure LimC(c:Ci):Prop where
 ins:aa c.ins<=200
 outs:aa c.outs<=200
 lat:aa c.lat<=200
 gates:aa c.gates<=200
 gins:∀g∈c.gates,aa g.ins<=8
theorem P9{c:Ci}(h:PL c=ab):LimC c:=by unfold PL at h;simp only[zqf,zqb,Bool.not_eq_true',List.any_eq_false]at h;obtain⟨h1,h2,h3⟩:=h;refine⟨by omega,h2,by omega,by omega,λg hg=> ?_⟩;have:=h3 g hg;unfold BB at this;simp only[Bool.or_eq_true,zqb,not_or,Nat.not_lt]at this;exact this.1
theorem gy{α:Type}{F:α->List S}{k:Nat}:∀l:List α,(∀x∈l,aa (F x)<=k)->aa (l.flatMap F)<=aa l*k
 |[],_=>by simp
 |x::l,h=>by have h1:=h x (by simp);have h2:=gy l λy hy=>h y (by simp[hy]);rw[List.flatMap_cons,zqa,zrt,Nat.succ_mul];omega
theorem nD{α:Type}{F:α->List S}{l:List α}{i:Nat}(h:i<aa l):(l.take (i+1)).flatMap F=(l.take i).flatMap F++F l[i]:=by rw[List.take_succ_eq_append_getElem h,List.flatMap_append];simp
theorem wo{α:Type}{P:α->Prop}{l:List α}{i:Nat}(h:∀x∈l,P x):∀x∈l.take i,P x:=λx hx=>h x (zsh hx)
def Kr:Plan:=tkZ [0,1,5]<| .alt 2 (.alt 3 (.alt 4 (.one 6<| .one 7<| .take 8<| .fin) (.one 6 (.one 4<| .one 7<| .take 8<| .fin))) (.one 6 (onZ [3,4,7]<| .take 8<| .fin))) (.one 6 (onZ [2,3,4,7]<| .take 8<| .fin))
theorem UK[MO](c:Ci)(hl:LimC c):EvF TE 104 [c.v] 1 (aa (dW c)) ((dW c).map V.str):=by
 have hM:=mLx;obtain⟨l1,l2,l3,l4,l5⟩:=hl;have hL:∀i,aa ((c.lat.take i).flatMap (λq=>[q.name,q.next]))<=200*2:=λi=>Nat.le_trans (gy (k:=2) _ λx _=>(by simp)) (Nat.mul_le_mul_right _ (by rw[zrl];omega));have hG:∀i,aa ((c.gates.take i).flatMap (λg=>g.name::g.ins))<=200*9:=λi=>Nat.le_trans (gy (k:=9) _ (wo λx hx=>by have:=l5 x hx;simp;try omega)) (Nat.mul_le_mul_right _ (by rw[zrl];omega));obtain⟨r0,hr0⟩:∃r0:List S,r0=[c.ins,c.outs].flatten:=⟨_,rfl⟩;have hrl:aa r0<=400:=by rw[hr0];simp;omega
 obtain⟨RL,hRL⟩:∃RL:Nat->List S,RL=λi=>r0++(c.lat.take i).flatMap (λq=>[q.name,q.next]):=⟨_,rfl⟩;have R15:RL 0=r0:=by rw[hRL];simp
 have RLl:∀i,aa (RL i)<=400+200*2:=λi=>by have:=hL i;rw[hRL];simp only[zqa];omega
 have RLs:∀i (h:i<aa c.lat),RL (i+1)=RL i++(λq=>[q.name,q.next]) c.lat[i]:=λi h=>by rw[hRL];simp only[nD h,zqc]
 obtain⟨RG,hRG⟩:∃RG:Nat->List S,RG=λi=>RL (aa c.lat)++(c.gates.take i).flatMap (λg=>g.name::g.ins):=⟨_,rfl⟩;have R30:RG 0=RL (aa c.lat):=by rw[hRG];simp
 have RGl:∀i,aa (RG i)<=400+200*2+200*9:=λi=>by have:=hG i;have:=RLl (aa c.lat);rw[hRG];simp only[zqa];omega
 have RGs:∀i (h:i<aa c.gates),RG (i+1)=RG i++(λg=>g.name::g.ins) c.gates[i]:=λi h=>by rw[hRG];simp only[nD h,zqc]
 have hdef:RG (aa c.gates)=dW c:=by rw[hRG,hRL,hr0];simp only[zrx];simp[dW,List.flatMap_singleton',<-List.map_eq_flatMap]
 obtain⟨DD,hDD⟩:∃DD,DD=dW c:=⟨_,rfl⟩;rw[<-hDD]at hdef ⊢;clear hRL hRG hL hG hDD;obtain⟨BX,hBX⟩:∃BX:O,BX=am [aJ c.ins,aJ c.outs,kY c.lat,iU c.gates]:=⟨_,rfl⟩;have hBd:∀p,BX.drop p=BX:=λp=>by rw[hBX];rfl
 have hcl:∀(p:Nat->Bool)(row:List S),([BX,am (row.map V.str)]:H).map (O.drop p)=[BX,am (row.map V.str)]:=λp row=>by show [BX.drop p,am (ap p (row.map V.str))]=_;rw[hBd,aN]
 unfold EvF;refine aj Tryz.func104 rfl (by simp[nts]) ?_;refine vn ?_;simp only[wq.1,Nat.reduceLT,Tryz.results104];refine vn ?_;simp only[wq.1,↓reduceIte,Nat.reduceEqDiff,Nat.reduceLT,Nat.reduceLeDiff,Nat.reduceAdd,reduceCtorEq,Nat.reduceMul];refine⟨⟨rfl,by decide⟩,kw (IQ [c.ins,c.outs] (by simp;omega) (by simp)) (by simp only[aL,aE,ax,zre]) ax ?_⟩;rw[<-hr0];simp only[wq.1,seval];rw[<-hBX];rw[<-R15];refine ak (bf (Q:=λxe f h=>xe= .normal/\∃X,f.t 1= .lp 0 0/\f.t 3= .ls 1 1 0 (aa (RL (aa c.lat))) (aa (RL (aa c.lat)))/\f.d=[]/\h=[BX,am ((RL (aa c.lat)).map V.str)]++X) ?_ ?_)
 ·rintro xe f h ⟨rfl,X,t1,t3,hd,rfl⟩;show awp _ _ _ _ _ _ _;refine ak (bf (Q:=λxe f h=>xe= .normal/\∃X,f.t 1= .lp 0 0/\f.t 3= .ls 1 1 0 (aa (RG (aa c.gates))) (aa (RG (aa c.gates)))/\f.d=[]/\h=[BX,am ((RG (aa c.gates)).map V.str)]++X) ?_ ?_)
  ·rintro xe f h ⟨rfl,X,t1,t3,hd,rfl⟩;show awp _ _ _ _ _ _ _;rw[hdef]at t3 ⊢;refine vm ?_;simp only[wq.1,seval,t3,hd];exact .inr ⟨1,_,rfl,zrb _,rfl⟩
  ·rw[<-R30]at t3 ⊢;refine vn ?_;simp only[wq.1,seval,t1,hBX];rw[<-hBX];refine aB ?_;refine aF (λm f h=>∃(i:Nat)(X:H),m+i=aa c.gates/\i<=aa c.gates/\f.t 1= .lp 0 0/\f.t 3= .ls 1 1 0 (aa (RG i)) (aa (RG i))/\f.t 30=iU c.gates/\f.t 31=vi (aa c.gates)/\f.t 32=vi i/\f.d=[]/\h=[BX,am ((RG i).map V.str)]++X) (aa c.gates) ⟨0,X,by omega,by omega,by simp only[wq.1,seval,t1],by simp only[wq.1,seval,t3],by simp only[wq.1,seval],by simp only[wq.1,seval],by simp only[wq.1,↓reduceIte];rfl,by simp only[wq.1,hd],rfl⟩ ?_;clear t1 t3 hd X;rintro m f h ⟨i,X,hm,hil,t1,t3,t30,t31,t32,hd,rfl⟩;obtain⟨row,hrow⟩:∃row,row=RG i:=⟨_,rfl⟩;have hrwl:aa row<=400+200*2+200*9:=by rw[hrow];exact RGl i
   rw[<-hrow]at t3 ⊢;refine fB (h0:=[BX,am (row.map V.str)]) (by rw[hd];simp) ?_;rw[hcl];obtain⟨f',hf'⟩:∃f',f'=f.drop (Abs.fK (aa ([BX,am (row.map V.str)]:H))):=⟨_,rfl⟩;have u1:f'.t 1= .lp 0 0:=by rw[hf'];show(f.t 1).drop _=_;rw[t1];rfl
   have u3:f'.t 3= .ls 1 1 0 (aa row) (aa row):=by rw[hf'];show(f.t 3).drop _=_;rw[t3];rfl
   have u30:f'.t 30=iU c.gates:=by rw[hf'];show(f.t 30).drop _=_;rw[t30];rfl
   have u31:f'.t 31=vi (aa c.gates):=by rw[hf'];show(f.t 31).drop _=_;rw[t31];rfl
   have u32:f'.t 32=vi i:=by rw[hf'];show(f.t 32).drop _=_;rw[t32];rfl
   have ud:f'.d=[]:=by rw[hf'];exact hd
   rw[<-hf'];clear hf' hd t1 t3 t30 t31 t32 X;have hw:=aA (show i<maxLen by omega);have dR:∀p,ap p (row.map V.str)=row.map V.str:=λp=>aN;refine vn ?_;simp only[wq.1,Nat.reduceLT,u31,u32];refine vn ?_;simp only[wq.1,↓reduceIte];refine vcB.mk (λhlt=> ?_) (λhlt=> ?_)
   ·have hlt:i<aa c.gates:=by have:=zqs hlt;omega
    have hft:=RGs i hlt;rw[<-hrow]at hft;obtain⟨g,hg⟩:∃g,g=c.gates[i]:=⟨_,rfl⟩;have hgg:=uH hlt .any;rw[<-hg]at hgg hft;have hg8:aa g.ins<=8:=by rw[hg];exact l5 _ (zqu hlt)
    have aI:=oq g.ins;have vI:=zA g.ins;simp only[wq.1];refine ak ?_;refine aB ?_;refine vn ?_;simp only[wq.1,↓reduceIte,Nat.reduceEqDiff,Nat.reduceLT,Nat.reduceAdd,u30,u32,hgg,hBX];rw[<-hBX];refine⟨⟨by omega,by omega⟩,?_⟩;refine dJ mixed Kr (λf' h'=>f'.t 1= .lp 0 0/\f'.t 3= .ls 1 1 0 (aa (row++g.name::g.ins)) (aa (row++g.name::g.ins))/\f'.t 30=iU c.gates/\f'.t 31=vi (aa c.gates)/\f'.t 32=vi i/\f'.d=[]/\h'=[BX,am ((row++g.name::g.ins).map V.str),am [.str g.name,vi g.op,aJ g.ins,aJ g.rows,.bool g.off]]) (by rw[show TE.P=P from rfl];decide +kernel) (by decide +kernel) ?_ ?_
    ·simp only[wq.1,↓reduceIte,Nat.reduceEqDiff,Nat.reduceLT,Nat.reduceLeDiff,Nat.reduceAdd,Nat.reduceBEq,reduceCtorEq,Nat.reduceMul,Kr,u1,u3,u30,u31,u32,ud];refine⟨⟨rfl,by decide⟩,⟨by omega,by omega,by omega⟩,aI,⟨by omega,aI,by omega,by omega⟩,by rw[Nat.add_assoc,Nat.add_comm 1],?_⟩;rw[hBd,hBd,zqc];rfl
    ·rintro f h ⟨u1,u3,u30,u31,u32,ud,rfl⟩;show awp _ _ _ _ _ _ _;refine vm ?_;simp only[wq.1,seval,u32,hw];refine .inl ⟨m-1,by omega,i+1,[am [.str g.name,vi g.op,aJ g.ins,aJ g.rows,.bool g.off]],by omega,by omega,by simp only[wq.1,seval,u1],by rw[hft];simp only[wq.1,seval,u3],by simp only[wq.1,seval,u30],by simp only[wq.1,seval,u31],by simp only[wq.1,↓reduceIte],by simp only[wq.1,ud],?_⟩;rw[hft,zql];rfl
   ·have hi:i=aa c.gates:=by have:=of_decide_eq_false hlt;omega
    subst hrow;subst hi;simp only[wq.1,seval,u1,u3,ud];exact⟨[],rfl⟩
 ·refine vn ?_;simp only[wq.1,seval,hBX];rw[<-hBX];refine aB ?_;refine aF (λm f h=>∃(i:Nat)(X:H),m+i=aa c.lat/\i<=aa c.lat/\f.t 1= .lp 0 0/\f.t 3= .ls 1 1 0 (aa (RL i)) (aa (RL i))/\f.t 15=kY c.lat/\f.t 16=vi (aa c.lat)/\f.t 17=vi i/\f.d=[]/\h=[BX,am ((RL i).map V.str)]++X) (aa c.lat) ⟨0,[],by omega,by omega,by simp only[wq.1,seval],by simp only[wq.1,seval],by simp only[wq.1,seval],by simp only[wq.1,seval],by simp only[wq.1,↓reduceIte];rfl,by simp only[wq.1],rfl⟩ ?_;rintro m f h ⟨i,X,hm,hil,t1,t3,t30,t31,t32,hd,rfl⟩;obtain⟨row,hrow⟩:∃row,row=RL i:=⟨_,rfl⟩;have hrwl:aa row<=400+200*2:=by rw[hrow];exact RLl i
  rw[<-hrow]at t3 ⊢;refine fB (h0:=[BX,am (row.map V.str)]) (by rw[hd];simp) ?_;rw[hcl];obtain⟨f',hf'⟩:∃f',f'=f.drop (Abs.fK (aa ([BX,am (row.map V.str)]:H))):=⟨_,rfl⟩;have u1:f'.t 1= .lp 0 0:=by rw[hf'];show(f.t 1).drop _=_;rw[t1];rfl
  have u3:f'.t 3= .ls 1 1 0 (aa row) (aa row):=by rw[hf'];show(f.t 3).drop _=_;rw[t3];rfl
  have u30:f'.t 15=kY c.lat:=by rw[hf'];show(f.t 15).drop _=_;rw[t30];rfl
  have u31:f'.t 16=vi (aa c.lat):=by rw[hf'];show(f.t 16).drop _=_;rw[t31];rfl
  have u32:f'.t 17=vi i:=by rw[hf'];show(f.t 17).drop _=_;rw[t32];rfl
  have ud:f'.d=[]:=by rw[hf'];exact hd
  rw[<-hf'];clear hf' hd t1 t3 t30 t31 t32 X;have hw:=aA (show i<maxLen by omega);have dR:∀p,ap p (row.map V.str)=row.map V.str:=λp=>aN;refine vn ?_;simp only[wq.1,Nat.reduceLT,u31,u32];refine vn ?_;simp only[wq.1,↓reduceIte];refine vcB.mk (λhlt=> ?_) (λhlt=> ?_)
  ·have hlt:i<aa c.lat:=by have:=zqs hlt;omega
   have hft:=RLs i hlt;rw[<-hrow]at hft;obtain⟨q,hq⟩:∃q,q=c.lat[i]:=⟨_,rfl⟩;have hgg:=IY hlt .any;rw[<-hq]at hgg hft;simp only[wq.1];refine vn ?_;simp only[wq.1,↓reduceIte,Nat.reduceEqDiff,Nat.reduceLT,Nat.reduceLeDiff,Nat.reduceAdd,reduceCtorEq,Nat.reduceMul,u3,u30,u32,ud,hgg,hBX];rw[<-hBX];refine⟨⟨by omega,by omega⟩,⟨rfl,by decide⟩,⟨by omega,by omega,by omega⟩,?_⟩;refine vm ?_;simp only[wq.1,seval,u32,hw];refine .inl ⟨m-1,by omega,i+1,[am [.str q.name,.str q.next,vi q.init]],by omega,by omega,by simp only[wq.1,seval,u1],by simp only[wq.1,seval,hft],by simp only[wq.1,seval,u30],by simp only[wq.1,seval,u31],by simp only[wq.1,↓reduceIte],by simp only[wq.1,ud],?_⟩;rw[hft,zql];rfl
  ·have hi:i=aa c.lat:=by have:=of_decide_eq_false hlt;omega
   subst hrow;subst hi;simp only[wq.1,seval,u1,u3,ud];exact⟨[],rfl⟩
theorem XD[MO](c:Ci)(hl:LimC c):Ev TE 104 [c.v] (aJ (dW c)):=(UK c hl).ev (λ_ he=>by rw[show aJ (dW c)= .is ac 1 [] by rw[List.map_eq_nil_iff.1 he];rfl];exact VLe.nils) (λh' id cap _ hid=>aX hid rfl) (λ_ he _=>by rw[List.map_eq_nil_iff.1 he];exact aC.nils)
theorem Kt[MO](c:Ci)(hl:LimC c):EvF TE 20 [c.v] 1 (aa (aT c)) ((aT c).map V.str):=by
 have hM:=mLx;obtain⟨l1,l2,l3,l4,l5⟩:=hl;have hL:∀i,aa ((c.lat.take i).flatMap (λq=>[q.name]))<=200*1:=λi=>Nat.le_trans (gy (k:=1) _ λx _=>(by simp)) (Nat.mul_le_mul_right _ (by rw[zrl];omega));have hG:∀i,aa ((c.gates.take i).flatMap (λg=>[g.name]))<=200*1:=λi=>Nat.le_trans (gy (k:=1) _ (wo λx hx=>by have:=l5 x hx;simp;try omega)) (Nat.mul_le_mul_right _ (by rw[zrl];omega));obtain⟨r0,hr0⟩:∃r0:List S,r0=c.ins:=⟨_,rfl⟩;have hrl:aa r0<=400:=by rw[hr0];omega
 obtain⟨RL,hRL⟩:∃RL:Nat->List S,RL=λi=>r0++(c.lat.take i).flatMap (λq=>[q.name]):=⟨_,rfl⟩;have R12:RL 0=r0:=by rw[hRL];simp
 have RLl:∀i,aa (RL i)<=400+200*1:=λi=>by have:=hL i;rw[hRL];simp only[zqa];omega
 have RLs:∀i (h:i<aa c.lat),RL (i+1)=RL i++(λq=>[q.name]) c.lat[i]:=λi h=>by rw[hRL];simp only[nD h,zqc]
 obtain⟨RG,hRG⟩:∃RG:Nat->List S,RG=λi=>RL (aa c.lat)++(c.gates.take i).flatMap (λg=>[g.name]):=⟨_,rfl⟩;have R25:RG 0=RL (aa c.lat):=by rw[hRG];simp
 have RGl:∀i,aa (RG i)<=400+200*1+200*1:=λi=>by have:=hG i;have:=RLl (aa c.lat);rw[hRG];simp only[zqa];omega
 have RGs:∀i (h:i<aa c.gates),RG (i+1)=RG i++(λg=>[g.name]) c.gates[i]:=λi h=>by rw[hRG];simp only[nD h,zqc]
 have hdef:RG (aa c.gates)=aT c:=by rw[hRG,hRL,hr0];simp only[zrx];simp[aT,List.flatMap_singleton',<-List.map_eq_flatMap]
 obtain⟨DD,hDD⟩:∃DD,DD=aT c:=⟨_,rfl⟩;rw[<-hDD]at hdef ⊢;clear hRL hRG hL hG hDD;obtain⟨BX,hBX⟩:∃BX:O,BX=am [aJ c.ins,aJ c.outs,kY c.lat,iU c.gates]:=⟨_,rfl⟩;have hBd:∀p,BX.drop p=BX:=λp=>by rw[hBX];rfl
 have hcl:∀(p:Nat->Bool)(row:List S),([BX,am (row.map V.str)]:H).map (O.drop p)=[BX,am (row.map V.str)]:=λp row=>by show [BX.drop p,am (ap p (row.map V.str))]=_;rw[hBd,aN]
 unfold EvF;refine aj Tryz.func20 rfl (by simp[nts]) ?_;refine vn ?_;simp only[wq.1,Nat.reduceLT,Tryz.results20];refine vn ?_;simp only[wq.1,seval];refine kw (qP c.ins (by omega)) (by simp only[aL,aE,ax,zre]) ax ?_;simp only[wq.1,seval];rw[<-hBX,<-hr0];rw[<-R12];refine ak (bf (Q:=λxe f h=>xe= .normal/\∃X,f.t 1= .lp 0 0/\f.t 3= .ls 1 1 0 (aa (RL (aa c.lat))) (aa (RL (aa c.lat)))/\f.d=[]/\h=[BX,am ((RL (aa c.lat)).map V.str)]++X) ?_ ?_)
 ·rintro xe f h ⟨rfl,X,t1,t3,hd,rfl⟩;show awp _ _ _ _ _ _ _;refine ak (bf (Q:=λxe f h=>xe= .normal/\∃X,f.t 1= .lp 0 0/\f.t 3= .ls 1 1 0 (aa (RG (aa c.gates))) (aa (RG (aa c.gates)))/\f.d=[]/\h=[BX,am ((RG (aa c.gates)).map V.str)]++X) ?_ ?_)
  ·rintro xe f h ⟨rfl,X,t1,t3,hd,rfl⟩;show awp _ _ _ _ _ _ _;rw[hdef]at t3 ⊢;refine vm ?_;simp only[wq.1,seval,t3,hd];exact .inr ⟨1,_,rfl,zrb _,rfl⟩
  ·rw[<-R25]at t3 ⊢;refine vn ?_;simp only[wq.1,seval,t1,hBX];rw[<-hBX];refine aB ?_;refine aF (λm f h=>∃(i:Nat)(X:H),m+i=aa c.gates/\i<=aa c.gates/\f.t 1= .lp 0 0/\f.t 3= .ls 1 1 0 (aa (RG i)) (aa (RG i))/\f.t 25=iU c.gates/\f.t 26=vi (aa c.gates)/\f.t 27=vi i/\f.d=[]/\h=[BX,am ((RG i).map V.str)]++X) (aa c.gates) ⟨0,X,by omega,by omega,by simp only[wq.1,seval,t1],by simp only[wq.1,seval,t3],by simp only[wq.1,seval],by simp only[wq.1,seval],by simp only[wq.1,↓reduceIte];rfl,by simp only[wq.1,hd],rfl⟩ ?_;clear t1 t3 hd X;rintro m f h ⟨i,X,hm,hil,t1,t3,t25,t26,t27,hd,rfl⟩;obtain⟨row,hrow⟩:∃row,row=RG i:=⟨_,rfl⟩;have hrwl:aa row<=400+200*1+200*1:=by rw[hrow];exact RGl i
   rw[<-hrow]at t3 ⊢;refine fB (h0:=[BX,am (row.map V.str)]) (by rw[hd];simp) ?_;rw[hcl];obtain⟨f',hf'⟩:∃f',f'=f.drop (Abs.fK (aa ([BX,am (row.map V.str)]:H))):=⟨_,rfl⟩;have u1:f'.t 1= .lp 0 0:=by rw[hf'];show(f.t 1).drop _=_;rw[t1];rfl
   have u3:f'.t 3= .ls 1 1 0 (aa row) (aa row):=by rw[hf'];show(f.t 3).drop _=_;rw[t3];rfl
   have u25:f'.t 25=iU c.gates:=by rw[hf'];show(f.t 25).drop _=_;rw[t25];rfl
   have u26:f'.t 26=vi (aa c.gates):=by rw[hf'];show(f.t 26).drop _=_;rw[t26];rfl
   have u27:f'.t 27=vi i:=by rw[hf'];show(f.t 27).drop _=_;rw[t27];rfl
   have ud:f'.d=[]:=by rw[hf'];exact hd
   rw[<-hf'];clear hf' hd t1 t3 t25 t26 t27 X;have hw:=aA (show i<maxLen by omega);have dR:∀p,ap p (row.map V.str)=row.map V.str:=λp=>aN;refine vn ?_;simp only[wq.1,Nat.reduceLT,u26,u27];refine vn ?_;simp only[wq.1,↓reduceIte];refine vcB.mk (λhlt=> ?_) (λhlt=> ?_)
   ·have hlt:i<aa c.gates:=by have:=zqs hlt;omega
    have hft:=RGs i hlt;rw[<-hrow]at hft;obtain⟨g,hg⟩:∃g,g=c.gates[i]:=⟨_,rfl⟩;have hgg:=uH hlt .any;rw[<-hg]at hgg hft;have hg8:aa g.ins<=8:=by rw[hg];exact l5 _ (zqu hlt)
    have aI:=oq g.ins;have vI:=zA g.ins;simp only[wq.1];refine vn ?_;simp only[wq.1,↓reduceIte,Nat.reduceEqDiff,Nat.reduceLT,Nat.reduceLeDiff,Nat.reduceAdd,reduceCtorEq,Nat.reduceMul,u3,u25,u27,ud,hgg,hBX];rw[<-hBX];refine⟨⟨by omega,by omega⟩,⟨rfl,by decide⟩,⟨by omega,by omega,by omega⟩,?_⟩;refine vm ?_;simp only[wq.1,seval,u27,hw];refine .inl ⟨m-1,by omega,i+1,[am [.str g.name,vi g.op,aJ g.ins,aJ g.rows,.bool g.off]],by omega,by omega,by simp only[wq.1,seval,u1],by simp only[wq.1,seval,hft],by simp only[wq.1,seval,u25],by simp only[wq.1,seval,u26],by simp only[wq.1,↓reduceIte],by simp only[wq.1,ud],?_⟩;rw[hft,zql]
    all_goals rfl
   ·have hi:i=aa c.gates:=by have:=of_decide_eq_false hlt;omega
    subst hrow;subst hi;simp only[wq.1,seval,u1,u3,ud];exact⟨[],rfl⟩
 ·refine vn ?_;simp only[wq.1,seval,hBX];rw[<-hBX];refine aB ?_;refine aF (λm f h=>∃(i:Nat)(X:H),m+i=aa c.lat/\i<=aa c.lat/\f.t 1= .lp 0 0/\f.t 3= .ls 1 1 0 (aa (RL i)) (aa (RL i))/\f.t 12=kY c.lat/\f.t 13=vi (aa c.lat)/\f.t 14=vi i/\f.d=[]/\h=[BX,am ((RL i).map V.str)]++X) (aa c.lat) ⟨0,[],by omega,by omega,by simp only[wq.1,seval],by simp only[wq.1,seval],by simp only[wq.1,seval],by simp only[wq.1,seval],by simp only[wq.1,↓reduceIte];rfl,by simp only[wq.1],rfl⟩ ?_;rintro m f h ⟨i,X,hm,hil,t1,t3,t25,t26,t27,hd,rfl⟩;obtain⟨row,hrow⟩:∃row,row=RL i:=⟨_,rfl⟩;have hrwl:aa row<=400+200*1:=by rw[hrow];exact RLl i
  rw[<-hrow]at t3 ⊢;refine fB (h0:=[BX,am (row.map V.str)]) (by rw[hd];simp) ?_;rw[hcl];obtain⟨f',hf'⟩:∃f',f'=f.drop (Abs.fK (aa ([BX,am (row.map V.str)]:H))):=⟨_,rfl⟩;have u1:f'.t 1= .lp 0 0:=by rw[hf'];show(f.t 1).drop _=_;rw[t1];rfl
  have u3:f'.t 3= .ls 1 1 0 (aa row) (aa row):=by rw[hf'];show(f.t 3).drop _=_;rw[t3];rfl
  have u25:f'.t 12=kY c.lat:=by rw[hf'];show(f.t 12).drop _=_;rw[t25];rfl
  have u26:f'.t 13=vi (aa c.lat):=by rw[hf'];show(f.t 13).drop _=_;rw[t26];rfl
  have u27:f'.t 14=vi i:=by rw[hf'];show(f.t 14).drop _=_;rw[t27];rfl
  have ud:f'.d=[]:=by rw[hf'];exact hd
  rw[<-hf'];clear hf' hd t1 t3 t25 t26 t27 X;have hw:=aA (show i<maxLen by omega);have dR:∀p,ap p (row.map V.str)=row.map V.str:=λp=>aN;refine vn ?_;simp only[wq.1,Nat.reduceLT,u26,u27];refine vn ?_;simp only[wq.1,↓reduceIte];refine vcB.mk (λhlt=> ?_) (λhlt=> ?_)
  ·have hlt:i<aa c.lat:=by have:=zqs hlt;omega
   have hft:=RLs i hlt;rw[<-hrow]at hft;obtain⟨q,hq⟩:∃q,q=c.lat[i]:=⟨_,rfl⟩;have hgg:=IY hlt .any;rw[<-hq]at hgg hft;simp only[wq.1];refine vn ?_;simp only[wq.1,↓reduceIte,Nat.reduceEqDiff,Nat.reduceLT,Nat.reduceLeDiff,Nat.reduceAdd,reduceCtorEq,Nat.reduceMul,u3,u25,u27,ud,hgg,hBX];rw[<-hBX];refine⟨⟨by omega,by omega⟩,⟨rfl,by decide⟩,⟨by omega,by omega,by omega⟩,?_⟩;refine vm ?_;simp only[wq.1,seval,u27,hw];refine .inl ⟨m-1,by omega,i+1,[am [.str q.name,.str q.next,vi q.init]],by omega,by omega,by simp only[wq.1,seval,u1],by simp only[wq.1,seval,hft],by simp only[wq.1,seval,u25],by simp only[wq.1,seval,u26],by simp only[wq.1,↓reduceIte],by simp only[wq.1,ud],?_⟩;rw[hft,zql];rfl
  ·have hi:i=aa c.lat:=by have:=of_decide_eq_false hlt;omega
   subst hrow;subst hi;simp only[wq.1,seval,u1,u3,ud];exact⟨[],rfl⟩
theorem Qa[MO](c:Ci)(hl:LimC c):Ev TE 20 [c.v] (aJ (aT c)):=(Kt c hl).ev (λ_ he=>by rw[show aJ (aT c)= .is ac 1 [] by rw[List.map_eq_nil_iff.1 he];rfl];exact VLe.nils) (λh' id cap _ hid=>aX hid rfl) (λ_ he _=>by rw[List.map_eq_nil_iff.1 he];exact aC.nils)
theorem UL[MO](c:Ci)(hl:LimC c):EvF TE 108 [c.v] 1 (aa (fP c)) ((fP c).map V.str):=by
 have hM:=mLx;obtain⟨l1,l2,l3,l4,l5⟩:=hl;have hL:∀i,aa ((c.lat.take i).flatMap (λq=>[q.next]))<=200*1:=λi=>Nat.le_trans (gy (k:=1) _ λx _=>(by simp)) (Nat.mul_le_mul_right _ (by rw[zrl];omega));have hG:∀i,aa ((c.gates.take i).flatMap (λg=>g.ins))<=200*8:=λi=>Nat.le_trans (gy (k:=8) _ (wo λx hx=>by have:=l5 x hx;simp;try omega)) (Nat.mul_le_mul_right _ (by rw[zrl];omega));obtain⟨r0,hr0⟩:∃r0:List S,r0=c.outs:=⟨_,rfl⟩;have hrl:aa r0<=400:=by rw[hr0];omega
 obtain⟨RL,hRL⟩:∃RL:Nat->List S,RL=λi=>r0++(c.lat.take i).flatMap (λq=>[q.next]):=⟨_,rfl⟩;have R12:RL 0=r0:=by rw[hRL];simp
 have RLl:∀i,aa (RL i)<=400+200*1:=λi=>by have:=hL i;rw[hRL];simp only[zqa];omega
 have RLs:∀i (h:i<aa c.lat),RL (i+1)=RL i++(λq=>[q.next]) c.lat[i]:=λi h=>by rw[hRL];simp only[nD h,zqc]
 obtain⟨RG,hRG⟩:∃RG:Nat->List S,RG=λi=>RL (aa c.lat)++(c.gates.take i).flatMap (λg=>g.ins):=⟨_,rfl⟩;have R25:RG 0=RL (aa c.lat):=by rw[hRG];simp
 have RGl:∀i,aa (RG i)<=400+200*1+200*8:=λi=>by have:=hG i;have:=RLl (aa c.lat);rw[hRG];simp only[zqa];omega
 have RGs:∀i (h:i<aa c.gates),RG (i+1)=RG i++(λg=>g.ins) c.gates[i]:=λi h=>by rw[hRG];simp only[nD h,zqc]
 have hdef:RG (aa c.gates)=fP c:=by rw[hRG,hRL,hr0];simp only[zrx];simp[fP,List.flatMap_singleton',<-List.map_eq_flatMap]
 obtain⟨DD,hDD⟩:∃DD,DD=fP c:=⟨_,rfl⟩;rw[<-hDD]at hdef ⊢;clear hRL hRG hL hG hDD;obtain⟨BX,hBX⟩:∃BX:O,BX=am [aJ c.ins,aJ c.outs,kY c.lat,iU c.gates]:=⟨_,rfl⟩;have hBd:∀p,BX.drop p=BX:=λp=>by rw[hBX];rfl
 have hcl:∀(p:Nat->Bool)(row:List S),([BX,am (row.map V.str)]:H).map (O.drop p)=[BX,am (row.map V.str)]:=λp row=>by show [BX.drop p,am (ap p (row.map V.str))]=_;rw[hBd,aN]
 unfold EvF;refine aj Tryz.func108 rfl (by simp[nts]) ?_;refine vn ?_;simp only[wq.1,Nat.reduceLT,Tryz.results108];refine vn ?_;simp only[wq.1,seval];refine kw (qP c.outs (by omega)) (by simp only[aL,aE,ax,zre]) ax ?_;simp only[wq.1,seval];rw[<-hBX,<-hr0];rw[<-R12];refine ak (bf (Q:=λxe f h=>xe= .normal/\∃X,f.t 1= .lp 0 0/\f.t 3= .ls 1 1 0 (aa (RL (aa c.lat))) (aa (RL (aa c.lat)))/\f.d=[]/\h=[BX,am ((RL (aa c.lat)).map V.str)]++X) ?_ ?_)
 ·rintro xe f h ⟨rfl,X,t1,t3,hd,rfl⟩;show awp _ _ _ _ _ _ _;refine ak (bf (Q:=λxe f h=>xe= .normal/\∃X,f.t 1= .lp 0 0/\f.t 3= .ls 1 1 0 (aa (RG (aa c.gates))) (aa (RG (aa c.gates)))/\f.d=[]/\h=[BX,am ((RG (aa c.gates)).map V.str)]++X) ?_ ?_)
  ·rintro xe f h ⟨rfl,X,t1,t3,hd,rfl⟩;show awp _ _ _ _ _ _ _;rw[hdef]at t3 ⊢;refine vm ?_;simp only[wq.1,seval,t3,hd];exact .inr ⟨1,_,rfl,zrb _,rfl⟩
  ·rw[<-R25]at t3 ⊢;refine vn ?_;simp only[wq.1,seval,t1,hBX];rw[<-hBX];refine aB ?_;refine aF (λm f h=>∃(i:Nat)(X:H),m+i=aa c.gates/\i<=aa c.gates/\f.t 1= .lp 0 0/\f.t 3= .ls 1 1 0 (aa (RG i)) (aa (RG i))/\f.t 25=iU c.gates/\f.t 26=vi (aa c.gates)/\f.t 27=vi i/\f.d=[]/\h=[BX,am ((RG i).map V.str)]++X) (aa c.gates) ⟨0,X,by omega,by omega,by simp only[wq.1,seval,t1],by simp only[wq.1,seval,t3],by simp only[wq.1,seval],by simp only[wq.1,seval],by simp only[wq.1,↓reduceIte];rfl,by simp only[wq.1,hd],rfl⟩ ?_;clear t1 t3 hd X;rintro m f h ⟨i,X,hm,hil,t1,t3,t25,t26,t27,hd,rfl⟩;obtain⟨row,hrow⟩:∃row,row=RG i:=⟨_,rfl⟩;have hrwl:aa row<=400+200*1+200*8:=by rw[hrow];exact RGl i
   rw[<-hrow]at t3 ⊢;refine fB (h0:=[BX,am (row.map V.str)]) (by rw[hd];simp) ?_;rw[hcl];obtain⟨f',hf'⟩:∃f',f'=f.drop (Abs.fK (aa ([BX,am (row.map V.str)]:H))):=⟨_,rfl⟩;have u1:f'.t 1= .lp 0 0:=by rw[hf'];show(f.t 1).drop _=_;rw[t1];rfl
   have u3:f'.t 3= .ls 1 1 0 (aa row) (aa row):=by rw[hf'];show(f.t 3).drop _=_;rw[t3];rfl
   have u25:f'.t 25=iU c.gates:=by rw[hf'];show(f.t 25).drop _=_;rw[t25];rfl
   have u26:f'.t 26=vi (aa c.gates):=by rw[hf'];show(f.t 26).drop _=_;rw[t26];rfl
   have u27:f'.t 27=vi i:=by rw[hf'];show(f.t 27).drop _=_;rw[t27];rfl
   have ud:f'.d=[]:=by rw[hf'];exact hd
   rw[<-hf'];clear hf' hd t1 t3 t25 t26 t27 X;have hw:=aA (show i<maxLen by omega);have dR:∀p,ap p (row.map V.str)=row.map V.str:=λp=>aN;refine vn ?_;simp only[wq.1,Nat.reduceLT,u26,u27];refine vn ?_;simp only[wq.1,↓reduceIte];refine vcB.mk (λhlt=> ?_) (λhlt=> ?_)
   ·have hlt:i<aa c.gates:=by have:=zqs hlt;omega
    have hft:=RGs i hlt;rw[<-hrow]at hft;obtain⟨g,hg⟩:∃g,g=c.gates[i]:=⟨_,rfl⟩;have hgg:=uH hlt .any;rw[<-hg]at hgg hft;have hg8:aa g.ins<=8:=by rw[hg];exact l5 _ (zqu hlt)
    have aI:=oq g.ins;have vI:=zA g.ins;simp only[wq.1];refine vn ?_;simp only[wq.1,seval,u3,u25,u27,ud,hgg,hBX];rw[<-hBX];refine⟨⟨by omega,by omega⟩,aI,⟨by omega,aI,by omega,by omega⟩,?_⟩;refine vm ?_;simp only[wq.1,seval,u27,hw];refine .inl ⟨m-1,by omega,i+1,[am [.str g.name,vi g.op,aJ g.ins,aJ g.rows,.bool g.off]],by omega,by omega,by simp only[wq.1,seval,u1],by simp only[wq.1,seval,hft],by simp only[wq.1,seval,u25],by simp only[wq.1,seval,u26],by simp only[wq.1,↓reduceIte],by simp only[wq.1,ud],?_⟩;rw[hft,zql]
    all_goals rfl
   ·have hi:i=aa c.gates:=by have:=of_decide_eq_false hlt;omega
    subst hrow;subst hi;simp only[wq.1,seval,u1,u3,ud];exact⟨[],rfl⟩
 ·refine vn ?_;simp only[wq.1,seval,hBX];rw[<-hBX];refine aB ?_;refine aF (λm f h=>∃(i:Nat)(X:H),m+i=aa c.lat/\i<=aa c.lat/\f.t 1= .lp 0 0/\f.t 3= .ls 1 1 0 (aa (RL i)) (aa (RL i))/\f.t 12=kY c.lat/\f.t 13=vi (aa c.lat)/\f.t 14=vi i/\f.d=[]/\h=[BX,am ((RL i).map V.str)]++X) (aa c.lat) ⟨0,[],by omega,by omega,by simp only[wq.1,seval],by simp only[wq.1,seval],by simp only[wq.1,seval],by simp only[wq.1,seval],by simp only[wq.1,↓reduceIte];rfl,by simp only[wq.1],rfl⟩ ?_;rintro m f h ⟨i,X,hm,hil,t1,t3,t25,t26,t27,hd,rfl⟩;obtain⟨row,hrow⟩:∃row,row=RL i:=⟨_,rfl⟩;have hrwl:aa row<=400+200*1:=by rw[hrow];exact RLl i
  rw[<-hrow]at t3 ⊢;refine fB (h0:=[BX,am (row.map V.str)]) (by rw[hd];simp) ?_;rw[hcl];obtain⟨f',hf'⟩:∃f',f'=f.drop (Abs.fK (aa ([BX,am (row.map V.str)]:H))):=⟨_,rfl⟩;have u1:f'.t 1= .lp 0 0:=by rw[hf'];show(f.t 1).drop _=_;rw[t1];rfl
  have u3:f'.t 3= .ls 1 1 0 (aa row) (aa row):=by rw[hf'];show(f.t 3).drop _=_;rw[t3];rfl
  have u25:f'.t 12=kY c.lat:=by rw[hf'];show(f.t 12).drop _=_;rw[t25];rfl
  have u26:f'.t 13=vi (aa c.lat):=by rw[hf'];show(f.t 13).drop _=_;rw[t26];rfl
  have u27:f'.t 14=vi i:=by rw[hf'];show(f.t 14).drop _=_;rw[t27];rfl
  have ud:f'.d=[]:=by rw[hf'];exact hd
  rw[<-hf'];clear hf' hd t1 t3 t25 t26 t27 X;have hw:=aA (show i<maxLen by omega);have dR:∀p,ap p (row.map V.str)=row.map V.str:=λp=>aN;refine vn ?_;simp only[wq.1,Nat.reduceLT,u26,u27];refine vn ?_;simp only[wq.1,↓reduceIte];refine vcB.mk (λhlt=> ?_) (λhlt=> ?_)
  ·have hlt:i<aa c.lat:=by have:=zqs hlt;omega
   have hft:=RLs i hlt;rw[<-hrow]at hft;obtain⟨q,hq⟩:∃q,q=c.lat[i]:=⟨_,rfl⟩;have hgg:=IY hlt .any;rw[<-hq]at hgg hft;simp only[wq.1];refine vn ?_;simp only[wq.1,↓reduceIte,Nat.reduceEqDiff,Nat.reduceLT,Nat.reduceLeDiff,Nat.reduceAdd,reduceCtorEq,Nat.reduceMul,u3,u25,u27,ud,hgg,hBX];rw[<-hBX];refine⟨⟨by omega,by omega⟩,⟨rfl,by decide⟩,⟨by omega,by omega,by omega⟩,?_⟩;refine vm ?_;simp only[wq.1,seval,u27,hw];refine .inl ⟨m-1,by omega,i+1,[am [.str q.name,.str q.next,vi q.init]],by omega,by omega,by simp only[wq.1,seval,u1],by simp only[wq.1,seval,hft],by simp only[wq.1,seval,u25],by simp only[wq.1,seval,u26],by simp only[wq.1,↓reduceIte],by simp only[wq.1,ud],?_⟩;rw[hft,zql];rfl
  ·have hi:i=aa c.lat:=by have:=of_decide_eq_false hlt;omega
   subst hrow;subst hi;simp only[wq.1,seval,u1,u3,ud];exact⟨[],rfl⟩
theorem XF[MO](c:Ci)(hl:LimC c):Ev TE 108 [c.v] (aJ (fP c)):=(UL c hl).ev (λ_ he=>by rw[show aJ (fP c)= .is ac 1 [] by rw[List.map_eq_nil_iff.1 he];rfl];exact VLe.nils) (λh' id cap _ hid=>aX hid rfl) (λ_ he _=>by rw[List.map_eq_nil_iff.1 he];exact aC.nils)
end Go.Proofs.YthaijohbpdabfaaGreatDoor
