/- Lemmas for this claim, part F17: each holds under what it names. -/
import Derived.Test.YthaijohbpdabfaaGreatDoorRF16
import Derived.Test.YthaijohbpdabfaaGreatDoorRF15
import Derived.Test.YthaijohbpdabfaaGreatDoorRF09
set_option linter.all false
set_option maxRecDepth 20000
set_option maxHeartbeats 8000000
namespace Go.Proofs.YthaijohbpdabfaaGreatDoor
open Go Go.Proofs Go.Abs
open List renaming length → aa, replicate → ao
open Bool renaming true → ab, false → ac
open Option renaming some → al, none → aq
open Decidable renaming decide → ar
open Go.IntKind renaming wrap → aD
open Go.Result renaming andThen → aM
open Go.Abs.O renaming cells → am
open Go.Abs.V renaming drops → ap, dat → aE, dats → aL
theorem Tc[MO](c:Ci)(hs:Sum c)(st ins:List Bool)(hst:aa st<=1000000)(hins:aa ins<=1000000):Ev TE 24 [c.v,dw st,dw ins] (.tup [dw (ql c st ins).1,dw (ql c st ins).2.1,vi (ql c st ins).2.2]):=by
 refine ai Tryz.func24 rfl (by simp[nts]) ?_;refine vn ?_;simp only[wq.1,Nat.reduceLT,Tryz.results24];refine vn ?_;simp only[wq.1,seval];refine JA c hs rfl (λho=> ?_) (λho=> ?_)
 ·simp only[wq.1,seval];refine vn ?_;simp only[wq.1,seval];refine vn ?_;simp only[wq.1,seval];refine JB c st ins hst hins ho λh v w hv hw=> ?_;simp only[wq.1,seval];refine vm ?_;simp only[wq.1,seval];exact aC.tup (au.cons hv (au.cons hw (au.cons (aC.dat rfl) au.nil)))
 ·have hq:ql c st ins=([],[],1):=by unfold ql;rw[if_pos ho]
  rw[hq];simp only[wq.1,seval];refine vn ?_;simp only[wq.1,seval];exact aC.tup (au.cons aC.nils (au.cons aC.nils (au.cons (aC.dat rfl) au.nil)))
theorem Ii[MO](a:List Bool):Ev TE 25 [dw a,dw a] (.bool ab):=by
 have hM:=mLx;refine Ev.bnd λhb=> ?_;have hlen:aa a<=maxLen:=by simp only[V.bnds,V.bnd,zra]at hb;exact hb.1.1
 have e1:((aa a:Int) != (aa a:Int))=ac:=by simp
 refine ai Tryz.func25 rfl (by simp[nts]) (vm ?_);simp only[wq.1,seval,Tryz.results25,e1];refine aF (λm f h=>∃i,m+i=aa a/\f.t 0=dw a/\f.t 1=dw a/\f.t 5= .int .i64 (i:Int)/\f.d=[]) (aa a) ⟨0,by simp,rfl,rfl,rfl,rfl⟩ ?_;rintro m f h ⟨i,hm,h0,h1,h5,hd⟩;refine vm ?_;simp only[wq.1,seval,h0,h5];refine vcB.mk (λhc=> ?_) (λhc=> ?_)
 ·simp only[zqb,zqi]at hc;have ga:=VO hc .any;have e2:(a[i] != a[i])=ac:=by simp
  simp only[wq.1,seval,h0,h1,h5,ga];refine⟨by decide +kernel,⟨by omega,by omega⟩,⟨by omega,by omega⟩,?_⟩;simp only[wq.1,aA (show i<maxLen by omega)];exact .inl ⟨m-1,by omega,i+1,by omega,h0,h1,rfl,hd⟩
 ·simp only[wq.1,seval,hd];exact aC.dat rfl
theorem Ar(a:List Bool):aL [dw a,dw a]=ab:=by simp only[aL,aE,kT,zre]
theorem LM(c:Ci)(a b:List Bool):aL [c.v,dw a,dw b]=ab:=by simp only[aL,aE,ax,kT,lg,kZ,zre]
theorem ev_BenchRuns[MO](c:Ci)(hs:Sum c)(st ins:List Bool):Ev TE 7 [c.v,dw st,dw ins] (.bool ab):=by
 have hM:=mLx;have hW:=NV;have hF:=SE c hs;have hL:=Ib c;have hPr:=H8 c hs;have hoX:=λh=>D9 (c:=c) (x:=(D6 c).1) h;have hst:=λh=>Vf (c:=c) (x:=(D6 c).1) h st ins;unfold Ez at hPr;obtain⟨x,ee,ex⟩:∃x ee,D6 c=(x,ee):=⟨_,_,rfl⟩;rw[ex]at hoX hPr hst;dsimp only at hoX hPr hst;obtain⟨few,efew⟩:∃few,few=Jv c:=⟨_,rfl⟩;rw[<-efew]at hF;obtain⟨lit,elit⟩:∃lit,lit=yx c:=⟨_,rfl⟩;rw[<-elit]at hL;refine ai Tryz.func7 rfl (by simp[nts]) ?_;refine vn ?_;simp only[wq.1,Nat.reduceLT,Tryz.results7];refine vn ?_;simp only[wq.1,Nat.reduceLT];refine ag.ev hW rfl ?_;simp only[wq.1,seval];refine ak ?_;refine vn ?_;simp only[wq.1,seval];refine bH (b:=ac) (by simp only[wq.1,↓reduceIte];try rfl) (by simp only[wq.1,↓reduceIte];try trivial) (λh=>by cases h) (λ_=> ?_);refine vm ?_;simp only[wq.1];show awp _ _ _ _ _ _ _;refine vn ?_;simp only[wq.1,seval];refine ag.ev hF (oK c) ?_;simp only[wq.1,seval];refine ET.ev (q:=23) (vs:=[c.v]) (by simp only[wq.1,↓reduceIte]) (by simp only[wq.1,↓reduceIte]) rfl (λ_=>hL) (λ_=>oK c) ?_;simp only[wq.1,seval];obtain⟨T0,hP0,hT0⟩:∃T0:S,Ev TE 13 [c.v] (.tup [.str T0,vi ee])/\(ee=0->T0=qy x):=by
  by_cases he:ee=0
  ·rw[if_pos he]at hPr;subst he;exact⟨_,hPr,λ_=>rfl⟩
  ·rw[if_neg he]at hPr;exact⟨_,hPr,λh=>absurd h he⟩
 refine vn ?_;simp only[wq.1,seval];refine ag.ev hP0 (oK c) ?_;simp only[wq.1,seval];refine ak ?_;by_cases hb:((few&&lit)=ab/\ee=0)/\aa st<=60/\aa ins<=60
 ·obtain⟨⟨hf,rfl⟩,h1,h2⟩:=hb;obtain⟨ho,hpl,_,_,_⟩:=hoX rfl;have ho1:(kW x).1=0:=by rw[ho]
  have hlen:=BO (x:=x) ho1;have hsx:=ZN ho1;have hpx:=GN ho1 hpl o7;have e9:=vF (qy x) (by omega);unfold oM at e9;rw[hpx]at e9;dsimp only at e9;rw[<-hT0 rfl]at e9;have e5:=Tc c hs st ins (by omega) (by omega);have e6:=Tc x hsx st ins (by omega) (by omega);rw[hst rfl]at e6;have q1:ar ((60:Int)<(aa st:Int))=ac:=by rw[zqd];omega
  have q2:ar ((60:Int)<(aa ins:Int))=ac:=by rw[zqd];omega
  have e7:=Ii (ql c st ins).1;have e8:=Ii (ql c st ins).2.1;refine vn ?_;simp only[wq.1,seval,hf,q1,q2];refine bH (b:=ac) (by simp only[wq.1,↓reduceIte];try rfl) (by simp only[wq.1,↓reduceIte];try trivial) (λh=>by cases h) (λ_=> ?_);refine vm ?_;simp only[wq.1];show awp _ _ _ _ _ _ _;refine vn ?_;simp only[wq.1,seval];refine ag.ev e9 rfl ?_;simp only[wq.1,seval];refine vn ?_;simp only[wq.1,seval];refine ag.ev e5 (LM _ _ _) ?_;simp only[wq.1,seval];refine vn ?_;simp only[wq.1,seval];refine ag.ev e6 (LM x _ _) ?_;simp only[wq.1,seval];refine vn ?_;simp only[wq.1,seval,yG];refine⟨Eu,ag.ev e7 (Ar _) ?_⟩;simp only[wq.1,seval];refine ag.ev e8 (Ar _) ?_;simp only[wq.1,seval];refine vm ?_;simp only[wq.1,↓reduceIte];exact aC.dat rfl
 ·have hc:(!(few&&lit)||ee != 0||ar ((60:Int)<(aa st:Int))||ar ((60:Int)<(aa ins:Int)))=ab:=by
   cases hx:(!(few&&lit)||ee != 0||ar ((60:Int)<(aa st:Int))||ar ((60:Int)<(aa ins:Int)))with
   |true=>rfl
   |false=>exfalso;simp only[zsf,Bool.not_eq_false',zqd,bne_eq_false_iff_eq]at hx;exact hb ⟨⟨hx.1.1.1,hx.1.1.2⟩,by omega,by omega⟩
  refine vn ?_;simp only[wq.1,seval];refine bH (b:= !(few&&lit)||ee != 0||ar ((60:Int)<(aa st:Int))||ar ((60:Int)<(aa ins:Int))) (by simp only[wq.1,↓reduceIte];try rfl) (by simp only[wq.1,↓reduceIte];try trivial) (λ_=> ?_) (λh=>absurd hc (by rw[h];decide));refine vm ?_;simp only[wq.1,seval];exact aC.dat rfl
end Go.Proofs.YthaijohbpdabfaaGreatDoor
