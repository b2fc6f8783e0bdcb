/- Lemmas for this claim, part F17: each holds under what it names. -/
import Derived.Test.YthaijohbpdabfaaGreatDoorXF16
import Derived.Test.YthaijohbpdabfaaGreatDoorXF15
set_option linter.all false
set_option maxRecDepth 20000
set_option maxHeartbeats 8000000
namespace Go.Proofs.YthaijohbpdabfaaGreatDoor
open Go Go.Proofs Go.Abs
open List renaming length → aa, replicate → ao
open Bool renaming true → ab, false → ac
open Option renaming some → al, none → aq
open Decidable renaming decide → ar
open Go.IntKind renaming wrap → aD
open Go.Result renaming andThen → aM
open Go.Abs.O renaming cells → am
open Go.Abs.V renaming drops → ap, dat → aE, dats → aL
theorem XC(c:Ci):(xg c).2=0/\(jV c).1=0\/((jV c).1≠0/\(xg c).2=1)\/(xg c).2=8:=by
 unfold xg;by_cases ho:(jV c).1≠0
 ·rw[if_pos ho];exact .inr (.inl ⟨ho,rfl⟩)
 ·rw[if_neg ho];split
  ·exact .inr (.inr rfl)
  ·exact .inl ⟨rfl,Decidable.not_not.1 ho⟩
theorem GX(c:Ci)(a b:List Bool):aL [c.v,dZ a,dZ b]=ab:=by simp only[aL,aE,au,lQ,jP,jO,zre]
theorem XD{l:List S}{s:S}(h:s∈l):∃k:Nat,idx l (·==s)=k/\∃hk:k<aa l,l[k]=s:=by
 unfold idx;cases hf:l.findIdx? (·==s)with
 |none=>rw[List.findIdx?_eq_none_iff]at hf;have:=hf s h;simp at this
 |some i=>obtain⟨hi,hp,_⟩:=List.findIdx?_eq_some_iff_getElem.1 hf;exact⟨i,rfl,hi,by simpa using hp⟩
theorem ev_BenchExpands[MO](c:Ci)(hs:Sum c)(st ins:List Bool):Ev TE 6 [c.v,dZ st,dZ ins] (.bool ab):=by
 have hM:=mLx;have hW:=MX;have hF:=Q8 c hs;have hE:=zH c hs;have hO:=pX c hs;have hoX:=λh=>zf (c:=c) (x:=(xg c).1) h;have hva:=λh=>Nb (c:=c) (x:=(xg c).1) h st ins;have hnt:=λh=>U1 (c:=c) (x:=(xg c).1) h;have hee:=XC c;obtain⟨x,ee,ex⟩:∃x ee,xg c=(x,ee):=⟨_,_,rfl⟩;rw[ex]at hoX hE hva hnt hee;dsimp only at hoX hE hva hnt hee;obtain⟨o1,o2,eo⟩:∃o1 o2,jV c=(o1,o2):=⟨_,_,rfl⟩;rw[eo]at hO hee;dsimp only at hO hee;obtain⟨few,efew⟩:∃few,few=IU c:=⟨_,rfl⟩;rw[<-efew]at hF;refine ai Tryz.func6 rfl (by simp[nts]) ?_;refine vn ?_;simp only[wq.1,Nat.reduceLT,Tryz.results6];refine vn ?_;simp only[wq.1,Nat.reduceLT];refine ag.ev hW rfl ?_;simp only[wq.1,seval];refine aj ?_;refine vn ?_;simp only[wq.1,seval];refine bP (b:=ac) (by simp only[wq.1,↓reduceIte];try rfl) (by simp only[wq.1,↓reduceIte];try trivial) (λh=>by cases h) (λ_=> ?_);refine vm ?_;simp only[wq.1];show awp _ _ _ _ _ _ _;refine vn ?_;simp only[wq.1,seval];refine ag.ev hF (kE c) ?_;simp only[wq.1,seval];refine vn ?_;simp only[wq.1,seval];refine ag.ev hE (kE c) ?_;simp only[wq.1,seval];refine vn ?_;simp only[wq.1,seval];refine ag.ev hO (kE c) ?_;simp only[wq.1,seval];refine vn ?_;simp only[wq.1,seval];by_cases hb:(few=ab/\ee=0)/\aa st<=60/\aa ins<=60
 rotate_left
 ·have hc:(!few||ee != 0||ar ((60:Int)<(aa st:Int))||ar ((60:Int)<(aa ins:Int)))=ab:=by
   cases hx:(!few||ee != 0||ar ((60:Int)<(aa st:Int))||ar ((60:Int)<(aa ins:Int)))with
   |true=>rfl
   |false=>exfalso;simp only[zsf,Bool.not_eq_false',zqd,bne_eq_false_iff_eq]at hx;exact hb ⟨⟨hx.1.1.1,hx.1.1.2⟩,by omega,by omega⟩
  refine vcB.mk (λ_=> ?_) (λh=>absurd hc (by rw[h];decide));have hq:(!few||ee==0||(o1 != 0&&ee==1)||ee==8)=ab:=by
   rcases hee with⟨h,_⟩|⟨h,h2⟩|h
   ·rw[h];cases few<;>rfl
   ·have e1:(o1 != 0)=ab:=by simpa using h
    rw[h2,e1];cases few<;>rfl
   ·rw[h];cases few<;>cases(o1 != 0)<;>rfl
  simp only[wq.1,seval,hq];exact⟨λh=>⟨h,λh2=>by rw[h,h2];rfl⟩,aC.dat rfl⟩
 ·obtain⟨⟨rfl,rfl⟩,h1,h2⟩:=hb;obtain⟨ho,hpl,hi1,hi2,hi3⟩:=hoX rfl;have hx1:(jV x).1=0:=by rw[ho]
  have ho1:o1=0:=by
   rcases hee with h|h|h
   ·exact h.2
   ·exact absurd h.2 (by decide)
   ·exact absurd h (by decide)
  have hc1:(jV c).1=0:=by rw[eo];exact ho1
  have hsx:=YZ hx1;have lc:=LX (iw hc1).lim;have lx:=LX (iw hx1).lim;have eV:=BD c hs st ins (by omega) (by omega);have eW:=BD x hsx st ins (by omega) (by omega);have eN:=Df c lc;have eO:=pX x hsx;rw[ho]at eO;dsimp only at eO;have eT1:=EO x.ins c.ins;have eT2:=EO x.outs c.outs;rw[show(x.ins==c.ins)=ab by rw[hi1,beq_self_eq_true]]at eT1;rw[show(x.outs==c.outs)=ab by rw[hi2,beq_self_eq_true]]at eT2;obtain⟨v1,v2⟩:=hva rfl;have hmem:=hnt rfl;obtain⟨V1,e1,hV⟩:∃V1 e1,iK c st ins=(V1,e1):=⟨_,_,rfl⟩;obtain⟨W1,e2,hW1⟩:∃W1 e2,iK x st ins=(W1,e2):=⟨_,_,rfl⟩;rw[hV]at eV v1 v2;rw[hW1]at eW v1 v2;dsimp only at eV eW v1 v2;subst v1;have q1:ar ((60:Int)<(aa st:Int))=ac:=by rw[zqd];omega
  have q2:ar ((60:Int)<(aa ins:Int))=ac:=by rw[zqd];omega
  refine vcB.mk (λh=>absurd h (by rw[q1,q2];decide)) (λ_=> ?_);simp only[wq.1,Int.reduceBNe];show awp _ _ _ _ _ _ _;refine vn ?_;simp only[wq.1,seval];refine ag.ev eV (GX _ _ _) ?_;simp only[wq.1,seval];refine vn ?_;simp only[wq.1,seval];refine ag.ev eW (GX x _ _) ?_;simp only[wq.1,seval];refine vn ?_;simp only[wq.1,seval];refine ag.ev eN (kE c) ?_;simp only[wq.1,seval];refine aj (aY (Q:=λxe f h=>xe= .normal/\f.t 3= .lp 0 0/\f.t 7= .bool ab/\f.t 9= .lp 1 0/\f.t 11=vi o1/\f.t 14=vi e2/\f.t 16=vi e2/\f.d=[]/\h=[am [aH c.ins,aH c.outs,jK c.lat,gJ c.gates],am [aH x.ins,aH x.outs,jK x.lat,gJ x.gates]]) ?_ ?_)
  ·rintro xe f h ⟨rfl,t3,t7,t9,t11,t14,t16,hd,rfl⟩;show awp _ _ _ _ _ _ _;refine aj (aY (Q:=λxe f h=>xe= .normal/\f.t 3= .lp 0 0/\f.t 7= .bool ab/\f.t 9= .lp 1 0/\f.t 11=vi o1/\f.t 14=vi e2/\f.t 16=vi e2/\f.d=[]/\h=[am [aH c.ins,aH c.outs,jK c.lat,gJ c.gates],am [aH x.ins,aH x.outs,jK x.lat,gJ x.gates]]) ?_ ?_)
   ·rintro xe f h ⟨rfl,t3,t7,t9,t11,t14,t16,hd,rfl⟩;show awp _ _ _ _ _ _ _;refine vn ?_;simp only[wq.1,seval,t9];refine ag.ev eO (kE x) ?_;simp only[wq.1,seval];refine vn ?_;simp only[wq.1,seval,t3,t9];refine ag.ev eT1 (by simp only[aL,aE,au,zre]) ?_;simp only[wq.1,seval,t3,t9];refine ag.ev eT2 (by simp only[aL,aE,au,zre]) ?_;simp only[wq.1,seval];refine vn ?_;simp only[wq.1,seval,t3,t7,t9,t11,t14,t16,hi3,ho1];refine vm ?_;simp only[wq.1,↓reduceIte,hd];exact aC.dat rfl
   ·refine vn ?_;simp only[wq.1,Nat.reduceLT];refine aB ?_;have hgl:=lx.gates;refine aF (λm f h=>∃i:Nat,m+i=aa x.gates/\i<=aa x.gates/\f.t 3= .lp 0 0/\f.t 7= .bool ab/\f.t 9= .lp 1 0/\f.t 11=vi o1/\f.t 14=vi e2/\f.t 16=vi e2/\f.t 20=vi i/\f.d=[]/\h=[am [aH c.ins,aH c.outs,jK c.lat,gJ c.gates],am [aH x.ins,aH x.outs,jK x.lat,gJ x.gates]]) (aa x.gates) ⟨0,by omega,by omega,by simp only[wq.1,seval,t3],by simp only[wq.1,seval,t7],by simp only[wq.1,seval,t9],by simp only[wq.1,seval,t11],by simp only[wq.1,seval,t14],by simp only[wq.1,seval,t16],by simp only[wq.1,↓reduceIte];rfl,by simp only[wq.1,hd],rfl⟩ ?_;rintro m f h ⟨i,hm,hil,t3,t7,t9,t11,t14,t16,t20,hd,rfl⟩;refine vn ?_;simp only[wq.1,seval,t9,t20];refine vcB.mk (λhc=> ?_) (λhc=> ?_)
    ·have hci:i<aa x.gates:=by have:=zqs hc;omega
     have hgg:=sF hci .any;have hop:(x.gates[i].op==10)=ac:=by rw[beq_eq_false_iff_ne];exact(hpl _ (zqu hci)).o
     have hw:=az (show i<maxLen by omega);simp only[wq.1];refine aj (aB ?_);refine vn ?_;simp only[wq.1,seval,t9,t20,hgg,hop];refine⟨⟨by omega,by omega⟩,?_⟩;refine vm ?_;simp only[wq.1,↓reduceIte];refine vm ?_;simp only[wq.1,seval,t20,hw];exact .inl ⟨m-1,by omega,i+1,by omega,by omega,t3,t7,t9,t11,t14,t16,rfl,hd,rfl⟩
    ·simp only[wq.1,seval,t3,t7,t9,t11,t14,t16,hd]
  ·refine vn ?_;simp only[wq.1,Nat.reduceLT];refine aB ?_;refine aF (λm f h=>∃i:Nat,m+i=aa (aP c)/\i<=aa (aP c)/\f.t 3= .lp 0 0/\f.t 7= .bool ab/\f.t 9= .lp 1 0/\f.t 11=vi o1/\f.t 13=dZ V1/\f.t 14=vi e2/\f.t 15=dZ W1/\f.t 16=vi e2/\f.t 17=aH (aP c)/\f.t 18=vi i/\f.d=[]/\h=[am [aH c.ins,aH c.outs,jK c.lat,gJ c.gates],am [aH x.ins,aH x.outs,jK x.lat,gJ x.gates]]) (aa (aP c)) ⟨0,by omega,by omega,by simp only[wq.1,seval],by simp only[wq.1,seval],by simp only[wq.1,seval],by simp only[wq.1,seval],by simp only[wq.1,seval],by simp only[wq.1,seval],by simp only[wq.1,seval],by simp only[wq.1,seval],by simp only[wq.1,seval],by simp only[wq.1,↓reduceIte];rfl,by simp only[wq.1],rfl⟩ ?_;rintro m f h ⟨i,hm,hil,t3,t7,t9,t11,t13,t14,t15,t16,t17,t18,hd,rfl⟩;have hnl:=D8 hc1;refine vn ?_;simp only[wq.1,seval,t14,t16,t17,t18];refine vcB.mk (λhc=> ?_) (λhc=> ?_)
   ·simp only[zqf,zqb,beq_iff_eq]at hc;obtain⟨hci,he2⟩:i<aa (aP c)/\e2=0:=⟨by omega,hc.1.2⟩;subst he2;obtain⟨v2a,v2b⟩:=v2 rfl;have hgs:=yG hci .any;obtain⟨s,hs0⟩:∃s,s=(aP c)[i]:=⟨_,rfl⟩;rw[<-hs0]at hgs;obtain⟨k,hk,hk2,hk3⟩:=XD (hmem s (by rw[hs0];exact zqu hci));have eP:=Rx x lx s;rw[hk]at eP;have hxl:=D8 hx1;have hW2:aa W1=aa (aP x):=by rw[v2a,zra]
    have hV2:aa V1=aa (aP c):=by rw[v2b,zra]
    have gW:=Ro (l:=W1) (i:=k) (by omega) .any;have gV:=Ro (l:=V1) (i:=i) (by omega) .any;have hb:W1[k]'(by omega)=lkE (sK x st ins) s:=by simp only[v2a,List.getElem_map,hk3]
    have hb2:V1[i]'(by omega)=lkE (sK x st ins) s:=by simp only[v2b,List.getElem_map,hs0]
    rw[hb]at gW;rw[hb2]at gV;have hw:=az (show i<maxLen by omega);have d1:ar ((k:Int)<0)=ac:=by rw[zqd];omega
    have d2:ar ((aa W1:Int)<=(k:Int))=ac:=by rw[zqd];omega
    have d3:ar ((aa V1:Int)<=(i:Int))=ac:=by rw[zqd];omega
    simp only[wq.1];refine aj (aB ?_);refine vn ?_;simp only[wq.1,seval,t9,t17,t18,hgs];refine⟨by decide +kernel,⟨by omega,by omega⟩,sZ.mk eP rfl (by simp only[aL,aE,au,jP,jO,zre]) ?_⟩;simp only[wq.1,seval];refine vn ?_;simp only[wq.1,seval,t13,t15,t18,d1,d2,d3,gW,gV];refine⟨by decide +kernel,⟨by omega,by omega⟩,⟨by omega,by omega⟩,?_⟩;refine vm ?_;simp only[wq.1,↓reduceIte];refine vm ?_;simp only[wq.1,seval,t18,hw];exact .inl ⟨m-1,by omega,i+1,by omega,by omega,t3,t7,t9,t11,t13,t14,t15,t16,t17,rfl,hd,rfl⟩
   ·simp only[wq.1,seval,t3,t7,t9,t11,t14,t16,hd]
end Go.Proofs.YthaijohbpdabfaaGreatDoor
