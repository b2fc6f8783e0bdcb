/- Lemmas for this claim, part F19: each holds under what it names. -/
import Derived.Test.YthdidjjecjhenaaGreatAF18
import Derived.Test.YthdidjjecjhenaaGreatAA7
import Derived.Test.YthdidjjecjhenaaGreatRows
set_option linter.all false
set_option maxRecDepth 20000
set_option maxHeartbeats 8000000
namespace Go.Proofs.YthdidjjecjhenaaGreat
open Go Go.Proofs Go.Abs
open List renaming length → aa, replicate → aD
open Bool renaming true → ab, false → am
open Option renaming some → ar, none → aL
open Decidable renaming decide → aM
open Go.IntKind renaming wrap → a5
open Go.Result renaming andThen → a8
open Go.Abs.O renaming cells → aw
open Go.Abs.V renaming drops → aE, dat → a6, dats → a7
theorem YR:∀s:Nat,(s:Int)<=5->(cO (aF m24 m24) (mV m24 m24).b s).n<=21:=λs h=>by
 obtain rfl|rfl|rfl|rfl|rfl|rfl:s=0\/s=1\/s=2\/s=3\/s=4\/s=5:=by omega
 all_goals decide +kernel
theorem Yn:∀s:Nat,(s:Int)<=5->(cO (aF m24 n24) (mV m24 n24).b s).n<=21:=λs h=>by
 obtain rfl|rfl|rfl|rfl|rfl|rfl:s=0\/s=1\/s=2\/s=3\/s=4\/s=5:=by omega
 all_goals decide +kernel
abbrev Yo:List V:=[vi 1,az [2],az [0],prs [],az [4],ig [[97]],ig [[113]],ig [[122]]]
abbrev YC:List V:=[vi 1,az [3],az [0],prs [],az [4],ig [[97]],ig [[113]],ig [[122]]]
abbrev YZ:List V:=[vi 1,az [2],az [0],prs [],az [4],ig [[97]],ig [[113]],ig [[121]]]
theorem Ns:Ev TE 5 [] (.bool ab):=by
 have sm:m24.g.Sm:=⟨by decide,by decide⟩;have sn:n24.g.Sm:=⟨by decide,by decide⟩;have so:o24.g.Sm:=⟨by decide,by decide⟩;have e1:=qX m24 m24 5 1099511627776 sm sm (λ_=>Q7) (λ_=>by decide) (λ_=>Am YR) (by decide);have e2:=qX m24 n24 5 1099511627776 sm sn (λ_=>Ak) (λ_=>by decide) (λ_=>Am Yn) (by decide);have e3:=qX m24 n24 1 1099511627776 sm sn (λ_=>Ak) (λ_=>by decide) (λ_=>Am (λs hs=>Yn s (by omega))) (by decide);have e4:=λx=>WA m24 n24 x sm sn (λ_=>Ak);have e5:=D5 m24 n24 sm sn (λ_=>Ak);have e6:=qX m24 o24 1 100 sm so (λh=>by rw[GN]at h;cases h) (λh=>by rw[GN]at h;cases h) (λh=>by rw[GN]at h;cases h) (by decide);have e7:=qX m24 m24 41 100 sm sm (λ_=>Q7) (λ_=>by decide) (λ_=>GR (by decide)) (by decide);refine aC Tryz.func5 rfl (by simp[nts]) ?_;refine vn ?_;simp only[wq.1,seval,aG,Tryz.results5];refine vn ?_;simp only[wq.1,↓reduceIte,Nat.reduceEqDiff,Nat.reduceLT,Nat.reduceLeDiff];refine⟨⟨rfl,by decide⟩,⟨rfl,by decide⟩,⟨rfl,by decide⟩,⟨rfl,by decide⟩,⟨rfl,by decide⟩,⟨rfl,by decide⟩,?_⟩;refine lF (h':=[aw Yo]) (HLe.set (i:=0) (o':=aw Yo) rfl (OLe.cells (zrb _) (fD.cons (VLe.refl _) (fD.cons dJ (fD.cons dJ (fD.cons lH (fD.cons dJ (fD.cons dJ (fD.cons dJ (fD.cons dJ (fD.refl _))))))))))) ?_;refine vn ?_;simp only[wq.1,↓reduceIte,Nat.reduceEqDiff,Nat.reduceLT,Nat.reduceAdd,reduceCtorEq];refine vn ?_;simp only[wq.1,↓reduceIte,Nat.reduceEqDiff,Nat.reduceLT,Nat.reduceLeDiff,Nat.reduceAdd,reduceCtorEq,Nat.reduceMul];refine⟨⟨rfl,by decide⟩,?_⟩;refine lF (h':=[aw Yo,aw YC]) (HLe.set (i:=1) (o':=aw YC) rfl (OLe.cells (zrb _) (fD.cons (VLe.refl _) (fD.cons dJ (fD.refl _))))) ?_;refine iL (λf=>f.t 1= .lp 0 0/\f.t 2= .lp 1 0/\f.d=[]) _ (λhk=>hk _ ⟨rfl,rfl,rfl⟩) ?_;rintro f ⟨t1,t2,hd⟩;have dm:∀(a b:List V),a7 a=ab->a7 b=ab->a7 [.agg a,.agg b]=ab:=λa b ha hb=>by simp only[a7,a6,ha,hb,zre]
 refine vn ?_;simp only[wq.1,seval,t1];refine jL e1 rfl λr hr=> ?_;obtain⟨x,hx,rfl⟩:=hr;obtain⟨cx,rfl⟩:=Uw hx;simp only[wq.1,seval,An.v];refine vn ?_;simp only[wq.1,seval,t1,t2];refine jL e2 rfl λr hr=> ?_;obtain⟨⟨y,ye⟩,hy,rfl⟩:=hr;obtain⟨y0,y1,y2,y3⟩:=Rf hy;have y0:ye=0:=y0;subst y0;simp only[wq.1,seval,An.v];refine vn ?_;simp only[wq.1,seval,t1,t2];refine jL e3 rfl λr hr=> ?_;obtain⟨z,hz,rfl⟩:=hr;obtain⟨cz,rfl⟩:=Q9 hz;simp only[wq.1,seval,An.v];refine vn ?_;simp only[wq.1,seval,t1,t2];have e4:=e4 y;rw[y3]at e4;refine ag.ev e4 (by simp only[a7,a6,rM,zre]) ?_;simp only[wq.1,seval];refine vn ?_;simp only[wq.1,seval,t1,t2];refine ag.ev e5 rfl ?_;rw[DZ,if_pos GM,Us.1];simp only[wq.1,seval];obtain⟨X,eX⟩:∃X:An,X={An.z with conf:=cx}:=⟨_,rfl⟩;obtain⟨Z,eZ⟩:∃Z:An,Z={An.z with conf:=cz}:=⟨_,rfl⟩;have s1:=D6 X (by rw[eX];show(0:Nat)<=1000000;decide);have s2:=IJ X y (by rw[eX,y1];show(0:Int)≠1;decide);have x1:X.res=0:=by rw[eX];rfl
 have z1:Z.res=0:=by rw[eZ];rfl
 unfold An.v at s1 s2;refine iL (λf => f.t 1 = .lp 0 0 /\ f.t 2 = .lp 1 0 /\ f.t 3 = .lp 2 0 /\ f.t 4 = vi 0 /\ f.t 5 = .lp 3 0 /\ f.t 6 = vi 0 /\ f.t 7 = .lp 4 0 /\ f.t 8 = vi 0 /\ f.t 9 = .bool ab /\ f.t 10 = vi 0 /\ f.t 11 = .lp 5 0 /\ f.t 12 = .bool ab /\ f.t 13 = vi 0 /\ f.d = [])
  [aw Yo,aw YC,aw (anC X),aw (anC y),aw (anC Z),aw [vi (aF m24 n24).ins,az (aF m24 n24).next,az (aF m24 n24).init,prs (aF m24 n24).ands,az (aF m24 n24).outs,az (mV m24 n24).b,prs (mV m24 n24).p]]
  (λhk=>by rw[eX,eZ]at hk;exact hk _ ⟨t1,t2,rfl,rfl,rfl,rfl,rfl,rfl,rfl,rfl,rfl,rfl,rfl,hd⟩) ?_
 clear t1 t2 hd f;rintro f ⟨t1,t2,t3,t4,t5,t6,t7,t8,t9,t10,t11,t12,t13,hd⟩;refine vn ?_;simp only[wq.1,↓reduceIte,Nat.reduceEqDiff,Nat.reduceLT,Nat.reduceAdd,reduceCtorEq,t1];refine vn ?_;simp only[wq.1,↓reduceIte,Nat.reduceEqDiff,Nat.reduceLT,Nat.reduceLeDiff,Nat.reduceAdd,reduceCtorEq,Nat.reduceMul];refine⟨⟨rfl,by decide⟩,?_⟩;refine lF (h':=[aw Yo,aw YC,aw (anC X),aw (anC y),aw (anC Z),aw [vi (aF m24 n24).ins,az (aF m24 n24).next,az (aF m24 n24).init,prs (aF m24 n24).ands,az (aF m24 n24).outs,az (mV m24 n24).b,prs (mV m24 n24).p],aw YZ]) (HLe.set (i:=6) (o':=aw YZ) rfl (OLe.cells (zrb _) (fD.cons (VLe.refl _) (fD.cons (VLe.refl _) (fD.cons (VLe.refl _) (fD.cons (VLe.refl _) (fD.cons (VLe.refl _) (fD.cons (VLe.refl _) (fD.cons (VLe.refl _) (fD.cons dJ (fD.refl _))))))))))) ?_;refine vn ?_;simp only[wq.1,seval,t1];refine jL e6 rfl λr hr=> ?_;obtain⟨w,hw,rfl⟩:=hr;rw[Ux hw];simp only[wq.1,seval,An.v];refine vn ?_;simp only[wq.1,seval,t1];refine jL e7 rfl λr hr=> ?_;obtain⟨w,hw,rfl⟩:=hr;rw[Rh hw];simp only[wq.1,seval,An.v];have q1:(X.res==0)=ab:=by rw[x1];rfl
 have q2:(y.res==1)=ab:=by rw[y1];rfl
 have q3:((aa y.seq:Int)==2)=ab:=by rw[y2];rfl
 have q4:(Z.res==0)=ab:=by rw[z1];rfl
 have q5:(((mV m24 n24).p.length:Int)==1)=ab:=by rw[Us.2];rfl
 have q6:((aF m24 n24).ins==1)=ab:=rfl;refine vm ?_;simp only[wq.1,seval,t3,t4,t5,t6,t7,t8,t9,t10,t11,t12,t13,q1,q2,q3,q4,q5,q6];refine ag.ev s1 (by simp only[a7,a6,rM,zre]) ?_;simp only[wq.1,seval,t3,t5];refine ag.ev s2 (by simp only[a7,a6,rM,zre]) ?_;simp only[wq.1,seval,hd];exact aH.dat rfl
structure FewL(m:Mo):Prop where
 next:aa m.g.next<=40
 init:aa m.g.init<=40
 ands:aa m.g.ands<=60
 ins:aa m.ins<=40
 lat:aa m.lat<=40
 out:aa m.out<=60
theorem Ri{m:Mo}(h:m.few=ab):FewL m:=by unfold Mo.few Gr.few MB at h;simp only[zqf,zqb]at h;obtain⟨⟨_,h1,h2,h3,_⟩,⟨h4,_⟩,⟨h5,_⟩,h6,_⟩:=h;exact⟨by omega,by omega,by omega,h4,h5,h6⟩
theorem U9{m:Mo}(h:FewL m):m.g.Sm:=⟨by have:=h.next;omega,by have:=h.ands;omega⟩
theorem Rj{a b:Mo}(ha:FewL a)(hb:FewL b):JBig a b:=⟨by have:=ha.ins;have:=ha.lat;have:=hb.lat;have:=ha.ands;have:=hb.ands;have:=ha.out;omega⟩
theorem ev_agrees(a b:Mo)(p q:List Bool)(sq:List (List Bool)):Ev TE 4 [a.v,b.v,aI p,aI q,rwB sq] (.bool ab):=by
 have hM:=mLx;have hwk:=Ns;have hfa:=KC a;have hfb:=KC b;have hrw:=Ul sq 4;have hcr:=λ(ha:FewL a)(hb:FewL b)=>qX a b (aa sq) 2000 (U9 ha) (U9 hb) (λ_=>Rj ha hb) (λ_=>by have:=ha.out;omega) (λ_=>GR (by omega)) (by omega);have hrm:=QZ a b p q;have hdf:=Nq a b;unfold Mo.v at hfa hfb hcr hrm hdf ⊢;have dR:a7 [rwB sq,vi 4]=ab:=by simp only[a7,a6,rM,zre]
 refine aC Tryz.func4 rfl (by simp[nts]) ?_;refine vn ?_;simp only[wq.1,seval,Tryz.results4];refine vn ?_;simp only[wq.1,Nat.reduceLT];refine ag.ev hwk rfl ?_;simp only[wq.1,seval];refine vn ?_;simp only[wq.1,seval];refine vn ?_;simp only[wq.1,seval];refine ag.ev hfa rfl ?_;simp only[wq.1,seval];refine CG.ev (q:=6) (vs:=[.agg [vi b.g.ins,az b.g.next,az b.g.init,prs b.g.ands,az b.g.outs,ig b.ins,ig b.lat,ig b.out]]) (by simp only[wq.1,↓reduceIte]) (by simp only[wq.1,↓reduceIte]) rfl (λ_=>hfb) (λ_=>rfl) ?_;simp only[wq.1,seval];refine CG.ev (q:=9) (vs:=[rwB sq,vi 4]) (by simp only[wq.1,↓reduceIte]) (by simp only[wq.1,↓reduceIte]) rfl (λ_=>hrw) (λ_=>dR) ?_;simp only[wq.1,seval];refine vn ?_;simp only[wq.1,seval];refine vcB.mk (λhc=> ?_) (λhc=> ?_)
 ·simp only[wq.1,seval];exact aH.dat rfl
 simp only[zsf,Bool.not_eq_false',zqf]at hc;obtain⟨⟨⟨⟨fa,fb⟩,fr⟩,_⟩,_⟩:=hc;have la:=Ri fa;have lb:=Ri fb;have hcr:=hcr la lb;have hsq:aa sq<=4:=by unfold WE at fr;rw[zqf,zqb]at fr;exact fr.1
 simp only[wq.1];refine iL (λf=>f.t 2=aI p/\f.t 3=aI q/\f.t 4=rwB sq/\f.t 5= .lp 0 0/\f.t 6= .lp 1 0/\f.t 11= .bool ab/\f.d=[]) [aw (cCM a),aw (cCM b)] (λhk=>hk _ ⟨rfl,rfl,rfl,rfl,rfl,rfl,rfl⟩) ?_;rintro f ⟨t2,t3,t4,t5,t6,t11,hd⟩;have d2:a7 [.agg (cCM a),.agg (cCM b),vi (aa sq:Int),vi 2000]=ab:=by simp only[a7,a6,zre]
 refine vn ?_;simp only[wq.1,seval,t4,t5,t6];refine jL hcr d2 λr hr=> ?_;obtain⟨⟨x,e⟩,hx,rfl⟩:=hr;simp only[wq.1,seval,An.v];refine iL (λf=>f.t 2=aI p/\f.t 3=aI q/\f.t 4=rwB sq/\f.t 5= .lp 0 0/\f.t 6= .lp 1 0/\f.t 11= .bool ab/\f.t 13= .lp 2 0/\f.t 14=vi e/\f.d=[]) [aw (cCM a),aw (cCM b),aw (anC x)] (λhk=>hk _ ⟨t2,t3,t4,by simp only[wq.1,seval,t5],by simp only[wq.1,seval,t6],by simp only[wq.1,seval,t11],by simp only[wq.1,seval],by simp only[wq.1,↓reduceIte],by simp only[wq.1,hd]⟩) ?_;clear t2 t3 t4 t5 t6 t11 hd f;rintro f ⟨t2,t3,t4,t5,t6,t11,t13,t14,hd⟩;refine vn ?_;simp only[wq.1,seval,t2,t3,t5,t6,t13,t14];refine CG.ev (q:=10) (vs:=[.agg (cCM a),.agg (cCM b),aI p,aI q]) (rv:= .bool (QY a b p q)) (by simp only[wq.1,seval]) (by simp only[wq.1,seval]) rfl (λhg=> ?_) (λ_=>by simp only[a7,a6,zre]) ?_
 ·simp only[Bool.not_eq_true',zsf,bne_eq_false_iff_eq]at hg;have c:=o9 (qY hx hg.1).1;exact hrm c.ca c.cb (by have:=la.lat;omega) (by have:=lb.lat;omega)
 simp only[wq.1,seval];refine vcB.mk (λhc=> ?_) (λhc=> ?_)
 ·simp only[wq.1,seval,t11,hd];exact aH.dat rfl
 simp only[zsf,bne_eq_false_iff_eq,Bool.not_eq_false']at hc;obtain⟨⟨e0,x0⟩,hmm⟩:=hc;subst e0;have c:=o9 (qY hx rfl).1;simp only[wq.1,Int.reduceBNe];refine ak ?_;refine vn ?_;simp only[wq.1,Nat.reduceLT];refine aB ?_;refine aA (λz f h=>∃i:Nat,z+i=aa sq/\f.t 2=aI p/\f.t 3=aI q/\f.t 4=rwB sq/\f.t 5= .lp 0 0/\f.t 6= .lp 1 0/\f.t 11= .bool ab/\f.t 15=vi i/\f.d=[]/\h=[aw (cCM a),aw (cCM b),aw (anC x)]/\∀l∈sq.take i,aa l=aa a.ins) (aa sq) ⟨0,by omega,t2,t3,t4,t5,t6,t11,rfl,hd,rfl,by simp⟩ ?_;clear t2 t3 t4 t5 t6 t11 t13 t14 hd f;rintro z f h ⟨i,hz,t2,t3,t4,t5,t6,t11,t15,hd,rfl,hall⟩;refine vn ?_;simp only[wq.1,seval,t4,t15];refine vcB.mk (λhlt=> ?_) (λhlt=> ?_)
 ·simp only[zqb,zqi]at hlt;have hw:=ax (show i<maxLen by omega);have hgl:=II hlt .any;simp only[wq.1];refine ak (aB ?_);refine vn ?_;simp only[wq.1,seval,t4,t5,t15,hgl];refine⟨by decide +kernel,⟨by omega,by omega⟩,?_⟩;refine vm ?_;simp only[wq.1,↓reduceIte];refine vcB.mk (λhc=> ?_) (λhc=> ?_)
  ·simp only[wq.1,seval,t11,hd];exact aH.dat rfl
  ·have hll:sq[i].length=aa a.ins:=by simp only[bne_eq_false_iff_eq]at hc;omega
   simp only[wq.1];refine vm ?_;simp only[wq.1,seval,t15,hw];refine .inl ⟨z-1,by omega,i+1,by omega,t2,t3,t4,t5,t6,t11,rfl,hd,rfl,λl hl=> ?_⟩;rw[zrg,zqk hlt]at hl;rcases zrf.1 hl with hl|hl
   ·exact hall l hl
   ·rw[zrc.1 hl];exact hll
 ·simp only[zqd,zqi]at hlt;have:i=aa sq:=by omega
  subst this;rw[zrx]at hall;obtain⟨hz,hp,hq,hag⟩:=Q4 (λ_=>Rj la lb) hx rfl x0 hmm rfl hall;simp only[wq.1];show awp _ _ _ _ _ _ _;refine ak ?_;refine vn ?_;simp only[wq.1,Nat.reduceLT];refine aB ?_;refine aA (λz f h=>∃i:Nat,z+i=aa sq/\f.t 2=aI p/\f.t 3=aI q/\f.t 4=rwB sq/\f.t 5= .lp 0 0/\f.t 6= .lp 1 0/\f.t 11= .bool ab/\f.t 16=vi ((i+1:Nat):Int)/\f.d=[]/\h=[aw (cCM a),aw (cCM b),aw (anC x)]) (aa sq) ⟨0,by omega,t2,t3,t4,t5,t6,t11,rfl,hd,rfl⟩ ?_;clear t2 t3 t4 t5 t6 t11 t15 hd f;rintro z f h ⟨i,hz,t2,t3,t4,t5,t6,t11,t16,hd,rfl⟩;refine vn ?_;simp only[wq.1,seval,t4,t16];refine vcB.mk (λhlt=> ?_) (λhlt=> ?_)
  ·simp only[zqb,Int.ofNat_le]at hlt;have hw:a5 .i64 (((i+1:Nat):Int)+1)=((i+1+1:Nat):Int):=ax (by omega);have hmt:(sq.map λc=>aI c).take (i+1)=(sq.take (i+1)).map λc=>aI c:=List.map_take.symm;have hdf:=hdf c p q (sq.take (i+1)) hp hq (λl hl=>hall l (zsh hl)) (by rw[zrl];omega) (by rw[zrl];omega) (hag (i+1) (by omega) hlt);simp only[wq.1];refine ak (aB ?_);refine vn ?_;simp only[wq.1,seval,t2,t3,t4,t5,t6,t16,hmt];refine⟨by decide +kernel,⟨by omega,by omega⟩,Aq.mk hdf rfl (by simp only[a7,a6,rM,zre]) ?_⟩;simp only[wq.1,seval];refine vm ?_;simp only[wq.1,seval];refine vm ?_;simp only[wq.1,seval,t16,hw];exact .inl ⟨z-1,by omega,i+1,by omega,t2,t3,t4,t5,t6,t11,rfl,hd,rfl⟩
  ·simp only[zqd,Int.ofNat_le]at hlt;simp only[wq.1];show awp _ _ _ _ _ _ _;refine vm ?_;simp only[wq.1,seval,t11,hd];exact aH.dat rfl
theorem own:ownKnob Tryz.prog.godebug=aL:=by kernel_rfl
theorem laid:laidOutB Tryz.prog=ab:=by kernel_rfl
abbrev Yp:Sh:= .slice (.int .i64)
abbrev YS:Sh:= .struct [.int .i64,.int .i64]
abbrev WL:Sh:= .slice YS
abbrev GU:Sh:= .slice .str
abbrev Y0:Sh:= .struct [.int .i64,Yp,Yp,WL,Yp]
abbrev shMo:Sh:= .struct [Y0,GU,GU,GU]
abbrev shBs:Sh:= .slice .bool
abbrev shRws:Sh:= .slice shBs
theorem wE{e:Sh}{α:Type}{F:α->V}(he:∀v,Sh.Is e v->∃a,v=F a):∀es:List V,(∀x∈es,Sh.Is e x)->∃l:List α,es=l.map F
 |[],_=>⟨[],rfl⟩
 |x::es,h=>by obtain⟨a,rfl⟩:=he x (h x (by simp));obtain⟨l,rfl⟩:=wE he es λy hy=>h y (by simp[hy]);exact⟨a::l,rfl⟩
variable{v:V}
theorem KN(h:Sh.Is (.int .i64) v):∃n:Int,v=vi n:=by simp only[Sh.Is]at h;obtain⟨n,rfl,hw⟩:=h;exact⟨n,rfl⟩
theorem Yq(h:Sh.Is .str v):∃s:S,v= .str s:=by simp only[Sh.Is]at h;obtain⟨s,rfl⟩:=h;exact⟨_,rfl⟩
theorem IU(h:Sh.Is Yp v):∃c:Cl,v=az c:=by unfold Yp at h;rw[Sh.Is]at h;obtain⟨es,rfl,h⟩:=h;obtain⟨l,rfl⟩:=wE (F:=vi) (λv hv=>KN hv) es h;exact⟨l,rfl⟩
theorem IV(h:Sh.Is GU v):∃c:List S,v=ig c:=by unfold GU at h;rw[Sh.Is]at h;obtain⟨es,rfl,h⟩:=h;obtain⟨l,rfl⟩:=wE (F:=V.str) (λv hv=>Yq hv) es h;exact⟨l,rfl⟩
theorem is_bools(h:Sh.Is shBs v):∃c:List Bool,v=aI c:=by unfold shBs at h;rw[Sh.Is]at h;obtain⟨es,rfl,h⟩:=h;obtain⟨l,rfl⟩:=wE (F:=V.bool) (λv hv=>by simp only[Sh.Is]at hv;exact hv) es h;exact⟨l,rfl⟩
theorem is_rws(h:Sh.Is shRws v):∃c:List (List Bool),v=rwB c:=by unfold shRws at h;rw[Sh.Is]at h;obtain⟨es,rfl,h⟩:=h;obtain⟨l,rfl⟩:=wE (F:=λc=>aI c) (λv hv=>is_bools hv) es h;exact⟨l,rfl⟩
theorem YT(h:Sh.Is YS v):∃p:Pq,v=prV p:=by unfold YS at h;rw[Sh.Is]at h;obtain⟨vs,rfl,h⟩:=h;simp only[Sh.Iss]at h;obtain⟨u0,us,rfl,h0,u1,us,rfl,h1,rfl⟩:=h;obtain⟨n,rfl⟩:=KN h0;obtain⟨k,rfl⟩:=KN h1;exact⟨(n,k),rfl⟩
theorem Yr(h:Sh.Is WL v):∃c:List Pq,v=prs c:=by unfold WL at h;rw[Sh.Is]at h;obtain⟨es,rfl,h⟩:=h;obtain⟨l,rfl⟩:=wE (F:=prV) (λv hv=>YT hv) es h;exact⟨l,rfl⟩
theorem is_mo(h:Sh.Is shMo v):∃m:Mo,v=m.v:=by unfold shMo at h;rw[Sh.Is]at h;obtain⟨vs,rfl,h⟩:=h;simp only[Sh.Iss]at h;obtain⟨u0,us,rfl,h0,u1,us,rfl,h1,u2,us,rfl,h2,u3,us,rfl,h3,rfl⟩:=h;unfold Y0 at h0;rw[Sh.Is]at h0;obtain⟨gs,rfl,h0⟩:=h0;simp only[Sh.Iss]at h0;obtain⟨g0,us,rfl,k0,g1,us,rfl,k1,g2,us,rfl,k2,g3,us,rfl,k3,g4,us,rfl,k4,rfl⟩:=h0;obtain⟨n,rfl⟩:=KN k0;obtain⟨a,rfl⟩:=IU k1;obtain⟨b,rfl⟩:=IU k2;obtain⟨c,rfl⟩:=Yr k3;obtain⟨d,rfl⟩:=IU k4;obtain⟨x,rfl⟩:=IV h1;obtain⟨y,rfl⟩:=IV h2;obtain⟨z,rfl⟩:=IV h3;exact⟨⟨⟨n,a,b,c,d⟩,x,y,z⟩,rfl⟩
end Go.Proofs.YthdidjjecjhenaaGreat
