/- Lemmas for this claim, part F12: each holds under what it names. -/
import Derived.Test.YthaijohbpdabfaaGreatDoorXF11
import Derived.Test.YthaijohbpdabfaaGreatDoorXF09
import Derived.Test.YthaijohbpdabfaaGreatDoorXF07
import Derived.Test.YthaijohbpdabfaaGreatDoorXF02
import Derived.Test.YthaijohbpdabfaaGreatDoorXF08
import Derived.Test.YthaijohbpdabfaaGreatDoorXA9
set_option linter.all false
set_option maxRecDepth 20000
set_option maxHeartbeats 8000000
namespace Go.Proofs.YthaijohbpdabfaaGreatDoor
open Go Go.Proofs Go.Abs
open List renaming length → aa, replicate → ao
open Bool renaming true → ab, false → ac
open Option renaming some → al, none → aq
open Decidable renaming decide → ar
open Go.IntKind renaming wrap → aD
open Go.Result renaming andThen → aM
open Go.Abs.O renaming cells → am
open Go.Abs.V renaming drops → ap, dat → aE, dats → aL
abbrev x25:Nat->Bool:=λi=>i==2||i==5
theorem qO{p:Nat->Bool}:∀ {h:H} {k:Nat},aa (jv p k h)=aa h
 |[],k=>rfl
 |o::h,k=>by rw[jv,zrt,zrt,qO]
theorem Xo{e:E}{n:Nat}{r:Option Nat}{c:Code}{Q:XE->Fr->H->Prop}{f:Fr}{h:H}(P:Fr->H->Prop)(h1:P f h\/∃f' h',P f' h'/\(awp e n r c Q f' h'->awp e n r c Q f h))(h2:∀f h,P f h->awp e n r c Q f h):awp e n r c Q f h:=by
 rcases h1 with h|⟨f',h',h,t⟩
 ·exact h2 _ _ h
 ·exact t (h2 _ _ h)
theorem qf:x25 0=ac/\x25 1=ac/\x25 3=ac/\x25 4=ac:=⟨rfl,rfl,rfl,rfl⟩
theorem k25{f:Fr}{n:Nat}(hk:∀j,j<n->f.k j=ab->j=2\/j=5)(j:Nat)(hj:j<n)(h:(f.k j||x25 j)=ab):j=2\/j=5:=by
 rcases(Bool.or_eq_true _ _).mp h with h|h
 ·exact hk j hj h
 ·rcases(Bool.or_eq_true _ _).mp h with h|h
  ·exact .inl (by simpa using h)
  ·exact .inr (by simpa using h)
theorem jB{e:E}{g:FuncId}{args:List V}{h:H}{R:AEnd->H->(Nat->Bool)->Prop}(hc:ag e g args h λae h' p=>(∀i,i<aa h->p i=ab->i=2\/i=5)/\R ae h' x25):ag e g args h R:=by
 intro ok pl w vs hs hl;refine(hc ok pl w vs hs hl).mono ?_;rintro en w' ⟨p,pl',h',ae,h1,h2,h3,h4,h5⟩;refine⟨x25,pl',h',ae,h1,⟨h2.os,h2.tape,h2.output,h2.size,h2.same,h2.loc,λi b hp hi=>h2.keep i b ?_ hi,h2.row⟩,h3,h5⟩;cases hpi:p i with
 |false=>rfl
 |true =>
  rcases h4 i (hs.pl_lt hi) hpi with rfl|rfl
  ·cases hp
  ·cases hp
theorem YY[MO]{x:Xs}{h:H}(k:XH x h)(g:Ga)(hb:xsz x<=100000000){R:AEnd->H->(Nat->Bool)->Prop}
 (hr:∀h',XH (iJ x g).1 h'->XK h h'->aa h<=aa h'->R (.ret (.str (iJ x g).2)) h' x25):ag TE 47 [.lp 4 0,g.v] h R :=
 jB (Gn k g hb λh' p a b d c=>⟨λi _=>c i,hr h' a b d⟩)
theorem UE[MO]{x:Xs}{h:H}(k:XH x h)(hnl:aa x.nots.1=aa x.nots.2)(s:S)(hb:xsz x<=100000000){R:AEnd->H->(Nat->Bool)->Prop}
 (hr:∀h',XH (dI x s).1 h'->XK h h'->aa h<=aa h'->R (.ret (.str (dI x s).2)) h' x25):ag TE 221 [.lp 4 0,.str s] h R :=
 jB (Gq k hnl s hb λh' p a b d c=>⟨λi _=>c i,hr h' a b d⟩)
theorem Gs[MO]{x:Xs}{h:H}(k:XH x h)(g:Ga){i r:V}(hi:VLe i (aH g.ins))(hrr:VLe r (aH g.rows))(hb:xsz x<=100000000){R:AEnd->H->(Nat->Bool)->Prop}
 (hr:∀h',XH (iJ x g).1 h'->XK h h'->aa h<=aa h'->R (.ret (.str (iJ x g).2)) h' x25):ag TE 47 [.lp 4 0,.agg [.str g.name,vi g.op,i,r,.bool g.off]] h R :=
 gZ (cZ.cons (VLe.refl _) (cZ.cons (DV g hi hrr) cZ.nil)) (HLe.refl _) (YY k g hb hr)
theorem XH.dropD{x:Xs}{h:H}(k:XH x h){K:Nat}(hK:5<K):XH x (jv (λj=>j==K) 0 h):=by
 have ne:∀ {j:Nat},j<=5->(j==K)=ac:=λhj=>by rw[beq_eq_false_iff_ne];omega
 have old:∀ {j:Nat} {y:O},j<=5->h[j]? =al y->y.drop (λj=>j==K)=y->(jv (λj=>j==K) 0 h)[j]? =al y:=λ{j y} hj hy hd=>by rw[gY,hy];simp only[Nat.zero_add,ne hj,if_neg (show ¬ac=ab by decide),zrw,hd,zrm,if_false]
 refine⟨old (by omega) k.a ?_,old (by omega) k.u ?_,old (by omega) k.n ?_,old (by omega) k.g ?_⟩
 ·simp only[O.drop,ap,V.drop,ne (show 5<=5 by omega),ne (show 2<=5 by omega),ne (show 3<=5 by omega),zrm,if_false]
 ·show am (ap _ _)=_;rw[aN]
 ·exact kD _ _
 ·show am (ap _ _)=_;rw[kH]
theorem XK.dropD{h0 h:H}(k:XK h0 h){K:Nat}(hK:aa h0<=K):XK h0 (jv (λj=>j==K) 0 h):=λj cs hj hc hd=>by
 have hl:=(zqe hc).1;have ne:(j==K)=ac:=by rw[beq_eq_false_iff_ne];omega
 rw[gY,k j cs hj hc hd];simp only[Nat.zero_add,ne,zrm,if_false,zrw,O.drop,iR.dats_drops _ hd]
theorem vU[MO](c:List S)(hc:aa c<=1000000):Ev TE 48 [aH c] (aH c):=(qE c hc).ev (λ_ he=>by rw[show aH c= .is ac 1 [] by rw[List.map_eq_nil_iff.1 he];rfl];exact VLe.nils) (λh' id cap _ hid=>aV hid rfl) (λ_ he _=>by rw[List.map_eq_nil_iff.1 he];exact aC.nils)
theorem Bh[MO]{x:Xs}{h0:H}(k0:XH x h0)(name:S)(op last:Int)(l0:List S)(h1l:1<=aa l0)(hll:aa l0<=1000000)(hb0:xsz x+2*aa l0<=100000000){R:AEnd->H->(Nat->Bool)->Prop}
 (hr:∀h',XH (gI (aa l0) x name op last l0).1 h'->XK h0 h'->aa h0<=aa h'->R (.ret (.str (gI (aa l0) x name op last l0).2)) h' x25):ag TE 92 [.lp 4 0,.str name,vi op,vi last,aH l0] h0 R:=by
 have hM:=mLx;have hl5:5<aa h0:=(zqe k0.g).1;obtain⟨Z,eZ⟩:∃Z,Z=gI (aa l0) x name op last l0:=⟨_,rfl⟩;rw[<-eZ]at hr;refine jB ?_;refine ak Tryz.func92 rfl (by simp[nts]) ?_;refine vn ?_;simp only[wq.1,seval,Tryz.results92];refine aj ?_;refine aB ?_;refine aF (λm f h=>∃y l F,m=aa l/\aa l<=F/\1<=aa l/\aa l<=1000000/\xsz y+2*aa l<=100000000/\gI F y name op last l=Z/\XH y h/\XK h0 h/\aa h0<=aa h/\f.t 0= .lp 4 0/\f.t 1= .str name/\f.t 2=vi op/\f.t 3=vi last/\(f.t 4=aH l\/∃K,aa h0<=K/\f.t 4= .ls K 1 0 (aa l) (aa l)/\h[K]? =al (am (l.map V.str)))/\f.d=[]/\(∀j,j<aa h0->f.k j=ab->j=2\/j=5)) (aa l0) ⟨x,l0,aa l0,rfl,zrb _,h1l,hll,hb0,eZ.symm,k0,XK.refl _,zrb _,rfl,rfl,rfl,rfl,.inl rfl,rfl,λj _ hj=>by cases hj⟩ ?_;rintro m f h ⟨y,l,F,rfl,hlF,hl1,hl2,hb,hZ,k,kk,hle,t0,t1,t2,t3,hst,hd,hk⟩;refine Xo (λf h=>XH y h/\XK h0 h/\aa h0<=aa h/\f.t 0= .lp 4 0/\f.t 1= .str name/\f.t 2=vi op/\f.t 3=vi last/\f.t 4=aH l/\f.d=[]/\(∀j,j<aa h0->f.k j=ab->j=2\/j=5)) ?_ ?_
 ·rcases hst with t4|⟨K,hK,t4,hKc⟩
  ·exact .inl ⟨k,kk,hle,t0,t1,t2,t3,t4,hd,hk⟩
  ·have n4:(4==K)=ac:=by rw[beq_eq_false_iff_ne];omega
   refine .inr ⟨_,_,?_,yE K 4 (aH l) ?_ ?_ hd⟩
   rotate_left
   ·rw[t4];simp[V.drop]
   ·rw[t4];refine aV ?_ rfl;rw[fK,hKc];simp only[Nat.zero_add,beq_self_eq_true,if_true,zrw,O.drop,aN]
   refine⟨k.dropD (K:=K) (by omega),kk.dropD hK,?_,?_,?_,?_,?_,?_,hd,λj hj hp=> ?_⟩
   ·rw[qO];exact hle
   ·show(if 0=4 then aH l else(f.t 0).drop _)=_;rw[if_neg (by decide),t0];simp only[V.drop,n4,zrm,if_false]
   ·show(if 1=4 then aH l else(f.t 1).drop _)=_;rw[if_neg (by decide),t1];rfl
   ·show(if 2=4 then aH l else(f.t 2).drop _)=_;rw[if_neg (by decide),t2];rfl
   ·show(if 3=4 then aH l else(f.t 3).drop _)=_;rw[if_neg (by decide),t3];rfl
   ·rfl
   ·have hp':(f.k j||(j==K))=ab:=hp;rcases(Bool.or_eq_true _ _).mp hp' with h|h
    ·exact hk j hj h
    ·have:j=K:=by simpa using h
     omega
 clear hst hd hk t0 t1 t2 t3 k kk hle f h;rintro f h ⟨k,kk,hle,t0,t1,t2,t3,t4,hd,hk⟩;refine vn ?_;simp only[wq.1,seval,t4];refine vcB.mk (λhc=> ?_) (λhc=> ?_)
 ·have h8:8<aa l:=by have:=zqs hc;omega
  obtain⟨n,hn⟩:∃n,F=n+1:=⟨F-1,by omega⟩;obtain⟨Y,eY⟩:∃Y,Y=iJ y ⟨[],op,l.take 8,[],ac⟩:=⟨_,rfl⟩;have hYs:=wJ y ⟨[],op,l.take 8,[],ac⟩;rw[<-eY]at hYs;rw[hn,gI,if_pos h8,<-eY]at hZ;have htk:(l.map V.str).take 8=(l.take 8).map V.str:=by rw[List.map_take]
  have hdr:(l.map V.str).drop 8=(l.drop 8).map V.str:=by rw[List.map_drop]
  have hcl:=vU (l.take 8) (by rw[zrl];omega);have hdl:aa (l.drop 8)=aa l-8:=List.length_drop ..;simp only[wq.1];show awp _ _ _ _ _ _ _;refine aB ?_;refine vn ?_;simp only[wq.1,seval,t0,t2,t4,htk];refine⟨by omega,ag.ev hcl (by simp only[aL,aE,au,zre]) ?_⟩;simp only[wq.1,seval];refine Gs k ⟨[],op,l.take 8,[],ac⟩ (VLe.refl _) dw (by omega) λh2 k2 kk2 hle2=> ?_;rw[<-eY]at k2 ⊢;simp only[wq.1,seval,bu,hd];obtain⟨K,eK⟩:∃K,K=aa h2:=⟨_,rfl⟩;have hK5:5<K:=by omega
  refine fJ (λf=>f.t 0= .lp 4 0/\f.t 1= .str name/\f.t 2=vi op/\f.t 3=vi last/\f.t 4=aH l/\f.t 11= .str Y.2/\f.d=[]/\(∀j,j<aa h0->f.k j=ab->j=2\/j=5)) ⟨by simp only[wq.1,seval,t0,qf],by simp only[wq.1,seval,t1],by simp only[wq.1,seval,t2],by simp only[wq.1,seval,t3],by simp only[wq.1,seval,t4],by simp only[wq.1,↓reduceIte],by simp only[wq.1,hd],λj hj h=>k25 hk j hj h⟩ ?_;clear t0 t1 t2 t3 t4 hd hk f;rintro f ⟨t0,t1,t2,t3,t4,t11,hd,hk⟩;refine vm ?_;simp only[wq.1,↓reduceIte,Nat.reduceEqDiff,Nat.reduceLT,Int.reduceToNat,Int.reduceLE,reduceCtorEq,Nat.reduceMul,t4,t11,hdr];refine⟨⟨rfl,by decide⟩,by omega,og _,⟨.inr (by omega),by omega,by omega⟩,.inl ⟨aa (Y.2::l.drop 8),by simp only[zrt];omega,Y.1,Y.2::l.drop 8,n,rfl,by simp only[zrt];omega,by simp,by simp only[zrt];omega,by simp only[zrt];omega,hZ,k2.app _,(kk.trans kk2).trans (XK.app _ _),by rw[zqa];omega,by simp only[wq.1,↓reduceIte,Nat.reduceEqDiff,Nat.reduceLT,Nat.reduceLeDiff,Nat.reduceAdd,Nat.reduceSub,Int.reduceToNat,Nat.reduceDiv,Int.reduceLT,Int.reduceLE,Int.reduceNeg,Int.reduceBEq,Int.reduceBNe,Int.reduceAdd,Int.reduceSub,Nat.reduceBEq,reduceCtorEq,Nat.reduceMul,ay,Tryz.results92,t0],by simp only[wq.1,↓reduceIte,Nat.reduceEqDiff,Nat.reduceLT,Nat.reduceLeDiff,Nat.reduceAdd,Nat.reduceSub,Int.reduceToNat,Nat.reduceDiv,Int.reduceLT,Int.reduceLE,Int.reduceNeg,Int.reduceBEq,Int.reduceBNe,Int.reduceAdd,Int.reduceSub,Nat.reduceBEq,reduceCtorEq,Nat.reduceMul,ay,Tryz.results92,t1],by simp only[wq.1,↓reduceIte,Nat.reduceEqDiff,Nat.reduceLT,Nat.reduceLeDiff,Nat.reduceAdd,Nat.reduceSub,Int.reduceToNat,Nat.reduceDiv,Int.reduceLT,Int.reduceLE,Int.reduceNeg,Int.reduceBEq,Int.reduceBNe,Int.reduceAdd,Int.reduceSub,Nat.reduceBEq,reduceCtorEq,Nat.reduceMul,ay,Tryz.results92,t2],by simp only[wq.1,↓reduceIte,Nat.reduceEqDiff,Nat.reduceLT,Nat.reduceLeDiff,Nat.reduceAdd,Nat.reduceSub,Int.reduceToNat,Nat.reduceDiv,Int.reduceLT,Int.reduceLE,Int.reduceNeg,Int.reduceBEq,Int.reduceBNe,Int.reduceAdd,Int.reduceSub,Nat.reduceBEq,reduceCtorEq,Nat.reduceMul,ay,Tryz.results92,t3],.inr ⟨aa h2,by omega,by simp only[wq.1,↓reduceIte,Nat.reduceEqDiff,Nat.reduceLT,Nat.reduceLeDiff,Nat.reduceAdd,Nat.reduceSub,Int.reduceToNat,Nat.reduceDiv,Int.reduceLT,Int.reduceLE,Int.reduceNeg,Int.reduceBEq,Int.reduceBNe,Int.reduceAdd,Int.reduceSub,Nat.reduceBEq,reduceCtorEq,Nat.reduceMul,ay,Tryz.results92,Nat.add_comm,zrt],by simp⟩,by simp only[wq.1,↓reduceIte,Nat.reduceEqDiff,Nat.reduceLT,Nat.reduceLeDiff,Nat.reduceAdd,Nat.reduceSub,Int.reduceToNat,Nat.reduceDiv,Int.reduceLT,Int.reduceLE,Int.reduceNeg,Int.reduceBEq,Int.reduceBNe,Int.reduceAdd,Int.reduceSub,Nat.reduceBEq,reduceCtorEq,Nat.reduceMul,ay,Tryz.results92,hd],λj hj h=>hk j hj h⟩⟩
 ·have h8:¬8<aa l:=by have:=of_decide_eq_false hc;omega
  obtain⟨n,hn⟩:∃n,F=n+1:=⟨F-1,by omega⟩;rw[hn,gI,if_neg h8]at hZ;simp only[wq.1];show awp _ _ _ _ _ _ _;refine vn ?_;simp only[wq.1,seval,t0,t1,t3,t4];refine Gs k ⟨name,last,l,[],ac⟩ (VLe.refl _) dw (by omega) λh' a b c=> ?_;rw[hZ]at a ⊢;simp only[wq.1,seval,bu,hd];refine vm ?_;simp only[wq.1,↓reduceIte,hd];exact⟨λj hj hp=>k25 hk j hj hp,hr _ a (kk.trans b) (by omega)⟩
def Vx[MO](ins:List S)(l:List Fo):Prop :=
 ∀(x:Xs)(h:H)(fo:Fo)(j:Nat),XH x h->nlX x->WF (aa ins) (fo.kids+j) l->xsz x+5*aa l<=90000000->∀(R:AEnd->H->(Nat->Bool)->Prop),
  (∀h',XH (aO ins (aa l+1) fo.kids x l).1 h'->XK h h'->aa h<=aa h'->R (.ret (.tup [aH (aO ins (aa l+1) fo.kids x l).2.1,oH (aO ins (aa l+1) fo.kids x l).2.2])) h' x25) ->
  ag TE 91 [.lp 4 0,oH (fo::l),aH ins] h R
theorem QI{j:Nat}(h:x25 j=ab):j=2\/j=5:=by
 rcases(Bool.or_eq_true _ _).mp h with h|h
 ·exact .inl (by simpa using h)
 ·exact .inr (by simpa using h)
theorem QJ:∀n:Nat,n<16->((n:Nat):Int).fdiv (2^(min 1 IntKind.i64.bits))=((n/2:Nat):Int):=by decide +kernel
theorem QK:∀n:Nat,n<16->(aD .i64 ((BitVec.ofInt IntKind.i64.bits (n:Int) &&& BitVec.ofInt IntKind.i64.bits 1).toNat:Int)==1)=ar (n%2=1):=by decide +kernel
theorem Xp[MO]{ins:List S}(hil:aa ins<=8){l:List Fo}(hll:aa l<=1000000)(hK:Vx ins l){x:Xs}{h:H}{fo:Fo}{j:Nat}(k:XH x h)(hnl:nlX x)(hw:WF (aa ins) (1+j) (fo::l))(hb:xsz x+5*(aa l+1)<=90000000)
 {R:AEnd->H->(Nat->Bool)->Prop} (hr:∀h',XH (nI ins x fo l).1 h'->XK h h'->aa h<=aa h'->R (.ret (.tup [.str (nI ins x fo l).2.1,oH (nI ins x fo l).2.2])) h' x25) :
 ag TE 158 [.lp 4 0,oH (fo::l),aH ins] h R:=by
 have hM:=mLx;have hg0:((fo::l).map foV).getD 0 .any=foV fo:=rfl;have hl5:5<aa h:=(zqe k.g).1;obtain⟨B,hB⟩:∃B,B=aa h:=⟨_,rfl⟩;have hgE:∀x:O,(h++[x])[B]? =al x:=λx=>by rw[hB];simp
 have hgS:∀x y:O,(h++[x]).set B y=h++[y]:=λx y=>by rw[hB];simp
 have ek2:((fo.kind:Int)==2)=ar (fo.kind=2):=by rw[Bool.eq_iff_iff,beq_iff_eq,zqb];omega
 have hdrop:((fo::l).map foV).drop 1=l.map foV:=rfl;rw[Nat.add_comm]at hw;unfold WF at hw;refine jB ?_;refine ak Tryz.func158 rfl (by simp[nts]) ?_;refine vn ?_;simp only[wq.1,seval,Tryz.results158];refine aj ?_;refine vn ?_;simp only[wq.1,seval,<-hB,hgE,hgS];refine⟨by omega,?_⟩;rcases hw with⟨w1,w2,w3⟩|⟨w1,w2,w3⟩
 ·rw[decide_eq_true w1]at ek2;have hi:fo.lit/2<aa ins:=by omega
  have hgi:=yG hi .any;unfold nI uT at hr;rw[if_pos w1]at hr;have es:=QJ fo.lit (by omega);have ea:=QK fo.lit (by omega);obtain⟨s,hs⟩:∃s,s=ins.getD (fo.lit/2) []:=⟨_,rfl⟩;have hgs:(ins.map V.str).getD (fo.lit/2) .any= .str s:=by rw[hgi,hs,zqg,zqk hi];rfl
  rw[<-hs]at hr;by_cases ho:fo.lit%2=1
  ·rw[if_pos ho]at hr;rw[decide_eq_true ho]at ea;refine vm ?_;simp only[wq.1,seval,hgE,ek2,es,ea,hgs];refine⟨⟨by omega,by omega⟩,?_⟩;refine UE (k.app _) hnl s (by omega) λh2 k2 kk2 hle2=> ?_;simp only[wq.1,seval,bu];refine⟨by decide +kernel,by omega,λj _ hj=> ?_,hr _ k2 ((XK.app _ _).trans kk2) (by rw[zqa]at hle2;omega)⟩;exact QI hj
  ·rw[if_neg ho]at hr;rw[decide_eq_false ho]at ea;refine vm ?_;simp only[wq.1,seval,hgE,ek2,es,ea,hgs];exact⟨⟨by omega,by omega⟩,by decide +kernel,by omega,hr _ (k.app _) (XK.app _ _) (by simp)⟩
 ·have hn:¬fo.kind=2:=by rcases w1 with h|h<;>rw[h]<;>decide
  rw[decide_eq_false hn]at ek2;unfold nI at hr;rw[if_neg hn]at hr;refine vm ?_;simp only[wq.1,seval,hgE,ek2];show awp _ _ _ _ _ _ _;have ek3:((fo.kind:Int)==3)=ar (fo.kind=3):=by rw[Bool.eq_iff_iff,beq_iff_eq,zqb];omega
  obtain⟨a1,a2,a3⟩:=jE (n:=aa ins) (ins:=ins) (aa l+1) fo.kids (0+j) x l (by rw[Nat.zero_add];exact w3) (by omega);have a4:=oG (n:=aa ins) (ins:=ins) (aa l+1) fo.kids (0+j) x l (by rw[Nat.zero_add];exact w3) (by omega);obtain⟨q,hq⟩:∃q,q=aO ins (aa l+1) fo.kids x l:=⟨_,rfl⟩;rw[<-hq]at a1 a2 a3 a4 hr;refine vn ?_;simp only[wq.1,Nat.reduceLT];refine aj (aY (Q:=λxe f h'=>xe= .normal/\h'=h++[am [vi fo.kind,vi fo.lit,vi fo.kids]]/\f.t 0= .lp 4 0/\f.t 1=oH (fo::l)/\f.t 2=aH ins/\f.t 10=vi (opF fo)/\f.d=[]/\f.k=λ_=>ac) ?_ ?_)
  ·rintro xe f h' ⟨rfl,rfl,t0,t1,t2,t10,hd,hk⟩;show awp _ _ _ _ _ _ _;refine vn ?_;simp only[wq.1,seval,t0,t1,t2];refine hK x _ fo j (k.app _) hnl (by rw[Nat.zero_add]at a2;exact w3) (by omega) _ λh2 k2 kk2 hle2=> ?_;rw[<-hq]at k2 ⊢;simp only[wq.1,seval,bu,hd];refine vn ?_;simp only[wq.1,seval,t0,t10,qf];refine Bh k2 [] (opF fo) (opF fo) q.2.1 (by omega) (by omega) (by omega) λh3 k3 kk3 hle3=> ?_;simp only[wq.1,seval,bu,hd];refine vm ?_;simp only[wq.1,seval,hd];refine⟨λj hj hp=>(by have hp':(f.k j||x25 j||x25 j)=ab:=hp;rw[hk,Bool.false_or,Bool.or_self]at hp';exact QI hp'),hr _ k3 (((XK.app _ _).trans kk2).trans kk3) (by rw[zqa]at hle2;omega)⟩
  ·refine vm ?_;simp only[wq.1,seval,ek3];refine⟨by omega,vcB.mk (λh3=> ?_) (λh3=> ?_)⟩
   ·have ho:opF fo=4:=by unfold opF;rw[if_pos (zqs h3)]
    simp only[wq.1,seval,ho]
   ·have ho:opF fo=6:=by unfold opF;rw[if_neg (of_decide_eq_false h3)]
    simp only[wq.1,seval,ho]
theorem XH.mapD{x:Xs}{h:H}(k:XH x h){K:Nat}(hK:5<K)(o:O):XH x ((h.map (O.drop λj=>j==K)).set K o):=by
 have ne:∀ {j:Nat},j<=5->(j==K)=ac:=λhj=>by rw[beq_eq_false_iff_ne];omega
 have old:∀ {j:Nat} {y:O},j<=5->h[j]? =al y->y.drop (λj=>j==K)=y->((h.map (O.drop λj=>j==K)).set K o)[j]? =al y:=λ{j y} hj hy hd=>by rw[zqn (by omega),zqo,hy,zrw,hd]
 refine⟨old (by omega) k.a ?_,old (by omega) k.u ?_,old (by omega) k.n ?_,old (by omega) k.g ?_⟩
 ·simp only[O.drop,ap,V.drop,ne (show 5<=5 by omega),ne (show 2<=5 by omega),ne (show 3<=5 by omega),zrm,if_false]
 ·show am (ap _ _)=_;rw[aN]
 ·exact kD _ _
 ·show am (ap _ _)=_;rw[kH]
theorem XK.mapD{h0 h:H}(k:XK h0 h){K:Nat}(hK:aa h0<=K)(o:O):XK h0 ((h.map (O.drop λj=>j==K)).set K o):=λj cs hj hc hd=>by have hl:=(zqe hc).1;exact(by rw[zqn (by omega)];exact XK.drop h _ j cs hj (k j cs hj hc hd) hd)
theorem QL{n k:Nat}:∀ {l:List Fo},WF n (k+1) l->∃fo r,l=fo::r
 |[],h=>(JX h).elim
 |fo::r,_=>⟨fo,r,rfl⟩
theorem QM[MO]{ins:List S}(hil:aa ins<=8):∀(N:Nat)(l:List Fo),aa l<N->aa l<=1000000->Vx ins l
 |0,_,h,_=>by omega
 |N+1,l,hlN,hll=>by
  intro x h0 fo j k0 hnl0 hw0 hb0 R hr;have hM:=mLx;have hl5:5<aa h0:=(zqe k0.g).1;obtain⟨F,eF⟩:∃F,F=aa l+1:=⟨_,rfl⟩;have hkl:fo.kids<=aa l:=by
   have:=(jE (n:=aa ins) (ins:=ins) (aa l+1) fo.kids j x l hw0 (by omega)).2.2;omega
  rw[<-eF]at hr;obtain⟨Z,eZ⟩:∃Z,Z=aO ins F fo.kids x l:=⟨_,rfl⟩;rw[<-eZ]at hr;obtain⟨B,hB⟩:∃B,B=aa h0:=⟨_,rfl⟩;have hg0:((fo::l).map foV).getD 0 .any=foV fo:=rfl;have hdrop:((fo::l).map foV).drop 1=l.map foV:=rfl;refine jB ?_;refine ak Tryz.func91 rfl (by simp[nts]) ?_;refine vn ?_;simp only[wq.1,Nat.reduceLT,Tryz.results91];refine vn ?_;simp only[wq.1,seval];refine⟨by decide +kernel,by omega,by omega,?_⟩;refine vn ?_;simp only[wq.1,seval];refine vn ?_;simp only[wq.1,Nat.reduceLT];refine iG 11 1 (by simp only[wq.1,↓reduceIte]) ?_;refine vn ?_;simp only[wq.1,seval];refine aF (λm f h=>∃i y rest out,m+i=fo.kids/\i<=fo.kids/\WF (aa ins) (fo.kids-i+j) rest/\aa rest<=aa l/\nlX y/\xsz y+5*aa rest<=xsz x+5*aa l/\aa out=i/\Z=((aO ins F (fo.kids-i) y rest).1,out++(aO ins F (fo.kids-i) y rest).2.1,(aO ins F (fo.kids-i) y rest).2.2)/\XH y h/\XK h0 h/\B<aa h/\h[B]? =al (am (out.map V.str))/\f.t 0= .lp 4 0/\f.t 2=aH ins/\f.t 9=oH rest/\f.t 10= .fn (.func 158) [.lp 4 0] []/\f.t 11= .ls B 1 0 i i/\f.t 21=vi fo.kids/\f.t 22=vi i/\f.d=[]/\(∀j,j<aa h0->f.k j=ab->j=2\/j=5)) fo.kids ⟨0,x,l,[],by omega,by omega,hw0,zrb _,hnl0,zrb _,rfl,by rw[eZ];rfl,k0.app _,XK.app _ _,by rw[hB];simp,by rw[hB];simp,by simp only[wq.1,seval],by simp only[wq.1,seval],by simp only[wq.1,seval],by simp only[wq.1,seval],by simp only[wq.1,seval,hB],by simp only[wq.1,seval],by rfl,by simp only[wq.1],λj _ hj=>by cases hj⟩ ?_;rintro m f h ⟨i,y,rest,out,hm,hik,hw,hrl,hnl,hsz,hol,hZ,k,kk,hBl,hBo,t0,t2,t9,t10,t11,t21,t22,hd,hk⟩;have hwi:=az (show i<maxLen by omega);refine vn ?_;simp only[wq.1,Nat.reduceLT,t21,t22];refine vn ?_;simp only[wq.1,↓reduceIte];refine vcB.mk (λhlt=> ?_) (λhlt=> ?_)
  ·have hlt:i<fo.kids:=by have:=zqs hlt;omega
   obtain⟨q,hq⟩:∃q,fo.kids-i=q+1:=⟨fo.kids-i-1,by omega⟩;have hq1:fo.kids-(i+1)=q:=by omega
   rw[hq]at hw hZ;obtain⟨f1,r1,rfl⟩:=QL (n:=aa ins) (k:=q+j) (l:=rest) (by rw[show q+j+1=q+1+j by omega];exact hw);rw[zrt]at hrl hsz;obtain⟨s1,s2,s3⟩:=Bf (ins:=ins) (F:=F) (x:=y) (k:=q) (j:=j) hw (by omega);have hsz2:=Xa (ins:=ins) (x:=y) (fo:=f1) (l:=r1) (j:=q+j) (n:=aa ins) (by rw[show 1+(q+j)=q+1+j by omega];exact hw);have hnl2:=Xb (ins:=ins) f1 r1 hnl;have hkn:=λR=>Xp (R:=R) hil (by omega) (QM hil N r1 (by omega) (by omega)) (fo:=f1) (j:=q+j) k hnl (by rw[show 1+(q+j)=q+1+j by omega];exact hw) (by omega);obtain⟨A,eA⟩:∃A,A=nI ins y f1 r1:=⟨_,rfl⟩;rw[<-eA]at s1 s2 s3 hsz2 hnl2 hkn;rw[s1]at hZ;have dO:∀p,ap p (out.map V.str)=out.map V.str:=λp=>aN;simp only[wq.1];refine aj ?_;refine aB ?_;refine vn ?_;simp only[wq.1,seval];refine vn ?_;simp only[wq.1,seval,t2,t9,t10];refine hkn _ λh2 k2 kk2 hle2=> ?_;have hBo2:=kk2 B _ (.inr (by omega)) hBo au;simp only[wq.1,seval,bu,hd];refine fJ (λf=>f.t 0= .lp 4 0/\f.t 2=aH ins/\f.t 9=oH A.2.2/\f.t 12= .str A.2.1/\f.t 10= .fn (.func 158) [.lp 4 0] []/\f.t 11= .ls B 1 0 i i/\f.t 21=vi fo.kids/\f.t 22=vi i/\f.d=[]/\(∀j,j<aa h0->f.k j=ab->j=2\/j=5)) ⟨by simp only[wq.1,seval,t0,qf],by simp only[wq.1,seval,t2],by simp only[wq.1,↓reduceIte],by simp only[wq.1,seval],by simp only[wq.1,seval,t10,qf],?_,by simp only[wq.1,seval,t21],by simp only[wq.1,seval,t22],by simp only[wq.1,hd],λj hj h=>k25 hk j hj h⟩ ?_
   ·have hxB:x25 B=ac:=by
     cases hx:x25 B with
     |false=>rfl
     |true=>rcases QI hx with h|h<;>omega
    simp only[wq.1,↓reduceIte,Nat.reduceEqDiff,t11,hxB]
   clear t0 t2 t9 t10 t11 t21 t22 hd hk f;rintro f ⟨t0,t2,t9,t12,t10,t11,t21,t22,hd,hk⟩;refine vm ?_;simp only[wq.1,↓reduceIte,Nat.reduceEqDiff,Nat.reduceLT,reduceCtorEq,Nat.reduceMul,t11,t12,hd,hBo2];have n4:(4==B)=ac:=by rw[beq_eq_false_iff_ne];omega
   have hoA:(out++[A.2.1]).map V.str=out.map V.str++[V.str A.2.1]:=by rw[zql];rfl
   refine⟨⟨rfl,by decide⟩,⟨by omega,by omega,by omega⟩,?_⟩;refine vm ?_;simp only[wq.1,seval,t22,hwi];refine .inl ⟨m-1,by omega,i+1,A.1,A.2.2,out++[A.2.1],by omega,by omega,by rw[hq1];exact s2,by omega,hnl2,by omega,by rw[zqa,hol];rfl,?_,k2.mapD (by omega) _,(kk.trans kk2).mapD (by omega) _,by simp;omega,?_,by simp only[wq.1,seval,t0,n4],by simp only[wq.1,seval,t2],by simp only[wq.1,seval,t9],by simp only[wq.1,seval,t10,n4],by simp only[wq.1,seval],by simp only[wq.1,seval,t21],by simp only[wq.1,↓reduceIte],by simp only[wq.1,hd],λj hj h=> ?_⟩
   ·rw[hq1,hZ,zqc];rfl
   ·rw[zqt (by simp;omega),hoA]
   ·have hp':(f.k j||(j==B))=ab:=h;rcases(Bool.or_eq_true _ _).mp hp' with h|h
    ·exact hk j hj h
    ·have:j=B:=by simpa using h
     omega
  ·have hi:i=fo.kids:=by have:=of_decide_eq_false hlt;omega
   subst hi;have hZ2:Z=(y,out,rest):=by
    rw[hZ,Nat.sub_self,eF,aO];simp
   subst hZ2;have nB:(4==B)=ac:=by rw[beq_eq_false_iff_ne];omega
   simp only[wq.1];show awp _ _ _ _ _ _ _;refine fJ (λf=>f.t 9=oH rest/\f.t 11= .ls B 1 0 (aa out) (aa out)/\f.d=[]/\(∀j,j<aa h0->f.k j=ab->j=2\/j=5)) ⟨by simp only[wq.1,seval,t9],by simp only[wq.1,seval,t11,hol],by simp only[wq.1,hd],λj hj h=>hk j hj h⟩ ?_;clear t0 t2 t9 t10 t11 t21 t22 hd hk f;rintro f ⟨t9,t11,hd,hk⟩;refine yE B 11 (aH out) (by rw[t11];simp[V.drop]) ?_ hd ?_
   ·rw[t11];refine aV ?_ rfl;rw[fK,hBo];simp only[Nat.zero_add,beq_self_eq_true,if_true,zrw,O.drop,aN]
   refine fJ (λf=>f.t 9=oH rest/\f.t 11=aH out/\f.d=[]/\(∀j,j<aa h0->f.k j=ab->j=2\/j=5)) ⟨?_,rfl,hd,λj hj h=> ?_⟩ ?_
   ·show(if 9=11 then aH out else(f.t 9).drop _)=_;rw[if_neg (by decide),t9];rfl
   ·have hp':(f.k j||(j==B))=ab:=h;rcases(Bool.or_eq_true _ _).mp hp' with h|h
    ·exact hk j hj h
    ·have:j=B:=by simpa using h
     omega
   clear t9 t11 hd hk f;rintro f ⟨t9,t11,hd,hk⟩;refine vm ?_;simp only[wq.1,seval,t9,t11,hd];exact⟨λj hj h=>hk j hj h,hr _ (k.dropD (by omega)) (kk.dropD (by omega)) (by rw[qO];omega)⟩
theorem DW[MO](g:Ga)(op:Int):Ev TE 89 [vi op,.ip g.v] (vi (fF g.off op)):=by
 have ho:=MO.other op (vi 0);refine ai Tryz.func89 rfl (by simp[nts]) (vm ?_);cases hoff:g.off with
 |true =>
  simp only[wq.1,seval,Tryz.results89,hoff,gl4,jf,ho];have e:(if op=0 then V.int .i64 1 else if op=1 then V.int .i64 0 else if op=2 then V.int .i64 3 else if op=3 then V.int .i64 2 else if op=4 then V.int .i64 5 else if op=6 then V.int .i64 7 else vi 0)=vi (fF ab op):=by
   unfold fF Vo;rw[if_pos rfl];by_cases a0:op=0
   ·simp only[a0,if_true]
   by_cases a1:op=1
   ·simp only[a1,if_true];rfl
   by_cases a2:op=2
   ·simp only[a2,if_true];rfl
   by_cases a3:op=3
   ·simp only[a3,if_true];rfl
   by_cases a4:op=4
   ·simp only[a4,if_true];rfl
   by_cases a6:op=6
   ·simp only[a6,if_true];rfl
   simp only[a0,a1,a2,a3,a4,a6,if_false]
  rw[e];exact aC.dat rfl
 |false=>simp only[wq.1,seval,Tryz.results89,hoff];exact aC.dat rfl
theorem II[MO]{x:Xs}{h0:H}(k0:XH x h0)(hnl:nlX x)(g:Ga)(hil:aa g.ins<=8)(hrl:aa g.rows<=128)(hro:∀r∈g.rows,mO (aa g.ins) r=ab)(hb:xsz x<=80000000){R:AEnd->H->(Nat->Bool)->Prop}
 (hr:∀h',XH (jW x g) h'->XK h0 h'->aa h0<=aa h'->R (.ret (.tup [])) h' x25):ag TE 46 [.lp 4 0,g.v] h0 R:=by
 have hM:=mLx;have hl5:5<aa h0:=(zqe k0.g).1;obtain⟨B,hB⟩:∃B,B=aa h0:=⟨_,rfl⟩;have hrn:∀r∈g.rows,aa r=aa g.ins:=λr h=>by have:=hro r h;unfold mO at this;simp only[zqf,beq_iff_eq]at this;exact this.1
 have hfl:=JZ (rows:=g.rows) hrl λr hr=>by rw[hrn r hr];exact hil
 have hwf:=y7 (n:=aa g.ins) (bH (bJ g.rows)+1) (bJ g.rows) (λr hr=>by
  rcases lX g.rows [] r hr with h|h
  ·cases h
  ·exact hrn r h) (by omega)
 have hfac:=QE g.rows (aa g.ins) hil hrl hro;have hne:∃fo l,PS (bJ g.rows)=fo::l:=by
  have e:PS (bJ g.rows)=vM (bH (bJ g.rows)+1) (bJ g.rows):=rfl;rw[e];rcases hwf with⟨_,h⟩|⟨_,fo',h,h'⟩|⟨_,_,h⟩
  ·exact⟨_,_,h⟩
  ·exact⟨_,_,h'⟩
  ·exact QL (k:=0) h
 obtain⟨fo,l,hfo⟩:=hne;have hk2:fo.kind≠0->fo.kind≠1->WF (aa g.ins) 1 (fo::l):=λh0 h1=>by
  have e:vM (bH (bJ g.rows)+1) (bJ g.rows)=fo::l:=hfo;rw[e]at hwf;rcases hwf with⟨_,h⟩|⟨_,fo',h,h'⟩|⟨_,_,h⟩
  ·injection h with h _;rw[h]at h0;exact absurd rfl h0
  ·injection h' with h' _;rw[h']at h1;exact absurd h h1
  ·exact h
 clear hwf;unfold jW at hr;rw[hfo]at hr hfac hfl;rw[zrt]at hfl;dsimp only at hr;refine jB ?_;refine ak Tryz.func46 rfl (by simp[nts]) ?_;refine vn ?_;simp only[wq.1,Nat.reduceLT,Tryz.results46,<-hB];refine vn ?_;simp only[wq.1,seval];refine fJ (λf=>f.t 0= .lp 4 0/\f.t 3= .lp B 0/\f.t 4= .fn (.func 89) [] [.lp B 0]/\f.d=[]/\f.k=λ_=>ac) ⟨rfl,rfl,rfl,rfl,rfl⟩ ?_;rintro f ⟨t0,t3,t4,hd,hk⟩;have hgB:(h0++[am [V.str g.name,vi g.op,aH g.ins,aH g.rows,V.bool g.off]])[B]? =al (am (gaX g)):=by rw[hB];simp[gaX]
 have nB:(4==B)=ac:=by rw[beq_eq_false_iff_ne];omega
 have hgd:aE g.v=ab:=by simp only[aE,aL,au,zre]
 refine xA (λj=>j==B) (λi=>if i=3 then .ip g.v else if i=4 then .fn (.func 89) [] [.ip g.v]else(f.t i).drop (λj=>j==B)) (λi=> ?_) (by rw[hd];simp) ?_
 ·have hlp:aC TE (rQ (λj=>j==B) 0 (h0++[am [V.str g.name,vi g.op,aH g.ins,aH g.rows,V.bool g.off]])) (.lp B 0) (.ip g.v):=by
   refine aC.lp (cs:=gaX g) ?_ (ax.dat (by show(aE _&&(aE _&&(aE (aH g.ins)&&(aE (aH g.rows)&&(aE _&&ab)))))=ab;simp only[aE,au,zre])) ?_ ?_ ?_ ?_
   rotate_left
   ·rfl
   ·exact hgd
   ·show 0<5;decide
   ·rfl
   ·rw[fK,hgB];simp only[Nat.zero_add,beq_self_eq_true,if_true,zrw,O.drop,Gm]
  by_cases h3:i=3
  ·subst h3;refine .inr ⟨?_,?_⟩
   ·rw[t3];simp[V.drop]
   ·rw[t3];exact hlp
  ·rw[if_neg h3];by_cases h4:i=4
   ·subst h4;refine .inr ⟨?_,?_⟩
    ·rw[t4];simp[V.drop,ap]
    ·rw[t4];exact aC.fn ax.nil (ax.cons hlp ax.nil)
   ·rw[if_neg h4];exact .inl rfl
 have k1:=(k0.app [am [V.str g.name,vi g.op,aH g.ins,aH g.rows,V.bool g.off]]).dropD (K:=B) (by omega);have kk1:=(XK.app h0 [am [V.str g.name,vi g.op,aH g.ins,aH g.rows,V.bool g.off]]).dropD (K:=B) (by omega);have hle1:aa h0<=aa (jv (λj=>j==B) 0 (h0++[am [V.str g.name,vi g.op,aH g.ins,aH g.rows,V.bool g.off]])):=by rw[qO];simp
 refine fJ (λf=>f.t 0= .lp 4 0/\f.t 3= .ip g.v/\f.t 4= .fn (.func 89) [] [.ip g.v]/\f.d=[]/\(∀j,j<aa h0->f.k j=ab->j=2\/j=5)) ⟨?_,rfl,rfl,hd,λj hj h=> ?_⟩ ?_
 ·show(f.t 0).drop _=_;rw[t0];simp only[V.drop,nB,zrm,if_false]
 ·have h':(f.k j||(j==B))=ab:=h;rw[hk,Bool.false_or]at h';have:j=B:=by simpa using h'
  omega
 obtain⟨h1,eh1⟩:∃h1,h1=jv (λj=>j==B) 0 (h0++[am [V.str g.name,vi g.op,aH g.ins,aH g.rows,V.bool g.off]]):=⟨_,rfl⟩;rw[<-eh1]at k1 kk1 hle1 ⊢;clear eh1 hgB t0 t3 t4 hd hk f;rintro f ⟨t0,t3,t4,hd,hk⟩;obtain⟨C,hC⟩:∃C,C=aa h1:=⟨_,rfl⟩;have hg0:((fo::l).map foV).getD 0 .any=foV fo:=rfl;have hgE:∀x:O,(h1++[x])[C]? =al x:=λx=>by rw[hC];simp
 have hgS:∀x y:O,(h1++[x]).set C y=h1++[y]:=λx y=>by rw[hC];simp
 refine vn ?_;simp only[wq.1,seval,t3];refine ag.ev hfac (by simp only[aL,aE,au,zre]) ?_;simp only[wq.1,seval];refine vn ?_;simp only[wq.1,seval,<-hC,hgE,hgS];refine⟨by omega,?_⟩;refine vn ?_;simp only[wq.1,seval,hgE];refine fJ (λf=>f.t 0= .lp 4 0/\f.t 3= .ip g.v/\f.t 4= .fn (.func 89) [] [.ip g.v]/\f.t 5=oH (fo::l)/\f.t 7= .lp C 0/\f.t 26=vi fo.kind/\f.d=[]/\(∀j,j<aa h0->f.k j=ab->j=2\/j=5)) ⟨by simp only[wq.1,seval,t0],by simp only[wq.1,seval,t3],by simp only[wq.1,seval,t4],by simp only[wq.1,seval],by simp only[wq.1,seval],by simp only[wq.1,↓reduceIte],by simp only[wq.1,hd],λj hj h=>hk j hj h⟩ ?_;clear t0 t3 t4 hd hk f;rintro f ⟨t0,t3,t4,t5,t7,t26,hd,hk⟩;refine aB ?_;have e0:((fo.kind:Int)==0)=ar (fo.kind=0):=by rw[Bool.eq_iff_iff,beq_iff_eq,zqb];omega
 have e1:((fo.kind:Int)==1)=ar (fo.kind=1):=by rw[Bool.eq_iff_iff,beq_iff_eq,zqb];omega
 have e2:((fo.kind:Int)==2)=ar (fo.kind=2):=by rw[Bool.eq_iff_iff,beq_iff_eq,zqb];omega
 have e3:((fo.kind:Int)==3)=ar (fo.kind=3):=by rw[Bool.eq_iff_iff,beq_iff_eq,zqb];omega
 have kC:=k1.app [am (foF fo)];have kkC:=kk1.trans (XK.app h1 [am (foF fo)]);have hCgE:(h1++[am [vi fo.kind,vi fo.lit,vi fo.kids]])[C]? =al (am [vi fo.kind,vi fo.lit,vi fo.kids]):=hgE _;obtain⟨h2,eh2⟩:∃h2,h2=h1++[am [vi fo.kind,vi fo.lit,vi fo.kids]]:=⟨_,rfl⟩;have hle2:aa h0<=aa h2:=by rw[eh2,zqa];omega
 rw[<-eh2]at hCgE ⊢;rw[show h1++[am (foF fo)]=h2 from eh2.symm]at kC kkC;have hC5:5<C:=by omega
 refine vn ?_;simp only[wq.1,seval,t26,e0];refine bP (b:=ar (fo.kind=0)) (by simp only[wq.1,↓reduceIte]) (by simp only[wq.1,↓reduceIte]) (λh=> ?_) (λhf0=> ?_)
 ·rw[if_pos (zqs h)]at hr;refine lL mixed (by decide +kernel) ?_;simp only[nts,List.size_toArray,zrt,List.length_nil,Nat.reduceAdd,Nat.reduceSub,List.take_succ_cons,List.take_zero];simp only[wq.1,seval,bG,bM,t0,t3,t4];refine sZ.mk (DW g 0) rfl (by simp only[aL,aE,zre]) ?_;simp only[wq.1,seval];refine Gs kC ⟨g.name,fF g.off 0,[],[],ac⟩ dw dw (by omega) λh' a b c=> ?_;simp only[wq.1,bu,hd];exact⟨λj hj hp=>k25 hk j (by omega) hp,hr _ a (kkC.trans b) (by omega)⟩
 rw[if_neg (of_decide_eq_false hf0)]at hr;have hf0':=of_decide_eq_false hf0;refine vn ?_;simp only[wq.1,seval,t26,e1];refine bP (b:=ar (fo.kind=1)) (by simp only[wq.1,↓reduceIte]) (by simp only[wq.1,↓reduceIte]) (λh=> ?_) (λhf1=> ?_)
 ·rw[if_pos (zqs h)]at hr;refine lL mixed (by decide +kernel) ?_;simp only[nts,List.size_toArray,zrt,List.length_nil,Nat.reduceAdd,Nat.reduceSub,List.take_succ_cons,List.take_zero];simp only[wq.1,seval,bG,bM,t0,t3,t4];refine sZ.mk (DW g 1) rfl (by simp only[aL,aE,zre]) ?_;simp only[wq.1,seval];refine Gs kC ⟨g.name,fF g.off 1,[],[],ac⟩ dw dw (by omega) λh' a b c=> ?_;simp only[wq.1,bu,hd];exact⟨λj hj hp=>k25 hk j (by omega) hp,hr _ a (kkC.trans b) (by omega)⟩
 rw[if_neg (of_decide_eq_false hf1)]at hr;have hw:=hk2 hf0' (of_decide_eq_false hf1);refine vn ?_;simp only[wq.1,seval,t26,e2];refine bP (b:=ar (fo.kind=2)) (by simp only[wq.1,↓reduceIte]) (by simp only[wq.1,↓reduceIte]) (λh=> ?_) (λhf2=> ?_)
 ·rw[if_pos (zqs h)]at hr;have hlit:fo.lit<2*aa g.ins:=by
   unfold WF at hw;rcases hw with⟨_,w2,_⟩|⟨w1,_⟩
   ·exact w2
   ·have:=zqs h;omega
  have es:=QJ fo.lit (by omega);have ea:=QK fo.lit (by omega);have hi:fo.lit/2<aa g.ins:=by omega
  have hgs:(g.ins.map V.str).getD (fo.lit/2) .any= .str (g.ins.getD (fo.lit/2) []):=by rw[yG hi .any,zqg,zqk hi];rfl
  obtain⟨s,hs⟩:∃s,s=g.ins.getD (fo.lit/2) []:=⟨_,rfl⟩;rw[<-hs]at hgs hr;obtain⟨op,hop⟩:∃op:Int,op=if fo.lit%2=1 then 3 else 2:=⟨_,rfl⟩
  rw[<-hop]at hr;refine vn ?_;simp only[wq.1,Nat.reduceLT];refine aj (aY (Q:=λxe f' h'=>xe= .normal/\h'=h2/\f'.t 0= .lp 4 0/\f'.t 3= .ip g.v/\f'.t 4= .fn (.func 89) [] [.ip g.v]/\f'.t 7= .lp C 0/\f'.t 8=vi op/\f'.d=[]/\(∀j,j<aa h0->f'.k j=ab->j=2\/j=5)) ?_ ?_)
  ·clear t0 t3 t4 t5 t7 t26 hd hk;rintro xe f h' ⟨rfl,rfl,t0,t3,t4,t7,t8,hd,hk⟩;show awp _ _ _ _ _ _ _;refine lL mixed (by decide +kernel) ?_;simp only[nts,List.size_toArray,zrt,List.length_nil,Nat.reduceAdd,Nat.reduceSub,List.take_succ_cons,List.take_zero];simp only[wq.1,↓reduceIte,Nat.reduceEqDiff,Nat.reduceLT,Nat.reduceLeDiff,Nat.reduceAdd,reduceCtorEq,Nat.reduceMul,bG,bM,t0,t3,t4,t8];refine sZ.mk (DW g op) rfl (by simp only[aL,aE,zre]) ?_;simp only[wq.1,↓reduceIte,Nat.reduceEqDiff,Nat.reduceLT,Nat.reduceLeDiff,Nat.reduceAdd,Int.reduceToNat,Int.reduceLE,t3,t7,hCgE,es,hgs];refine⟨⟨by omega,by omega⟩,⟨rfl,by decide⟩,?_⟩;refine Gs kC ⟨g.name,fF g.off op,[s],[],ac⟩ dA dw (by omega) λh' a b c=> ?_;simp only[wq.1,bu,hd];exact⟨λj hj hp=>k25 hk j (by omega) hp,hr _ a (kkC.trans b) (by omega)⟩
  ·refine vm ?_;simp only[wq.1,seval,t7,hCgE,ea];refine vcB.mk (λh3=> ?_) (λh3=> ?_)
   ·have hop3:op=3:=by rw[hop,if_pos (zqs h3)]
    simp only[wq.1,seval,t0,t3,t4,t7,hd,hop3];exact λj hj hp=>hk j hj hp
   ·have hop2:op=2:=by rw[hop,if_neg (of_decide_eq_false h3)]
    simp only[wq.1,seval,t0,t3,t4,t7,hd,hop2];exact λj hj hp=>hk j hj hp
 rw[if_neg (of_decide_eq_false hf2)]at hr;have hn2:=of_decide_eq_false hf2;have hw':=hw;unfold WF at hw';rcases hw' with⟨w1,_⟩|⟨w1,w2,w3⟩
 ·exact absurd w1 hn2
 obtain⟨a1,a2,a3⟩:=jE (n:=aa g.ins) (ins:=g.ins) (aa l+1) fo.kids 0 x l w3 (by omega);have a4:=oG (n:=aa g.ins) (ins:=g.ins) (aa l+1) fo.kids 0 x l w3 (by omega);have a5:=qL (ins:=g.ins) (aa l+1) fo.kids l hnl;have hkk:=QM hil (aa l+1) l (by omega) (by omega);obtain⟨q,hq⟩:∃q,q=aO g.ins (aa l+1) fo.kids x l:=⟨_,rfl⟩;rw[<-hq]at a1 a2 a3 a4 a5 hr;refine vn ?_;simp only[wq.1,Nat.reduceLT];refine aj (aY (Q:=λxe f' h'=>xe= .normal/\h'=h2/\f'.t 0= .lp 4 0/\f'.t 3= .ip g.v/\f'.t 4= .fn (.func 89) [] [.ip g.v]/\f'.t 5=oH (fo::l)/\f'.t 9=vi (opF fo)/\f'.d=[]/\(∀j,j<aa h0->f'.k j=ab->j=2\/j=5)) ?_ ?_)
 ·clear t0 t3 t4 t5 t7 t26 hd hk;rintro xe f h' ⟨rfl,rfl,t0,t3,t4,t5,t9,hd,hk⟩;show awp _ _ _ _ _ _ _;refine vn ?_;simp only[wq.1,seval,t0,t3,t5];refine hkk x _ fo 0 kC hnl w3 (by omega) _ λh3 k3 kk3 hle3=> ?_;rw[<-hq]at k3 ⊢;simp only[wq.1,seval,bu,hd];refine fJ (λf=>f.t 0= .lp 4 0/\f.t 3= .ip g.v/\f.t 4= .fn (.func 89) [] [.ip g.v]/\f.t 9=vi (opF fo)/\f.t 10=aH q.2.1/\f.d=[]/\(∀j,j<aa h0->f.k j=ab->j=2\/j=5)) ⟨by simp only[wq.1,seval,t0,qf],by simp only[wq.1,seval,t3],by simp only[wq.1,seval,t4],by simp only[wq.1,seval,t9],by simp only[wq.1,seval],by simp only[wq.1,hd],λj hj h=>k25 hk j hj h⟩ ?_;clear t0 t3 t4 t5 t9 hd hk f;rintro f ⟨t0,t3,t4,t9,t10,hd,hk⟩;refine lL mixed (by decide +kernel) ?_;simp only[nts,List.size_toArray,zrt,List.length_nil,Nat.reduceAdd,Nat.reduceSub,List.take_succ_cons,List.take_zero];simp only[wq.1,seval,bG,bM,t0,t3,t4,t9];refine sZ.mk (DW g (opF fo)) rfl (by simp only[aL,aE,zre]) ?_;simp only[wq.1,seval,t10];refine Bh k3 g.name (opF fo) (fF g.off (opF fo)) q.2.1 (by omega) (by omega) (by omega) λh4 k4 kk4 hle4=> ?_;simp only[wq.1,bu,hd];exact⟨λj hj hp=>k25 hk j (by omega) hp,hr _ k4 ((kkC.trans kk3).trans kk4) (by omega)⟩
 ·refine vm ?_;simp only[wq.1,seval,t7,hCgE,e3];refine vcB.mk (λh3=> ?_) (λh3=> ?_)
  ·have ho:opF fo=4:=by unfold opF;rw[if_pos (zqs h3)]
   simp only[wq.1,seval,t0,t3,t4,t5,hd,ho];exact λj hj hp=>hk j hj hp
  ·have ho:opF fo=6:=by unfold opF;rw[if_neg (of_decide_eq_false h3)]
   simp only[wq.1,seval,t0,t3,t4,t5,hd,ho];exact λj hj hp=>hk j hj hp
theorem Kq:∀l:List La,kM (l.map La.v)=ab
 |[]=>rfl
 |t::l=>by show(_&&kM (l.map La.v))=ab;rw[Kq l];rfl
theorem QN:∀l:List La,di (laC l)=ab
 |[]=>rfl
 |t::l=>by show(ab&&(ab&&(ab&&di (laC l))))=ab;rw[QN l];rfl
theorem IJ[MO](c:List La)(hc:aa c<=1000000):EvF TE 49 [jK c] 3 (aa c) (laC c):=by
 have hM:=mLx;have ho:=QN c;have hv:=Wq c;have hf:=Kq c;unfold EvF;refine ak Tryz.func49 rfl (by simp[nts]) (vm ?_);simp only[wq.1,seval,Tryz.results49];intro b hb;cases b with
 |true =>
  have:c=[]:=by simpa using hb rfl
  subst this;simp only[wq.1,↓reduceIte,Nat.reduceLT,reduceCtorEq];exact .inl rfl
 |false=>simp only[wq.1,↓reduceIte,Nat.reduceEqDiff,Nat.reduceLT,Nat.reduceAdd,reduceCtorEq,Nat.reduceMul,hv,hf];exact⟨⟨rfl,by decide⟩,⟨rfl,by omega,by omega⟩,.inr ⟨0,_,rfl,zrb _,rfl⟩⟩
theorem QO{c:List La}(h:laC c=[]):c=[]:=by
 cases c with
 |nil=>rfl
 |cons a c=>cases h
theorem MJ[MO](c:List La)(hc:aa c<=1000000):Ev TE 49 [jK c] (jK c):=(IJ c hc).ev (λ_ he=>by rw[QO he];exact VLe.nils) (λh' id cap _ hid=>yN hid rfl) (λ_ he _=>by rw[QO he];exact aC.nils)
theorem Bi{g:Ga}(h:gG g=ab)(ho:(aZ g).op=10):aZ g=g:=by
 have hk:=jC h;unfold aZ at ho ⊢;rw[xH hk.1]at ho ⊢;split
 ·rfl
 ·rename_i h1;rw[if_neg h1]at ho;cases hf:jI (aa g.ins) g.rows g.off with
  |none=>rfl
  |some op=>rw[hf]at ho;exfalso;have:=(pR hf).1;have ho:(op:Int)=10:=ho;omega
theorem Kr{g:Ga}(h:gG g=ab):aa g.ins<=8:=by unfold gG at h;simp only[zqf]at h;have h8:=h.2.1;unfold uS at h8;simp only[zqf]at h8;exact Vp h8.2.2
theorem UF{x:Xs}(g:Ga)(h:nlX x):nlX (jW x g):=by
 unfold jW;split
 ·exact h
 ·split
  ·exact zt _ h
  ·split
   ·exact zt _ h
   ·split
    ·exact zt _ h
    ·exact DN _ _ _ _ _ (qL _ _ _ h)
theorem Xq{x:Xs}{g:Ga}(hg:gG g=ab)(h:nlX x):nlX (vN x g)/\xsz (vN x g)<=xsz x+60000:=by
 obtain⟨h1,h2,h3⟩:=jC hg;unfold vN;by_cases ho:(aZ g).op=10
 ·rw[if_pos ho,Bi hg ho];refine⟨UF g h,Uu h2 (λr hr=> ?_) (Kr hg)⟩;have:=h3 r hr;unfold mO at this;simp only[zqf,beq_iff_eq]at this;exact this.1
 ·rw[if_neg ho];have:=(wJ x (aZ g)).1;exact⟨zt _ h,by omega⟩
theorem zG:∀(gs:List Ga)(x:Xs),(∀g∈gs,gG g=ab)->nlX x->nlX (gs.foldl vN x)/\xsz (gs.foldl vN x)<=xsz x+60000*aa gs
 |[],x,_,h=>⟨h,by simp⟩
 |g::gs,x,hg,h=>by obtain⟨a1,a2⟩:=Xq (x:=x) (hg g (by simp)) h;obtain⟨b1,b2⟩:=zG gs (vN x g) (λq hq=>hg q (by simp[hq])) a1;refine⟨b1,?_⟩;rw[List.foldl_cons,zrt];omega
theorem QQ(c:Ci):aL [aH c.ins,aH c.outs,jK c.lat,gJ c.gates]=ab:=by simp only[aL,aE,au,jP,jO,zre]
theorem kE(c:Ci):aL [c.v]=ab:=by simp only[aL,aE,au,jP,jO,zre]
theorem zH[MO](c:Ci)(hs:Sum c):Ev TE 15 [c.v] (.tup [(xg c).1.v,vi (xg c).2]):=by
 have hM:=mLx;have hchk:=pX c hs;unfold xg;obtain⟨oc,eoc⟩:∃oc,oc=jV c:=⟨_,rfl⟩;rw[<-eoc]at hchk ⊢;refine ai Tryz.func15 rfl (by simp[nts]) ?_;refine vn ?_;simp only[wq.1,Nat.reduceLT,Tryz.results15];refine aj ?_;refine vn ?_;simp only[wq.1,seval];refine ag.ev hchk (kE c) ?_;simp only[wq.1,seval];by_cases he:oc.1=0
 ·have e0:(oc.1 != 0)=ac:=by rw[he];rfl
  rw[if_neg (by simpa using he)];have hn:NetOk c:=iw (by rw[<-eoc];exact he);have hlc:=LX hn.lim;have hl:=hn.lim;unfold Nk at hl;simp only[zqf,zqb]at hl;obtain⟨hl1,hl2,_⟩:=hl;have hnl:aa (aP c)<=200:=by
   unfold aP;simp only[zqa,zra];omega
  refine vm ?_;simp only[wq.1,seval,e0];show awp _ _ _ _ _ _ _;refine vn ?_;simp only[wq.1,seval];refine kF (JB c hlc) (kE c) au ?_;simp only[wq.1,seval];refine gy ?_;refine mr (h':=[am [aH c.ins,aH c.outs,jK c.lat,gJ c.gates],am [.nils,.nils,.nils,.nils],am ((aP c).map V.str),.map [] [],am [.ls 5 5 0 0 0,.ls 2 1 0 (aa (aP c)) (aa (aP c)),.lm 3],am []]) (HLe.set (i:=4) (o':=am [.ls 5 5 0 0 0,.ls 2 1 0 (aa (aP c)) (aa (aP c)),.lm 3]) rfl (OLe.cells (zrb _) (cZ.cons dM (cZ.cons (VLe.refl _) (cZ.cons (VLe.refl _) cZ.nil))))) ?_;have hx0:XH ⟨[],aP c,([],[])⟩ ([am [aH c.ins,aH c.outs,jK c.lat,gJ c.gates],am [.nils,.nils,.nils,.nils],am ((aP c).map V.str),.map [] [],am [.ls 5 5 0 0 0,.ls 2 1 0 (aa (aP c)) (aa (aP c)),.lm 3],am []]):=⟨rfl,rfl,rfl,rfl⟩;obtain⟨X0,eX0⟩:∃X0:Xs,X0=⟨[],aP c,([],[])⟩:=⟨_,rfl⟩;have hEX:Du c=c.gates.foldl vN X0:=by rw[eX0];rfl
  have hsz0:xsz X0<=200:=by rw[eX0];unfold xsz;simpa using hnl
  have hnl0:nlX X0:=by rw[eX0];rfl
  rw[<-eX0]at hx0;obtain⟨hh0,ehh⟩:∃hh0:H,hh0=[am [aH c.ins,aH c.outs,jK c.lat,gJ c.gates],am [.nils,.nils,.nils,.nils],am ((aP c).map V.str),.map [] [],am [.ls 5 5 0 0 0,.ls 2 1 0 (aa (aP c)) (aa (aP c)),.lm 3],am []]:=⟨_,rfl⟩;have hb0:hh0[0]? =al (am [aH c.ins,aH c.outs,jK c.lat,gJ c.gates]):=by rw[ehh];rfl
  have hb1:hh0[1]? =al (am [.nils,.nils,.nils,.nils]):=by rw[ehh];rfl
  rw[<-ehh]at hx0 ⊢;refine vn ?_;simp only[wq.1,seval,hb0];refine aF (λm f h=>∃i,m+i=aa c.gates/\i<=aa c.gates/\XH ((c.gates.take i).foldl vN X0) h/\h[0]? =al (am [aH c.ins,aH c.outs,jK c.lat,gJ c.gates])/\h[1]? =al (am [.nils,.nils,.nils,.nils])/\f.t 1= .lp 0 0/\f.t 2= .lp 1 0/\f.t 6= .lp 4 0/\f.t 23=gJ c.gates/\f.t 24=vi (aa c.gates)/\f.t 25=vi i/\f.d=[]) (aa c.gates) ⟨0,by omega,by omega,hx0,hb0,hb1,by simp only[wq.1,seval],by simp only[wq.1,seval],by simp only[wq.1,seval],by simp only[wq.1,seval],by simp only[wq.1,seval],by rfl,by simp only[wq.1]⟩ ?_;clear hx0 hb0 hb1 ehh hh0;rintro m f h ⟨i,hm,hil,k,hb0,hb1,t1,t2,t6,t23,t24,t25,hd⟩;have hwi:=az (show i<maxLen by omega);obtain⟨y,ey⟩:∃y,y=(c.gates.take i).foldl vN X0:=⟨_,rfl⟩;have hys:=zG (c.gates.take i) X0 (λg hg=>hn.gates g (zsh hg)) hnl0;rw[<-ey]at k hys;have htl:aa (c.gates.take i)<=200:=by rw[zrl];omega
  refine vn ?_;simp only[wq.1,Nat.reduceLT,t24,t25];refine vn ?_;simp only[wq.1,↓reduceIte];refine vcB.mk (λhlt=> ?_) (λhlt=> ?_)
  ·have hlt:i<aa c.gates:=by have:=zqs hlt;omega
   obtain⟨g,eg⟩:∃g,g=c.gates[i]:=⟨_,rfl⟩;have hgg:=sF hlt .any;rw[<-eg]at hgg;have hgB:=hn.gates g (eg▸zqu hlt);have hfs:(c.gates.take (i+1)).foldl vN X0=vN y g:=by rw[List.take_succ_eq_append_getElem hlt,List.foldl_append,<-ey,<-eg];rfl
   obtain⟨B,hB⟩:∃B,B=aa h:=⟨_,rfl⟩;have hl5:5<aa h:=(zqe k.g).1;have hgE:∀x:O,(h++[x])[B]? =al x:=λx=>by rw[hB];simp
   have hgS:∀x y:O,(h++[x]).set B y=h++[y]:=λx y=>by rw[hB];simp
   have hcan:=Jz g;have hop:(((aZ g).op:Int)==10)=ar ((aZ g).op=10):=by rw[Bool.eq_iff_iff,beq_iff_eq,zqb]
   simp only[wq.1];refine aj ?_;refine aB ?_;refine vn ?_;simp only[wq.1,seval,t23,t25,hgg,<-hB,hgE,hgS];refine⟨⟨by omega,by omega⟩,?_⟩;refine vn ?_;simp only[wq.1,seval,hgE];refine ag.ev hcan (by simp only[aL,aE,au,zre]) ?_;simp only[wq.1,seval,hgE,hgS];obtain⟨K,eK⟩:∃K,K=h++[am [.str (aZ g).name,vi (aZ g).op,aH (aZ g).ins,aH (aZ g).rows,.bool (aZ g).off]]:=⟨_,rfl⟩;have kK:=k.app [am [.str (aZ g).name,vi (aZ g).op,aH (aZ g).ins,aH (aZ g).rows,.bool (aZ g).off]];have hKB:=hgE (am [.str (aZ g).name,vi (aZ g).op,aH (aZ g).ins,aH (aZ g).rows,.bool (aZ g).off]);have hK0:K[0]? =al (am [aH c.ins,aH c.outs,jK c.lat,gJ c.gates]):=by rw[eK,zqj (by omega)];exact hb0
   have hK1:K[1]? =al (am [.nils,.nils,.nils,.nils]):=by rw[eK,zqj (by omega)];exact hb1
   rw[<-eK]at kK hKB ⊢;refine fJ (λf=>f.t 1= .lp 0 0/\f.t 2= .lp 1 0/\f.t 6= .lp 4 0/\f.t 8= .lp B 0/\f.t 23=gJ c.gates/\f.t 24=vi (aa c.gates)/\f.t 25=vi i/\f.d=[]) ⟨by simp only[wq.1,seval,t1],by simp only[wq.1,seval,t2],by simp only[wq.1,seval,t6],by simp only[wq.1,seval],by simp only[wq.1,seval,t23],by simp only[wq.1,seval,t24],by simp only[wq.1,seval,t25],by simp only[wq.1,hd]⟩ ?_;clear t1 t2 t6 t23 t24 t25 hd f;rintro f ⟨t1,t2,t6,t8,t23,t24,t25,hd⟩;have hfin:∀(h':H),XH (vN y g) h'->XK K h'->∀f:Fr,f.t 1= .lp 0 0->f.t 2= .lp 1 0->f.t 6= .lp 4 0->f.t 23=gJ c.gates->f.t 24=vi (aa c.gates)->f.t 25=vi (i+1:Nat)->f.d=[]->∃m',m'<m/\∃i,m'+i=aa c.gates/\i<=aa c.gates/\XH ((c.gates.take i).foldl vN X0) h'/\h'[0]? =al (am [aH c.ins,aH c.outs,jK c.lat,gJ c.gates])/\h'[1]? =al (am [.nils,.nils,.nils,.nils])/\f.t 1= .lp 0 0/\f.t 2= .lp 1 0/\f.t 6= .lp 4 0/\f.t 23=gJ c.gates/\f.t 24=vi (aa c.gates)/\f.t 25=vi i/\f.d=[] :=
    λh' a b f' u1 u2 u6 u23 u24 u25 ud=>⟨m-1,by omega,i+1,by omega,by omega,by rw[hfs];exact a,b 0 _ (.inl (by decide)) hK0 (QQ c),b 1 _ (.inl (by decide)) hK1 rfl,u1,u2,u6,u23,u24,u25,ud⟩
   unfold vN at hfin;refine vn ?_;simp only[wq.1,seval,t8,hKB,hop];refine bP (b:=ar ((aZ g).op=10)) (by simp only[wq.1,↓reduceIte]) (by simp only[wq.1,↓reduceIte]) (λho=> ?_) (λho=> ?_)
   ·have ho:=zqs ho;obtain⟨g1,g2,g3⟩:=jC hgB;rw[if_pos ho]at hfin;have hcv:=Bi hgB ho;rw[hcv]at hKB hfin;refine vm ?_;simp only[wq.1,seval,t6,t8,hKB];refine II kK hys.1 g (Kr hgB) g2 g3 (by omega) λh' a b c2=> ?_;simp only[wq.1,bu,hd];refine vm ?_;simp only[wq.1,seval,t25,hwi];exact .inl (hfin h' a b _ (by simp only[wq.1,seval,t1,qf]) (by simp only[wq.1,seval,t2,qf]) (by simp only[wq.1,seval,t6,qf]) (by simp only[wq.1,seval,t23]) (by simp only[wq.1,seval,t24]) (by simp only[wq.1,↓reduceIte]) (by simp only[wq.1,hd]))
   ·have ho:=of_decide_eq_false ho;rw[if_neg ho]at hfin;refine vm ?_;simp only[wq.1,seval,t6,t8,hKB];refine YY kK (aZ g) (by omega) λh' a b c2=> ?_;simp only[wq.1,bu,hd];refine vm ?_;simp only[wq.1,seval,t25,hwi];exact .inl (hfin h' a b _ (by simp only[wq.1,seval,t1,qf]) (by simp only[wq.1,seval,t2,qf]) (by simp only[wq.1,seval,t6,qf]) (by simp only[wq.1,seval,t23]) (by simp only[wq.1,seval,t24]) (by simp only[wq.1,↓reduceIte]) (by simp only[wq.1,hd]))
  ·have hi:i=aa c.gates:=by have:=of_decide_eq_false hlt;omega
   subst hi;rw[zrx,<-hEX]at ey;subst ey;simp only[wq.1];show awp _ _ _ _ _ _ _;have k4:=k.a;have k5:=k.g;obtain⟨G,eG⟩:∃G,G=(Du c).gates:=⟨_,rfl⟩;have hGl:aa G<=50000000:=by
    have h1:=hys.2;have h2:xsz (Du c)<=200+60000*200:=by rw[zrx]at h1;omega
    have h3:aa G<=xsz (Du c):=by rw[eG];unfold xsz;omega
    omega
   rw[<-eG]at k4 k5 ⊢;have w1:aD .i64 ((aa c.ins:Int)+aa c.lat)=((aa c.ins+aa c.lat:Nat):Int):=by rw[iU (by omega) (by omega)];omega
   have w2:aD .i64 (((aa c.ins+aa c.lat:Nat):Int)+aa G)=((aa c.ins+aa c.lat+aa G:Nat):Int):=by rw[iU (by omega) (by omega)];omega
   have hdd:ar ((200:Int)<((aa c.ins+aa c.lat+aa G:Nat):Int))=ar (200<aa c.ins+aa c.lat+aa G):=decide_eq_decide.2 (by omega);refine aj ?_;refine vn ?_;simp only[wq.1,seval,t1,t6,hb0,k4,w1,w2,hdd];refine⟨by decide +kernel,?_⟩;refine bP (b:=ar (200<aa c.ins+aa c.lat+aa G)) (by simp only[wq.1,↓reduceIte]) (by simp only[wq.1,↓reduceIte]) (λhb=> ?_) (λhb=> ?_)
   ·rw[if_pos (zqs hb)];have hs1:∀x:O,(h.set 1 x)[1]? =al x:=λx=>zqt (zqe hb1).1;refine vm ?_;simp only[wq.1,seval,t2,hd,hb1,hs1];exact aC.tup (ax.cons (aC.agg (ax.cons aC.nils (ax.cons aC.nils (ax.cons aC.nils (ax.cons aC.nils ax.nil))))) (ax.cons (aC.dat rfl) ax.nil))
   ·rw[if_neg (of_decide_eq_false hb)];refine vm ?_;simp only[wq.1];show awp _ _ _ _ _ _ _;have c1:=vU c.ins (by omega);have c2:=vU c.outs (by omega);have c3:=MJ c.lat (by omega);have hs1:∀x:O,(h.set 1 x)[1]? =al x:=λx=>zqt (zqe hb1).1;refine aj (EK mixed 14 (.one 14<| .take 15<| .fin) (λf' h'=>f'.t 2= .lp 1 0/\f'.t 3=vi 0/\f'.d=[]/\h'=h.set 1 (am [aH c.ins,aH c.outs,jK c.lat,.ls 5 5 0 (aa G) (aa G)])) (by rw[TEP];decide +kernel) ?_ ?_)
    ·intro K hK;simp only[List.take_succ_cons,List.take_zero];simp only[wq.1,seval,t1,hb0];refine sZ.mk c1 rfl (by simp only[aL,aE,au,zre]) ?_;simp only[wq.1,seval,t1,hb0];refine sZ.mk c2 rfl (by simp only[aL,aE,au,zre]) ?_;simp only[wq.1,seval,t1,hb0];refine sZ.mk c3 rfl (by simp only[aL,aE,jP,zre]) ?_;simp only[wq.1,seval,t6,k4];refine hK _ ?_;have hs5:=hb1;simp only[wq.1,seval,t2,hd,hb1]
     trace_state
    ·clear t1 t2 t6 t23 t24 t25 hd;rintro f h' ⟨t2,t3,hd,rfl⟩;show awp _ _ _ _ _ _ _;refine vm ?_;simp only[wq.1,seval,t2,t3,hd,hs1];have h5:(h.set 1 (am [aH c.ins,aH c.outs,jK c.lat,.ls 5 5 0 (aa G) (aa G)]))[5]? =al (am (gaC G)):=by
      rw[zqn (by decide),k5];rfl
     exact aC.tup (ax.cons (aC.agg (ax.cons (aC.dat (by simp only[aE,au])) (ax.cons (aC.dat (by simp only[aE,au])) (ax.cons (aC.dat (by simp only[aE,jP])) (ax.cons (yO h5 rfl) ax.nil))))) (ax.cons (aC.dat rfl) ax.nil))
 ·have e0:(oc.1 != 0)=ab:=by simpa using he
  rw[if_pos (by simpa using he)];refine vm ?_;simp only[wq.1,seval,e0];exact aC.tup (ax.cons (aC.agg (ax.cons aC.nils (ax.cons aC.nils (ax.cons aC.nils (ax.cons aC.nils ax.nil))))) (ax.cons (aC.dat rfl) ax.nil))
def uU(s:S):S:=if aW s=ab then bC s else []
def Bj(t:Tk):S×Int:=if t.k=0 then Ah t.t else([],4)
def Xr(s:S)(t:Tk):Bool:=(Bj t).2==0&&(Bj t).1==s
def qg(l:List Tk)(s:S):Nat:=match l.findIdx? (Xr s)with
 |some i=>(l.getD i ⟨0,[],0⟩).at'
 |none=>0
theorem zI[MO]:Ev TE 146 [vi 3] (.bool ab):=by refine ai Tryz.func146 rfl (by simp[nts]) (vm ?_);simp only[wq.1,seval,Tryz.results146];exact aC.dat rfl
theorem QR[MO](s:S)(h:aW s=ab):Ev TE 188 [.str s] (.bool (oP s)):=by
 obtain⟨h1,h2⟩:=LJ h;have hl:=Jv h;have ha:=TB s [61,40,41,44,35] (by omega) (by decide) (λb hb=>by
  have:=h2 b hb;unfold ja at this;simp only[zqf,zqb]at this;omega) (by decide)
 rw[AV]at ha;refine ai Tryz.func188 rfl (by simp[nts]) (vm ?_);simp only[wq.1,seval,Tryz.results188];refine ag.ev ha rfl ?_;simp only[wq.1,seval];refine aC.eq rfl ?_;unfold oP
 congr 2
 refine congrArg _ (funext λc=> ?_);unfold zg;simp only[List.contains_cons,List.contains_nil,Bool.or_false,Bool.or_assoc]
theorem Gt[MO](s:S):Ev TE 123 [vi 3,.str s] (.bool (aW s&&oP s)):=by
 have hn:=xE s;refine ai Tryz.func123 rfl (by simp[nts]) (vm ?_);simp only[wq.1,seval,Tryz.results123];refine ag.ev zI rfl ?_;simp only[wq.1,seval];refine ag.ev hn rfl ?_;cases hok:aW s with
 |false=>simp only[wq.1,↓reduceIte,Nat.reduceEqDiff,Nat.reduceLT];exact aC.dat rfl
 |true=>simp only[wq.1,↓reduceIte,Nat.reduceEqDiff,Nat.reduceLT,Nat.reduceLeDiff,Nat.reduceAdd,Nat.reduceSub,Int.reduceToNat,Nat.reduceDiv,Int.reduceLT,Int.reduceLE,Int.reduceNeg,Int.reduceBEq,Int.reduceBNe,Int.reduceAdd,Int.reduceSub,Nat.reduceBEq,reduceCtorEq,Nat.reduceMul,ay,Tryz.results123,bu];refine⟨by decide,ag.ev (QR s hok) rfl ?_⟩;simp only[wq.1,↓reduceIte,Nat.reduceLT];exact aC.eq rfl (by simp)
theorem Gu[MO](s:S):Ev TE 85 [vi 3,.str s] (.tup [.str (uU s),vi (if aW s then 0 else 4)]):=by
 have hn:=xE s;have hL:=Gt s;have hm:=Wh s Ad;refine ai Tryz.func85 rfl (by simp[nts]) (vm ?_);simp only[wq.1,seval,Tryz.results85];refine ag.ev hn rfl ?_;unfold uU;cases hok:aW s with
 |false=>simp only[wq.1,seval];exact aC.dat rfl
 |true =>
  have hl:=Jv hok;have hsp:=LQ s (by omega);rw[hok]at hL;simp only[wq.1,seval];refine ag.ev zI rfl ?_;simp only[wq.1,seval];refine⟨.bool ab,?_⟩;simp only[wq.1,seval];refine ag.ev hm rfl ?_;have e:bC s=if(Ad.isPrefixOf s|| !oP s)=ab then bQ s else s:=rfl
  cases hmm:Ad.isPrefixOf s with
  |true=>rw[hmm,Bool.true_or,if_pos rfl]at e;simp only[wq.1,seval];refine⟨.bool ab,?_⟩;simp only[wq.1,seval];refine ag.ev hsp rfl ?_;simp only[wq.1,seval];rw[e];exact aC.dat rfl
  |false =>
   simp only[wq.1,seval];refine ag.ev hL rfl ?_;cases hll:oP s with
   |true=>rw[hmm,hll]at e;simp only[wq.1,seval];have e:bC s=s:=e;rw[e];exact aC.dat rfl
   |false=>rw[hmm,hll]at e;have e:bC s=bQ s:=e;simp only[wq.1,seval];refine ag.ev hsp rfl ?_;simp only[wq.1,seval];rw[e];exact aC.dat rfl
theorem UG[MO](s:S)(hs:aa s<=1000000):Ev TE 124 [vi 3,.str s] (.tup [.str (Ah s).1,vi (Ah s).2]):=by
 have hu:=Fj s hs;have hn:=xE s;have hL:=Gt s;obtain⟨u,eu⟩:∃u,u=jb s:=⟨_,rfl⟩;have hsp:=Gu u;unfold Ah;rw[<-eu]at hu ⊢;have tail:∀(R:S×Int),R=(if(aW s&&oP s)=ab then(s,0)else([],4))->R=R:=λ_ _=>rfl;obtain⟨T,hT⟩:∃T:S×Int,T=(if(aW s&&oP s)=ab then(s,0)else([],4)):=⟨_,rfl⟩;rw[<-hT];refine ai Tryz.func124 rfl (by simp[nts]) (vm ?_);simp only[wq.1,seval,Tryz.results124];refine ag.ev zI rfl ?_;simp only[wq.1,seval];refine ag.ev hu rfl ?_;simp only[wq.1,seval];by_cases h0:u=[]
 ·have e0:(u==[])=ab:=by rw[h0];rfl
  rw[if_neg (λh=>h.1 h0)];simp only[wq.1,seval,e0];refine ag.ev hL rfl ?_;cases hok:aW s with
  |false=>rw[hok]at hT hL;have hT:T=([],4):=hT;rw[hT];simp only[wq.1,seval];exact aC.dat rfl
  |true =>
   rw[hok]at hT hn;cases hll:oP s with
   |false=>rw[hll]at hT;have hT:T=([],4):=hT;rw[hT];simp only[wq.1,seval];exact aC.dat rfl
   |true=>rw[hll]at hT;have hT:T=(s,0):=hT;rw[hT];simp only[wq.1,seval];refine ag.ev hn rfl ?_;simp only[wq.1,seval];exact aC.dat rfl
 ·have e0:(u==[])=ac:=by simpa using h0
  unfold uU at hsp;simp only[wq.1,seval,e0];refine ag.ev hsp rfl ?_;cases hku:aW u with
  |false =>
   rw[if_neg (λh=>absurd h.2.1 (by decide))];simp only[wq.1,seval];refine ag.ev hL rfl ?_;cases hok:aW s with
   |false=>rw[hok]at hT hL;have hT:T=([],4):=hT;rw[hT];simp only[wq.1,seval];exact aC.dat rfl
   |true =>
    rw[hok]at hT hn;cases hll:oP s with
    |false=>rw[hll]at hT;have hT:T=([],4):=hT;rw[hT];simp only[wq.1,seval];exact aC.dat rfl
    |true=>rw[hll]at hT;have hT:T=(s,0):=hT;rw[hT];simp only[wq.1,seval];refine ag.ev hn rfl ?_;simp only[wq.1,seval];exact aC.dat rfl
  |true =>
   by_cases hsu:bC u=s
   ·rw[if_pos ⟨h0,rfl,hsu⟩];have e1:(bC u==s)=ab:=by simpa using hsu
    simp only[wq.1,seval,e1];exact aC.dat rfl
   ·rw[if_neg (λh=>hsu h.2.2)];have e1:(bC u==s)=ac:=by simpa using hsu
    simp only[wq.1,seval,e1];refine ag.ev hL rfl ?_;cases hok:aW s with
    |false=>rw[hok]at hT hL;have hT:T=([],4):=hT;rw[hT];simp only[wq.1,seval];exact aC.dat rfl
    |true =>
     rw[hok]at hT hn;cases hll:oP s with
     |false=>rw[hll]at hT;have hT:T=([],4):=hT;rw[hT];simp only[wq.1,seval];exact aC.dat rfl
     |true=>rw[hll]at hT;have hT:T=(s,0):=hT;rw[hT];simp only[wq.1,seval];refine ag.ev hn rfl ?_;simp only[wq.1,seval];exact aC.dat rfl
theorem Kt[MO](t:Tk)(hs:aa t.t<=1000000):Ev TE 72 [vi 3,t.v] (.tup [.str (Bj t).1,vi (Bj t).2]):=by
 have hr:=UG t.t hs;unfold Bj;refine ai Tryz.func72 rfl (by simp[nts]) (vm ?_);simp only[wq.1,seval,Tryz.results72];by_cases hk:t.k=0
 ·have e0:((t.k:Int) != 0)=ac:=by rw[hk];rfl
  have e2:((t.k:Int)==2)=ac:=by rw[hk];rfl
  rw[if_pos hk];simp only[wq.1,seval,e0,e2];refine⟨.bool ab,?_⟩;simp only[wq.1,seval];refine ag.ev hr rfl ?_;simp only[wq.1,seval];exact aC.dat rfl
 ·have e0:((t.k:Int) != 0)=ab:=by simp;omega
  rw[if_neg hk];cases e2:((t.k:Int)==2)with
  |true=>simp only[wq.1,seval,e0];exact aC.dat rfl
  |false=>simp only[wq.1,seval,e0];exact aC.dat rfl
theorem QS[MO](t:Tk)(s:S)(hs:aa t.t<=1000000):Ev TE 71 [t.v,.ip (vi 3),.ip (.str s)] (.bool (Xr s t)):=by have hw:=Kt t hs;unfold Xr;refine ai Tryz.func71 rfl (by simp[nts]) (vm ?_);simp only[wq.1,seval,Tryz.results71];refine ag.ev hw rfl ?_;simp only[wq.1,seval];exact aC.eq rfl rfl
theorem UH[MO](l:List Tk)(s:S)(hl:∀t∈l,aa t.t<=1000000):Ev TE 31 [vi 3,su l,.str s] (vi (qg l s)):=by
 have hix:=Wv l 71 [.ip (vi 3),.ip (.str s)] (Xr s) rfl rfl λt ht=>QS t s (hl t ht);have hidx:idx l (Xr s)=match l.findIdx? (Xr s)with|some i=>(i:Int)|none=>-1:=rfl
 have hlen:aa l<=aa l:=zrb _;unfold qg;refine ai Tryz.func31 rfl (by simp[nts]) (vm ?_);simp only[wq.1,seval,Tryz.results31];refine ag.lend hix (ax.cons (aC.dat (by simp only[aE,Ib])) (ax.cons (aC.fn ax.nil (ax.cons (aC.lp rfl (ax.dat rfl) rfl rfl (by simp[V.vc]) rfl) (ax.cons (aC.lp rfl (ax.dat rfl) rfl rfl (by simp[V.vc]) rfl) ax.nil))) ax.nil)) rfl ?_;rw[hidx];cases hfi:l.findIdx? (Xr s)with
 |none=>simp only[wq.1,seval];exact aC.dat rfl
 |some i =>
  have hi:i<aa l:=(List.findIdx?_eq_some_iff_getElem.1 hfi).1;have hge:ar ((i:Int)<0)=ac:=by simp
  have hgd:l.getD i ⟨0,[],0⟩=l[i]:=by rw[zqg,zqk hi];rfl
  simp only[wq.1,seval,hge,YE hi];rw[hgd];exact⟨⟨by omega,by omega⟩,aC.dat rfl⟩
end Go.Proofs.YthaijohbpdabfaaGreatDoor
