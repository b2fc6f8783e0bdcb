/- Lemmas for this claim, part F11: each holds under what it names. -/
import Derived.Test.YthaijohbpdabfaaGreatDoorXF10
import Derived.Test.YthaijohbpdabfaaGreatDoorXA7
import Derived.Test.YthaijohbpdabfaaGreatDoorXF02
import Derived.Test.YthaijohbpdabfaaGreatDoorXF08
import Derived.Test.YthaijohbpdabfaaGreatDoorXA8
import Derived.Test.YthaijohbpdabfaaGreatDoorXF03
set_option linter.all false
set_option maxRecDepth 20000
set_option maxHeartbeats 8000000
namespace Go.Proofs.YthaijohbpdabfaaGreatDoor
open Go Go.Proofs Go.Abs
open List renaming length → aa, replicate → ao
open Bool renaming true → ab, false → ac
open Option renaming some → al, none → aq
open Decidable renaming decide → ar
open Go.IntKind renaming wrap → aD
open Go.Result renaming andThen → aM
open Go.Abs.O renaming cells → am
open Go.Abs.V renaming drops → ap, dat → aE, dats → aL
theorem fJ{e:E}{n:Nat}{r:Option Nat}{c:Code}{Q:XE->Fr->H->Prop}{f:Fr}{h:H}(P:Fr->Prop)(hP:P f)(hw:∀f,P f->awp e n r c Q f h):awp e n r c Q f h:=hw f hP
theorem qM{α:Type}{p:α->Bool}:∀l:List α,l.dropWhile p=[]↔l.all p=ab
 |[]=>by simp
 |a::l=>by
  rw[List.dropWhile_cons,List.all_cons];cases hp:p a with
  |true=>simpa using qM l
  |false=>simp
theorem Gi{α:Type}{p:α->Bool}{a:α}{s:List α}:∀l:List α,l.dropWhile p=a::s->p a=ac
 |[],h=>by simp at h
 |b::l,h=>by
  rw[List.dropWhile_cons]at h;split at h
  ·exact Gi l h
  ·rename_i hb;injection h with h _;rw[<-h];simpa using hb
theorem Qz(row:S):(Lib.trimS row [45]==[])=kw row:=by
 have e:(λc:UInt8=>([45]:S).contains c)=λc=>c==45:=funext λc=>by simp only[List.contains_cons,List.contains_nil,Bool.or_false]
 rw[Bool.eq_iff_iff,beq_iff_eq];unfold Lib.trimS Lib.trimLeftS Lib.trimRightS kw;rw[e,qM,List.all_reverse];constructor
 ·intro h;have:row.reverse.dropWhile (λc=>c==45)=[]:=by
   cases ht:row.reverse.dropWhile (λc=>c==45)with
   |nil=>rfl
   |cons a s=>rw[ht,List.all_cons,Gi _ ht]at h;cases h
  rw[qM,List.all_reverse]at this;exact this
 ·intro h;have:row.reverse.dropWhile (λc=>c==45)=[]:=by rw[qM,List.all_reverse];exact h
  rw[this];rfl
theorem Xl[MO](row:S):Ev TE 210 [.str row] (.bool (kw row)):=by have h:=CY row [45] (by decide) (by decide);refine ai Tryz.func210 rfl (by simp[nts]) (vm ?_);simp only[wq.1,seval,Tryz.results210];refine ag.ev h rfl ?_;simp only[wq.1,seval,Qz];exact aC.dat rfl
theorem QA[MO](x:Li)(row:S)(hr:aa row<=1000000000):Ev TE 218 [.str row,.ip (.fn (.func 264) [] [.ip (liV x)])] (.bool (!jc x row)):=by have h:=zB x row hr;refine ai Tryz.func218 rfl (by simp[nts]) (vm ?_);simp only[wq.1,seval,Tryz.results218];refine ag.ev h rfl ?_;simp only[wq.1,seval];exact aC.dat rfl
def QB:Plan:= .take 2<| .alt 0 (.alt 1 (.alt 3 (onZ [4,5,6,7]<| .take 8<| .fin) (.one 4 (.alt 3 (onZ [5,6,7]<| .take 8<| .fin) (.one 5 (onZ [3,6,7]<| .take 8<| .fin))))) (.one 4 (.alt 1 (.alt 3 (onZ [5,6,7]<| .take 8<| .fin) (.one 5 (onZ [3,6,7]<| .take 8<| .fin))) (.one 5 (onZ [1,3,6,7]<| .take 8<| .fin))))) (.one 4 (.alt 0 (.alt 1 (.alt 3 (onZ [5,6,7]<| .take 8<| .fin) (.one 5 (onZ [3,6,7]<| .take 8<| .fin))) (.one 5 (onZ [1,3,6,7]<| .take 8<| .fin))) (.one 5 (onZ [0,1,3,6,7]<| .take 8<| .fin))))
def QC:Plan:= .alt 0 (.alt 1 (onZ [2,3,4]<| .take 5<| .fin) (.one 2 (onZ [1,3,4]<| .take 5<| .fin))) (.one 2 (onZ [0,1,3,4]<| .take 5<| .fin))
theorem rC[MO]{h:H}{id cap:Nat}{l:List S}{ex:List V}(hc:h[id]? =al (am (l.map V.str++ex))):aC TE h (.ls id 1 0 (aa l) cap) (aH l) :=
 CQ hc (ax.dat au) yu EE (by rw[zra])
theorem Xm(rows:List S)(x:Li):(((iW rows x:Nat):Int)==(aa rows:Int))=(iW rows x==aa rows):=by rw[Bool.eq_iff_iff,beq_iff_eq,beq_iff_eq,Int.ofNat_inj]
theorem Gj[MO]{n:Nat}(hn:n<=8):∀(F:Nat)(rows:List S),(∀r∈rows,aa r=n)->aa rows<=128->bH rows<F->Ev TE 157 [aH rows] (oH (vM F rows))
 |0,_,_,_,h=>by omega
 |F+1,rows,hr,hrl,hs=>by
  have hM:=mLx;have ih:=Gj (n:=n) hn F;have hr8:∀r∈rows,aa r<=8:=λr h=>by have:=hr r h;omega
  have hct:=Dc rows 210 [] kw (by simp[ens]) rfl λr _=>Xl r;refine ai Tryz.func157 rfl (by simp[nts]) ?_;refine vn ?_;simp only[wq.1,Nat.reduceLT,Tryz.results157];refine vn ?_;simp only[wq.1,Nat.reduceLT];refine aj ?_;refine aB ?_;refine vn ?_;simp only[wq.1,↓reduceIte,Nat.reduceEqDiff,Nat.reduceLT];unfold vM;by_cases h0:rows=[]
  ·have e0:((aa rows:Int)==0)=ab:=by rw[h0];rfl
   rw[if_pos h0];refine vm ?_;simp only[wq.1,↓reduceIte,Nat.reduceLT,Nat.reduceLeDiff,Nat.reduceAdd,reduceCtorEq,Nat.reduceMul,e0];exact⟨⟨rfl,by decide⟩,aC.ex rfl⟩
  have e0:((aa rows:Int)==0)=ac:=by rw[beq_eq_false_iff_ne];intro h;exact h0 (zse (by omega))
  rw[if_neg h0];by_cases h1:rows.any kw=ab
  ·rw[if_pos h1];rw[h1]at hct;refine vm ?_;simp only[wq.1,↓reduceIte,Nat.reduceEqDiff,Nat.reduceLT,e0];refine ag.ev hct (by simp only[aL,aE,au,zre]) ?_;simp only[wq.1,↓reduceIte,Nat.reduceLT,Nat.reduceLeDiff,Nat.reduceAdd,reduceCtorEq,Nat.reduceMul];exact⟨⟨rfl,by decide⟩,aC.ex rfl⟩
  have h1':rows.any kw=ac:=by simpa using h1
  rw[if_neg h1];rw[h1']at hct;obtain⟨r0,rs,erw⟩:∃r0 rs,rows=r0::rs:=by
   cases rows with
   |nil=>exact absurd rfl h0
   |cons a b=>exact⟨a,b,rfl⟩
  have hg0:(rows.map V.str).getD 0 .any= .str r0:=by rw[erw];rfl
  have hrpos:0<aa rows:=by rw[erw];simp
  have hr0m:r0∈rows:=by rw[erw];simp
  have hr0:aa r0<=8:=hr8 r0 hr0m;have hlr0:=DJ r0;refine vm ?_;simp only[wq.1,seval,e0];refine ag.ev hct (by simp only[aL,aE,au,zre]) ?_;simp only[wq.1,seval];show awp _ _ _ _ _ _ _;refine vn ?_;simp only[wq.1,Nat.reduceLT];refine gy ?_;refine mr (h':=[am [aH rows],am [.ls 2 2 0 0 0],am []]) (HLe.set (i:=1) (o':=am [.ls 2 2 0 0 0]) rfl (OLe.cells (zrb _) (cZ.cons dM cZ.nil))) ?_;refine vn ?_;simp only[wq.1,seval,hg0];refine⟨by omega,ag.ev (uN r0) rfl ?_⟩;simp only[wq.1];refine jr (n:=101) (q:=261) (first:=[]) (captured:=[.ip (.str r0)]) (by simp only[wq.1,↓reduceIte]) (by simp only[wq.1,↓reduceIte]) rfl (by decide) ?_;intro L hLd gets;obtain⟨cm,ecm⟩:∃cm:Nat->List Li,cm=λj=>((aX r0).take j).filter λx=>iW rows x==aa rows:=⟨_,rfl⟩;have hcm0:cm 0=[]:=by rw[ecm];rfl
  have hcml:∀j,aa (cm j)<=8:=λj=>by rw[ecm];exact Nat.le_trans (List.length_filter_le _ _) (by rw[zrl];omega)
  refine ag.mono (zA r0 (by omega) 4 _
   (λj h k=>(∀i<5,i≠2->k i=ac)/\∃t X,t 1= .lp 0 0/\t 4= .lp 1 0/\h=[am [aH rows],am [.ls 2 2 0 (aa (cm j)) (aa (cm j))],am (liC (cm j)),.misc .dfd,L t .ready aq]++X)
   (λc h k=>False) ?_ ?_) ?_
  ·exact⟨λi _ _=>rfl,_,[],rfl,rfl,by rw[zqp,hcm0];rfl⟩
  ·rintro i h k hi hk ⟨hk5,t,X,t1,t4,rfl⟩;rw[zra]at hi;obtain⟨y,hy⟩:∃y,y=(aX r0)[i]:=⟨_,rfl⟩;have hit:((aX r0).map λx=>[liV x])[i]'(by rw[zra];exact hi)=[liV y]:=by rw[List.getElem_map,<-hy]
   have hcs:cm (i+1)=cm i++(if iW rows y==aa rows then [y]else []):=by
    rw[ecm];show((aX r0).take (i+1)).filter _=_;rw[List.take_succ_eq_append_getElem hi,<-hy,List.filter_append]
    congr 1
    cases hb:iW rows y==aa rows<;>simp[hb]
   have hcnt:=Bg rows y (by omega) (λr h=>by have:=hr8 r h;omega);have hcml':=hcml i;rw[hit];obtain⟨C,hC⟩:∃C,C=liC (cm i):=⟨_,rfl⟩;have dC:∀q,ap q C=C:=λq=>by rw[hC];exact zD _
   have hCl:aa C=aa (cm i)*2:=by rw[hC,IB]
   obtain⟨c,ec⟩:∃c,c=aa (cm i):=⟨_,rfl⟩;rw[<-hC,<-ec];rw[<-ec]at hCl hcml';refine gets _ _ _ t rfl rfl (λlb=> ?_);have k0:=hk5 0 (by decide) (by decide);have k1:=hk5 1 (by decide) (by decide);have gE:∀o:O,(X++[o])[aa X]? =al o:=λo=>by simp
   have gS:∀o o':O,(X++[o]).set (aa X) o'=X++[o']:=λo o'=>by simp
   refine vm ?_;simp only[wq.1,seval,tZ,gE,gS];refine⟨t,rfl,?_⟩;refine aB ?_;refine vn ?_;simp only[wq.1,seval,t1,gE];refine⟨by decide +kernel,sZ.mk hcnt rfl (by simp only[aL,aE,au,zre]) ?_⟩;simp only[wq.1,↓reduceIte,Nat.reduceEqDiff,Nat.reduceLT,t1,Xm];cases hb:iW rows y==aa rows with
   |true =>
    rw[hb,if_pos rfl]at hcs;have hap:C++liF y=liC (cm (i+1)):=by rw[hcs,Qs,Qu,hC]
    have hcl1:aa (cm (i+1))=c+1:=by rw[hcs,zqa,ec];rfl
    refine vm ?_;simp only[wq.1,↓reduceIte,Nat.reduceEqDiff,Nat.reduceLT,Nat.reduceAdd,Nat.reduceBEq,reduceCtorEq,Nat.reduceMul,t4,gE,oM,XE.jump,dC,hCl,hLd];refine⟨⟨rfl,by decide⟩,rfl,⟨rfl,by omega,by omega⟩,_,_,rfl,λj hj h2=>by rw[hk5 j hj h2];simpa using h2,λi=>(t i).drop λx=>x==2,List.map (O.drop λx=>x==2) X++[am [vi y.1,vi y.2.toNat]],?_,?_,?_⟩
    ·show(t 1).drop _=_;rw[t1];rfl
    ·show(t 4).drop _=_;rw[t4];rfl
    ·rw[<-hap,hcl1];rfl
   |false=>rw[hb,if_neg (by decide),zqp]at hcs;refine vm ?_;simp only[wq.1,↓reduceIte,oM,XE.jump];refine⟨t,_,rfl,hk5,t,X++[am [vi y.1,vi y.2.toNat]],t1,t4,?_⟩;rw[hcs,<-hC,<-ec];rfl
  ·rintro ae h' p ⟨hp,hr⟩;cases ae with
   |pan v=>exact hr.elim
   |ret v =>
    rcases hr with⟨hk5,t,X,t1,t4,rfl⟩|⟨_,h⟩
    ·rw[zra];have hcf:cm (aa (aX r0))=bz rows:=by
      rw[ecm];show((aX r0).take _).filter _=_;rw[zrx,erw];rfl
     rw[hcf];have k0:=hk5 0 (by decide) (by decide);have k1:=hk5 1 (by decide) (by decide);have k3:=hk5 3 (by decide) (by decide);have k4:=hk5 4 (by decide) (by decide);refine⟨λi hi=> ?_,hp,t,_,aq,(by decide),rfl,?_⟩
     ·have hi:i=3:=by simpa [tK,tN]using hi
      subst hi;exact k3
     ·simp only[wq.1,Nat.reduceAdd,zY];obtain⟨CM,eCM⟩:∃CM,CM=bz rows:=⟨_,rfl⟩;have hCMl:aa CM<=8:=by rw[eCM,<-hcf];exact hcml _
      have hCMx:∀x∈CM,x∈aX r0:=λx hx=>by
       rw[eCM,<-hcf,ecm]at hx;have:=(List.mem_filter.1 hx).1
       rwa [zrx]at this
      have hCMr:∀r∈rows,∀x∈CM,x.1<aa r:=λr hrr x hx=>by have h1:=mQ (hCMx x hx);have h2:=hr r hrr;have h3:=hr r0 hr0m;omega
      rw[<-eCM];refine fJ (λf=>f.t 1= .lp 0 0/\f.t 4= .lp 1 0/\f.d=[3]) ⟨by simp only[wq.1,seval,k0],by simp only[wq.1,seval,k1],rfl⟩ ?_;rintro f ⟨t1',t4',hd⟩;obtain⟨p,hpp⟩:∃p:Nat->Bool,p=λj=>j==2||ar (5<=j):=⟨_,rfl⟩;refine yx p [am [aH rows],am [xh CM],.dead,.misc .dfd,L (λi=>(t i).drop p) .exhausted aq] ?_ ?_ (λi hi=>by rw[hd]at hi;rw[zrc.1 hi,hpp];rfl) ?_
      ·intro i hi;rcases i with _|_|_|_|_|i
       ·exact .inl rfl
       ·refine .inr ⟨_,_,rfl,rfl,.inr ⟨?_,J7 ?_ rfl⟩,trivial⟩
        ·rw[hpp];rfl
        ·rw[hpp];show al (am (ap _ _))=_;rw[zD]
       ·rw[hpp]at hi;cases hi
       ·exact .inl rfl
       ·refine .inl ?_;show al _=al (O.drop p _);rw[hLd]
       ·rw[hpp]at hi;simp at hi
      ·intro i o hi ho;rcases i with _|_|_|_|_|i
       ·rw[hpp]at hi;cases hi
       ·rw[hpp]at hi;cases hi
       ·injection ho with ho;exact ho.symm
       ·rw[hpp]at hi;cases hi
       ·rw[hpp]at hi;cases hi
       ·cases ho
      obtain⟨L2,hL2⟩:∃L2,L2=L (λi=>(t i).drop p) .exhausted aq:=⟨_,rfl⟩;rw[<-hL2];refine fJ (λf=>f.t 1= .lp 0 0/\f.t 4= .lp 1 0/\f.d=[3]) ⟨?_,?_,hd⟩ ?_
      ·show(f.t 1).drop p=_;rw[t1',hpp];rfl
      ·show(f.t 4).drop p=_;rw[t4',hpp];rfl
      clear hd t1' t4' f hL2 hpp p;rintro f ⟨t1,t4,hd⟩;refine aj ?_;refine vn ?_;simp only[wq.1,seval,t4];refine bP (b:=ar ((0:Int)<(aa CM:Int))) (by simp only[wq.1,↓reduceIte]) (by simp only[wq.1,↓reduceIte]) (λhc=> ?_) (λhc=> ?_)
      ·have hne:CM≠[]:=λe=>by rw[e]at hc;exact absurd hc (by decide)
       obtain⟨x,cs,hxc⟩:∃x cs,CM=x::cs:=by
        cases hcc:CM with
        |nil=>exact absurd hcc hne
        |cons a b=>exact⟨a,b,rfl⟩
       have hsz:bH (aS rows CM)<bH rows:=by rw[erw,hxc];exact iy (hCMx x (by rw[hxc];simp))
       have hdv:=zF rows CM (by omega) (by omega) (λr h=>by have:=hr8 r h;omega) hCMr;have hdl:∀r∈aS rows CM,aa r=n:=y5 hr;have hfc:=ih (aS rows CM) hdl (by unfold aS;rw[zra];exact hrl) (by omega);have hfl:=sQ F (aS rows CM) (λr h=>by have:=hdl r h;omega) (by omega);have hsl:=zq (m:=8) rows hr8;have hal:=DT CM (vM F (aS rows CM)) (by omega) (by omega) (λx hx=>by have:=hCMr r0 hr0m x hx;omega);rw[if_pos hne];refine vm ?_;simp only[wq.1,seval,t1,t4];refine⟨by decide +kernel,sZ.mk hdv rfl (by simp only[aL,aE,au,nJ,zre]) ?_⟩;simp only[wq.1,seval];refine sZ.mk hfc rfl (by simp only[aL,aE,au,zre]) ?_;simp only[wq.1,seval];refine sZ.mk hal rfl (by simp only[aL,aE,nJ,lC,zre]) ?_;simp only[wq.1,seval,hd];exact aC.dat (by simp only[aE,lC])
      ·have hne:CM=[]:=by have:=of_decide_eq_false hc;exact zse (by omega)
       rw[if_neg (by rw[hne];simp)];refine vm ?_;simp only[wq.1];show awp _ _ _ _ _ _ _;have hsl:=zq (m:=8) rows hr8;have hmo:Ev TE 215 [aH rows] (.tup [liV (jZ rows).1,vi (jZ rows).2]):=by
        rw[erw];exact Qy r0 rs (by rw[<-erw];omega) (λr h=>by have:=hr8 r (by rw[erw];exact h);omega)
       have hmk:=Dp rows;obtain⟨mx,mc,hmxc⟩:∃mx mc,jZ rows=(mx,mc):=⟨_,_,rfl⟩;rw[hmxc]at hmo hmk ⊢;dsimp only at hmo hmk ⊢;have hdd:ar ((mc:Int)<2)=ar (mc<2):=decide_eq_decide.2 (by omega);refine vn ?_;simp only[wq.1,seval,t1];refine ag.ev hmo (by simp only[aL,aE,au,zre]) ?_;simp only[wq.1,seval];refine aj ?_;refine vn ?_;simp only[wq.1,seval,hdd];refine bP (b:=ar (mc<2)) (by simp only[wq.1,↓reduceIte]) (by simp only[wq.1,↓reduceIte]) (λhm=> ?_) (λhm=> ?_)
       ·rw[if_pos (zqs hm)];refine vn ?_;simp only[wq.1,↓reduceIte,Nat.reduceEqDiff,Nat.reduceLT,Nat.reduceLeDiff,Nat.reduceAdd,reduceCtorEq,Nat.reduceMul,t1];refine⟨⟨rfl,by decide⟩,?_⟩;have hall:=λi=>DK (rows.take i);have hsz:=λi=>zq (m:=8) (rows.take i) λr h=>hr8 r (zsh h);have htl:∀i,aa (rows.take i)<=128:=λi=>by rw[zrl];omega
        obtain⟨acc,eacc⟩:∃acc:Nat->List Fo,acc=λi=>(⟨4,0,aa rows⟩:Fo)::(rows.take i).flatMap λr=>yZ (aX r) []:=⟨_,rfl⟩;have haccl:∀i,aa (acc i)<=2000:=λi=>by rw[eacc];have h1:=hall i;have h2:=hsz i;have h3:=htl i;simp only[zrt];omega
        have haccs:∀i (hi:i<aa rows),acc (i+1)=acc i++yZ (aX rows[i]) []:=λi hi=>by rw[eacc];show _::(rows.take (i+1)).flatMap _=_;rw[List.take_succ_eq_append_getElem hi,List.flatMap_append];simp
        refine vn ?_;simp only[wq.1,seval,t1];refine aF (λm f h=>∃i,m+i=aa rows/\f.t 62=aH rows/\f.t 63=vi (aa rows)/\f.t 64=vi i/\f.d=[3]/\((i=0/\f.t 8= .is ab 3 [foV ⟨4,0,aa rows⟩]/\h=[am [aH rows],am [xh CM],.dead,.misc .dfd,L2,am [vi mx.1,vi mx.2.toNat]])\/(f.t 8= .ls 6 3 0 (aa (acc i)) (aa (acc i))/\∃L4,h=[am [aH rows],am [xh CM],.dead,.misc .dfd,L4,am [vi mx.1,vi mx.2.toNat],am (foC (acc i))]))) (aa rows) ⟨0,by omega,by simp only[wq.1,seval],by simp only[wq.1,seval],by rfl,by simp only[wq.1,hd],.inl ⟨rfl,by simp only[wq.1,seval];rfl,rfl⟩⟩ ?_;clear t1 t4 hd f;rintro m f h ⟨i,hm,t62,t63,t64,hd,hst⟩;have hw:=az (show i<maxLen by omega);refine vn ?_;simp only[wq.1,Nat.reduceLT,t63,t64];refine vn ?_;simp only[wq.1,↓reduceIte];refine vcB.mk (λhlt=> ?_) (λhlt=> ?_)
        ·have hlt:i<aa rows:=by have:=zqs hlt;omega
         obtain⟨r,er⟩:∃r,r=rows[i]:=⟨_,rfl⟩;have hgr:=yG hlt .any;rw[<-er]at hgr;have hrm:r∈rows:=er▸zqu hlt;have hrl8:=hr8 r hrm;have hlir:=DJ r;have hacs:=haccs i hlt;rw[<-er]at hacs;have hal1:=haccl (i+1);rw[hacs,zqa]at hal1;have hall':Ev TE 213 [xh (aX r),.nils] (oH (yZ (aX r) [])):=(DT (aX r) [] (by omega) (by simp) (λx hx=>by have:=mQ hx;omega)).les (cZ.cons (VLe.refl _) (cZ.cons dw cZ.nil));obtain⟨A,eA⟩:∃A,A=yZ (aX r) []:=⟨_,rfl⟩;have hApos:0<aa A:=by
          have hfr:kw r=ac:=by rw[List.any_eq_false]at h1';simpa using h1' r hrm
          have hln:=List.length_pos_iff.2 (uF hfr);rw[eA];unfold yZ;rw[zqa,zqa,zra];omega
         rw[<-eA]at hacs hal1 hall';have hlen:aa (acc i)+aa A=aa (acc (i+1)):=by rw[hacs,zqa]
         have hfc:=vS (acc i);have dF:∀q,ap q (foC (acc i))=foC (acc i):=λq=>jk _;have hap:foC (acc i)++foC A=foC (acc (i+1)):=by rw[hacs,zC]
         simp only[wq.1];rcases hst with⟨rfl,t8,rfl⟩|⟨t8,L4,rfl⟩
         ·have hacc0:acc 0=[⟨4,0,aa rows⟩]:=by rw[eacc];rfl
          refine vm ?_;simp only[wq.1,↓reduceIte,Nat.reduceEqDiff,Nat.reduceLT,t8,t62,t64,hgr];refine⟨⟨by omega,by omega⟩,ag.ev (uN r) rfl ?_⟩;simp only[wq.1,seval];refine ag.ev (wL r (by omega)) rfl ?_;simp only[wq.1,seval];refine ag.ev hall' (by simp only[aL,aE,nJ,zre]) ?_;simp only[wq.1,↓reduceIte,Nat.reduceEqDiff,Nat.reduceLT,Nat.reduceAdd,reduceCtorEq,t64,hw,IC];have hlen':1+aa A=aa (acc 1):=by rw[<-hlen,hacc0];rfl
          rw[hacc0]at hap hlen;refine⟨vT A,⟨rfl,.inr hApos,by omega,by omega⟩,.inl ⟨m-1,by omega,1,by omega,by simp only[wq.1,↓reduceIte,Nat.reduceEqDiff,Nat.reduceLT,Nat.reduceLeDiff,Nat.reduceAdd,Nat.reduceSub,Int.reduceToNat,Nat.reduceDiv,Int.reduceLT,Int.reduceLE,Int.reduceNeg,Int.reduceBEq,Int.reduceBNe,Int.reduceAdd,Int.reduceSub,Nat.reduceBEq,reduceCtorEq,Nat.reduceMul,ay,Tryz.results157,t62],by simp only[wq.1,↓reduceIte,Nat.reduceEqDiff,Nat.reduceLT,Nat.reduceLeDiff,Nat.reduceAdd,Nat.reduceSub,Int.reduceToNat,Nat.reduceDiv,Int.reduceLT,Int.reduceLE,Int.reduceNeg,Int.reduceBEq,Int.reduceBNe,Int.reduceAdd,Int.reduceSub,Nat.reduceBEq,reduceCtorEq,Nat.reduceMul,ay,Tryz.results157,t63],by simp only[wq.1,↓reduceIte,Nat.reduceEqDiff,Nat.reduceLT,Nat.reduceLeDiff,Nat.reduceAdd,Nat.reduceSub,Int.reduceToNat,Nat.reduceDiv,Int.reduceLT,Int.reduceLE,Int.reduceNeg,Int.reduceBEq,Int.reduceBNe,Int.reduceAdd,Int.reduceSub,Nat.reduceBEq,reduceCtorEq,Nat.reduceMul,ay,Tryz.results157],by simp only[wq.1,↓reduceIte,Nat.reduceEqDiff,Nat.reduceLT,Nat.reduceLeDiff,Nat.reduceAdd,Nat.reduceSub,Int.reduceToNat,Nat.reduceDiv,Int.reduceLT,Int.reduceLE,Int.reduceNeg,Int.reduceBEq,Int.reduceBNe,Int.reduceAdd,Int.reduceSub,Nat.reduceBEq,reduceCtorEq,Nat.reduceMul,ay,Tryz.results157,hd],.inr ⟨by simp only[wq.1,↓reduceIte,Nat.reduceEqDiff,Nat.reduceLT,Nat.reduceLeDiff,Nat.reduceAdd,Nat.reduceSub,Int.reduceToNat,Nat.reduceDiv,Int.reduceLT,Int.reduceLE,Int.reduceNeg,Int.reduceBEq,Int.reduceBNe,Int.reduceAdd,Int.reduceSub,Nat.reduceBEq,reduceCtorEq,Nat.reduceMul,ay,Tryz.results157,hlen'],L2,?_⟩⟩⟩;rw[<-hap];rfl
         ·refine vm ?_;simp only[wq.1,seval,t8,t62,t64,hgr];refine⟨⟨by omega,by omega⟩,ag.ev (uN r) rfl ?_⟩;simp only[wq.1,seval];refine ag.ev (wL r (by omega)) rfl ?_;simp only[wq.1,seval];refine ag.ev hall' (by simp only[aL,aE,nJ,zre]) ?_;simp only[wq.1,seval,hd,t64,hw,dF,hfc,IC,jk];refine⟨vT A,⟨uO A,by omega,by omega⟩,.inl ⟨m-1,by omega,i+1,by omega,by simp only[wq.1,seval,t62],by simp only[wq.1,seval,t63],by simp only[wq.1,↓reduceIte],by simp only[wq.1,hd],.inr ⟨by simp only[wq.1,seval,hlen],O.drop (λx=>x==6) L4,?_⟩⟩⟩;rw[hap]
        ·have hi:i=aa rows:=by have:=of_decide_eq_false hlt;omega
         have hfin:acc (aa rows)=⟨4,0,aa rows⟩::rows.flatMap λr=>yZ (aX r) []:=by rw[eacc];show _::(rows.take (aa rows)).flatMap _=_;rw[zrx]
         rw[<-hfin];rcases hst with⟨h00,_⟩|⟨t8,L4,rfl⟩
         ·omega
         ·rw[hi]at t8 ⊢;refine vm ?_;simp only[wq.1,seval,t8,hd];exact xM rfl rfl
       ·rw[if_neg (of_decide_eq_false hm)];refine vm ?_;simp only[wq.1];show awp _ _ _ _ _ _ _;refine vn ?_;simp only[wq.1,seval];refine ag.ev (J4 mx) rfl ?_;simp only[wq.1,seval];refine vn ?_;simp only[wq.1,seval];refine fJ (λf=>f.t 1= .lp 0 0/\f.t 6= .lp 5 0/\f.t 11= .lp 6 0/\f.t 12= .fn (.func 218) [] [.lp 6 0]/\f.d=[3]) ⟨by simp only[wq.1,seval,t1],by simp only[wq.1,seval],by simp only[wq.1,seval],by simp only[wq.1,↓reduceIte],by simp only[wq.1,hd]⟩ ?_;clear t1 t4 hd f;rintro f ⟨t1,t6,t11,t12,hd⟩;obtain⟨p,hpp⟩:∃p:Nat->Bool,p=λj=>j==6:=⟨_,rfl⟩;refine xA p (λi=>if i=11 then .ip (.fn (.func 264) [] [.ip (liV mx)])else if i=12 then .fn (.func 218) [] [.ip (.fn (.func 264) [] [.ip (liV mx)])]else(f.t i).drop p) (λi=> ?_) (λi hi=>by rw[hd]at hi;rw[zrc.1 hi,hpp];rfl) ?_
        ·have hlp:aC TE (rQ p 0 [am [aH rows],am [xh CM],O.dead,O.misc Misc.dfd,L2,am [vi mx.1,vi mx.2.toNat],am [V.fn (Fn.func 264) [] [(liV mx).ip]]]) (.lp 6 0) (.ip (.fn (.func 264) [] [.ip (liV mx)])):=by rw[hpp];exact aC.lp rfl (ax.dat rfl) rfl rfl (by simp[V.vc]) rfl
         by_cases h11:i=11
         ·subst h11;refine .inr ⟨?_,?_⟩
          ·rw[t11,hpp];rfl
          ·rw[t11];exact hlp
         ·rw[if_neg h11];by_cases h12:i=12
          ·subst h12;refine .inr ⟨?_,?_⟩
           ·rw[t12,hpp];rfl
           ·rw[t12];exact aC.fn ax.nil (ax.cons hlp ax.nil)
          ·rw[if_neg h12];exact .inl rfl
        obtain⟨L3,hL3⟩:∃L3,L3=L2.drop p:=⟨_,rfl⟩;have hdp:jv p 0 [am [aH rows],am [xh CM],O.dead,O.misc Misc.dfd,L2,am [vi mx.1,vi mx.2.toNat],am [V.fn (Fn.func 264) [] [(liV mx).ip]]]=[am [aH rows],am [xh CM],O.dead,O.misc Misc.dfd,L3,am [vi mx.1,vi mx.2.toNat],.dead]:=by rw[hL3,hpp];rfl
        rw[hdp];refine fJ (λf=>f.t 1= .lp 0 0/\f.t 6= .lp 5 0/\f.t 11= .ip (.fn (.func 264) [] [.ip (liV mx)])/\f.t 12= .fn (.func 218) [] [.ip (.fn (.func 264) [] [.ip (liV mx)])]/\f.d=[3]) ⟨?_,?_,rfl,rfl,hd⟩ ?_
        ·show(f.t 1).drop p=_;rw[t1,hpp];rfl
        ·show(f.t 6).drop p=_;rw[t6,hpp];rfl
        clear t1 t6 t11 t12 hd f hL3 hdp hpp p;rintro f ⟨t1,t6,t11,t12,hd⟩;have hcl:=qE rows (by omega);have hdel1:=λ(h:H)(hid:h[7]? =al (am (rows.map V.str)))=>@Gg _ h 7 rows hid (by omega) 218 [.ip (.fn (.func 264) [] [.ip (liV mx)])] (λr=> !jc mx r) (by simp[ens]) rfl (λr hrr=>QA mx r (by have:=hr8 r hrr;omega));have hdel2:=λ(h:H)(hid:h[8]? =al (am (rows.map V.str)))=>@Gg _ h 8 rows hid (by omega) 264 [.ip (liV mx)] (λr=>jc mx r) (by simp[ens]) rfl (λr hrr=>zB mx r (by have:=hr8 r hrr;omega));have hnn:(rows.filter λr=> !(!jc mx r))=rows.filter (jc mx):=by simp only[Bool.not_not]
        obtain⟨RH,eRH⟩:∃RH,RH=rows.filter (jc mx):=⟨_,rfl⟩;obtain⟨RN,eRN⟩:∃RN,RN=rows.filter λr=> !jc mx r:=⟨_,rfl⟩;rw[hnn]at hdel1;rw[<-eRH]at hdel1 ⊢;rw[<-eRN]at hdel2 ⊢;have hRHm:∀r∈RH,r∈rows/\jc mx r=ab:=λr h=>by rw[eRH]at h;exact List.mem_filter.1 h
        have hcnt:2<=iW rows mx:=by have:=of_decide_eq_false hm;rcases hmk with⟨h,_⟩|⟨_,h⟩<;>omega
        have hRHl:aa RH<=128:=by rw[eRH];exact Nat.le_trans (List.length_filter_le _ _) hrl
        have hmr:∀r∈RH,∀x∈[mx],x.1<aa r:=λr h x hx=>by rw[zrc.1 hx];have:=mQ (lw (hRHm r h).2);omega
        have hdv:=zF RH [mx] (by simp) (by omega) (λr h=>by have:=hr8 r (hRHm r h).1;omega) hmr;obtain⟨q0,qs,hq⟩:∃q0 qs,RH=q0::qs:=by
         cases hf:RH with
         |nil=>exfalso;unfold iW at hcnt;rw[List.countP_eq_length_filter,<-eRH,hf]at hcnt;simp at hcnt
         |cons a b=>exact⟨a,b,rfl⟩
        have hq0:mx∈aX q0:=lw (hRHm q0 (by rw[hq];simp)).2;have s1:bH (aS RH [mx])<bH RH:=by rw[hq];exact iy hq0
        have s2:bH RH<=bH rows:=by rw[eRH];exact lu _ _
        have hfc:=ih (aS RH [mx]) (y5 λr h=>hr r (hRHm r h).1) (by unfold aS;rw[zra];exact hRHl) (by omega);have hdv2:Ev TE 214 [aH RH,.is ab 2 [liV mx]] (aH (aS RH [mx])):=hdv.les (cZ.cons (VLe.refl _) (cZ.cons dA cZ.nil));have hRNm:∀r∈RN,r∈rows:=λr h=>by rw[eRN]at h;exact(List.mem_filter.1 h).1
        have hRNl:aa RN<=128:=by rw[eRN];exact Nat.le_trans (List.length_filter_le _ _) hrl
        have s3:bH RN<bH rows:=by rw[eRN];exact jD ⟨q0,(hRHm q0 (by rw[hq];simp)).1,by rw[(hRHm q0 (by rw[hq];simp)).2];rfl⟩
        have hfn:=ih RN (λr h=>hr r (hRNm r h)) hRNl (by omega);have hq8:∀r∈aS RH [mx],aa r<=8:=λr h=>by have:=y5 (λr h=>hr r (hRHm r h).1) r h;omega
        have hfl1:=sQ F (aS RH [mx]) hq8 (by omega);have hfl2:=sQ F RN (λr h=>hr8 r (hRNm r h)) (by omega);obtain⟨Q1,eQ1⟩:∃Q1,Q1=vM F (aS RH [mx]):=⟨_,rfl⟩;obtain⟨Q2,eQ2⟩:∃Q2,Q2=vM F RN:=⟨_,rfl⟩;rw[<-eQ1]at hfc hfl1 ⊢;rw[<-eQ2]at hfn hfl2 ⊢;refine aj (dE mixed QB (λf' h'=>f'.t 1= .lp 0 0/\f'.t 6= .lp 5 0/\f'.t 11= .ip (.fn (.func 264) [] [.ip (liV mx)])/\f'.t 13=oH Q1/\f'.d=[3]/\∃L4,h'=[am [aH rows],am [xh CM],.dead,.misc .dfd,L4,am [vi mx.1,vi mx.2.toNat],.dead,.dead]) (by rw[TEP];decide +kernel) (by decide +kernel) ?_ ?_)
        ·have hdp24:∀X:List V,jv (λj=>j==7) 0 [am [aH rows],am [xh CM],O.dead,O.misc Misc.dfd,L3,am [vi mx.1,vi mx.2.toNat],O.dead,am (List.map V.str RH++X)]=[am [aH rows],am [xh CM],O.dead,O.misc Misc.dfd,O.drop (λj=>j==7) L3,am [vi mx.1,vi mx.2.toNat],O.dead,O.dead]:=λX=>rfl;simp only[wq.1,seval,QB,t1,t6,t12]
         repeat' apply zsa
         all_goals first|exact rfl|exact(by decide)|skip
         all_goals refine kF hcl (by simp only[aL,aE,au,zre]) au ?_
         all_goals simp only[wq.1,seval,t6]
         all_goals repeat' apply zsa
         all_goals first|exact rfl|exact(by decide)|skip
         all_goals refine hdel1 _ rfl λX cap=> ?_
         all_goals simp only[wq.1,seval,t6]
         all_goals repeat' apply zsa
         all_goals first|exact rfl|exact(by decide)|skip
         all_goals refine rU (λj=>j==7) hdv2 rfl (ax.cons (rC (ex:=ap (λj=> !(j==7)) X) (by show al (am (ap _ _))=_;rw[fQ,aN])) (ax.cons (aC.dat rfl) ax.nil)) ?_
         all_goals rw[hdp24 X]
         all_goals simp only[wq.1,seval,bu,hd]
         all_goals refine ag.ev hfc (by simp only[aL,aE,au,zre]) ?_
         all_goals simp only[wq.1,seval,t1,t6,t11,hd]
         all_goals exact⟨_,rfl⟩
        ·clear t1 t6 t11 t12 hd;rintro f h ⟨t1,t6,t11,t13,hd,L4,rfl⟩;show awp _ _ _ _ _ _ _;have hdp25:∀X:List V,jv (λj=>j==8) 0 [am [aH rows],am [xh CM],O.dead,O.misc Misc.dfd,L4,am [vi mx.1,vi mx.2.toNat],O.dead,O.dead,am (List.map V.str RN++X)]=[am [aH rows],am [xh CM],O.dead,O.misc Misc.dfd,O.drop (λj=>j==8) L4,am [vi mx.1,vi mx.2.toNat],O.dead,O.dead,O.dead]:=λX=>rfl;refine aj (dE mixed QC (λf' h'=>f'.t 6= .lp 5 0/\f'.t 13=oH Q1/\f'.t 14=oH Q2/\f'.d=[3]/\∃L5,h'=[am [aH rows],am [xh CM],.dead,.misc .dfd,L5,am [vi mx.1,vi mx.2.toNat],.dead,.dead,.dead]) (by rw[TEP];decide +kernel) (by decide +kernel) ?_ ?_)
         ·simp only[wq.1,seval,QC,t1,t11]
          repeat' apply zsa
          all_goals refine kF hcl (by simp only[aL,aE,au,zre]) au ?_
          all_goals simp only[wq.1,seval,t11]
          all_goals repeat' apply zsa
          all_goals refine hdel2 _ rfl λX cap=> ?_
          all_goals simp only[wq.1,seval]
          all_goals refine rU (λj=>j==8) hfn rfl (ax.cons (rC (ex:=ap (λj=> !(j==8)) X) (by show al (am (ap _ _))=_;rw[fQ,aN])) ax.nil) ?_
          all_goals rw[hdp25 X]
          all_goals simp only[wq.1,↓reduceIte,Nat.reduceEqDiff,Nat.reduceLT,Nat.reduceLeDiff,Nat.reduceAdd,Nat.reduceSub,Int.reduceToNat,Nat.reduceDiv,Int.reduceLT,Int.reduceLE,Int.reduceNeg,Int.reduceBEq,Int.reduceBNe,Int.reduceAdd,Int.reduceSub,Nat.reduceBEq,reduceCtorEq,Nat.reduceMul,ay,Tryz.results157,bu,t1,t6,t11,t13,hd]
          all_goals exact⟨_,rfl⟩
         ·clear t1 t6 t11 t13 hd;rintro f h ⟨t6,t13,t14,hd,L5,rfl⟩;show awp _ _ _ _ _ _ _;have hal:=DT [mx] Q1 (by simp) (by omega) (λx hx=>by
           rw[zrc.1 hx];have:=mQ hq0;have:=hr8 q0 (hRHm q0 (by rw[hq];simp)).1;omega)
          have hal2:Ev TE 213 [.is ab 2 [liV mx],oH Q1] (oH (yZ [mx] Q1)):=hal.les (cZ.cons dA (cZ.cons (VLe.refl _) cZ.nil));have hall1:=DI [mx] Q1;obtain⟨A,eA⟩:∃A,A=yZ [mx] Q1:=⟨_,rfl⟩;rw[<-eA]at hal2 hall1 ⊢;have hcat:=IG [[⟨4,0,2⟩],A,Q2] (by simp at hall1 ⊢;omega) (by simp);have hflat:[[(⟨4,0,2⟩:Fo)],A,Q2].flatten=⟨4,0,2⟩::(A++Q2):=by simp
          rw[hflat]at hcat;have hcat2:Ev TE 220 [.is ab 1 [.is ab 3 [foV ⟨4,0,2⟩],oH A,oH Q2]] (oH (⟨4,0,2⟩::(A++Q2))):=by
           refine hcat.les (cZ.cons (VLe.is rfl λi v v' h1 h2=> ?_) cZ.nil);rcases i with _|_|_|i
           ·injection h1 with h1;injection h2 with h2;rw[<-h1,<-h2];exact dA
           ·injection h1 with h1;injection h2 with h2;rw[<-h1,<-h2];exact VLe.refl _
           ·injection h1 with h1;injection h2 with h2;rw[<-h1,<-h2];exact VLe.refl _
           ·cases h1
          refine vm ?_;simp only[wq.1,↓reduceIte,Nat.reduceEqDiff,Nat.reduceLT,Nat.reduceLeDiff,Nat.reduceAdd,Nat.reduceSub,Int.reduceToNat,Nat.reduceDiv,Int.reduceLT,Int.reduceLE,Int.reduceNeg,Int.reduceBEq,Int.reduceBNe,Int.reduceAdd,Int.reduceSub,Nat.reduceBEq,reduceCtorEq,Nat.reduceMul,ay,Tryz.results157,t6,t13,t14,hd];refine⟨⟨rfl,by decide⟩,⟨rfl,by decide⟩,ag.ev hal2 (by simp only[aL,aE,lC,zre]) ?_⟩;simp only[wq.1,↓reduceIte,Nat.reduceEqDiff,Nat.reduceLT,reduceCtorEq,Nat.reduceMul,t14];refine⟨⟨rfl,by decide⟩,ag.ev hcat2 (by simp only[aL,aE,lC,zre]) ?_⟩;simp only[wq.1,seval,hd];exact aC.dat (by simp only[aE,lC])
    ·exact h.elim
theorem UB(c:List S)(s:S):ar (0<=idx c (·==s))=c.contains s:=by
 unfold idx;rw[Bool.eq_iff_iff,zqb];cases h:c.findIdx? (·==s)with
 |none =>
  rw[List.findIdx?_eq_none_iff]at h;constructor
  ·intro h';exact absurd h' (by decide)
  ·intro h';have:=h s (List.contains_iff_mem.1 h');simp at this
 |some i =>
  obtain⟨hi,hp,_⟩:=List.findIdx?_eq_some_iff_getElem.1 h;constructor
  ·intro _;rw[List.contains_iff_mem];have:c[i]=s:=by simpa using hp
   rw[<-this];exact zqu hi
  ·intro _;exact Int.natCast_nonneg i
theorem qN[MO](c:List S)(s:S):Ev TE 63 [aH c,.str s] (vi (idx c (·==s))):=by
 refine Ev.bnd λhb=> ?_;have hlen:=CV hb;refine ai Tryz.func63 rfl (by simp[nts]) (vm ?_);simp only[wq.1,seval,Tryz.results63];refine aF (λm f h=>∃i,m+i=aa c/\f.t 0=aH c/\f.t 1= .str s/\f.t 6=aH c/\f.t 7=vi (aa c)/\f.t 8=vi i/\f.d=[]/\∀x∈c.take i,(x==s)=ac) (aa c) ⟨0,by simp,rfl,rfl,rfl,rfl,rfl,rfl,by simp⟩ ?_;rintro m f h ⟨i,hm,h0,h1,h6,h7,h8,hd,hall⟩;refine vm ?_;simp only[wq.1,seval,h7,h8];refine vcB.mk (λhc=> ?_) (λhc=> ?_)
 ·have hlt:i<aa c:=by have:=zqs hc;omega
  have hgs:=yG hlt;simp only[wq.1,seval,h0,h1,h8,hgs];refine⟨⟨by omega,by omega⟩,?_⟩;cases hp:(s==c[i])with
  |true =>
   have hp':(c[i]==s)=ab:=by simpa using(by simpa using hp:s=c[i]).symm
   simp only[wq.1,seval,hd];have:idx c (·==s)=i:=by
    unfold idx;have:c.findIdx? (·==s)=al i:=List.findIdx?_eq_some_iff_getElem.2 ⟨hlt,hp',λj hj=>by
     have:=hall c[j] (List.mem_take_iff_getElem.2 ⟨j,by omega,rfl⟩);simp[this]⟩
    rw[this]
   rw[this];exact aC.dat rfl
  |false =>
   have hp':(c[i]==s)=ac:=by rw[beq_eq_false_iff_ne]at hp ⊢;exact λe=>hp e.symm
   simp only[wq.1,seval,h8,az (show i<maxLen by simp only[maxLen]at *;omega)];exact .inl ⟨m-1,by omega,i+1,by omega,h0,h1,h6,h7,rfl,hd,bY hlt hall hp'⟩
 ·have hi:i=aa c:=by have:=of_decide_eq_false hc;omega
  rw[hi,zrx]at hall;have:idx c (·==s)=-1:=by
   unfold idx;rw[List.findIdx?_eq_none_iff.2 hall]
  rw[this];simp only[wq.1,seval,hd];exact aC.dat rfl
theorem DU[MO](c:List S)(s:S):Ev TE 156 [aH c,.str s] (.bool (c.contains s)):=by have h:=qN c s;refine ai Tryz.func156 rfl (by simp[nts]) (vm ?_);simp only[wq.1,seval,Tryz.results156];refine ag.ev h (by simp only[aL,aE,au,zre]) ?_;simp only[wq.1,seval];exact aC.eq rfl (congrArg V.bool (UB c s))
theorem UC[MO](s:S)(n:Nat):Ev TE 153 [.str s,.ip (vi n)] (.bool (!mO n s)):=by have ht:=CY s [48,49,45] (by decide) (by decide);rw[<-Jw];refine ai Tryz.func153 rfl (by simp[nts]) (vm ?_);simp only[wq.1,seval,Tryz.results153];refine GY.ev (q:=154) (vs:=[.str s,.str [48,49,45]]) (by simp only[wq.1,seval]) (by simp only[wq.1,seval]) rfl (λ_=>ht) (λ_=>rfl) ?_;simp only[wq.1,seval];refine aC.eq rfl ?_;cases h1:((aa s:Int)==(n:Int))<;>cases h2:(Lib.trimS s [48,49,45]==[])<;>simp_all [bne]
theorem QD(rows:List S)(r:S):bJ (rows++[r])=if(bJ rows).contains r=ab then bJ rows else bJ rows++[r]:=by unfold bJ;rw[List.foldl_append];rfl
theorem QE[MO](rows:List S)(n:Nat)(hn:n<=8)(hrl:aa rows<=128)(hr:∀r∈rows,mO n r=ab):Ev TE 90 [aH rows,vi n] (.tup [oH (PS (bJ rows)),vi 0]):=by
 have hM:=mLx;have hul:∀i,aa (bJ (rows.take i))<=i:=λi=>by have:=DL (rows.take i) [];rw[zrl]at this;simp only[List.length_nil]at this;unfold bJ;omega
 have hm:∀r∈bJ rows,aa r=n:=λr hr2=>by
  rcases lX rows [] r hr2 with h|h
  ·cases h
  ·have:=hr r h;unfold mO at this;simp only[zqf,beq_iff_eq]at this;exact this.1
 have hct:=Dc rows 153 [.ip (vi n)] (λr=> !mO n r) (by simp[ens]) rfl λr _=>UC r n;have hany:rows.any (λr=> !mO n r)=ac:=by rw[List.any_eq_false];intro r h;rw[hr r h];decide
 rw[hany]at hct;have e1:ar ((n:Int)<0)=ac:=by rw[zqd];omega
 have e2:ar ((8:Int)<(n:Int))=ac:=by rw[zqd];omega
 have e3:ar ((128:Int)<(aa rows:Int))=ac:=by rw[zqd];omega
 refine ai Tryz.func90 rfl (by simp[nts]) ?_;refine vn ?_;simp only[wq.1,Nat.reduceLT,Tryz.results90];refine vn ?_;simp only[wq.1,seval];refine aj ?_;refine vn ?_;simp only[wq.1,seval,e1,e2,e3];refine ag.lend hct (ax.cons (aC.dat (by simp only[aE,au])) (ax.cons (aC.fn ax.nil (ax.cons (aC.lp rfl (ax.dat rfl) rfl rfl (by simp[V.vc]) rfl) ax.nil)) ax.nil)) rfl ?_;simp only[wq.1,seval];refine vm ?_;simp only[wq.1,↓reduceIte];show awp _ _ _ _ _ _ _;refine vn ?_;simp only[wq.1,Nat.reduceLT];refine iG 7 1 (by simp only[wq.1,↓reduceIte]) ?_;refine vn ?_;simp only[wq.1,seval];refine aF (λm f h=>∃i,m+i=aa rows/\h[1]? =al (am ((bJ (rows.take i)).map V.str))/\f.t 7= .ls 1 1 0 (aa (bJ (rows.take i))) (aa (bJ (rows.take i)))/\f.t 27=aH rows/\f.t 28=vi (aa rows)/\f.t 29=vi i/\f.d=[]) (aa rows) ⟨0,by omega,rfl,by simp only[wq.1,seval];rfl,by simp only[wq.1,seval],by simp only[wq.1,seval],by rfl,by simp only[wq.1]⟩ ?_;rintro m f h ⟨i,hm2,h1,t7,t27,t28,t29,hd⟩;have hw:=az (show i<maxLen by omega);have l1:=(zqe h1).1;refine vn ?_;simp only[wq.1,Nat.reduceLT,t28,t29];refine vn ?_;simp only[wq.1,↓reduceIte];refine vcB.mk (λhlt=> ?_) (λhlt=> ?_)
 ·have hlt:i<aa rows:=by have:=zqs hlt;omega
  obtain⟨r,er⟩:∃r,r=rows[i]:=⟨_,rfl⟩;have hg:=yG hlt .any;rw[<-er]at hg;have hus:bJ (rows.take (i+1))=if(bJ (rows.take i)).contains r=ab then bJ (rows.take i)else bJ (rows.take i)++[r]:=by rw[List.take_succ_eq_append_getElem hlt,<-er,QD]
  have hul':=hul i;obtain⟨U,eU⟩:∃U,U=bJ (rows.take i):=⟨_,rfl⟩;rw[<-eU]at hus h1 t7 hul';have hcs:=DU U r;have dU:∀p,ap p (U.map V.str)=U.map V.str:=λp=>aN;simp only[wq.1];refine vm ?_;simp only[wq.1,seval,t7,t27,t29,hg];refine⟨⟨by omega,by omega⟩,ag.lend hcs (ax.cons (aV h1 rfl) (ax.cons (aC.dat rfl) ax.nil)) rfl ?_⟩;cases hc:U.contains r with
  |true=>rw[hc,if_pos rfl]at hus;simp only[wq.1,seval,t29,hw];exact .inl ⟨m-1,by omega,i+1,by omega,by rw[hus];exact h1,by simp only[wq.1,seval,t7,hus],by simp only[wq.1,seval,t27],by simp only[wq.1,seval,t28],by simp only[wq.1,↓reduceIte],by simp only[wq.1,hd]⟩
  |false =>
   rw[hc,if_neg (by decide)]at hus;have hln:aa (U++[r])=aa U+1:=by simp
   simp only[wq.1,↓reduceIte,Nat.reduceEqDiff,Nat.reduceLT,reduceCtorEq,Nat.reduceMul,t7,t29,hd,hw,h1];refine⟨⟨rfl,by decide⟩,⟨by omega,by omega⟩,.inl ⟨m-1,by omega,i+1,by omega,?_,by simp only[wq.1,↓reduceIte,Nat.reduceEqDiff,Nat.reduceLT,Nat.reduceLeDiff,Nat.reduceAdd,Nat.reduceSub,Int.reduceToNat,Nat.reduceDiv,Int.reduceLT,Int.reduceLE,Int.reduceNeg,Int.reduceBEq,Int.reduceBNe,Int.reduceAdd,Int.reduceSub,Nat.reduceBEq,reduceCtorEq,Nat.reduceMul,ay,Tryz.results90,hus,hln],by simp only[wq.1,↓reduceIte,Nat.reduceEqDiff,Nat.reduceLT,Nat.reduceLeDiff,Nat.reduceAdd,Nat.reduceSub,Int.reduceToNat,Nat.reduceDiv,Int.reduceLT,Int.reduceLE,Int.reduceNeg,Int.reduceBEq,Int.reduceBNe,Int.reduceAdd,Int.reduceSub,Nat.reduceBEq,reduceCtorEq,Nat.reduceMul,ay,Tryz.results90,t27],by simp only[wq.1,↓reduceIte,Nat.reduceEqDiff,Nat.reduceLT,Nat.reduceLeDiff,Nat.reduceAdd,Nat.reduceSub,Int.reduceToNat,Nat.reduceDiv,Int.reduceLT,Int.reduceLE,Int.reduceNeg,Int.reduceBEq,Int.reduceBNe,Int.reduceAdd,Int.reduceSub,Nat.reduceBEq,reduceCtorEq,Nat.reduceMul,ay,Tryz.results90,t28],by simp only[wq.1,↓reduceIte,Nat.reduceEqDiff,Nat.reduceLT,Nat.reduceLeDiff,Nat.reduceAdd,Nat.reduceSub,Int.reduceToNat,Nat.reduceDiv,Int.reduceLT,Int.reduceLE,Int.reduceNeg,Int.reduceBEq,Int.reduceBNe,Int.reduceAdd,Int.reduceSub,Nat.reduceBEq,reduceCtorEq,Nat.reduceMul,ay,Tryz.results90],by simp only[wq.1,↓reduceIte,Nat.reduceEqDiff,Nat.reduceLT,Nat.reduceLeDiff,Nat.reduceAdd,Nat.reduceSub,Int.reduceToNat,Nat.reduceDiv,Int.reduceLT,Int.reduceLE,Int.reduceNeg,Int.reduceBEq,Int.reduceBNe,Int.reduceAdd,Int.reduceSub,Nat.reduceBEq,reduceCtorEq,Nat.reduceMul,ay,Tryz.results90,hd]⟩⟩;rw[zqt (by simpa using l1),hus,zql];rfl
 ·have hi:i=aa rows:=by have:=of_decide_eq_false hlt;omega
  rw[hi,zrx]at h1 t7;have hul':=hul (aa rows);rw[zrx]at hul';have hfac:=Gj hn (bH (bJ rows)+1) (bJ rows) hm (by omega) (by omega);simp only[wq.1];refine vm ?_;simp only[wq.1,seval,t7];refine rU (λj=>j==1) hfac rfl (ax.cons (aV (l:=bJ rows) ?_ rfl) ax.nil) ?_
  ·rw[fK,h1];show al (am (ap _ _))=_;rw[aN]
  ·simp only[wq.1,seval,bu,hd];exact aC.tup (ax.cons (aC.dat (by show aE (oH (vM _ _))=ab;simp only[aE,lC])) (ax.cons (aC.dat rfl) ax.nil))
theorem QF[MO](s:S):Ev TE 159 [.str s] (.fn (.func 222) [] [.ip (.str s)]):=by refine ai Tryz.func159 rfl (by simp[nts]) (vm ?_);simp only[wq.1,seval,Tryz.results159];exact aC.fn ax.nil (ax.cons (aC.lp rfl (ax.dat rfl) rfl rfl (by simp[V.vc]) rfl) ax.nil)
theorem QG(k:Nat):[110]++Lib.itoa (k:Int)=iY k:=by unfold Lib.itoa iY;rw[if_neg (by omega),zsg];rfl
theorem Gl[MO](n:Nat)(hn:n<=1000000000)(id:Nat)(h:H)(I:Nat->H->(Nat->Bool)->Prop)(S:H->(Nat->Bool)->Prop)(h0:I 0 h (λ_=>ac))
 (step:∀i h' k,i<n->k id=ac->I i h' k->XG TE id [.str (iY (i+1))] h' λj h'' p=>j=aq/\I (i+1) h'' (λq=>k q||p q))
 (stop:∀h' k,k id=ac->I n h' k->XG TE id [.str (iY (n+1))] h' λj h'' p=>j.isNone=ac/\S h'' (λq=>k q||p q)) :
 ag TE 222 ([]++[.yd id]++[.ip (.str [110])]) h λae h' p=>p id=ac/\match ae with
  | .ret _=>S h' p
  | .pan _=>False:=by
 have hM:=mLx;refine ak Tryz.func222 rfl (by simp[nts]) ?_;refine vn ?_;simp only[wq.1,Nat.reduceLT,Tryz.results222];refine aB ?_;refine aF (λm f h=>∃i,m+i=n/\f.t 0= .yd id/\f.t 1= .ip (.str [110])/\f.t 3=vi (i+1:Nat)/\f.d=[]/\f.k id=ac/\I i h f.k) n ⟨0,by omega,rfl,rfl,rfl,rfl,rfl,h0⟩ ?_;rintro m f h ⟨i,hm,t0,t1,t3,hd,hk,hI⟩;have hw:=az (show i+1<maxLen by omega);have hit:=We ((i+1:Nat):Int) (by omega) (by omega);refine aj (aj (lL mixed (by decide +kernel) ?_));simp only[nts,List.size_toArray,zrt,List.length_nil,Nat.reduceAdd,Nat.reduceSub,List.take_succ_cons,List.take_zero];simp only[wq.1,seval,bG,bM,t0,t1,t3];refine sZ.mk hit rfl rfl ?_;simp only[wq.1,seval];have hst:(110:UInt8)::Lib.itoa ((i+1:Nat):Int)=iY (i+1):=QG (i+1);have hil:=Jq ((i+1:Nat):Int) (by omega) (by omega);rw[hst];refine⟨by omega,?_⟩;by_cases hin:i<n
 ·obtain⟨t,n',ps,asg,body,pend,hL,hsz,hps,hw2⟩:=step i h f.k hin hk hI;rw[hL];refine⟨⟨by simpa using hsz,hps⟩,pg hw2 ?_⟩;rintro j h' p hp ⟨rfl,hS⟩;refine⟨by simp[tK,hd],?_⟩;simp only[wq.1,Option.isNone_none];refine vm ?_;simp only[wq.1,↓reduceIte];refine vm ?_;simp only[wq.1,seval,t3,hw];exact .inl ⟨m-1,by omega,i+1,by omega,by simp only[wq.1,seval,t0,hp],by simp only[wq.1,seval,t1],by simp only[wq.1,↓reduceIte],by simp only[wq.1,hd],by simp only[wq.1,hk,hp],hS⟩
 ·have hie:i=n:=by omega
  subst hie;obtain⟨t,n',ps,asg,body,pend,hL,hsz,hps,hw2⟩:=stop h f.k hk hI;rw[hL];refine⟨⟨by simpa using hsz,hps⟩,pg hw2 ?_⟩;rintro j h' p hp ⟨hj,hS⟩;refine⟨by simp[tK,hd],?_⟩;simp only[wq.1,hj];refine vm ?_;simp only[wq.1,↓reduceIte,hd,hp,hk];exact hS
theorem Xn(used:List S):∃n,n<=aa used/\oO used=iY (n+1)/\(∀i,i<n->iY (i+1)∈used)/\iY (n+1)∉used:=by
 obtain⟨hnm,j,hj,hjs⟩:=JK used;obtain⟨j',h1,h2,h3,h4,_⟩:=Dt (aa used) 1 used;refine⟨j'-1,by omega,?_,λi hi=>h4 (i+1) (by omega) (by omega),?_⟩
 ·show FT _ _ _=_;rw[h3];congr 1;omega
 ·have:oO used=iY j':=h3;rw[this]at hnm
  rwa [show j'-1+1=j' by omega]
theorem UD[MO](used:List S)(hu:aa used<=1000000000):Ev TE 93 [aH used,.str [110]] (.str (oO used)):=by
 have hM := mLx;obtain ⟨n,hn,hfr,hin,hnot⟩ := Xn used;rw [hfr];refine ai Tryz.func93 rfl (by simp [nts]) ?_;refine vn ?_;simp only [wq.1,seval,Tryz.results93];refine vn ?_;simp only [wq.1,seval];refine vn ?_;simp only [wq.1,seval];refine ag.ev (QF [110]) rfl ?_;simp only [wq.1];refine jr (n := 17) (q := 222) (first := []) (captured := [.ip (.str [110])]) (by simp only [wq.1,↓reduceIte]) (by simp only [wq.1,↓reduceIte]) rfl (by decide) ?_;intro L hLd gets;refine ag.mono (Gl n (by omega) 3 _
  (λj h k=>(∀i<4,k i=ac)/\∃t X,t 2= .lp 0 0/\t 5= .lp 1 0/\h=[am [aH used],am [.str [110]],.misc .dfd,L t .ready aq]++X)
  (λh k=>(∀i<4,k i=ac)/\∃t X,h=[am [aH used],am [.str (iY (n+1))],.misc .dfd,L t .done (al (.exit 0))]++X) ?_ ?_ ?_) ?_
 ·exact⟨λi _=>rfl,_,[],rfl,rfl,by rw[zqp];rfl⟩
 ·rintro i h k hi hk ⟨h4,t,X,t2,t5,rfl⟩;have hc:=DU used (iY (i+1));rw[List.contains_iff_mem.2 (hin i hi)]at hc;refine gets _ _ _ t rfl rfl (λlb=> ?_);refine vm ?_;simp only[wq.1,seval,tZ];refine⟨t,rfl,?_⟩;refine aB ?_;refine vn ?_;simp only[wq.1,seval,t2];refine ag.ev hc (by simp only[aL,aE,au,zre]) ?_;simp only[wq.1,seval];refine vm ?_;simp only[wq.1,↓reduceIte,oM,XE.jump];exact⟨t,_,rfl,h4,t,X,t2,t5,rfl⟩
 ·rintro h k hk ⟨h4,t,X,t2,t5,rfl⟩;have hc:=DU used (iY (n+1));have hcf:used.contains (iY (n+1))=ac:=by
   cases hb:used.contains (iY (n+1))with
   |false=>rfl
   |true=>exact absurd (List.contains_iff_mem.1 hb) hnot
  rw[hcf]at hc;refine gets _ _ _ t rfl rfl (λlb=> ?_);refine vm ?_;simp only[wq.1,seval,tZ];refine⟨t,rfl,?_⟩;refine aB ?_;refine vn ?_;simp only[wq.1,seval,t2];refine ag.ev hc (by simp only[aL,aE,au,zre]) ?_;simp only[wq.1,seval];refine vm ?_;simp only[wq.1,seval,t5,oM,XE.jump];exact⟨t,_,rfl,rfl,h4,t,X,rfl⟩
 ·rintro ae h' p ⟨hp,hr⟩;cases ae with
  |pan v=>exact hr.elim
  |ret v =>
   obtain⟨h4,t,X,rfl⟩:=hr;have k0:=h4 0 (by decide);have k1:=h4 1 (by decide);have k2:=h4 2 (by decide);have k3:=h4 3 (by decide);refine⟨λi hi=> ?_,hp,t,_,al (.exit 0),(by decide),rfl,?_⟩
   ·have hi:i=2:=by simpa [tK,tN]using hi
    subst hi;exact k2
   ·simp only[wq.1,Nat.reduceAdd,zY];refine vm ?_;simp only[wq.1,seval,k1];exact aC.dat rfl
def gaX(g:Ga):List V:=[.str g.name,vi g.op,aH g.ins,aH g.rows,.bool g.off]
theorem Gm{p:Nat->Bool}(q:Ga):ap p (gaX q)=gaX q:=rfl
theorem QH(l:List Ga):aa (l.flatMap gaX)=aa l*5:=by
 induction l with
 |nil=>rfl
 |cons g l ih=>rw[List.flatMap_cons,zqa,ih,zrt];show 5+_=_;omega
theorem kH{p:Nat->Bool}(l:List Ga):ap p (l.flatMap gaX)=l.flatMap gaX:=nK Gm l
structure XH(x:Xs)(h:H):Prop where
 a:h[4]? =al (am [.ls 5 5 0 (aa x.gates) (aa x.gates),.ls 2 1 0 (aa x.used) (aa x.used),.lm 3])
 u:h[2]? =al (am (x.used.map V.str))
 n:h[3]? =al (.map (x.nots.1.map V.str) (x.nots.2.map V.str))
 g:h[5]? =al (am (x.gates.flatMap gaX))
def XK(h h':H):Prop:=∀j cs,(j<2\/5<j)->h[j]? =al (am cs)->aL cs=ab->h'[j]? =al (am cs)
def XP(p:Nat->Bool):Prop:=∀j,p j=ab->j=2\/j=5
theorem XK.refl(h:H):XK h h:=λ_ _ _ hj _=>hj
theorem XK.trans{h h1 h2:H}(k1:XK h h1)(k2:XK h1 h2):XK h h2:=λj cs hj hc hd=>k2 j cs hj (k1 j cs hj hc hd) hd
theorem XK.app(h X:H):XK h (h++X):=λj cs _ hc _=>by rw[zqj (zqe hc).1];exact hc
theorem XK.set{h:H}{i:Nat}(o:O)(hi:¬(i<2\/5<i)\/aa h<=i):XK h (h.set i o):=λj cs hj hc hd=>by
 rcases hi with hi|hi
 ·rw[zqn (by rintro rfl;exact hi hj)];exact hc
 ·rw[List.set_eq_of_length_le hi];exact hc
theorem XK.drop(h:H)(p:Nat->Bool):XK h (h.map (O.drop p)):=λj cs hj hc hd=>by rw[zqo,hc];show al (am (ap p cs))=_;rw[iR.dats_drops _ hd]
theorem XH.app{x:Xs}{h:H}(k:XH x h)(X:H):XH x (h++X):=by
 have old:∀ {j:Nat} {y:O},h[j]? =al y->(h++X)[j]? =al y:=λhy=>by rw[zqj (zqe hy).1];exact hy
 exact⟨old k.a,old k.u,old k.n,old k.g⟩
theorem kD{p:Nat->Bool}(l m:List S):(O.map (l.map V.str) (m.map V.str)).drop p= .map (l.map V.str) (m.map V.str):=by show O.map (ap p _) (ap p _)=_;rw[aN,aN]
theorem XH.use{x:Xs}{h:H}(k:XH x h)(s:S) :
 XH ⟨x.gates,x.used++[s],x.nots⟩ (((h.map (O.drop (·==2))).set 2 (am (x.used.map V.str++[.str s]))).set 4 (am [.ls 5 5 0 (aa x.gates) (aa x.gates),.ls 2 1 0 (aa x.used+1) (aa x.used+1),.lm 3])):=by
 have lt:∀ {j y},h[j]? =al y->j<aa h:=λhx=>(zqe hx).1;have l4:=lt k.a;have l2:=lt k.u;refine⟨?_,?_,?_,?_⟩
 ·rw[zqt (by simpa using l4),zqa];rfl
 ·rw[zqn (by decide),zqt (by simpa using l2),zql];rfl
 ·rw[zqn (by decide),zqn (by decide),zqo,k.n,zrw,kD]
 ·rw[zqn (by decide),zqn (by decide),zqo,k.g,zrw];show al (am (ap _ _))=_;rw[kH]
theorem XH.gate{x:Xs}{h:H}(k:XH x h)(g:Ga) :
 XH ⟨x.gates++[g],x.used,x.nots⟩ (((h.map (O.drop (·==5))).set 5 (am (x.gates.flatMap gaX++gaX g))).set 4 (am [.ls 5 5 0 (aa x.gates+1) (aa x.gates+1),.ls 2 1 0 (aa x.used) (aa x.used),.lm 3])):=by
 have lt:∀ {j y},h[j]? =al y->j<aa h:=λhx=>(zqe hx).1;have l4:=lt k.a;have l5:=lt k.g;refine⟨?_,?_,?_,?_⟩
 ·rw[zqt (by simpa using l4),zqa];rfl
 ·rw[zqn (by decide),zqn (by decide),zqo,k.u,zrw];show al (am (ap _ _))=_;rw[aN]
 ·rw[zqn (by decide),zqn (by decide),zqo,k.n,zrw,kD]
 ·rw[zqn (by decide),zqt (by simpa using l5),List.flatMap_append];simp
def J8:Plan:=tkZ [0,1,2,3,5]<| .alt 4 (onZ [6,7,8]<| .take 9<| .take 10<| .one 11<| .fin) (.one 6 (.alt 4 (.one 7<| .one 8<| .take 9<| .take 10<| .one 11<| .fin) (.one 7 (.one 4<| .one 8<| .take 9<| .take 10<| .one 11<| .fin))))
def J9:Plan:=tkZ [0,1,2,3]<| .alt 4 (onZ [5,6,7]<| .take 8<| .take 9<| .one 10<| .fin) (.one 5 (.alt 4 (.one 6<| .one 7<| .take 8<| .take 9<| .one 10<| .fin) (.one 6 (.one 4<| .one 7<| .take 8<| .take 9<| .one 10<| .fin))))
theorem Gn[MO]{x:Xs}{h:H}(k:XH x h)(g:Ga)(hb:xsz x<=100000000){R:AEnd->H->(Nat->Bool)->Prop}
 (hr:∀h' p,XH (iJ x g).1 h'->XK h h'->aa h<=aa h'->XP p->R (.ret (.str (iJ x g).2)) h' p):ag TE 47 [.lp 4 0,g.v] h R:=by
 have hM:=mLx;have hgl:aa x.gates<=100000000:=by unfold xsz at hb;omega
 have hul:aa x.used<=100000000:=by unfold xsz at hb;omega
 obtain⟨B,hB⟩:∃B,B=aa h:=⟨_,rfl⟩;have l5:=(zqe k.g).1;have hgE:∀x:O,(h++[x])[B]? =al x:=λx=>by rw[hB];simp
 have hgS:∀x y:O,(h++[x]).set B y=h++[y]:=λx y=>by rw[hB];simp
 refine ak Tryz.func47 rfl (by simp[nts]) ?_;refine vn ?_;simp only[wq.1,↓reduceIte,Nat.reduceLT,Nat.reduceLeDiff,Tryz.results47,<-hB];refine aj (aY (Q:=λxe f' h'=>xe= .normal/\f'.t 0= .lp 4 0/\f'.t 3= .lp B 0/\f'.d=[]/\XP f'.k/\XH ⟨x.gates,(iJ x g).1.used,x.nots⟩ h'/\h'[B]? =al (am (gaX {g with name:=(iJ x g).2}))/\XK h h'/\aa h<=aa h') ?_ ?_)
 ·rintro xe f h' ⟨rfl,t0,t3,hd,hp,k',hBg,hk,hle⟩;show awp _ _ _ _ _ _ _;obtain⟨g',eg⟩:∃g':Ga,g'={g with name:=(iJ x g).2}:=⟨_,rfl⟩;obtain⟨u',eu⟩:∃u',u'=(iJ x g).1.used:=⟨_,rfl⟩;have hpx:(iJ x g).1=⟨x.gates++[g'],u',x.nots⟩:=by
   rw[eg,eu];unfold iJ;split<;>rfl
  have hn:g'.name=(iJ x g).2:=by rw[eg]
  rw[hpx,<-hn]at hr;rw[<-eg]at hBg;rw[<-eu]at k';clear hn hpx eg eu;have k4:=k'.a;have k5:=k'.g;have kk:=k'.gate g';have h5l:=QH x.gates;have d5:∀q,ap q (x.gates.flatMap gaX)=x.gates.flatMap gaX:=λq=>kH _;have kX:=(XK.drop h' (·==5)).trans ((XK.set (h:=h'.map (O.drop (·==5))) (i:=5) (am (x.gates.flatMap gaX++gaX g')) (.inl (by omega))).trans (XK.set (i:=4) (am [.ls 5 5 0 (aa x.gates+1) (aa x.gates+1),.ls 2 1 0 (aa u') (aa u'),.lm 3]) (.inl (by omega))));obtain⟨hf,ehf⟩:∃hf,hf=(((h'.map (O.drop (·==5))).set 5 (am (x.gates.flatMap gaX++gaX g'))).set 4 (am [.ls 5 5 0 (aa x.gates+1) (aa x.gates+1),.ls 2 1 0 (aa u') (aa u'),.lm 3])):=⟨_,rfl⟩;have lB:=(zqe hBg).1;have l5':=(zqe k5).1;have hBf:hf[B]? =al (am (gaX g')):=by
   rw[ehf,zqn (by omega),zqn (by omega),zqo,hBg,zrw];rfl
  refine aj (dE mixed J9 (λf' h2=>f'.t 3= .lp B 0/\f'.d=[]/\XP f'.k/\h2=hf) (by rw[TEP];decide +kernel) (by decide +kernel) ?_ ?_)
  ·have hgx:gaX g'=[.str g'.name,vi g'.op,aH g'.ins,aH g'.rows,.bool g'.off]:=rfl;rw[hgx]at hBg;have s4:∀X:O,((h'.map (O.drop λx=>x==5)).set 5 X)[4]? =al (am [.any,.ls 2 1 0 (aa u') (aa u'),.lm 3]):=λX=>by rw[zqn (by decide),zqo,k4];rfl
   have hB5:(B==5)=ac:=by rw[beq_eq_false_iff_ne];omega
   have hXP:XP λi=>f.k i||i==5:=λj hj=>by
    rcases Bool.or_eq_true _ _▸hj with h1|h1
    ·exact hp j h1
    ·exact .inr (by simpa using h1)
   simp only[wq.1,↓reduceIte,Nat.reduceEqDiff,Nat.reduceLT,Nat.reduceLeDiff,Nat.reduceAdd,Nat.reduceBEq,reduceCtorEq,Nat.reduceMul,J9,t0,t3,hd,k4,k5,hBg,h5l,d5,s4,hB5];have hfin:((List.map (O.drop λx=>x==5) h').set 5 (am (List.flatMap gaX x.gates++ap (λx=>x==5) (List.flatMap V.vc [V.agg [V.str g'.name,vi g'.op,aH g'.ins,aH g'.rows,V.bool g'.off]])))).set 4 (am [V.ls 5 5 0 (aa x.gates+1) (aa x.gates+1),.ls 2 1 0 (aa u') (aa u'),.lm 3])=hf:=by rw[ehf];rfl
   exact⟨⟨rfl,by decide⟩,rfl,⟨rfl,by omega,by omega⟩,hXP,hfin⟩
  ·rintro f2 h2 ⟨u3,ud,up,rfl⟩;rw[ehf]at hBf;have hBf':=hBf;rw[<-ehf]at hBf hBf';show awp _ _ _ _ _ _ _;refine vm ?_;simp only[wq.1,seval,u3,ud,hBf];exact⟨by show 1<=5;decide,hr _ _ (by rw[ehf];exact kk) (hk.trans (by rw[ehf];exact kX)) (by rw[ehf];simpa using hle) up⟩
 ·unfold iJ;by_cases hg0:g.name=[]
  ·have e0:(g.name==[])=ab:=by rw[hg0];rfl
   rw[if_pos hg0];have k2:=k.u;have k4:=k.a;have hfr:=UD x.used (by omega);have a4:∀x':O,(h++[x'])[4]? =al (am [.ls 5 5 0 (aa x.gates) (aa x.gates),.ls 2 1 0 (aa x.used) (aa x.used),.lm 3]):=λx'=>by rw[zqj (zqe k4).1];exact k4
   have a2:∀x':O,(h++[x'])[2]? =al (am (x.used.map V.str)):=λx'=>by rw[zqj (zqe k2).1];exact k2
   refine vm ?_;simp only[wq.1,seval,hgE,e0,a4];refine ag.lend hfr (ax.cons (aV (a2 _) rfl) (ax.cons (aC.dat rfl) ax.nil)) rfl ?_;simp only[wq.1,↓reduceIte,Nat.reduceEqDiff,Nat.reduceLT,Nat.reduceLeDiff,Nat.reduceAdd,hgE,hgS];obtain⟨F,eF⟩:∃F,F=oO x.used:=⟨_,rfl⟩;rw[<-eF];obtain⟨h1,eh1⟩:∃h1,h1=h++[am [V.str F,vi g.op,aH g.ins,aH g.rows,V.bool g.off]]:=⟨_,rfl⟩;have kx:=(k.app [am [V.str F,vi g.op,aH g.ins,aH g.rows,V.bool g.off]]);have b4:=kx.a;have b2:=kx.u;have bB:=hgE (am [V.str F,vi g.op,aH g.ins,aH g.rows,V.bool g.off]);have kxx:=XK.app h [am [V.str F,vi g.op,aH g.ins,aH g.rows,V.bool g.off]];rw[<-eh1]at kx b4 b2 bB kxx ⊢;have kk:=kx.use F;have lB:=(zqe bB).1;have d2:∀q,ap q (x.used.map V.str)=x.used.map V.str:=λq=>aN;have s4:∀X:O,((h1.map (O.drop λx=>x==2)).set 2 X)[4]? =al (am [.ls 5 5 0 (aa x.gates) (aa x.gates),.any,.lm 3]):=λX=>by
    rw[zqn (by decide),zqo,b4];rfl
   have hB2:(B==2)=ac:=by rw[beq_eq_false_iff_ne];omega
   have kX:=(XK.drop h1 (·==2)).trans ((XK.set (h:=h1.map (O.drop (·==2))) (i:=2) (am (x.used.map V.str++[.str F])) (.inl (by omega))).trans (XK.set (i:=4) (am [.ls 5 5 0 (aa x.gates) (aa x.gates),.ls 2 1 0 (aa x.used+1) (aa x.used+1),.lm 3]) (.inl (by omega))));obtain⟨hf,ehf⟩:∃hf,hf=(((h1.map (O.drop (·==2))).set 2 (am (x.used.map V.str++[.str F]))).set 4 (am [.ls 5 5 0 (aa x.gates) (aa x.gates),.ls 2 1 0 (aa x.used+1) (aa x.used+1),.lm 3])):=⟨_,rfl⟩;rw[<-ehf]at kk kX;have hBf:hf[B]? =al (am [V.str F,vi g.op,aH g.ins,aH g.rows,V.bool g.off]):=by rw[ehf,zqn (by omega),zqn (by omega),zqo,bB,zrw];rfl
   refine dE mixed J8 (λf' h2=>f'.t 0= .lp 4 0/\f'.t 3= .lp B 0/\f'.d=[]/\XP f'.k/\h2=hf) (by rw[TEP];decide +kernel) (by decide +kernel) ?_ ?_
   ·simp only[wq.1,↓reduceIte,Nat.reduceEqDiff,Nat.reduceLT,Nat.reduceLeDiff,Nat.reduceAdd,Nat.reduceBEq,reduceCtorEq,Nat.reduceMul,J8,b4,b2,bB,s4,hB2];exact⟨⟨rfl,by decide⟩,⟨by omega,by omega,by omega⟩,λj hj=> .inl (by simpa using hj),by rw[ehf]⟩
   ·rintro f2 h2 ⟨u0,u3,ud,up,rfl⟩;exact⟨rfl,u0,u3,ud,up,kk,hBf,kxx.trans kX,by rw[ehf,eh1];simp⟩
  ·have e0:(g.name==[])=ac:=by simpa using hg0
   rw[if_neg hg0];refine vm ?_;simp only[wq.1,seval,hgE,e0];exact⟨λ_ h=>(by cases h),k.app _,rfl,XK.app _ _,by simp⟩
theorem XH.turn{x:Xs}{h:H}(k:XH x h)(s t:S):XH ⟨x.gates,x.used,(x.nots.1++[s],x.nots.2++[t])⟩ (h.set 3 (.map (x.nots.1.map V.str++[.str s]) (x.nots.2.map V.str++[.str t]))):=by
 refine⟨?_,?_,?_,?_⟩
 ·rw[zqn (by decide)];exact k.a
 ·rw[zqn (by decide)];exact k.u
 ·rw[zqt (zqe k.n).1,zql,zql];rfl
 ·rw[zqn (by decide)];exact k.g
theorem xN{ks vs:List S}(hl:aa ks=aa vs)(s:S)(z:V)(b:Bool):rD .str (.str s) (ks.map V.str) (vs.map V.str) z b=match at? ks s with
 |some n=>(True,bif b then .tup [.str (vs.getD n []),.bool ab]else .str (vs.getD n []))
 |none=>(True,bif b then .tup [z,.bool ac]else z):=by
 unfold rD;rw[bD];cases hat:at? ks s with
 |none=>rfl
 |some n =>
  obtain⟨h1,_⟩:=kY hat;have hv:(vs.map V.str).getD n .any= .str (vs.getD n []):=by rw[zqg,zqg,zqo,zqk (by omega)];rfl
  dsimp only;rw[hv]
theorem Ko:∀ {l:List S} {s:S},at? l s=aq->at? (l++[s]) s=al (aa l)
 |[],s,_=>by simp[at?]
 |x::l,s,h=>by
  rw[at?]at h;split at h
  ·cases h
  ·rename_i hx;have hl:at? l s=aq:=by
    cases hh:at? l s with
    |none=>rfl
    |some n=>rw[hh]at h;cases h
   rw[List.cons_append,at?,if_neg hx,Ko hl];rfl
theorem XP.at{p:Nat->Bool}(h:XP p){j:Nat}(hj:j≠2/\j≠5):p j=ac:=by
 cases hp:p j with
 |false=>rfl
 | true => rcases h j hp with rfl | rfl
           ·exact absurd rfl hj.1
           ·exact absurd rfl hj.2
theorem DV(g:Ga){i r:V}(hi:VLe i (aH g.ins))(hr:VLe r (aH g.rows)):VLe (.agg [.str g.name,vi g.op,i,r,.bool g.off]) g.v :=
 VLe.agg (cZ.cons (VLe.refl _) (cZ.cons (VLe.refl _) (cZ.cons hi (cZ.cons hr (cZ.cons (VLe.refl _) cZ.nil)))))
def Gp:Plan:=tkZ [0,1,2,4,5,6]<| .alt 3 (onZ [7,8,9,10]<| .fin) (.one 7 (.alt 3 (onZ [8,9,10]<| .fin) (.one 8 (.alt 3 (.one 9<| .one 10<| .fin) (.one 9 (.one 3<| .one 10<| .fin))))))
theorem Gq[MO]{x:Xs}{h:H}(k:XH x h)(hnl:aa x.nots.1=aa x.nots.2)(s:S)(hb:xsz x<=100000000){R:AEnd->H->(Nat->Bool)->Prop}
 (hr:∀h' p,XH (dI x s).1 h'->XK h h'->aa h<=aa h'->XP p->R (.ret (.str (dI x s).2)) h' p):ag TE 221 [.lp 4 0,.str s] h R:=by
 have hM:=mLx;have k4:=k.a;have k3:=k.n;refine ak Tryz.func221 rfl (by simp[nts]) ?_;refine vn ?_;simp only[wq.1,seval,Tryz.results221];unfold dI at hr;cases hat:at? x.nots.1 s with
 |some n=>rw[hat]at hr;dsimp only at hr;have m1:=xN hnl s (.str []) ab;have m2:=xN hnl s (.str []) ac;rw[hat]at m1 m2;dsimp only[cond_true,cond_false]at m1 m2;refine vm ?_;simp only[wq.1,seval,k4,k3,m1,m2];exact hr _ _ k (XK.refl _) (zrb _) (λj h=>by cases h)
 |none =>
  rw[hat]at hr;dsimp only at hr;refine aj ?_;have m1:=xN hnl s (.str []) ab;rw[hat]at m1;dsimp only[cond_true,cond_false]at m1;have hput:=wJ x ⟨[],3,[s],[],ac⟩;obtain⟨y,ey⟩:∃y,y=iJ x ⟨[],3,[s],[],ac⟩:=⟨_,rfl⟩;rw[<-ey]at hput hr;refine vn ?_;simp only[wq.1,seval,k4,k3,m1];refine aj ?_;refine vm ?_;simp only[wq.1,seval];refine bP (b:=ab) (by simp only[wq.1,↓reduceIte]) (by simp only[wq.1,↓reduceIte]) (λ_=> ?_) (λh=>by cases h);refine dE mixed Gp (λf' h2=>f'.t 0= .lp 4 0/\f'.t 1= .str s/\f'.d=[]/\XP f'.k/\XH ⟨y.1.gates,y.1.used,(x.nots.1++[s],x.nots.2++[y.2])⟩ h2/\XK h h2/\aa h<=aa h2) (by rw[TEP];decide +kernel) (by decide +kernel) ?_ ?_
  ·have hput2:∀ {R:AEnd->H->(Nat->Bool)->Prop},(∀h' p,XH y.1 h'->XK h h'->aa h<=aa h'->XP p->R (.ret (.str y.2)) h' p)->ag TE 47 [.lp 4 0,.agg [.str [],vi 3,.is ab 1 [.str s],.nils,.bool ac]] h R:=λ{R} hR=>by refine gZ (cZ.cons (VLe.refl _) (cZ.cons (DV ⟨[],3,[s],[],ac⟩ dA dw) cZ.nil)) (HLe.refl _) (Gn k ⟨[],3,[s],[],ac⟩ hb λh' p a b c d=> ?_);rw[<-ey]at a ⊢;exact hR h' p a b c d
   have hms:∀t:S,NH .str (.str s) (.str t) (x.nots.1.map V.str) (x.nots.2.map V.str)=al (x.nots.1.map V.str++[.str s],x.nots.2.map V.str++[.str t]):=λt=>by unfold NH;rw[bD,hat]
   simp only[wq.1,seval,Gp,k4]
   repeat' apply zsa
   all_goals first|exact rfl|exact(by decide)|skip
   all_goals refine hput2 λh' p kx kk hle kp=> ?_
   all_goals have p2:=kp.at (j:=3) (by decide)
   all_goals have p4:=kp.at (j:=4) (by decide)
   all_goals have k3':=kx.n
   all_goals rw[hput.2]at k3'
   all_goals have k4':=kx.a
   all_goals simp only[wq.1,seval,bu,p2,p4,k3',k4',hms]
   all_goals exact⟨kp,(by have:=kx.turn s y.2;rw[hput.2]at this;exact this),kk.trans (XK.set _ (.inl (by omega))),by simpa using hle⟩
  ·rintro f h2 ⟨t0,t1,hd,hp,kx,kk,hle⟩;have b4:=kx.a;have b3:=kx.n;have m3:=xN (ks:=x.nots.1++[s]) (vs:=x.nots.2++[y.2]) (by simp[hnl]) s (.str []) ac;have hat2:at? (x.nots.1++[s]) s=al (aa x.nots.1):=Ko hat;rw[hat2]at m3;dsimp only[cond_false]at m3;have hgd:(x.nots.2++[y.2]).getD (aa x.nots.1) []=y.2:=by rw[hnl];simp
   rw[hgd]at m3;simp only[zql,zrd,List.map_nil]at m3;dsimp only at b3;show awp _ _ _ _ _ _ _;refine vm ?_;simp only[wq.1,seval,t0,t1,hd,b4,b3,m3];exact hr _ _ kx kk hle hp
end Go.Proofs.YthaijohbpdabfaaGreatDoor
