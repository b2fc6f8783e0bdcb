/- Lemmas for this claim, part F11: each holds under what it names. -/
import Derived.Test.YthaijohbpdabfaaGreatDoorNF10
import Derived.Test.YthaijohbpdabfaaGreatDoorNA7
import Derived.Test.YthaijohbpdabfaaGreatDoorNF02
import Derived.Test.YthaijohbpdabfaaGreatDoorNF08
import Derived.Test.YthaijohbpdabfaaGreatDoorNA8
import Derived.Test.YthaijohbpdabfaaGreatDoorNF03
set_option linter.all false
set_option maxRecDepth 20000
set_option maxHeartbeats 8000000
namespace Go.Proofs.YthaijohbpdabfaaGreatDoor
open Go Go.Proofs Go.Abs
theorem fM{e:E}{n:Nat}{r:Option Nat}{c:Code}{Q:XE->Fr->H->Prop}{f:Fr}{h:H}(P:Fr->Prop)(hP:P f)(hw:∀f,P f->awp e n r c Q f h):awp e n r c Q f h:=hw f hP
theorem ql{α:Type}{p:α->Bool}:∀l:List α,l.dropWhile p=[]↔l.all p=true
 |[]=>by simp
 |a::l=>by
  rw[List.dropWhile_cons,List.all_cons];cases hp:p a with
  |true=>simpa using ql l
  |false=>simp
theorem FB{α:Type}{p:α->Bool}{a:α}{s:List α}:∀l:List α,l.dropWhile p=a::s->p a=false
 |[],h=>by simp at h
 |b::l,h=>by
  rw[List.dropWhile_cons]at h;split at h
  ·exact FB l h
  ·rename_i hb;injection h with h _;rw[<-h];simpa using hb
theorem O9(row:S):(Lib.trimS row [45]==[])=og row:=by
 have e:(fun c:UInt8=>([45]:S).contains c)=fun c=>c==45:=funext fun c=>by simp only[List.contains_cons,List.contains_nil,Bool.or_false]
 rw[Bool.eq_iff_iff,beq_iff_eq];unfold Lib.trimS Lib.trimLeftS Lib.trimRightS og;rw[e,ql,List.all_reverse];constructor
 ·intro h;have:row.reverse.dropWhile (fun c=>c==45)=[]:=by
   cases ht:row.reverse.dropWhile (fun c=>c==45)with
   |nil=>rfl
   |cons a s=>rw[ht,List.all_cons,FB _ ht]at h;cases h
  rw[ql,List.all_reverse]at this;exact this
 ·intro h;have:row.reverse.dropWhile (fun c=>c==45)=[]:=by rw[ql,List.all_reverse];exact h
  rw[this];rfl
theorem VK[MO](row:S):Ev TE 210 [.str row] (.bool (og row)):=by have h:=BZ row [45] (by decide) (by decide);refine ak Tryz.func210 rfl (by simp[nts]) (vm ?_);simp only[wq.1,seval,Tryz.results210];refine ag.ev h rfl ?_;simp only[wq.1,seval,O9];exact aG.dat rfl
theorem Pg[MO](x:Li)(row:S)(hr:row.length<=1000000000):Ev TE 218 [.str row,.ip (.fn (.func 264) [] [.ip (liV x)])] (.bool (!lI x row)):=by have h:=yO x row hr;refine ak Tryz.func218 rfl (by simp[nts]) (vm ?_);simp only[wq.1,seval,Tryz.results218];refine ag.ev h rfl ?_;simp only[wq.1,seval];exact aG.dat rfl
def Ph:Plan:= .take 2<| .alt 0 (.alt 1 (.alt 3 (onZ [4,5,6,7]<| .take 8<| .fin) (.one 4 (.alt 3 (onZ [5,6,7]<| .take 8<| .fin) (.one 5 (onZ [3,6,7]<| .take 8<| .fin))))) (.one 4 (.alt 1 (.alt 3 (onZ [5,6,7]<| .take 8<| .fin) (.one 5 (onZ [3,6,7]<| .take 8<| .fin))) (.one 5 (onZ [1,3,6,7]<| .take 8<| .fin))))) (.one 4 (.alt 0 (.alt 1 (.alt 3 (onZ [5,6,7]<| .take 8<| .fin) (.one 5 (onZ [3,6,7]<| .take 8<| .fin))) (.one 5 (onZ [1,3,6,7]<| .take 8<| .fin))) (.one 5 (onZ [0,1,3,6,7]<| .take 8<| .fin))))
def Pi:Plan:= .alt 0 (.alt 1 (onZ [2,3,4]<| .take 5<| .fin) (.one 2 (onZ [1,3,4]<| .take 5<| .fin))) (.one 2 (onZ [0,1,3,4]<| .take 5<| .fin))
theorem qJ[MO]{h:H}{id cap:Nat}{l:List S}{ex:List V}(hc:h[id]? =some (.cells (l.map V.str++ex))):aG TE h (.ls id 1 0 l.length cap) (aN l) :=
 BN hc (ay.dat ax) xG D8 (by rw[zra])
theorem VL(rows:List S)(x:Li):(((iU rows x:Nat):Int)==(rows.length:Int))=(iU rows x==rows.length):=by rw[Bool.eq_iff_iff,beq_iff_eq,beq_iff_eq,Int.ofNat_inj]
theorem FC[MO]{n:Nat}(hn:n<=8):∀(F:Nat)(rows:List S),(∀r∈rows,r.length=n)->rows.length<=128->cZ rows<F->Ev TE 157 [aN rows] (nI (yB F rows))
 |0,_,_,_,h=>by omega
 |F+1,rows,hr,hrl,hs=>by
  have hM:=mLx;have ih:=FC (n:=n) hn F;have hr8:∀r∈rows,r.length<=8:=fun r h=>by have:=hr r h;omega
  have hct:=GY rows 210 [] og (by simp[ens]) rfl fun r _=>VK r;refine ak Tryz.func157 rfl (by simp[nts]) ?_;refine vn ?_;simp only[wq.1,Nat.reduceLT,Tryz.results157];refine vn ?_;simp only[wq.1,Nat.reduceLT];refine ai ?_;refine aA ?_;refine vn ?_;simp only[wq.1,↓reduceIte,Nat.reduceEqDiff,Nat.reduceLT];unfold yB;by_cases h0:rows=[]
  ·have e0:((rows.length:Int)==0)=true:=by rw[h0];rfl
   rw[if_pos h0];refine vm ?_;simp only[wq.1,↓reduceIte,Nat.reduceLT,Nat.reduceLeDiff,Nat.reduceAdd,reduceCtorEq,Nat.reduceMul,e0];exact⟨⟨rfl,by decide⟩,aG.ex rfl⟩
  have e0:((rows.length:Int)==0)=false:=by rw[beq_eq_false_iff_ne];intro h;exact h0 (zse (by omega))
  rw[if_neg h0];by_cases h1:rows.any og=true
  ·rw[if_pos h1];rw[h1]at hct;refine vm ?_;simp only[wq.1,↓reduceIte,Nat.reduceEqDiff,Nat.reduceLT,e0];refine ag.ev hct (by simp only[V.dats,V.dat,ax,zre]) ?_;simp only[wq.1,↓reduceIte,Nat.reduceLT,Nat.reduceLeDiff,Nat.reduceAdd,reduceCtorEq,Nat.reduceMul];exact⟨⟨rfl,by decide⟩,aG.ex rfl⟩
  have h1':rows.any og=false:=by simpa using h1
  rw[if_neg h1];rw[h1']at hct;obtain⟨r0,rs,erw⟩:∃r0 rs,rows=r0::rs:=by
   cases rows with
   |nil=>exact absurd rfl h0
   |cons a b=>exact⟨a,b,rfl⟩
  have hg0:(rows.map V.str).getD 0 .any= .str r0:=by rw[erw];rfl
  have hrpos:0<rows.length:=by rw[erw];simp
  have hr0m:r0∈rows:=by rw[erw];simp
  have hr0:r0.length<=8:=hr8 r0 hr0m;have hlr0:=CW r0;refine vm ?_;simp only[wq.1,seval,e0];refine ag.ev hct (by simp only[V.dats,V.dat,ax,zre]) ?_;simp only[wq.1,seval];show awp _ _ _ _ _ _ _;refine vn ?_;simp only[wq.1,Nat.reduceLT];refine fQ ?_;refine lg (h':=[.cells [aN rows],.cells [.ls 2 2 0 0 0],.cells []]) (HLe.set (i:=1) (o':= .cells [.ls 2 2 0 0 0]) rfl (OLe.cells (zrb _) (bW.cons dE bW.nil))) ?_;refine vn ?_;simp only[wq.1,seval,hg0];refine⟨by omega,ag.ev (ug r0) rfl ?_⟩;simp only[wq.1];refine jc (n:=101) (q:=261) (first:=[]) (captured:=[.ip (.str r0)]) (by simp only[wq.1,↓reduceIte]) (by simp only[wq.1,↓reduceIte]) rfl (by decide) ?_;intro L hLd gets;obtain⟨cm,ecm⟩:∃cm:Nat->List Li,cm=fun j=>((bD r0).take j).filter fun x=>iU rows x==rows.length:=⟨_,rfl⟩;have hcm0:cm 0=[]:=by rw[ecm];rfl
  have hcml:∀j,(cm j).length<=8:=fun j=>by rw[ecm];exact Nat.le_trans (List.length_filter_le _ _) (by rw[zrl];omega)
  refine ag.mono (yN r0 (by omega) 4 _
   (fun j h k=>(∀i<5,i≠2->k i=false)/\∃t X,t 1= .lp 0 0/\t 4= .lp 1 0/\h=[.cells [aN rows],.cells [.ls 2 2 0 (cm j).length (cm j).length],.cells (liC (cm j)),.misc .dfd,L t .ready none]++X)
   (fun c h k=>False) ?_ ?_) ?_
  ·exact⟨fun i _ _=>rfl,_,[],rfl,rfl,by rw[zqp,hcm0];rfl⟩
  ·rintro i h k hi hk ⟨hk5,t,X,t1,t4,rfl⟩;rw[zra]at hi;obtain⟨y,hy⟩:∃y,y=(bD r0)[i]:=⟨_,rfl⟩;have hit:((bD r0).map fun x=>[liV x])[i]'(by rw[zra];exact hi)=[liV y]:=by rw[List.getElem_map,<-hy]
   have hcs:cm (i+1)=cm i++(if iU rows y==rows.length then [y]else []):=by
    rw[ecm];show((bD r0).take (i+1)).filter _=_;rw[List.take_succ_eq_append_getElem hi,<-hy,List.filter_append]
    congr 1
    cases hb:iU rows y==rows.length<;>simp[hb]
   have hcnt:=AA rows y (by omega) (fun r h=>by have:=hr8 r h;omega);have hcml':=hcml i;rw[hit];obtain⟨C,hC⟩:∃C,C=liC (cm i):=⟨_,rfl⟩;have dC:∀q,V.drops q C=C:=fun q=>by rw[hC];exact yQ _
   have hCl:C.length=(cm i).length*2:=by rw[hC,Hw]
   obtain⟨c,ec⟩:∃c,c=(cm i).length:=⟨_,rfl⟩;rw[<-hC,<-ec];rw[<-ec]at hCl hcml';refine gets _ _ _ t rfl rfl (fun lb=> ?_);have k0:=hk5 0 (by decide) (by decide);have k1:=hk5 1 (by decide) (by decide);have gE:∀o:O,(X++[o])[X.length]? =some o:=fun o=>by simp
   have gS:∀o o':O,(X++[o]).set X.length o'=X++[o']:=fun o o'=>by simp
   refine vm ?_;simp only[wq.1,seval,rZ,gE,gS];refine⟨t,rfl,?_⟩;refine aA ?_;refine vn ?_;simp only[wq.1,seval,t1,gE];refine⟨by decide +kernel,uw.mk hcnt rfl (by simp only[V.dats,V.dat,ax,zre]) ?_⟩;simp only[wq.1,↓reduceIte,Nat.reduceEqDiff,Nat.reduceLT,t1,VL];cases hb:iU rows y==rows.length with
   |true =>
    rw[hb,if_pos rfl]at hcs;have hap:C++liF y=liC (cm (i+1)):=by rw[hcs,O3,O4,hC]
    have hcl1:(cm (i+1)).length=c+1:=by rw[hcs,zqa,ec];rfl
    refine vm ?_;simp only[wq.1,↓reduceIte,Nat.reduceEqDiff,Nat.reduceLT,Nat.reduceAdd,Nat.reduceBEq,reduceCtorEq,Nat.reduceMul,t4,gE,nR,XE.jump,dC,hCl,hLd];refine⟨⟨rfl,by decide⟩,rfl,⟨rfl,by omega,by omega⟩,_,_,rfl,fun j hj h2=>by rw[hk5 j hj h2];simpa using h2,fun i=>(t i).drop fun x=>x==2,List.map (O.drop fun x=>x==2) X++[O.cells [vi y.1,vi y.2.toNat]],?_,?_,?_⟩
    ·show(t 1).drop _=_;rw[t1];rfl
    ·show(t 4).drop _=_;rw[t4];rfl
    ·rw[<-hap,hcl1];rfl
   |false=>rw[hb,if_neg (by decide),zqp]at hcs;refine vm ?_;simp only[wq.1,↓reduceIte,nR,XE.jump];refine⟨t,_,rfl,hk5,t,X++[O.cells [vi y.1,vi y.2.toNat]],t1,t4,?_⟩;rw[hcs,<-hC,<-ec];rfl
  ·rintro ae h' p ⟨hp,hr⟩;cases ae with
   |pan v=>exact hr.elim
   |ret v =>
    rcases hr with⟨hk5,t,X,t1,t4,rfl⟩|⟨_,h⟩
    ·rw[zra];have hcf:cm (bD r0).length=dM rows:=by
      rw[ecm];show((bD r0).take _).filter _=_;rw[zrx,erw];rfl
     rw[hcf];have k0:=hk5 0 (by decide) (by decide);have k1:=hk5 1 (by decide) (by decide);have k3:=hk5 3 (by decide) (by decide);have k4:=hk5 4 (by decide) (by decide);refine⟨fun i hi=> ?_,hp,t,_,none,(by decide),rfl,?_⟩
     ·have hi:i=3:=by simpa [rU,rV]using hi
      subst hi;exact k3
     ·simp only[wq.1,Nat.reduceAdd,zl];obtain⟨CM,eCM⟩:∃CM,CM=dM rows:=⟨_,rfl⟩;have hCMl:CM.length<=8:=by rw[eCM,<-hcf];exact hcml _
      have hCMx:∀x∈CM,x∈bD r0:=fun x hx=>by
       rw[eCM,<-hcf,ecm]at hx;have:=(List.mem_filter.1 hx).1
       rwa [zrx]at this
      have hCMr:∀r∈rows,∀x∈CM,x.1<r.length:=fun r hrr x hx=>by have h1:=nC (hCMx x hx);have h2:=hr r hrr;have h3:=hr r0 hr0m;omega
      rw[<-eCM];refine fM (fun f=>f.t 1= .lp 0 0/\f.t 4= .lp 1 0/\f.d=[3]) ⟨by simp only[wq.1,seval,k0],by simp only[wq.1,seval,k1],rfl⟩ ?_;rintro f ⟨t1',t4',hd⟩;obtain⟨p,hpp⟩:∃p:Nat->Bool,p=fun j=>j==2||decide (5<=j):=⟨_,rfl⟩;refine Ec p [.cells [aN rows],.cells [wF CM],.dead,.misc .dfd,L (fun i=>(t i).drop p) .exhausted none] ?_ ?_ (fun i hi=>by rw[hd]at hi;rw[zrc.1 hi,hpp];rfl) ?_
      ·intro i hi;rcases i with _|_|_|_|_|i
       ·exact .inl rfl
       ·refine .inr ⟨_,_,rfl,rfl,.inr ⟨?_,Jo ?_ rfl⟩,trivial⟩
        ·rw[hpp];rfl
        ·rw[hpp];show some (O.cells (V.drops _ _))=_;rw[yQ]
       ·rw[hpp]at hi;cases hi
       ·exact .inl rfl
       ·refine .inl ?_;show some _=some (O.drop p _);rw[hLd]
       ·rw[hpp]at hi;simp at hi
      ·intro i o hi ho;rcases i with _|_|_|_|_|i
       ·rw[hpp]at hi;cases hi
       ·rw[hpp]at hi;cases hi
       ·injection ho with ho;exact ho.symm
       ·rw[hpp]at hi;cases hi
       ·rw[hpp]at hi;cases hi
       ·cases ho
      obtain⟨L2,hL2⟩:∃L2,L2=L (fun i=>(t i).drop p) .exhausted none:=⟨_,rfl⟩;rw[<-hL2];refine fM (fun f=>f.t 1= .lp 0 0/\f.t 4= .lp 1 0/\f.d=[3]) ⟨?_,?_,hd⟩ ?_
      ·show(f.t 1).drop p=_;rw[t1',hpp];rfl
      ·show(f.t 4).drop p=_;rw[t4',hpp];rfl
      clear hd t1' t4' f hL2 hpp p;rintro f ⟨t1,t4,hd⟩;refine ai ?_;refine vn ?_;simp only[wq.1,seval,t4];refine bF (b:=decide ((0:Int)<(CM.length:Int))) (by simp only[wq.1,↓reduceIte]) (by simp only[wq.1,↓reduceIte]) (fun hc=> ?_) (fun hc=> ?_)
      ·have hne:CM≠[]:=fun e=>by rw[e]at hc;exact absurd hc (by decide)
       obtain⟨x,cs,hxc⟩:∃x cs,CM=x::cs:=by
        cases hcc:CM with
        |nil=>exact absurd hcc hne
        |cons a b=>exact⟨a,b,rfl⟩
       have hsz:cZ (aW rows CM)<cZ rows:=by rw[erw,hxc];exact je (hCMx x (by rw[hxc];simp))
       have hdv:=yR rows CM (by omega) (by omega) (fun r h=>by have:=hr8 r h;omega) hCMr;have hdl:∀r∈aW rows CM,r.length=n:=yD hr;have hfc:=ih (aW rows CM) hdl (by unfold aW;rw[zra];exact hrl) (by omega);have hfl:=rD F (aW rows CM) (fun r h=>by have:=hdl r h;omega) (by omega);have hsl:=yJ (m:=8) rows hr8;have hal:=Dc CM (yB F (aW rows CM)) (by omega) (by omega) (fun x hx=>by have:=hCMr r0 hr0m x hx;omega);rw[if_pos hne];refine vm ?_;simp only[wq.1,seval,t1,t4];refine⟨by decide +kernel,uw.mk hdv rfl (by simp only[V.dats,V.dat,ax,mr,zre]) ?_⟩;simp only[wq.1,seval];refine uw.mk hfc rfl (by simp only[V.dats,V.dat,ax,zre]) ?_;simp only[wq.1,seval];refine uw.mk hal rfl (by simp only[V.dats,V.dat,mr,kE,zre]) ?_;simp only[wq.1,seval,hd];exact aG.dat (by simp only[V.dat,kE])
      ·have hne:CM=[]:=by have:=of_decide_eq_false hc;exact zse (by omega)
       rw[if_neg (by rw[hne];simp)];refine vm ?_;simp only[wq.1];show awp _ _ _ _ _ _ _;have hsl:=yJ (m:=8) rows hr8;have hmo:Ev TE 215 [aN rows] (.tup [liV (lG rows).1,vi (lG rows).2]):=by
        rw[erw];exact O8 r0 rs (by rw[<-erw];omega) (fun r h=>by have:=hr8 r (by rw[erw];exact h);omega)
       have hmk:=Hf rows;obtain⟨mx,mc,hmxc⟩:∃mx mc,lG rows=(mx,mc):=⟨_,_,rfl⟩;rw[hmxc]at hmo hmk ⊢;dsimp only at hmo hmk ⊢;have hdd:decide ((mc:Int)<2)=decide (mc<2):=decide_eq_decide.2 (by omega);refine vn ?_;simp only[wq.1,seval,t1];refine ag.ev hmo (by simp only[V.dats,V.dat,ax,zre]) ?_;simp only[wq.1,seval];refine ai ?_;refine vn ?_;simp only[wq.1,seval,hdd];refine bF (b:=decide (mc<2)) (by simp only[wq.1,↓reduceIte]) (by simp only[wq.1,↓reduceIte]) (fun hm=> ?_) (fun hm=> ?_)
       ·rw[if_pos (zqs hm)];refine vn ?_;simp only[wq.1,↓reduceIte,Nat.reduceEqDiff,Nat.reduceLT,Nat.reduceLeDiff,Nat.reduceAdd,reduceCtorEq,Nat.reduceMul,t1];refine⟨⟨rfl,by decide⟩,?_⟩;have hall:=fun i=>CX (rows.take i);have hsz:=fun i=>yJ (m:=8) (rows.take i) fun r h=>hr8 r (zsh h);have htl:∀i,(rows.take i).length<=128:=fun i=>by rw[zrl];omega
        obtain⟨acc,eacc⟩:∃acc:Nat->List Fo,acc=fun i=>(⟨4,0,rows.length⟩:Fo)::(rows.take i).flatMap fun r=>CE (bD r) []:=⟨_,rfl⟩;have haccl:∀i,(acc i).length<=2000:=fun i=>by rw[eacc];have h1:=hall i;have h2:=hsz i;have h3:=htl i;simp only[zrt];omega
        have haccs:∀i (hi:i<rows.length),acc (i+1)=acc i++CE (bD rows[i]) []:=fun i hi=>by rw[eacc];show _::(rows.take (i+1)).flatMap _=_;rw[List.take_succ_eq_append_getElem hi,List.flatMap_append];simp
        refine vn ?_;simp only[wq.1,seval,t1];refine aC (fun m f h=>∃i,m+i=rows.length/\f.t 62=aN rows/\f.t 63=vi rows.length/\f.t 64=vi i/\f.d=[3]/\((i=0/\f.t 8= .is true 3 [foV ⟨4,0,rows.length⟩]/\h=[.cells [aN rows],.cells [wF CM],.dead,.misc .dfd,L2,.cells [vi mx.1,vi mx.2.toNat]])\/(f.t 8= .ls 6 3 0 (acc i).length (acc i).length/\∃L4,h=[.cells [aN rows],.cells [wF CM],.dead,.misc .dfd,L4,.cells [vi mx.1,vi mx.2.toNat],.cells (foC (acc i))]))) rows.length ⟨0,by omega,by simp only[wq.1,seval],by simp only[wq.1,seval],by rfl,by simp only[wq.1,hd],.inl ⟨rfl,by simp only[wq.1,seval];rfl,rfl⟩⟩ ?_;clear t1 t4 hd f;rintro m f h ⟨i,hm,t62,t63,t64,hd,hst⟩;have hw:=aB (show i<maxLen by omega);refine vn ?_;simp only[wq.1,Nat.reduceLT,t63,t64];refine vn ?_;simp only[wq.1,↓reduceIte];refine vcB.mk (fun hlt=> ?_) (fun hlt=> ?_)
        ·have hlt:i<rows.length:=by have:=zqs hlt;omega
         obtain⟨r,er⟩:∃r,r=rows[i]:=⟨_,rfl⟩;have hgr:=zW hlt .any;rw[<-er]at hgr;have hrm:r∈rows:=er▸zqu hlt;have hrl8:=hr8 r hrm;have hlir:=CW r;have hacs:=haccs i hlt;rw[<-er]at hacs;have hal1:=haccl (i+1);rw[hacs,zqa]at hal1;have hall':Ev TE 213 [wF (bD r),.nils] (nI (CE (bD r) [])):=(Dc (bD r) [] (by omega) (by simp) (fun x hx=>by have:=nC hx;omega)).les (bW.cons (VLe.refl _) (bW.cons dJ bW.nil));obtain⟨A,eA⟩:∃A,A=CE (bD r) []:=⟨_,rfl⟩;have hApos:0<A.length:=by
          have hfr:og r=false:=by rw[List.any_eq_false]at h1';simpa using h1' r hrm
          have hln:=List.length_pos_iff.2 (yC hfr);rw[eA];unfold CE;rw[zqa,zqa,zra];omega
         rw[<-eA]at hacs hal1 hall';have hlen:(acc i).length+A.length=(acc (i+1)).length:=by rw[hacs,zqa]
         have hfc:=uU (acc i);have dF:∀q,V.drops q (foC (acc i))=foC (acc i):=fun q=>iV _;have hap:foC (acc i)++foC A=foC (acc (i+1)):=by rw[hacs,yP]
         simp only[wq.1];rcases hst with⟨rfl,t8,rfl⟩|⟨t8,L4,rfl⟩
         ·have hacc0:acc 0=[⟨4,0,rows.length⟩]:=by rw[eacc];rfl
          refine vm ?_;simp only[wq.1,↓reduceIte,Nat.reduceEqDiff,Nat.reduceLT,t8,t62,t64,hgr];refine⟨⟨by omega,by omega⟩,ag.ev (ug r) rfl ?_⟩;simp only[wq.1,seval];refine ag.ev (vT r (by omega)) rfl ?_;simp only[wq.1,seval];refine ag.ev hall' (by simp only[V.dats,V.dat,mr,zre]) ?_;simp only[wq.1,↓reduceIte,Nat.reduceEqDiff,Nat.reduceLT,Nat.reduceAdd,reduceCtorEq,t64,hw,Hy];have hlen':1+A.length=(acc 1).length:=by rw[<-hlen,hacc0];rfl
          rw[hacc0]at hap hlen;refine⟨uV A,⟨rfl,.inr hApos,by omega,by omega⟩,.inl ⟨m-1,by omega,1,by omega,by simp only[wq.1,↓reduceIte,Nat.reduceEqDiff,Nat.reduceLT,Nat.reduceLeDiff,Nat.reduceAdd,Nat.reduceSub,Int.reduceToNat,Nat.reduceDiv,Int.reduceLT,Int.reduceLE,Int.reduceNeg,Int.reduceBEq,Int.reduceBNe,Int.reduceAdd,Int.reduceSub,Nat.reduceBEq,reduceCtorEq,Nat.reduceMul,au,Tryz.results157,t62],by simp only[wq.1,↓reduceIte,Nat.reduceEqDiff,Nat.reduceLT,Nat.reduceLeDiff,Nat.reduceAdd,Nat.reduceSub,Int.reduceToNat,Nat.reduceDiv,Int.reduceLT,Int.reduceLE,Int.reduceNeg,Int.reduceBEq,Int.reduceBNe,Int.reduceAdd,Int.reduceSub,Nat.reduceBEq,reduceCtorEq,Nat.reduceMul,au,Tryz.results157,t63],by simp only[wq.1,↓reduceIte,Nat.reduceEqDiff,Nat.reduceLT,Nat.reduceLeDiff,Nat.reduceAdd,Nat.reduceSub,Int.reduceToNat,Nat.reduceDiv,Int.reduceLT,Int.reduceLE,Int.reduceNeg,Int.reduceBEq,Int.reduceBNe,Int.reduceAdd,Int.reduceSub,Nat.reduceBEq,reduceCtorEq,Nat.reduceMul,au,Tryz.results157],by simp only[wq.1,↓reduceIte,Nat.reduceEqDiff,Nat.reduceLT,Nat.reduceLeDiff,Nat.reduceAdd,Nat.reduceSub,Int.reduceToNat,Nat.reduceDiv,Int.reduceLT,Int.reduceLE,Int.reduceNeg,Int.reduceBEq,Int.reduceBNe,Int.reduceAdd,Int.reduceSub,Nat.reduceBEq,reduceCtorEq,Nat.reduceMul,au,Tryz.results157,hd],.inr ⟨by simp only[wq.1,↓reduceIte,Nat.reduceEqDiff,Nat.reduceLT,Nat.reduceLeDiff,Nat.reduceAdd,Nat.reduceSub,Int.reduceToNat,Nat.reduceDiv,Int.reduceLT,Int.reduceLE,Int.reduceNeg,Int.reduceBEq,Int.reduceBNe,Int.reduceAdd,Int.reduceSub,Nat.reduceBEq,reduceCtorEq,Nat.reduceMul,au,Tryz.results157,hlen'],L2,?_⟩⟩⟩;rw[<-hap];rfl
         ·refine vm ?_;simp only[wq.1,seval,t8,t62,t64,hgr];refine⟨⟨by omega,by omega⟩,ag.ev (ug r) rfl ?_⟩;simp only[wq.1,seval];refine ag.ev (vT r (by omega)) rfl ?_;simp only[wq.1,seval];refine ag.ev hall' (by simp only[V.dats,V.dat,mr,zre]) ?_;simp only[wq.1,seval,hd,t64,hw,dF,hfc,Hy,iV];refine⟨uV A,⟨uh A,by omega,by omega⟩,.inl ⟨m-1,by omega,i+1,by omega,by simp only[wq.1,seval,t62],by simp only[wq.1,seval,t63],by simp only[wq.1,↓reduceIte],by simp only[wq.1,hd],.inr ⟨by simp only[wq.1,seval,hlen],O.drop (fun x=>x==6) L4,?_⟩⟩⟩;rw[hap]
        ·have hi:i=rows.length:=by have:=of_decide_eq_false hlt;omega
         have hfin:acc rows.length=⟨4,0,rows.length⟩::rows.flatMap fun r=>CE (bD r) []:=by rw[eacc];show _::(rows.take rows.length).flatMap _=_;rw[zrx]
         rw[<-hfin];rcases hst with⟨h00,_⟩|⟨t8,L4,rfl⟩
         ·omega
         ·rw[hi]at t8 ⊢;refine vm ?_;simp only[wq.1,seval,t8,hd];exact wU rfl rfl
       ·rw[if_neg (of_decide_eq_false hm)];refine vm ?_;simp only[wq.1];show awp _ _ _ _ _ _ _;refine vn ?_;simp only[wq.1,seval];refine ag.ev (Jl mx) rfl ?_;simp only[wq.1,seval];refine vn ?_;simp only[wq.1,seval];refine fM (fun f=>f.t 1= .lp 0 0/\f.t 6= .lp 5 0/\f.t 11= .lp 6 0/\f.t 12= .fn (.func 218) [] [.lp 6 0]/\f.d=[3]) ⟨by simp only[wq.1,seval,t1],by simp only[wq.1,seval],by simp only[wq.1,seval],by simp only[wq.1,↓reduceIte],by simp only[wq.1,hd]⟩ ?_;clear t1 t4 hd f;rintro f ⟨t1,t6,t11,t12,hd⟩;obtain⟨p,hpp⟩:∃p:Nat->Bool,p=fun j=>j==6:=⟨_,rfl⟩;refine BI p (fun i=>if i=11 then .ip (.fn (.func 264) [] [.ip (liV mx)])else if i=12 then .fn (.func 218) [] [.ip (.fn (.func 264) [] [.ip (liV mx)])]else(f.t i).drop p) (fun i=> ?_) (fun i hi=>by rw[hd]at hi;rw[zrc.1 hi,hpp];rfl) ?_
        ·have hlp:aG TE (su p 0 [O.cells [aN rows],O.cells [wF CM],O.dead,O.misc Misc.dfd,L2,O.cells [vi mx.1,vi mx.2.toNat],O.cells [V.fn (Fn.func 264) [] [(liV mx).ip]]]) (.lp 6 0) (.ip (.fn (.func 264) [] [.ip (liV mx)])):=by rw[hpp];exact aG.lp rfl (ay.dat rfl) rfl rfl (by simp[V.vc]) rfl
         by_cases h11:i=11
         ·subst h11;refine .inr ⟨?_,?_⟩
          ·rw[t11,hpp];rfl
          ·rw[t11];exact hlp
         ·rw[if_neg h11];by_cases h12:i=12
          ·subst h12;refine .inr ⟨?_,?_⟩
           ·rw[t12,hpp];rfl
           ·rw[t12];exact aG.fn ay.nil (ay.cons hlp ay.nil)
          ·rw[if_neg h12];exact .inl rfl
        obtain⟨L3,hL3⟩:∃L3,L3=L2.drop p:=⟨_,rfl⟩;have hdp:jk p 0 [O.cells [aN rows],O.cells [wF CM],O.dead,O.misc Misc.dfd,L2,O.cells [vi mx.1,vi mx.2.toNat],O.cells [V.fn (Fn.func 264) [] [(liV mx).ip]]]=[O.cells [aN rows],O.cells [wF CM],O.dead,O.misc Misc.dfd,L3,O.cells [vi mx.1,vi mx.2.toNat],.dead]:=by rw[hL3,hpp];rfl
        rw[hdp];refine fM (fun f=>f.t 1= .lp 0 0/\f.t 6= .lp 5 0/\f.t 11= .ip (.fn (.func 264) [] [.ip (liV mx)])/\f.t 12= .fn (.func 218) [] [.ip (.fn (.func 264) [] [.ip (liV mx)])]/\f.d=[3]) ⟨?_,?_,rfl,rfl,hd⟩ ?_
        ·show(f.t 1).drop p=_;rw[t1,hpp];rfl
        ·show(f.t 6).drop p=_;rw[t6,hpp];rfl
        clear t1 t6 t11 t12 hd f hL3 hdp hpp p;rintro f ⟨t1,t6,t11,t12,hd⟩;have hcl:=pX rows (by omega);have hdel1:=fun(h:H)(hid:h[7]? =some (.cells (rows.map V.str)))=>@Fq _ h 7 rows hid (by omega) 218 [.ip (.fn (.func 264) [] [.ip (liV mx)])] (fun r=> !lI mx r) (by simp[ens]) rfl (fun r hrr=>Pg mx r (by have:=hr8 r hrr;omega));have hdel2:=fun(h:H)(hid:h[8]? =some (.cells (rows.map V.str)))=>@Fq _ h 8 rows hid (by omega) 264 [.ip (liV mx)] (fun r=>lI mx r) (by simp[ens]) rfl (fun r hrr=>yO mx r (by have:=hr8 r hrr;omega));have hnn:(rows.filter fun r=> !(!lI mx r))=rows.filter (lI mx):=by simp only[Bool.not_not]
        obtain⟨RH,eRH⟩:∃RH,RH=rows.filter (lI mx):=⟨_,rfl⟩;obtain⟨RN,eRN⟩:∃RN,RN=rows.filter fun r=> !lI mx r:=⟨_,rfl⟩;rw[hnn]at hdel1;rw[<-eRH]at hdel1 ⊢;rw[<-eRN]at hdel2 ⊢;have hRHm:∀r∈RH,r∈rows/\lI mx r=true:=fun r h=>by rw[eRH]at h;exact List.mem_filter.1 h
        have hcnt:2<=iU rows mx:=by have:=of_decide_eq_false hm;rcases hmk with⟨h,_⟩|⟨_,h⟩<;>omega
        have hRHl:RH.length<=128:=by rw[eRH];exact Nat.le_trans (List.length_filter_le _ _) hrl
        have hmr:∀r∈RH,∀x∈[mx],x.1<r.length:=fun r h x hx=>by rw[zrc.1 hx];have:=nC (uQ (hRHm r h).2);omega
        have hdv:=yR RH [mx] (by simp) (by omega) (fun r h=>by have:=hr8 r (hRHm r h).1;omega) hmr;obtain⟨q0,qs,hq⟩:∃q0 qs,RH=q0::qs:=by
         cases hf:RH with
         |nil=>exfalso;unfold iU at hcnt;rw[List.countP_eq_length_filter,<-eRH,hf]at hcnt;simp at hcnt
         |cons a b=>exact⟨a,b,rfl⟩
        have hq0:mx∈bD q0:=uQ (hRHm q0 (by rw[hq];simp)).2;have s1:cZ (aW RH [mx])<cZ RH:=by rw[hq];exact je hq0
        have s2:cZ RH<=cZ rows:=by rw[eRH];exact nD _ _
        have hfc:=ih (aW RH [mx]) (yD fun r h=>hr r (hRHm r h).1) (by unfold aW;rw[zra];exact hRHl) (by omega);have hdv2:Ev TE 214 [aN RH,.is true 2 [liV mx]] (aN (aW RH [mx])):=hdv.les (bW.cons (VLe.refl _) (bW.cons cO bW.nil));have hRNm:∀r∈RN,r∈rows:=fun r h=>by rw[eRN]at h;exact(List.mem_filter.1 h).1
        have hRNl:RN.length<=128:=by rw[eRN];exact Nat.le_trans (List.length_filter_le _ _) hrl
        have s3:cZ RN<cZ rows:=by rw[eRN];exact lH ⟨q0,(hRHm q0 (by rw[hq];simp)).1,by rw[(hRHm q0 (by rw[hq];simp)).2];rfl⟩
        have hfn:=ih RN (fun r h=>hr r (hRNm r h)) hRNl (by omega);have hq8:∀r∈aW RH [mx],r.length<=8:=fun r h=>by have:=yD (fun r h=>hr r (hRHm r h).1) r h;omega
        have hfl1:=rD F (aW RH [mx]) hq8 (by omega);have hfl2:=rD F RN (fun r h=>hr8 r (hRNm r h)) (by omega);obtain⟨Q1,eQ1⟩:∃Q1,Q1=yB F (aW RH [mx]):=⟨_,rfl⟩;obtain⟨Q2,eQ2⟩:∃Q2,Q2=yB F RN:=⟨_,rfl⟩;rw[<-eQ1]at hfc hfl1 ⊢;rw[<-eQ2]at hfn hfl2 ⊢;refine ai (dW mixed Ph (fun f' h'=>f'.t 1= .lp 0 0/\f'.t 6= .lp 5 0/\f'.t 11= .ip (.fn (.func 264) [] [.ip (liV mx)])/\f'.t 13=nI Q1/\f'.d=[3]/\∃L4,h'=[.cells [aN rows],.cells [wF CM],.dead,.misc .dfd,L4,.cells [vi mx.1,vi mx.2.toNat],.dead,.dead]) (by rw[TEP];decide +kernel) (by decide +kernel) ?_ ?_)
        ·have hdp24:∀X:List V,jk (fun j=>j==7) 0 [O.cells [aN rows],O.cells [wF CM],O.dead,O.misc Misc.dfd,L3,O.cells [vi mx.1,vi mx.2.toNat],O.dead,O.cells (List.map V.str RH++X)]=[O.cells [aN rows],O.cells [wF CM],O.dead,O.misc Misc.dfd,O.drop (fun j=>j==7) L3,O.cells [vi mx.1,vi mx.2.toNat],O.dead,O.dead]:=fun X=>rfl;simp only[wq.1,seval,Ph,t1,t6,t12]
         repeat' apply zsa
         all_goals first|exact rfl|exact(by decide)|skip
         all_goals refine jI hcl (by simp only[V.dats,V.dat,ax,zre]) ax ?_
         all_goals simp only[wq.1,seval,t6]
         all_goals repeat' apply zsa
         all_goals first|exact rfl|exact(by decide)|skip
         all_goals refine hdel1 _ rfl fun X cap=> ?_
         all_goals simp only[wq.1,seval,t6]
         all_goals repeat' apply zsa
         all_goals first|exact rfl|exact(by decide)|skip
         all_goals refine qU (fun j=>j==7) hdv2 rfl (ay.cons (qJ (ex:=V.drops (fun j=> !(j==7)) X) (by show some (O.cells (V.drops _ _))=_;rw[fG,aJ])) (ay.cons (aG.dat rfl) ay.nil)) ?_
         all_goals rw[hdp24 X]
         all_goals simp only[wq.1,seval,bu,hd]
         all_goals refine ag.ev hfc (by simp only[V.dats,V.dat,ax,zre]) ?_
         all_goals simp only[wq.1,seval,t1,t6,t11,hd]
         all_goals exact⟨_,rfl⟩
        ·clear t1 t6 t11 t12 hd;rintro f h ⟨t1,t6,t11,t13,hd,L4,rfl⟩;show awp _ _ _ _ _ _ _;have hdp25:∀X:List V,jk (fun j=>j==8) 0 [O.cells [aN rows],O.cells [wF CM],O.dead,O.misc Misc.dfd,L4,O.cells [vi mx.1,vi mx.2.toNat],O.dead,O.dead,O.cells (List.map V.str RN++X)]=[O.cells [aN rows],O.cells [wF CM],O.dead,O.misc Misc.dfd,O.drop (fun j=>j==8) L4,O.cells [vi mx.1,vi mx.2.toNat],O.dead,O.dead,O.dead]:=fun X=>rfl;refine ai (dW mixed Pi (fun f' h'=>f'.t 6= .lp 5 0/\f'.t 13=nI Q1/\f'.t 14=nI Q2/\f'.d=[3]/\∃L5,h'=[.cells [aN rows],.cells [wF CM],.dead,.misc .dfd,L5,.cells [vi mx.1,vi mx.2.toNat],.dead,.dead,.dead]) (by rw[TEP];decide +kernel) (by decide +kernel) ?_ ?_)
         ·simp only[wq.1,seval,Pi,t1,t11]
          repeat' apply zsa
          all_goals refine jI hcl (by simp only[V.dats,V.dat,ax,zre]) ax ?_
          all_goals simp only[wq.1,seval,t11]
          all_goals repeat' apply zsa
          all_goals refine hdel2 _ rfl fun X cap=> ?_
          all_goals simp only[wq.1,seval]
          all_goals refine qU (fun j=>j==8) hfn rfl (ay.cons (qJ (ex:=V.drops (fun j=> !(j==8)) X) (by show some (O.cells (V.drops _ _))=_;rw[fG,aJ])) ay.nil) ?_
          all_goals rw[hdp25 X]
          all_goals simp only[wq.1,↓reduceIte,Nat.reduceEqDiff,Nat.reduceLT,Nat.reduceLeDiff,Nat.reduceAdd,Nat.reduceSub,Int.reduceToNat,Nat.reduceDiv,Int.reduceLT,Int.reduceLE,Int.reduceNeg,Int.reduceBEq,Int.reduceBNe,Int.reduceAdd,Int.reduceSub,Nat.reduceBEq,reduceCtorEq,Nat.reduceMul,au,Tryz.results157,bu,t1,t6,t11,t13,hd]
          all_goals exact⟨_,rfl⟩
         ·clear t1 t6 t11 t13 hd;rintro f h ⟨t6,t13,t14,hd,L5,rfl⟩;show awp _ _ _ _ _ _ _;have hal:=Dc [mx] Q1 (by simp) (by omega) (fun x hx=>by
           rw[zrc.1 hx];have:=nC hq0;have:=hr8 q0 (hRHm q0 (by rw[hq];simp)).1;omega)
          have hal2:Ev TE 213 [.is true 2 [liV mx],nI Q1] (nI (CE [mx] Q1)):=hal.les (bW.cons cO (bW.cons (VLe.refl _) bW.nil));have hall1:=CV [mx] Q1;obtain⟨A,eA⟩:∃A,A=CE [mx] Q1:=⟨_,rfl⟩;rw[<-eA]at hal2 hall1 ⊢;have hcat:=HY [[⟨4,0,2⟩],A,Q2] (by simp at hall1 ⊢;omega) (by simp);have hflat:[[(⟨4,0,2⟩:Fo)],A,Q2].flatten=⟨4,0,2⟩::(A++Q2):=by simp
          rw[hflat]at hcat;have hcat2:Ev TE 220 [.is true 1 [.is true 3 [foV ⟨4,0,2⟩],nI A,nI Q2]] (nI (⟨4,0,2⟩::(A++Q2))):=by
           refine hcat.les (bW.cons (VLe.is rfl fun i v v' h1 h2=> ?_) bW.nil);rcases i with _|_|_|i
           ·injection h1 with h1;injection h2 with h2;rw[<-h1,<-h2];exact cO
           ·injection h1 with h1;injection h2 with h2;rw[<-h1,<-h2];exact VLe.refl _
           ·injection h1 with h1;injection h2 with h2;rw[<-h1,<-h2];exact VLe.refl _
           ·cases h1
          refine vm ?_;simp only[wq.1,↓reduceIte,Nat.reduceEqDiff,Nat.reduceLT,Nat.reduceLeDiff,Nat.reduceAdd,Nat.reduceSub,Int.reduceToNat,Nat.reduceDiv,Int.reduceLT,Int.reduceLE,Int.reduceNeg,Int.reduceBEq,Int.reduceBNe,Int.reduceAdd,Int.reduceSub,Nat.reduceBEq,reduceCtorEq,Nat.reduceMul,au,Tryz.results157,t6,t13,t14,hd];refine⟨⟨rfl,by decide⟩,⟨rfl,by decide⟩,ag.ev hal2 (by simp only[V.dats,V.dat,kE,zre]) ?_⟩;simp only[wq.1,↓reduceIte,Nat.reduceEqDiff,Nat.reduceLT,reduceCtorEq,Nat.reduceMul,t14];refine⟨⟨rfl,by decide⟩,ag.ev hcat2 (by simp only[V.dats,V.dat,kE,zre]) ?_⟩;simp only[wq.1,seval,hd];exact aG.dat (by simp only[V.dat,kE])
    ·exact h.elim
theorem SE(c:List S)(s:S):decide (0<=idx c (·==s))=c.contains s:=by
 unfold idx;rw[Bool.eq_iff_iff,zqb];cases h:c.findIdx? (·==s)with
 |none =>
  rw[List.findIdx?_eq_none_iff]at h;constructor
  ·intro h';exact absurd h' (by decide)
  ·intro h';have:=h s (List.contains_iff_mem.1 h');simp at this
 |some i =>
  obtain⟨hi,hp,_⟩:=List.findIdx?_eq_some_iff_getElem.1 h;constructor
  ·intro _;rw[List.contains_iff_mem];have:c[i]=s:=by simpa using hp
   rw[<-this];exact zqu hi
  ·intro _;exact Int.natCast_nonneg i
theorem uX[MO](c:List S)(s:S):Ev TE 63 [aN c,.str s] (vi (idx c (·==s))):=by
 refine Ev.bnd fun hb=> ?_;have hlen:=BP hb;refine ak Tryz.func63 rfl (by simp[nts]) (vm ?_);simp only[wq.1,seval,Tryz.results63];refine aC (fun m f h=>∃i,m+i=c.length/\f.t 0=aN c/\f.t 1= .str s/\f.t 6=aN c/\f.t 7=vi c.length/\f.t 8=vi i/\f.d=[]/\∀x∈c.take i,(x==s)=false) c.length ⟨0,by simp,rfl,rfl,rfl,rfl,rfl,rfl,by simp⟩ ?_;rintro m f h ⟨i,hm,h0,h1,h6,h7,h8,hd,hall⟩;refine vm ?_;simp only[wq.1,seval,h7,h8];refine vcB.mk (fun hc=> ?_) (fun hc=> ?_)
 ·have hlt:i<c.length:=by have:=zqs hc;omega
  have hgs:=zW hlt;simp only[wq.1,seval,h0,h1,h8,hgs];refine⟨⟨by omega,by omega⟩,?_⟩;cases hp:(s==c[i])with
  |true =>
   have hp':(c[i]==s)=true:=by simpa using(by simpa using hp:s=c[i]).symm
   simp only[wq.1,seval,hd];have:idx c (·==s)=i:=by
    unfold idx;have:c.findIdx? (·==s)=some i:=List.findIdx?_eq_some_iff_getElem.2 ⟨hlt,hp',fun j hj=>by
     have:=hall c[j] (List.mem_take_iff_getElem.2 ⟨j,by omega,rfl⟩);simp[this]⟩
    rw[this]
   rw[this];exact aG.dat rfl
  |false =>
   have hp':(c[i]==s)=false:=by rw[beq_eq_false_iff_ne]at hp ⊢;exact fun e=>hp e.symm
   simp only[wq.1,seval,h8,aB (show i<maxLen by simp only[maxLen]at *;omega)];exact .inl ⟨m-1,by omega,i+1,by omega,h0,h1,h6,h7,rfl,hd,bT hlt hall hp'⟩
 ·have hi:i=c.length:=by have:=of_decide_eq_false hc;omega
  rw[hi,zrx]at hall;have:idx c (·==s)=-1:=by
   unfold idx;rw[List.findIdx?_eq_none_iff.2 hall]
  rw[this];simp only[wq.1,seval,hd];exact aG.dat rfl
theorem Df[MO](c:List S)(s:S):Ev TE 156 [aN c,.str s] (.bool (c.contains s)):=by have h:=uX c s;refine ak Tryz.func156 rfl (by simp[nts]) (vm ?_);simp only[wq.1,seval,Tryz.results156];refine ag.ev h (by simp only[V.dats,V.dat,ax,zre]) ?_;simp only[wq.1,seval];exact aG.eq rfl (congrArg V.bool (SE c s))
theorem SG[MO](s:S)(n:Nat):Ev TE 153 [.str s,.ip (vi n)] (.bool (!ng n s)):=by have ht:=BZ s [48,49,45] (by decide) (by decide);rw[<-IV];refine ak Tryz.func153 rfl (by simp[nts]) (vm ?_);simp only[wq.1,seval,Tryz.results153];refine Gf.ev (q:=154) (vs:=[.str s,.str [48,49,45]]) (by simp only[wq.1,seval]) (by simp only[wq.1,seval]) rfl (fun _=>ht) (fun _=>rfl) ?_;simp only[wq.1,seval];refine aG.eq rfl ?_;cases h1:((s.length:Int)==(n:Int))<;>cases h2:(Lib.trimS s [48,49,45]==[])<;>simp_all [bne]
theorem Pj(rows:List S)(r:S):dQ (rows++[r])=if(dQ rows).contains r=true then dQ rows else dQ rows++[r]:=by unfold dQ;rw[List.foldl_append];rfl
theorem Pm[MO](rows:List S)(n:Nat)(hn:n<=8)(hrl:rows.length<=128)(hr:∀r∈rows,ng n r=true):Ev TE 90 [aN rows,vi n] (.tup [nI (TW (dQ rows)),vi 0]):=by
 have hM:=mLx;have hul:∀i,(dQ (rows.take i)).length<=i:=fun i=>by have:=CY (rows.take i) [];rw[zrl]at this;simp only[List.length_nil]at this;unfold dQ;omega
 have hm:∀r∈dQ rows,r.length=n:=fun r hr2=>by
  rcases qg rows [] r hr2 with h|h
  ·cases h
  ·have:=hr r h;unfold ng at this;simp only[zqf,beq_iff_eq]at this;exact this.1
 have hct:=GY rows 153 [.ip (vi n)] (fun r=> !ng n r) (by simp[ens]) rfl fun r _=>SG r n;have hany:rows.any (fun r=> !ng n r)=false:=by rw[List.any_eq_false];intro r h;rw[hr r h];decide
 rw[hany]at hct;have e1:decide ((n:Int)<0)=false:=by rw[zqd];omega
 have e2:decide ((8:Int)<(n:Int))=false:=by rw[zqd];omega
 have e3:decide ((128:Int)<(rows.length:Int))=false:=by rw[zqd];omega
 refine ak Tryz.func90 rfl (by simp[nts]) ?_;refine vn ?_;simp only[wq.1,Nat.reduceLT,Tryz.results90];refine vn ?_;simp only[wq.1,seval];refine ai ?_;refine vn ?_;simp only[wq.1,seval,e1,e2,e3];refine ag.lend hct (ay.cons (aG.dat (by simp only[V.dat,ax])) (ay.cons (aG.fn ay.nil (ay.cons (aG.lp rfl (ay.dat rfl) rfl rfl (by simp[V.vc]) rfl) ay.nil)) ay.nil)) rfl ?_;simp only[wq.1,seval];refine vm ?_;simp only[wq.1,↓reduceIte];show awp _ _ _ _ _ _ _;refine vn ?_;simp only[wq.1,Nat.reduceLT];refine gV 7 1 (by simp only[wq.1,↓reduceIte]) ?_;refine vn ?_;simp only[wq.1,seval];refine aC (fun m f h=>∃i,m+i=rows.length/\h[1]? =some (.cells ((dQ (rows.take i)).map V.str))/\f.t 7= .ls 1 1 0 (dQ (rows.take i)).length (dQ (rows.take i)).length/\f.t 27=aN rows/\f.t 28=vi rows.length/\f.t 29=vi i/\f.d=[]) rows.length ⟨0,by omega,rfl,by simp only[wq.1,seval];rfl,by simp only[wq.1,seval],by simp only[wq.1,seval],by rfl,by simp only[wq.1]⟩ ?_;rintro m f h ⟨i,hm2,h1,t7,t27,t28,t29,hd⟩;have hw:=aB (show i<maxLen by omega);have l1:=(zqe h1).1;refine vn ?_;simp only[wq.1,Nat.reduceLT,t28,t29];refine vn ?_;simp only[wq.1,↓reduceIte];refine vcB.mk (fun hlt=> ?_) (fun hlt=> ?_)
 ·have hlt:i<rows.length:=by have:=zqs hlt;omega
  obtain⟨r,er⟩:∃r,r=rows[i]:=⟨_,rfl⟩;have hg:=zW hlt .any;rw[<-er]at hg;have hus:dQ (rows.take (i+1))=if(dQ (rows.take i)).contains r=true then dQ (rows.take i)else dQ (rows.take i)++[r]:=by rw[List.take_succ_eq_append_getElem hlt,<-er,Pj]
  have hul':=hul i;obtain⟨U,eU⟩:∃U,U=dQ (rows.take i):=⟨_,rfl⟩;rw[<-eU]at hus h1 t7 hul';have hcs:=Df U r;have dU:∀p,V.drops p (U.map V.str)=U.map V.str:=fun p=>aJ;simp only[wq.1];refine vm ?_;simp only[wq.1,seval,t7,t27,t29,hg];refine⟨⟨by omega,by omega⟩,ag.lend hcs (ay.cons (aV h1 rfl) (ay.cons (aG.dat rfl) ay.nil)) rfl ?_⟩;cases hc:U.contains r with
  |true=>rw[hc,if_pos rfl]at hus;simp only[wq.1,seval,t29,hw];exact .inl ⟨m-1,by omega,i+1,by omega,by rw[hus];exact h1,by simp only[wq.1,seval,t7,hus],by simp only[wq.1,seval,t27],by simp only[wq.1,seval,t28],by simp only[wq.1,↓reduceIte],by simp only[wq.1,hd]⟩
  |false =>
   rw[hc,if_neg (by decide)]at hus;have hln:(U++[r]).length=U.length+1:=by simp
   simp only[wq.1,↓reduceIte,Nat.reduceEqDiff,Nat.reduceLT,reduceCtorEq,Nat.reduceMul,t7,t29,hd,hw,h1];refine⟨⟨rfl,by decide⟩,⟨by omega,by omega⟩,.inl ⟨m-1,by omega,i+1,by omega,?_,by simp only[wq.1,↓reduceIte,Nat.reduceEqDiff,Nat.reduceLT,Nat.reduceLeDiff,Nat.reduceAdd,Nat.reduceSub,Int.reduceToNat,Nat.reduceDiv,Int.reduceLT,Int.reduceLE,Int.reduceNeg,Int.reduceBEq,Int.reduceBNe,Int.reduceAdd,Int.reduceSub,Nat.reduceBEq,reduceCtorEq,Nat.reduceMul,au,Tryz.results90,hus,hln],by simp only[wq.1,↓reduceIte,Nat.reduceEqDiff,Nat.reduceLT,Nat.reduceLeDiff,Nat.reduceAdd,Nat.reduceSub,Int.reduceToNat,Nat.reduceDiv,Int.reduceLT,Int.reduceLE,Int.reduceNeg,Int.reduceBEq,Int.reduceBNe,Int.reduceAdd,Int.reduceSub,Nat.reduceBEq,reduceCtorEq,Nat.reduceMul,au,Tryz.results90,t27],by simp only[wq.1,↓reduceIte,Nat.reduceEqDiff,Nat.reduceLT,Nat.reduceLeDiff,Nat.reduceAdd,Nat.reduceSub,Int.reduceToNat,Nat.reduceDiv,Int.reduceLT,Int.reduceLE,Int.reduceNeg,Int.reduceBEq,Int.reduceBNe,Int.reduceAdd,Int.reduceSub,Nat.reduceBEq,reduceCtorEq,Nat.reduceMul,au,Tryz.results90,t28],by simp only[wq.1,↓reduceIte,Nat.reduceEqDiff,Nat.reduceLT,Nat.reduceLeDiff,Nat.reduceAdd,Nat.reduceSub,Int.reduceToNat,Nat.reduceDiv,Int.reduceLT,Int.reduceLE,Int.reduceNeg,Int.reduceBEq,Int.reduceBNe,Int.reduceAdd,Int.reduceSub,Nat.reduceBEq,reduceCtorEq,Nat.reduceMul,au,Tryz.results90],by simp only[wq.1,↓reduceIte,Nat.reduceEqDiff,Nat.reduceLT,Nat.reduceLeDiff,Nat.reduceAdd,Nat.reduceSub,Int.reduceToNat,Nat.reduceDiv,Int.reduceLT,Int.reduceLE,Int.reduceNeg,Int.reduceBEq,Int.reduceBNe,Int.reduceAdd,Int.reduceSub,Nat.reduceBEq,reduceCtorEq,Nat.reduceMul,au,Tryz.results90,hd]⟩⟩;rw[zqt (by simpa using l1),hus,zql];rfl
 ·have hi:i=rows.length:=by have:=of_decide_eq_false hlt;omega
  rw[hi,zrx]at h1 t7;have hul':=hul rows.length;rw[zrx]at hul';have hfac:=FC hn (cZ (dQ rows)+1) (dQ rows) hm (by omega) (by omega);simp only[wq.1];refine vm ?_;simp only[wq.1,seval,t7];refine qU (fun j=>j==1) hfac rfl (ay.cons (aV (l:=dQ rows) ?_ rfl) ay.nil) ?_
  ·rw[gz,h1];show some (O.cells (V.drops _ _))=_;rw[aJ]
  ·simp only[wq.1,seval,bu,hd];exact aG.tup (ay.cons (aG.dat (by show V.dat (nI (yB _ _))=true;simp only[V.dat,kE])) (ay.cons (aG.dat rfl) ay.nil))
theorem Pn[MO](s:S):Ev TE 159 [.str s] (.fn (.func 222) [] [.ip (.str s)]):=by refine ak Tryz.func159 rfl (by simp[nts]) (vm ?_);simp only[wq.1,seval,Tryz.results159];exact aG.fn ay.nil (ay.cons (aG.lp rfl (ay.dat rfl) rfl rfl (by simp[V.vc]) rfl) ay.nil)
theorem Po(k:Nat):[110]++Lib.itoa (k:Int)=iJ k:=by unfold Lib.itoa iJ;rw[if_neg (by omega),zsg];rfl
theorem FD[MO](n:Nat)(hn:n<=1000000000)(id:Nat)(h:H)(I:Nat->H->(Nat->Bool)->Prop)(S:H->(Nat->Bool)->Prop)(h0:I 0 h (fun _=>false))
 (step:∀i h' k,i<n->k id=false->I i h' k->V5 TE id [.str (iJ (i+1))] h' fun j h'' p=>j=none/\I (i+1) h'' (fun q=>k q||p q))
 (stop:∀h' k,k id=false->I n h' k->V5 TE id [.str (iJ (n+1))] h' fun j h'' p=>j.isNone=false/\S h'' (fun q=>k q||p q)) :
 ag TE 222 ([]++[.yd id]++[.ip (.str [110])]) h fun ae h' p=>p id=false/\match ae with
  | .ret _=>S h' p
  | .pan _=>False:=by
 have hM:=mLx;refine aj Tryz.func222 rfl (by simp[nts]) ?_;refine vn ?_;simp only[wq.1,Nat.reduceLT,Tryz.results222];refine aA ?_;refine aC (fun m f h=>∃i,m+i=n/\f.t 0= .yd id/\f.t 1= .ip (.str [110])/\f.t 3=vi (i+1:Nat)/\f.d=[]/\f.k id=false/\I i h f.k) n ⟨0,by omega,rfl,rfl,rfl,rfl,rfl,h0⟩ ?_;rintro m f h ⟨i,hm,t0,t1,t3,hd,hk,hI⟩;have hw:=aB (show i+1<maxLen by omega);have hit:=UU ((i+1:Nat):Int) (by omega) (by omega);refine ai (ai (kN mixed (by decide +kernel) ?_));simp only[nts,List.size_toArray,zrt,List.length_nil,Nat.reduceAdd,Nat.reduceSub,List.take_succ_cons,List.take_zero];simp only[wq.1,seval,bC,bI,t0,t1,t3];refine uw.mk hit rfl rfl ?_;simp only[wq.1,seval];have hst:(110:UInt8)::Lib.itoa ((i+1:Nat):Int)=iJ (i+1):=Po (i+1);have hil:=IK ((i+1:Nat):Int) (by omega) (by omega);rw[hst];refine⟨by omega,?_⟩;by_cases hin:i<n
 ·obtain⟨t,n',ps,asg,body,pend,hL,hsz,hps,hw2⟩:=step i h f.k hin hk hI;rw[hL];refine⟨⟨by simpa using hsz,hps⟩,oH hw2 ?_⟩;rintro j h' p hp ⟨rfl,hS⟩;refine⟨by simp[rU,hd],?_⟩;simp only[wq.1,Option.isNone_none];refine vm ?_;simp only[wq.1,↓reduceIte];refine vm ?_;simp only[wq.1,seval,t3,hw];exact .inl ⟨m-1,by omega,i+1,by omega,by simp only[wq.1,seval,t0,hp],by simp only[wq.1,seval,t1],by simp only[wq.1,↓reduceIte],by simp only[wq.1,hd],by simp only[wq.1,hk,hp],hS⟩
 ·have hie:i=n:=by omega
  subst hie;obtain⟨t,n',ps,asg,body,pend,hL,hsz,hps,hw2⟩:=stop h f.k hk hI;rw[hL];refine⟨⟨by simpa using hsz,hps⟩,oH hw2 ?_⟩;rintro j h' p hp ⟨hj,hS⟩;refine⟨by simp[rU,hd],?_⟩;simp only[wq.1,hj];refine vm ?_;simp only[wq.1,↓reduceIte,hd,hp,hk];exact hS
theorem VM(used:List S):∃n,n<=used.length/\oW used=iJ (n+1)/\(∀i,i<n->iJ (i+1)∈used)/\iJ (n+1)∉used:=by
 obtain⟨hnm,j,hj,hjs⟩:=I9 used;obtain⟨j',h1,h2,h3,h4,_⟩:=CJ used.length 1 used;refine⟨j'-1,by omega,?_,fun i hi=>h4 (i+1) (by omega) (by omega),?_⟩
 ·show EX _ _ _=_;rw[h3];congr 1;omega
 ·have:oW used=iJ j':=h3;rw[this]at hnm
  rwa [show j'-1+1=j' by omega]
theorem SH[MO](used:List S)(hu:used.length<=1000000000):Ev TE 93 [aN used,.str [110]] (.str (oW used)):=by
 have hM := mLx;obtain ⟨n,hn,hfr,hin,hnot⟩ := VM used;rw [hfr];refine ak Tryz.func93 rfl (by simp [nts]) ?_;refine vn ?_;simp only [wq.1,seval,Tryz.results93];refine vn ?_;simp only [wq.1,seval];refine vn ?_;simp only [wq.1,seval];refine ag.ev (Pn [110]) rfl ?_;simp only [wq.1];refine jc (n := 17) (q := 222) (first := []) (captured := [.ip (.str [110])]) (by simp only [wq.1,↓reduceIte]) (by simp only [wq.1,↓reduceIte]) rfl (by decide) ?_;intro L hLd gets;refine ag.mono (FD n (by omega) 3 _
  (fun j h k=>(∀i<4,k i=false)/\∃t X,t 2= .lp 0 0/\t 5= .lp 1 0/\h=[.cells [aN used],.cells [.str [110]],.misc .dfd,L t .ready none]++X)
  (fun h k=>(∀i<4,k i=false)/\∃t X,h=[.cells [aN used],.cells [.str (iJ (n+1))],.misc .dfd,L t .done (some (.exit 0))]++X) ?_ ?_ ?_) ?_
 ·exact⟨fun i _=>rfl,_,[],rfl,rfl,by rw[zqp];rfl⟩
 ·rintro i h k hi hk ⟨h4,t,X,t2,t5,rfl⟩;have hc:=Df used (iJ (i+1));rw[List.contains_iff_mem.2 (hin i hi)]at hc;refine gets _ _ _ t rfl rfl (fun lb=> ?_);refine vm ?_;simp only[wq.1,seval,rZ];refine⟨t,rfl,?_⟩;refine aA ?_;refine vn ?_;simp only[wq.1,seval,t2];refine ag.ev hc (by simp only[V.dats,V.dat,ax,zre]) ?_;simp only[wq.1,seval];refine vm ?_;simp only[wq.1,↓reduceIte,nR,XE.jump];exact⟨t,_,rfl,h4,t,X,t2,t5,rfl⟩
 ·rintro h k hk ⟨h4,t,X,t2,t5,rfl⟩;have hc:=Df used (iJ (n+1));have hcf:used.contains (iJ (n+1))=false:=by
   cases hb:used.contains (iJ (n+1))with
   |false=>rfl
   |true=>exact absurd (List.contains_iff_mem.1 hb) hnot
  rw[hcf]at hc;refine gets _ _ _ t rfl rfl (fun lb=> ?_);refine vm ?_;simp only[wq.1,seval,rZ];refine⟨t,rfl,?_⟩;refine aA ?_;refine vn ?_;simp only[wq.1,seval,t2];refine ag.ev hc (by simp only[V.dats,V.dat,ax,zre]) ?_;simp only[wq.1,seval];refine vm ?_;simp only[wq.1,seval,t5,nR,XE.jump];exact⟨t,_,rfl,rfl,h4,t,X,rfl⟩
 ·rintro ae h' p ⟨hp,hr⟩;cases ae with
  |pan v=>exact hr.elim
  |ret v =>
   obtain⟨h4,t,X,rfl⟩:=hr;have k0:=h4 0 (by decide);have k1:=h4 1 (by decide);have k2:=h4 2 (by decide);have k3:=h4 3 (by decide);refine⟨fun i hi=> ?_,hp,t,_,some (.exit 0),(by decide),rfl,?_⟩
   ·have hi:i=2:=by simpa [rU,rV]using hi
    subst hi;exact k2
   ·simp only[wq.1,Nat.reduceAdd,zl];refine vm ?_;simp only[wq.1,seval,k1];exact aG.dat rfl
def gaX(g:Ga):List V:=[.str g.name,vi g.op,aN g.ins,aN g.rows,.bool g.off]
theorem FH{p:Nat->Bool}(q:Ga):V.drops p (gaX q)=gaX q:=rfl
theorem Pq(l:List Ga):(l.flatMap gaX).length=l.length*5:=by
 induction l with
 |nil=>rfl
 |cons g l ih=>rw[List.flatMap_cons,zqa,ih,zrt];show 5+_=_;omega
theorem jK{p:Nat->Bool}(l:List Ga):V.drops p (l.flatMap gaX)=l.flatMap gaX:=mD FH l
structure XH(x:Xs)(h:H):Prop where
 a:h[4]? =some (.cells [.ls 5 5 0 x.gates.length x.gates.length,.ls 2 1 0 x.used.length x.used.length,.lm 3])
 u:h[2]? =some (.cells (x.used.map V.str))
 n:h[3]? =some (.map (x.nots.1.map V.str) (x.nots.2.map V.str))
 g:h[5]? =some (.cells (x.gates.flatMap gaX))
def XK(h h':H):Prop:=∀j cs,(j<2\/5<j)->h[j]? =some (.cells cs)->V.dats cs=true->h'[j]? =some (.cells cs)
def XP(p:Nat->Bool):Prop:=∀j,p j=true->j=2\/j=5
theorem XK.refl(h:H):XK h h:=fun _ _ _ hj _=>hj
theorem XK.trans{h h1 h2:H}(k1:XK h h1)(k2:XK h1 h2):XK h h2:=fun j cs hj hc hd=>k2 j cs hj (k1 j cs hj hc hd) hd
theorem XK.app(h X:H):XK h (h++X):=fun j cs _ hc _=>by rw[zqj (zqe hc).1];exact hc
theorem XK.set{h:H}{i:Nat}(o:O)(hi:¬(i<2\/5<i)\/h.length<=i):XK h (h.set i o):=fun j cs hj hc hd=>by
 rcases hi with hi|hi
 ·rw[zqn (by rintro rfl;exact hi hj)];exact hc
 ·rw[List.set_eq_of_length_le hi];exact hc
theorem XK.drop(h:H)(p:Nat->Bool):XK h (h.map (O.drop p)):=fun j cs hj hc hd=>by rw[zqo,hc];show some (O.cells (V.drops p cs))=_;rw[jE.dats_drops _ hd]
theorem XH.app{x:Xs}{h:H}(k:XH x h)(X:H):XH x (h++X):=by
 have old:∀ {j:Nat} {y:O},h[j]? =some y->(h++X)[j]? =some y:=fun hy=>by rw[zqj (zqe hy).1];exact hy
 exact⟨old k.a,old k.u,old k.n,old k.g⟩
theorem jH{p:Nat->Bool}(l m:List S):(O.map (l.map V.str) (m.map V.str)).drop p= .map (l.map V.str) (m.map V.str):=by show O.map (V.drops p _) (V.drops p _)=_;rw[aJ,aJ]
theorem XH.use{x:Xs}{h:H}(k:XH x h)(s:S) :
 XH ⟨x.gates,x.used++[s],x.nots⟩ (((h.map (O.drop (·==2))).set 2 (.cells (x.used.map V.str++[.str s]))).set 4 (.cells [.ls 5 5 0 x.gates.length x.gates.length,.ls 2 1 0 (x.used.length+1) (x.used.length+1),.lm 3])):=by
 have lt:∀ {j y},h[j]? =some y->j<h.length:=fun hx=>(zqe hx).1;have l4:=lt k.a;have l2:=lt k.u;refine⟨?_,?_,?_,?_⟩
 ·rw[zqt (by simpa using l4),zqa];rfl
 ·rw[zqn (by decide),zqt (by simpa using l2),zql];rfl
 ·rw[zqn (by decide),zqn (by decide),zqo,k.n,zrw,jH]
 ·rw[zqn (by decide),zqn (by decide),zqo,k.g,zrw];show some (O.cells (V.drops _ _))=_;rw[jK]
theorem XH.gate{x:Xs}{h:H}(k:XH x h)(g:Ga) :
 XH ⟨x.gates++[g],x.used,x.nots⟩ (((h.map (O.drop (·==5))).set 5 (.cells (x.gates.flatMap gaX++gaX g))).set 4 (.cells [.ls 5 5 0 (x.gates.length+1) (x.gates.length+1),.ls 2 1 0 x.used.length x.used.length,.lm 3])):=by
 have lt:∀ {j y},h[j]? =some y->j<h.length:=fun hx=>(zqe hx).1;have l4:=lt k.a;have l5:=lt k.g;refine⟨?_,?_,?_,?_⟩
 ·rw[zqt (by simpa using l4),zqa];rfl
 ·rw[zqn (by decide),zqn (by decide),zqo,k.u,zrw];show some (O.cells (V.drops _ _))=_;rw[aJ]
 ·rw[zqn (by decide),zqn (by decide),zqo,k.n,zrw,jH]
 ·rw[zqn (by decide),zqt (by simpa using l5),List.flatMap_append];simp
def Jp:Plan:=tkZ [0,1,2,3,5]<| .alt 4 (onZ [6,7,8]<| .take 9<| .take 10<| .one 11<| .fin) (.one 6 (.alt 4 (.one 7<| .one 8<| .take 9<| .take 10<| .one 11<| .fin) (.one 7 (.one 4<| .one 8<| .take 9<| .take 10<| .one 11<| .fin))))
def Jq:Plan:=tkZ [0,1,2,3]<| .alt 4 (onZ [5,6,7]<| .take 8<| .take 9<| .one 10<| .fin) (.one 5 (.alt 4 (.one 6<| .one 7<| .take 8<| .take 9<| .one 10<| .fin) (.one 6 (.one 4<| .one 7<| .take 8<| .take 9<| .one 10<| .fin))))
theorem FI[MO]{x:Xs}{h:H}(k:XH x h)(g:Ga)(hb:xsz x<=100000000){R:AEnd->H->(Nat->Bool)->Prop}
 (hr:∀h' p,XH (jA x g).1 h'->XK h h'->h.length<=h'.length->XP p->R (.ret (.str (jA x g).2)) h' p):ag TE 47 [.lp 4 0,g.v] h R:=by
 have hM:=mLx;have hgl:x.gates.length<=100000000:=by unfold xsz at hb;omega
 have hul:x.used.length<=100000000:=by unfold xsz at hb;omega
 obtain⟨B,hB⟩:∃B,B=h.length:=⟨_,rfl⟩;have l5:=(zqe k.g).1;have hgE:∀x:O,(h++[x])[B]? =some x:=fun x=>by rw[hB];simp
 have hgS:∀x y:O,(h++[x]).set B y=h++[y]:=fun x y=>by rw[hB];simp
 refine aj Tryz.func47 rfl (by simp[nts]) ?_;refine vn ?_;simp only[wq.1,↓reduceIte,Nat.reduceLT,Nat.reduceLeDiff,Tryz.results47,<-hB];refine ai (aX (Q:=fun xe f' h'=>xe= .normal/\f'.t 0= .lp 4 0/\f'.t 3= .lp B 0/\f'.d=[]/\XP f'.k/\XH ⟨x.gates,(jA x g).1.used,x.nots⟩ h'/\h'[B]? =some (.cells (gaX {g with name:=(jA x g).2}))/\XK h h'/\h.length<=h'.length) ?_ ?_)
 ·rintro xe f h' ⟨rfl,t0,t3,hd,hp,k',hBg,hk,hle⟩;show awp _ _ _ _ _ _ _;obtain⟨g',eg⟩:∃g':Ga,g'={g with name:=(jA x g).2}:=⟨_,rfl⟩;obtain⟨u',eu⟩:∃u',u'=(jA x g).1.used:=⟨_,rfl⟩;have hpx:(jA x g).1=⟨x.gates++[g'],u',x.nots⟩:=by
   rw[eg,eu];unfold jA;split<;>rfl
  have hn:g'.name=(jA x g).2:=by rw[eg]
  rw[hpx,<-hn]at hr;rw[<-eg]at hBg;rw[<-eu]at k';clear hn hpx eg eu;have k4:=k'.a;have k5:=k'.g;have kk:=k'.gate g';have h5l:=Pq x.gates;have d5:∀q,V.drops q (x.gates.flatMap gaX)=x.gates.flatMap gaX:=fun q=>jK _;have kX:=(XK.drop h' (·==5)).trans ((XK.set (h:=h'.map (O.drop (·==5))) (i:=5) (.cells (x.gates.flatMap gaX++gaX g')) (.inl (by omega))).trans (XK.set (i:=4) (.cells [.ls 5 5 0 (x.gates.length+1) (x.gates.length+1),.ls 2 1 0 u'.length u'.length,.lm 3]) (.inl (by omega))));obtain⟨hf,ehf⟩:∃hf,hf=(((h'.map (O.drop (·==5))).set 5 (.cells (x.gates.flatMap gaX++gaX g'))).set 4 (.cells [.ls 5 5 0 (x.gates.length+1) (x.gates.length+1),.ls 2 1 0 u'.length u'.length,.lm 3])):=⟨_,rfl⟩;have lB:=(zqe hBg).1;have l5':=(zqe k5).1;have hBf:hf[B]? =some (.cells (gaX g')):=by
   rw[ehf,zqn (by omega),zqn (by omega),zqo,hBg,zrw];rfl
  refine ai (dW mixed Jq (fun f' h2=>f'.t 3= .lp B 0/\f'.d=[]/\XP f'.k/\h2=hf) (by rw[TEP];decide +kernel) (by decide +kernel) ?_ ?_)
  ·have hgx:gaX g'=[.str g'.name,vi g'.op,aN g'.ins,aN g'.rows,.bool g'.off]:=rfl;rw[hgx]at hBg;have s4:∀X:O,((h'.map (O.drop fun x=>x==5)).set 5 X)[4]? =some (.cells [.any,.ls 2 1 0 u'.length u'.length,.lm 3]):=fun X=>by rw[zqn (by decide),zqo,k4];rfl
   have hB5:(B==5)=false:=by rw[beq_eq_false_iff_ne];omega
   have hXP:XP fun i=>f.k i||i==5:=fun j hj=>by
    rcases Bool.or_eq_true _ _▸hj with h1|h1
    ·exact hp j h1
    ·exact .inr (by simpa using h1)
   simp only[wq.1,↓reduceIte,Nat.reduceEqDiff,Nat.reduceLT,Nat.reduceLeDiff,Nat.reduceAdd,Nat.reduceBEq,reduceCtorEq,Nat.reduceMul,Jq,t0,t3,hd,k4,k5,hBg,h5l,d5,s4,hB5];have hfin:((List.map (O.drop fun x=>x==5) h').set 5 (O.cells (List.flatMap gaX x.gates++V.drops (fun x=>x==5) (List.flatMap V.vc [V.agg [V.str g'.name,vi g'.op,aN g'.ins,aN g'.rows,V.bool g'.off]])))).set 4 (O.cells [V.ls 5 5 0 (x.gates.length+1) (x.gates.length+1),.ls 2 1 0 u'.length u'.length,.lm 3])=hf:=by rw[ehf];rfl
   exact⟨⟨rfl,by decide⟩,rfl,⟨rfl,by omega,by omega⟩,hXP,hfin⟩
  ·rintro f2 h2 ⟨u3,ud,up,rfl⟩;rw[ehf]at hBf;have hBf':=hBf;rw[<-ehf]at hBf hBf';show awp _ _ _ _ _ _ _;refine vm ?_;simp only[wq.1,seval,u3,ud,hBf];exact⟨by show 1<=5;decide,hr _ _ (by rw[ehf];exact kk) (hk.trans (by rw[ehf];exact kX)) (by rw[ehf];simpa using hle) up⟩
 ·unfold jA;by_cases hg0:g.name=[]
  ·have e0:(g.name==[])=true:=by rw[hg0];rfl
   rw[if_pos hg0];have k2:=k.u;have k4:=k.a;have hfr:=SH x.used (by omega);have a4:∀x':O,(h++[x'])[4]? =some (.cells [.ls 5 5 0 x.gates.length x.gates.length,.ls 2 1 0 x.used.length x.used.length,.lm 3]):=fun x'=>by rw[zqj (zqe k4).1];exact k4
   have a2:∀x':O,(h++[x'])[2]? =some (.cells (x.used.map V.str)):=fun x'=>by rw[zqj (zqe k2).1];exact k2
   refine vm ?_;simp only[wq.1,seval,hgE,e0,a4];refine ag.lend hfr (ay.cons (aV (a2 _) rfl) (ay.cons (aG.dat rfl) ay.nil)) rfl ?_;simp only[wq.1,↓reduceIte,Nat.reduceEqDiff,Nat.reduceLT,Nat.reduceLeDiff,Nat.reduceAdd,hgE,hgS];obtain⟨F,eF⟩:∃F,F=oW x.used:=⟨_,rfl⟩;rw[<-eF];obtain⟨h1,eh1⟩:∃h1,h1=h++[O.cells [V.str F,vi g.op,aN g.ins,aN g.rows,V.bool g.off]]:=⟨_,rfl⟩;have kx:=(k.app [O.cells [V.str F,vi g.op,aN g.ins,aN g.rows,V.bool g.off]]);have b4:=kx.a;have b2:=kx.u;have bB:=hgE (O.cells [V.str F,vi g.op,aN g.ins,aN g.rows,V.bool g.off]);have kxx:=XK.app h [O.cells [V.str F,vi g.op,aN g.ins,aN g.rows,V.bool g.off]];rw[<-eh1]at kx b4 b2 bB kxx ⊢;have kk:=kx.use F;have lB:=(zqe bB).1;have d2:∀q,V.drops q (x.used.map V.str)=x.used.map V.str:=fun q=>aJ;have s4:∀X:O,((h1.map (O.drop fun x=>x==2)).set 2 X)[4]? =some (.cells [.ls 5 5 0 x.gates.length x.gates.length,.any,.lm 3]):=fun X=>by
    rw[zqn (by decide),zqo,b4];rfl
   have hB2:(B==2)=false:=by rw[beq_eq_false_iff_ne];omega
   have kX:=(XK.drop h1 (·==2)).trans ((XK.set (h:=h1.map (O.drop (·==2))) (i:=2) (.cells (x.used.map V.str++[.str F])) (.inl (by omega))).trans (XK.set (i:=4) (.cells [.ls 5 5 0 x.gates.length x.gates.length,.ls 2 1 0 (x.used.length+1) (x.used.length+1),.lm 3]) (.inl (by omega))));obtain⟨hf,ehf⟩:∃hf,hf=(((h1.map (O.drop (·==2))).set 2 (.cells (x.used.map V.str++[.str F]))).set 4 (.cells [.ls 5 5 0 x.gates.length x.gates.length,.ls 2 1 0 (x.used.length+1) (x.used.length+1),.lm 3])):=⟨_,rfl⟩;rw[<-ehf]at kk kX;have hBf:hf[B]? =some (.cells [V.str F,vi g.op,aN g.ins,aN g.rows,V.bool g.off]):=by rw[ehf,zqn (by omega),zqn (by omega),zqo,bB,zrw];rfl
   refine dW mixed Jp (fun f' h2=>f'.t 0= .lp 4 0/\f'.t 3= .lp B 0/\f'.d=[]/\XP f'.k/\h2=hf) (by rw[TEP];decide +kernel) (by decide +kernel) ?_ ?_
   ·simp only[wq.1,↓reduceIte,Nat.reduceEqDiff,Nat.reduceLT,Nat.reduceLeDiff,Nat.reduceAdd,Nat.reduceBEq,reduceCtorEq,Nat.reduceMul,Jp,b4,b2,bB,s4,hB2];exact⟨⟨rfl,by decide⟩,⟨by omega,by omega,by omega⟩,fun j hj=> .inl (by simpa using hj),by rw[ehf]⟩
   ·rintro f2 h2 ⟨u0,u3,ud,up,rfl⟩;exact⟨rfl,u0,u3,ud,up,kk,hBf,kxx.trans kX,by rw[ehf,eh1];simp⟩
  ·have e0:(g.name==[])=false:=by simpa using hg0
   rw[if_neg hg0];refine vm ?_;simp only[wq.1,seval,hgE,e0];exact⟨fun _ h=>(by cases h),k.app _,rfl,XK.app _ _,by simp⟩
theorem XH.turn{x:Xs}{h:H}(k:XH x h)(s t:S):XH ⟨x.gates,x.used,(x.nots.1++[s],x.nots.2++[t])⟩ (h.set 3 (.map (x.nots.1.map V.str++[.str s]) (x.nots.2.map V.str++[.str t]))):=by
 refine⟨?_,?_,?_,?_⟩
 ·rw[zqn (by decide)];exact k.a
 ·rw[zqn (by decide)];exact k.u
 ·rw[zqt (zqe k.n).1,zql,zql];rfl
 ·rw[zqn (by decide)];exact k.g
theorem wV{ks vs:List S}(hl:ks.length=vs.length)(s:S)(z:V)(b:Bool):rP .str (.str s) (ks.map V.str) (vs.map V.str) z b=match at? ks s with
 |some n=>(True,bif b then .tup [.str (vs.getD n []),.bool true]else .str (vs.getD n []))
 |none=>(True,bif b then .tup [z,.bool false]else z):=by
 unfold rP;rw[bK];cases hat:at? ks s with
 |none=>rfl
 |some n =>
  obtain⟨h1,_⟩:=qI hat;have hv:(vs.map V.str).getD n .any= .str (vs.getD n []):=by rw[zqg,zqg,zqo,zqk (by omega)];rfl
  dsimp only;rw[hv]
theorem Jr:∀ {l:List S} {s:S},at? l s=none->at? (l++[s]) s=some l.length
 |[],s,_=>by simp[at?]
 |x::l,s,h=>by
  rw[at?]at h;split at h
  ·cases h
  ·rename_i hx;have hl:at? l s=none:=by
    cases hh:at? l s with
    |none=>rfl
    |some n=>rw[hh]at h;cases h
   rw[List.cons_append,at?,if_neg hx,Jr hl];rfl
theorem XP.at{p:Nat->Bool}(h:XP p){j:Nat}(hj:j≠2/\j≠5):p j=false:=by
 cases hp:p j with
 |false=>rfl
 | true => rcases h j hp with rfl | rfl
           ·exact absurd rfl hj.1
           ·exact absurd rfl hj.2
theorem Dh(g:Ga){i r:V}(hi:VLe i (aN g.ins))(hr:VLe r (aN g.rows)):VLe (.agg [.str g.name,vi g.op,i,r,.bool g.off]) g.v :=
 VLe.agg (bW.cons (VLe.refl _) (bW.cons (VLe.refl _) (bW.cons hi (bW.cons hr (bW.cons (VLe.refl _) bW.nil)))))
def FK:Plan:=tkZ [0,1,2,4,5,6]<| .alt 3 (onZ [7,8,9,10]<| .fin) (.one 7 (.alt 3 (onZ [8,9,10]<| .fin) (.one 8 (.alt 3 (.one 9<| .one 10<| .fin) (.one 9 (.one 3<| .one 10<| .fin))))))
theorem FM[MO]{x:Xs}{h:H}(k:XH x h)(hnl:x.nots.1.length=x.nots.2.length)(s:S)(hb:xsz x<=100000000){R:AEnd->H->(Nat->Bool)->Prop}
 (hr:∀h' p,XH (gY x s).1 h'->XK h h'->h.length<=h'.length->XP p->R (.ret (.str (gY x s).2)) h' p):ag TE 221 [.lp 4 0,.str s] h R:=by
 have hM:=mLx;have k4:=k.a;have k3:=k.n;refine aj Tryz.func221 rfl (by simp[nts]) ?_;refine vn ?_;simp only[wq.1,seval,Tryz.results221];unfold gY at hr;cases hat:at? x.nots.1 s with
 |some n=>rw[hat]at hr;dsimp only at hr;have m1:=wV hnl s (.str []) true;have m2:=wV hnl s (.str []) false;rw[hat]at m1 m2;dsimp only[cond_true,cond_false]at m1 m2;refine vm ?_;simp only[wq.1,seval,k4,k3,m1,m2];exact hr _ _ k (XK.refl _) (zrb _) (fun j h=>by cases h)
 |none =>
  rw[hat]at hr;dsimp only at hr;refine ai ?_;have m1:=wV hnl s (.str []) true;rw[hat]at m1;dsimp only[cond_true,cond_false]at m1;have hput:=vS x ⟨[],3,[s],[],false⟩;obtain⟨y,ey⟩:∃y,y=jA x ⟨[],3,[s],[],false⟩:=⟨_,rfl⟩;rw[<-ey]at hput hr;refine vn ?_;simp only[wq.1,seval,k4,k3,m1];refine ai ?_;refine vm ?_;simp only[wq.1,seval];refine bF (b:=true) (by simp only[wq.1,↓reduceIte]) (by simp only[wq.1,↓reduceIte]) (fun _=> ?_) (fun h=>by cases h);refine dW mixed FK (fun f' h2=>f'.t 0= .lp 4 0/\f'.t 1= .str s/\f'.d=[]/\XP f'.k/\XH ⟨y.1.gates,y.1.used,(x.nots.1++[s],x.nots.2++[y.2])⟩ h2/\XK h h2/\h.length<=h2.length) (by rw[TEP];decide +kernel) (by decide +kernel) ?_ ?_
  ·have hput2:∀ {R:AEnd->H->(Nat->Bool)->Prop},(∀h' p,XH y.1 h'->XK h h'->h.length<=h'.length->XP p->R (.ret (.str y.2)) h' p)->ag TE 47 [.lp 4 0,.agg [.str [],vi 3,.is true 1 [.str s],.nils,.bool false]] h R:=fun {R} hR=>by refine gG (bW.cons (VLe.refl _) (bW.cons (Dh ⟨[],3,[s],[],false⟩ cO dJ) bW.nil)) (HLe.refl _) (FI k ⟨[],3,[s],[],false⟩ hb fun h' p a b c d=> ?_);rw[<-ey]at a ⊢;exact hR h' p a b c d
   have hms:∀t:S,Qp .str (.str s) (.str t) (x.nots.1.map V.str) (x.nots.2.map V.str)=some (x.nots.1.map V.str++[.str s],x.nots.2.map V.str++[.str t]):=fun t=>by unfold Qp;rw[bK,hat]
   simp only[wq.1,seval,FK,k4]
   repeat' apply zsa
   all_goals first|exact rfl|exact(by decide)|skip
   all_goals refine hput2 fun h' p kx kk hle kp=> ?_
   all_goals have p2:=kp.at (j:=3) (by decide)
   all_goals have p4:=kp.at (j:=4) (by decide)
   all_goals have k3':=kx.n
   all_goals rw[hput.2]at k3'
   all_goals have k4':=kx.a
   all_goals simp only[wq.1,seval,bu,p2,p4,k3',k4',hms]
   all_goals exact⟨kp,(by have:=kx.turn s y.2;rw[hput.2]at this;exact this),kk.trans (XK.set _ (.inl (by omega))),by simpa using hle⟩
  ·rintro f h2 ⟨t0,t1,hd,hp,kx,kk,hle⟩;have b4:=kx.a;have b3:=kx.n;have m3:=wV (ks:=x.nots.1++[s]) (vs:=x.nots.2++[y.2]) (by simp[hnl]) s (.str []) false;have hat2:at? (x.nots.1++[s]) s=some x.nots.1.length:=Jr hat;rw[hat2]at m3;dsimp only[cond_false]at m3;have hgd:(x.nots.2++[y.2]).getD x.nots.1.length []=y.2:=by rw[hnl];simp
   rw[hgd]at m3;simp only[zql,zrd,List.map_nil]at m3;dsimp only at b3;show awp _ _ _ _ _ _ _;refine vm ?_;simp only[wq.1,seval,t0,t1,hd,b4,b3,m3];exact hr _ _ kx kk hle hp
end Go.Proofs.YthaijohbpdabfaaGreatDoor
