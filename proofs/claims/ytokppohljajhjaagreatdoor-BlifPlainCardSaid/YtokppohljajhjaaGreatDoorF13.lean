/- Lemmas for this claim, part F13: each holds under what it names. -/
import Derived.Test.YtokppohljajhjaaGreatDoorF12
import Derived.Test.YtokppohljajhjaaGreatDoorA8
import Derived.LaidHandle
import Derived.LaidMore
import Derived.Lay
import Derived.WideKeyElems2
import Derived.StringKeys
import Derived.Shelf.Vars
import Derived.Lib.LaidTab
import Derived.Test.YtokppohljajhjaaGreatDoorRows
import Derived.Test.YtokppohljajhjaaGreatDoorTie
import Derived.HandedShaped
import Derived.Stop.LaidErr
import Derived.JoinedOf
set_option linter.all false
set_option maxRecDepth 100000
set_option maxHeartbeats 4000000
namespace Go.Proofs.YtokppohljajhjaaGreatDoor
open Go Go.Proofs Go.Abs
theorem RU{l:List Bool}{i:Nat}(h:i<l.length)(d:V):(l.map V.bool).getD i d= .bool l[i]:=dG h _
theorem Gn{l:List Bool}{i:Nat}(h:i<l.length):(l.take (i+1)).count true=if l[i]=true then(l.take i).count true+1 else(l.take i).count true:=by rw[List.take_succ_eq_append_getElem h,List.count_append];cases l[i]<;>simp
theorem yP[MO](l:List Bool):Ev TE 82 [mf l] (vi (l.count true)):=by
 have hM:=mLx;refine Ev.bnd fun hb=> ?_;have hlen:=IM hb;refine ah Tryz.func82 rfl (by simp[nts]) (vm ?_);simp only[wq.1,seval,Tryz.results82];refine aK (fun m f h=>∃i:Nat,m+i=l.length/\i<=l.length/\f.t 3=vi ((l.take i).count true)/\f.t 6=mf l/\f.t 7=vi l.length/\f.t 8=vi i/\f.d=[]) l.length ⟨0,by omega,by omega,by simp only[wq.1,seval];simp,by simp only[wq.1,seval],by simp only[wq.1,seval],by simp only[wq.1,↓reduceIte];rfl,by simp only[wq.1]⟩ ?_;rintro m f h ⟨i,hm,hil,t3,t6,t7,t8,hd⟩;have hc:=List.count_le_length (a:=true) (l:=l.take i);rw[zrl]at hc;refine vm ?_;simp only[wq.1,seval,t7,t8];refine vcB.mk (fun hlt=> ?_) (fun hlt=> ?_)
 ·have hlt:i<l.length:=by have:=zqs hlt;omega
  have hg:=RU hlt .any;have hct:=Gn hlt;have hw:=aB (show i<maxLen by omega);have hw2:=aB (show(l.take i).count true<maxLen by omega);simp only[wq.1,seval,t6,t8,hg];refine⟨⟨by omega,by omega⟩,?_⟩;cases hv:l[i]with
  |true=>rw[hv,if_pos rfl]at hct;simp only[wq.1,seval,t3,t8,hw,hw2];exact .inl ⟨m-1,by omega,i+1,by omega,by omega,by simp only[wq.1,seval,hct],by simp only[wq.1,seval,t6],by simp only[wq.1,seval,t7],by simp only[wq.1,↓reduceIte],by simp only[wq.1,hd]⟩
  |false=>rw[hv,if_neg (by decide)]at hct;simp only[wq.1,seval,t8,hw];exact .inl ⟨m-1,by omega,i+1,by omega,by omega,by simp only[wq.1,seval,hct,t3],by simp only[wq.1,seval,t6],by simp only[wq.1,seval,t7],by simp only[wq.1,↓reduceIte],by simp only[wq.1,hd]⟩
 ·have hi:i=l.length:=by have:=of_decide_eq_false hlt;omega
  rw[hi,zrx]at t3;simp only[wq.1,seval,t3,hd];exact az.dat rfl
theorem RV[MO](l:List Bool):Ev TE 80 [mf l] (.bool false):=by refine ah Tryz.func80 rfl (by simp[nts]) (vm ?_);simp only[wq.1,seval,Tryz.results80];exact az.dat rfl
theorem RX[MO](l:List Bool):Ev TE 81 [mf l] (.bool (l.count true==l.length)):=by
 have h:=yP l;have e:(((l.count true:Nat):Int)==((l.length:Nat):Int))=(l.count true==l.length):=by rw[Bool.eq_iff_iff,beq_iff_eq,beq_iff_eq];omega
 refine ah Tryz.func81 rfl (by simp[nts]) (vm ?_);simp only[wq.1,seval,Tryz.results81];refine ag.ev h (by simp only[V.dats,V.dat,nS,zre]) ?_;simp only[wq.1,seval,e];exact az.dat rfl
theorem RY[MO](l:List Bool):Ev TE 83 [mf l] (.bool (decide (0<l.count true))):=by have h:=yP l;have e:decide ((0:Int)<((l.count true:Nat):Int))=decide (0<l.count true):=decide_eq_decide.2 (by omega);refine ah Tryz.func83 rfl (by simp[nts]) (vm ?_);simp only[wq.1,seval,Tryz.results83];refine ag.ev h (by simp only[V.dats,V.dat,nS,zre]) ?_;simp only[wq.1,seval,e];exact az.dat rfl
theorem RZ[MO](l:List Bool):Ev TE 84 [mf l] (.bool (l.count true%2==1)):=by
 have h:=yP l;have e:(Int.tmod ((l.count true:Nat):Int) 2==1)=(l.count true%2==1):=by rw[Bool.eq_iff_iff,beq_iff_eq,beq_iff_eq,Int.tmod_eq_emod_of_nonneg (by omega)];omega
 refine ah Tryz.func84 rfl (by simp[nts]) (vm ?_);simp only[wq.1,↓reduceIte,Nat.reduceLT,reduceCtorEq,Tryz.results84];refine ag.ev h (by simp only[V.dats,V.dat,nS,zre]) ?_;simp only[wq.1,↓reduceIte,Nat.reduceLT,e];exact⟨by decide,az.dat rfl⟩
def ofF(op:Nat):FuncId:=if op<=1 then 80 else if op<=5 then 81 else if op<=7 then 83 else 84
theorem Si[MO](op:Nat)(l:List Bool):Ev TE (ofF op) [mf l] (.bool (opB op l)):=by
 unfold ofF opB;split
 ·exact RV l
 ·split
  ·exact RX l
  ·split
   ·exact RY l
   ·exact RZ l
theorem Gp(op:Nat):ai P (ofF op)=true:=by
 unfold ofF;split
 ·rfl
 ·split
  ·rfl
  ·split<;>rfl
theorem Tu[MO](op:Nat)(ho:op<=10)(k:Int)(hk:k=op):Ev TE 42 [vi k] (.agg [if op=10 then .nilf else .fn (.func (ofF op)) [] [],.bool (JS op)]):=by
 have h:op=0\/op=1\/op=2\/op=3\/op=4\/op=5\/op=6\/op=7\/op=8\/op=9\/op=10:=by omega
 rcases h with rfl|rfl|rfl|rfl|rfl|rfl|rfl|rfl|rfl|rfl|rfl
 ·obtain rfl:k=0:=hk;show Ev TE 42 [vi 0] (.agg [.fn (.func 80) [] [],.bool false]);refine ah Tryz.func42 rfl (by simp[nts]) (vm ?_);simp only[wq.1,seval,Tryz.results42];exact az.agg (ak.cons (az.fn ak.nil ak.nil) (ak.cons (az.dat rfl) ak.nil))
 ·obtain rfl:k=1:=hk;show Ev TE 42 [vi 1] (.agg [.fn (.func 80) [] [],.bool true]);refine ah Tryz.func42 rfl (by simp[nts]) (vm ?_);simp only[wq.1,seval,Tryz.results42];exact az.agg (ak.cons (az.fn ak.nil ak.nil) (ak.cons (az.dat rfl) ak.nil))
 ·obtain rfl:k=2:=hk;show Ev TE 42 [vi 2] (.agg [.fn (.func 81) [] [],.bool false]);refine ah Tryz.func42 rfl (by simp[nts]) (vm ?_);simp only[wq.1,seval,Tryz.results42];exact az.agg (ak.cons (az.fn ak.nil ak.nil) (ak.cons (az.dat rfl) ak.nil))
 ·obtain rfl:k=3:=hk;show Ev TE 42 [vi 3] (.agg [.fn (.func 81) [] [],.bool true]);refine ah Tryz.func42 rfl (by simp[nts]) (vm ?_);simp only[wq.1,seval,Tryz.results42];exact az.agg (ak.cons (az.fn ak.nil ak.nil) (ak.cons (az.dat rfl) ak.nil))
 ·obtain rfl:k=4:=hk;show Ev TE 42 [vi 4] (.agg [.fn (.func 81) [] [],.bool false]);refine ah Tryz.func42 rfl (by simp[nts]) (vm ?_);simp only[wq.1,seval,Tryz.results42];exact az.agg (ak.cons (az.fn ak.nil ak.nil) (ak.cons (az.dat rfl) ak.nil))
 ·obtain rfl:k=5:=hk;show Ev TE 42 [vi 5] (.agg [.fn (.func 81) [] [],.bool true]);refine ah Tryz.func42 rfl (by simp[nts]) (vm ?_);simp only[wq.1,seval,Tryz.results42];exact az.agg (ak.cons (az.fn ak.nil ak.nil) (ak.cons (az.dat rfl) ak.nil))
 ·obtain rfl:k=6:=hk;show Ev TE 42 [vi 6] (.agg [.fn (.func 83) [] [],.bool false]);refine ah Tryz.func42 rfl (by simp[nts]) (vm ?_);simp only[wq.1,seval,Tryz.results42];exact az.agg (ak.cons (az.fn ak.nil ak.nil) (ak.cons (az.dat rfl) ak.nil))
 ·obtain rfl:k=7:=hk;show Ev TE 42 [vi 7] (.agg [.fn (.func 83) [] [],.bool true]);refine ah Tryz.func42 rfl (by simp[nts]) (vm ?_);simp only[wq.1,seval,Tryz.results42];exact az.agg (ak.cons (az.fn ak.nil ak.nil) (ak.cons (az.dat rfl) ak.nil))
 ·obtain rfl:k=8:=hk;show Ev TE 42 [vi 8] (.agg [.fn (.func 84) [] [],.bool false]);refine ah Tryz.func42 rfl (by simp[nts]) (vm ?_);simp only[wq.1,seval,Tryz.results42];exact az.agg (ak.cons (az.fn ak.nil ak.nil) (ak.cons (az.dat rfl) ak.nil))
 ·obtain rfl:k=9:=hk;show Ev TE 42 [vi 9] (.agg [.fn (.func 84) [] [],.bool true]);refine ah Tryz.func42 rfl (by simp[nts]) (vm ?_);simp only[wq.1,seval,Tryz.results42];exact az.agg (ak.cons (az.fn ak.nil ak.nil) (ak.cons (az.dat rfl) ak.nil))
 ·obtain rfl:k=10:=hk;show Ev TE 42 [vi 10] (.agg [.nilf,.bool false]);refine ah Tryz.func42 rfl (by simp[nts]) (vm ?_);simp only[wq.1,seval,Tryz.results42];exact az.agg (ak.cons (az.dat rfl) (ak.cons (az.dat rfl) ak.nil))
theorem Qg[MO](r:S)(l:List Bool)(hl:l.length<=r.length):Ev TE 46 [.str r,mf l] (.bool (nJ r l)):=by
 have hM:=mLx;refine Ev.bnd fun hb=> ?_;have hlen:l.length<=maxLen:=by simp only[V.bnds,V.bnd,zra]at hb;omega
 obtain⟨F,hF⟩:∃F,F=nJ r l:=⟨_,rfl⟩;rw[<-hF];refine ah Tryz.func46 rfl (by simp[nts]) (vm ?_);simp only[wq.1,seval,Tryz.results46];refine aK (fun m f h=>∃i:Nat,m+i=l.length/\i<=l.length/\F=nJ (r.drop i) (l.drop i)/\f.t 0= .str r/\f.t 7=mf l/\f.t 8=vi l.length/\f.t 9=vi i/\f.d=[]) l.length ⟨0,by omega,by omega,hF,by simp only[wq.1,seval],by simp only[wq.1,seval],by simp only[wq.1,seval],by simp only[wq.1,↓reduceIte];rfl,by simp only[wq.1]⟩ ?_;rintro m f h ⟨i,hm,hil,hFi,t0,t7,t8,t9,hd⟩;refine vm ?_;simp only[wq.1,seval,t8,t9];refine vcB.mk (fun hlt=> ?_) (fun hlt=> ?_)
 ·have hlt:i<l.length:=by have:=zqs hlt;omega
  have hlr:i<r.length:=by omega
  have hg:=RU hlt .any;have hgr:r.getD i 0=r[i]:=LD hlr;rw[List.drop_eq_getElem_cons hlt,List.drop_eq_getElem_cons hlr]at hFi;have hFi:F=((r[i]==45||((r[i]==49)==l[i]))&&nJ (r.drop (i+1)) (l.drop (i+1))):=hFi;have q1:((r[i].toNat:Int) != 45)= !(r[i]==45):=Pn r[i] 45;have q2:((r[i].toNat:Int)==49)=(r[i]==49):=Me r[i] 49;have hw:=aB (show i<maxLen by omega);have hbe:((r[i]==45||((r[i]==49)==l[i])))= !(!(r[i]==45)&& !((r[i]==49)==l[i])):=by cases(r[i]==45)<;>cases(r[i]==49)<;>cases l[i]<;>rfl
  rw[hbe]at hFi;simp only[wq.1,seval,t0,t7,t9,hg,hgr,q1,q2];refine⟨⟨by omega,by omega⟩,⟨by omega,by omega⟩,fun h=>⟨h,by omega,by omega⟩,vcB.mk (fun hc=> ?_) (fun hc=> ?_)⟩
  ·rw[hc]at hFi;have hFi:F=false:=hFi;rw[hFi];simp only[wq.1,seval,hd];exact az.dat rfl
  ·rw[hc]at hFi;have hFi:F=nJ (r.drop (i+1)) (l.drop (i+1)):=hFi;simp only[wq.1,seval,t9,hw];exact .inl ⟨m-1,by omega,i+1,by omega,by omega,hFi,by simp only[wq.1,seval,t0],by simp only[wq.1,seval,t7],by simp only[wq.1,seval,t8],by simp only[wq.1,↓reduceIte],by simp only[wq.1,hd]⟩
 ·have hi:i=l.length:=by have:=of_decide_eq_false hlt;omega
  rw[hi,List.drop_length]at hFi;have hFi:F=true:=hFi.trans (by cases r.drop l.length<;>rfl);rw[hFi];simp only[wq.1,seval,hd];exact az.dat rfl
theorem JZ[MO](r:S)(l:List Bool)(hl:l.length<=r.length):Ev TE 45 [.str r,.ip (mf l)] (.bool (nJ r l)):=by have h:=Qg r l hl;refine ah Tryz.func45 rfl (by simp[nts]) (vm ?_);simp only[wq.1,seval,Tryz.results45];refine ag.ev h (by simp only[V.dats,V.dat,nS,zre]) ?_;simp only[wq.1,seval];exact az.dat rfl
theorem J3[MO](g:Ga)(l:List Bool)(hl:∀r∈g.rows,l.length<=r.length):Ev TE 43 [mf l,.ip g.v] (.bool (g.rows.any fun r=>nJ r l)):=by have hct:=Jh g.rows 45 [.ip (mf l)] (fun r=>nJ r l) rfl (by simp only[V.dats,V.dat,nS,zre]) fun r hr=>JZ r l (hl r hr);refine ah Tryz.func43 rfl (by simp[nts]) (vm ?_);simp only[wq.1,seval,Tryz.results43];refine ag.lend hct (ak.cons (az.dat (by simp only[V.dat,aJ])) (ak.cons (az.fn ak.nil (ak.cons (az.lp rfl (ak.dat (by simp only[V.dats,V.dat,nS,zre])) rfl rfl (by simp[V.vc]) rfl) ak.nil)) ak.nil)) rfl ?_;simp only[wq.1,seval];exact az.dat rfl
theorem EG[MO](g:Ga)(l:List Bool):Ev TE 14 [g.v,mf l] (.tup [.bool (rW g l).1,vi (rW g l).2]):=by
 have hM:=mLx;have hG:=Es g;have hd1:∀g:Ga,V.dats [g.v]=true:=fun g=>by simp only[V.dats,V.dat,aJ,zre]
 have en:(((l.length:Nat):Int) != ((g.ins.length:Nat):Int))= !(l.length==g.ins.length):=by
  unfold bne
  congr 1
  rw[Bool.eq_iff_iff,beq_iff_eq,beq_iff_eq];omega
 refine ah Tryz.func14 rfl (by simp[nts]) ?_;refine vn ?_;simp only[wq.1,Nat.reduceLT,Tryz.results14];refine au ?_;refine vn ?_;simp only[wq.1,seval];refine ag.ev hG (hd1 g) ?_;simp only[wq.1,seval,en];cases hc:(fK g&&l.length==g.ins.length)with
 |false =>
  have hb:(!fK g|| !(l.length==g.ins.length))=true:=by cases h1:fK g<;>cases h2:(l.length==g.ins.length)<;>rw[h1,h2]at hc<;>first|rfl|cases hc
  have hs:rW g l=(false,1):=by unfold rW;rw[if_neg (by rw[hc];decide)]
  rw[hs];refine kS (b:=true) (by simp only[wq.1,↓reduceIte]) (by simp only[wq.1,↓reduceIte,hb]) (fun _=> ?_) (fun h=>by cases h);refine vm ?_;simp only[wq.1,seval];exact az.dat rfl
 |true =>
  have hb:(!fK g|| !(l.length==g.ins.length))=false:=by cases h1:fK g<;>cases h2:(l.length==g.ins.length)<;>rw[h1,h2]at hc<;>first|rfl|cases hc
  have hs:rW g l=(Gu g l,0):=by unfold rW;rw[if_pos hc]
  rw[hs];rw[zqf,beq_iff_eq]at hc;obtain⟨hgo,hgr,hgw⟩:=lg hc.1;have hh:=hgo.h;unfold wz at hh;simp only[zqf,zqb]at hh;obtain⟨op,hop⟩:∃op:Nat,g.op=op:=⟨g.op.toNat,by omega⟩;have hop1:op<=10:=by omega
  have hof:=Tu op hop1 g.op hop;refine kS (b:=false) (by simp only[wq.1,↓reduceIte]) (by simp only[wq.1,↓reduceIte,hb]) (fun h=>by cases h) (fun _=> ?_);refine vm ?_;simp only[wq.1];show awp _ _ _ _ _ _ _;refine vn ?_;simp only[wq.1,seval];refine ag.ev hof rfl ?_;by_cases h10:op=10
  ·have hv:Gu g l=((g.rows.any fun r=>nJ r l) != g.off):=by unfold Gu;rw[if_pos (by omega)]
   have e10:(g.op==10)=true:=by rw[hop,h10];rfl
   have hg1:=J3 g l fun r hr=>by have:=hgw r hr;unfold ku at this;rw[zqf,beq_iff_eq]at this;omega
   rw[if_pos h10,hv];simp only[wq.1,seval];refine au ?_;refine vn ?_;simp only[wq.1,seval,e10];refine vm ?_;simp only[wq.1,seval];refine ul (·==0) [.dead,.cells [.fn (.func 43) [] [.ip g.v],.bool g.off]] (fun j hj=> ?_) (fun j x hj hx=> ?_) (fun j hj=>by cases hj) ?_
   ·match j,hj with
    |1,_=>exact .inr ⟨_,_,rfl,rfl,.inr ⟨rfl,az.fn ak.nil (ak.cons (az.lp rfl (ak.dat (by show V.dats [V.str g.name,vi g.op,aW g.ins,aW g.rows,V.bool g.off]=true;simp only[V.dats,V.dat,aJ,zre])) rfl rfl (by simp[V.vc]) rfl) ak.nil)⟩,.inl rfl,trivial⟩
    |j+2,_=>exact .inl rfl
   ·match j,hj with
    |0,_=>cases hx;rfl
   ·refine vn ?_;simp only[wq.1,seval];refine⟨by decide +kernel,BB.mk hg1 rfl (by simp only[V.dats,V.dat,aJ,nS,zre]) ?_⟩;simp only[wq.1,seval];refine vm ?_;simp only[wq.1,seval];exact az.dat rfl
  ·have hv:Gu g l=(opB op l != JS op):=by unfold Gu;rw[if_neg (by omega),hop,zsg]
   have e10:(g.op==10)=false:=by rw[beq_eq_false_iff_ne];omega
   have hg1:=Si op l;have hen:=Gp op;rw[if_neg h10,hv];simp only[wq.1,seval];refine au ?_;refine vn ?_;simp only[wq.1,seval,e10];refine vm ?_;simp only[wq.1,↓reduceIte];refine vn ?_;simp only[wq.1,seval];refine⟨by decide +kernel,BB.mk hg1 hen (by simp only[V.dats,V.dat,nS,zre]) ?_⟩;simp only[wq.1,seval];refine vm ?_;simp only[wq.1,seval];exact az.dat rfl
def Sj(g:Ga):Bool:=LC 12 g.ins&&LC 140 g.rows&&decide (g.name.length<=60)
theorem Gq[MO](g:Ga):Ev TE 13 [g.v] (.bool (Sj g)):=by have h1:=zL g.ins 12;have h2:=zL g.rows 140;have e:decide ((g.name.length:Int)<=60)=decide (g.name.length<=60):=decide_eq_decide.2 (by omega);refine ah Tryz.func13 rfl (by simp[nts]) (vm ?_);simp only[wq.1,seval,Tryz.results13];refine ag.ev h1 (by simp only[V.dats,V.dat,aJ,zre]) ?_;simp only[wq.1,seval];refine ag.ev h2 (by simp only[V.dats,V.dat,aJ,zre]) ?_;simp only[wq.1,seval,e];exact az.dat rfl
def wT1:S:=[46,109,111,100,101,108,32,109,10,46,105,110,112,117,116,115,32,97,32,98,10,46,111,117,116,112,117,116,115,32,122,10,46,108,97,116,99,104,32,122,32,113,32,49,10,46,110,97,109,101,115,32,97,32,98,32,122,32,35,32,97,110,100,10,49,49,32,49,10,46,101,110,100,10]
def wT2:S:=[46,109,111,100,101,108,32,109,10,46,110,97,109,101,115,32,97,32,122,10,49,32,49,10,46,101,110,100,10]
def wT3:S:=[46,109,111,100,101,108,32,109,10,46,115,117,98,99,107,116,32,120,10,46,101,110,100,10]
def wT4:S:=[46,109,111,100,101,108,32,116,111,112,10,46,105,110,112,117,116,115,32,97,32,98,10,46,111,117,116,112,117,116,115,32,122,10,46,108,97,116,99,104,32,122,32,113,32,49,10,46,110,97,109,101,115,32,97,32,98,32,122,10,49,49,32,49,10,46,101,110,100,10]
def wC1:Ci:=⟨[[97],[98]],[[122]],[⟨[113],[122],1⟩],[⟨[122],4,[[97],[98]],[],false⟩]⟩
theorem Tv:nT wT1= .ok wC1:=by kernel_rfl
theorem Tz:nT wT2= .error (16,6):=by kernel_rfl
theorem TA:nT wT3= .error (9,9):=by kernel_rfl
theorem TB:Ee wC1=(wT4,0):=by kernel_rfl
theorem TC:jr wT2 ((16:Nat):Int) 6= .agg [vi 6,vi 2,vi 8]:=by kernel_rfl
theorem TD:jr wT3 ((9:Nat):Int) 9= .agg [vi 9,vi 2,vi 1]:=by kernel_rfl
theorem TF:bQ ⟨[122],10,[[97],[98]],[],true⟩=⟨[122],10,[[97],[98]],[[45,45]],false⟩:=by kernel_rfl
theorem Gs[MO]:Ev TE 6 [] (.bool true):=by have e1:=vG wT1 (by decide);have e2:=NJ wC1 (by decide);have e3:=vG wT2 (by decide);have e4:=vG wT3 (by decide);have e5:=sQ ⟨[122],10,[[97],[98]],[],true⟩ (by decide);unfold mV at e1 e3 e4;rw[Tv]at e1;rw[Tz]at e3;rw[TA]at e4;rw[TB]at e2;rw[TF]at e5;dsimp only at e3 e4;rw[TC]at e3;rw[TD]at e4;simp only[wC1,wT1,wT2,wT3,wT4,Ci.v,Ga.v,La.v,zrd,List.map_nil]at e1 e2 e3 e4 e5;refine ah Tryz.func6 rfl (by simp[nts]) ?_;refine vn ?_;simp only[wq.1,Nat.reduceLT,Tryz.results6];refine vn ?_;simp only[wq.1,seval];refine ag.ev e1 rfl ?_;simp only[wq.1,seval];refine vn ?_;simp only[wq.1,seval];refine ag.ev e2 rfl ?_;simp only[wq.1,seval];refine vn ?_;simp only[wq.1,seval];refine ag.ev e3 rfl ?_;simp only[wq.1,seval];refine vn ?_;simp only[wq.1,seval];refine ag.ev e4 rfl ?_;simp only[wq.1,↓reduceIte,Nat.reduceEqDiff,Nat.reduceLT,Nat.reduceAdd];refine vn ?_;simp only[wq.1,↓reduceIte,Nat.reduceLT,Nat.reduceLeDiff,Nat.reduceAdd,reduceCtorEq,Nat.reduceMul];refine⟨⟨rfl,by decide⟩,jB (fP.cons (VLe.agg (fP.cons (VLe.refl _) (fP.cons (VLe.refl _) (fP.cons VLe.exact (fP.cons VLe.nils (fP.refl _)))))) (fP.refl _)) (HLe.refl _) (ag.ev e5 rfl ?_)⟩;simp only[wq.1,seval];have en:(((1:Nat):Int) != 1)=false:=rfl;refine au ?_;refine vn ?_;simp only[wq.1,seval,en];refine vm ?_;simp only[wq.1,↓reduceIte,Nat.reduceEqDiff,Nat.reduceLT,Nat.reduceLeDiff,Nat.reduceAdd,Nat.reduceSub,Int.reduceToNat,Nat.reduceDiv,Int.reduceLT,Int.reduceLE,Int.reduceNeg,Int.reduceBEq,Int.reduceBNe,Int.reduceAdd,Int.reduceSub,Nat.reduceBEq,reduceCtorEq,Nat.reduceMul,aj,Tryz.results6,en,Bool.or_self];show awp _ _ _ _ _ _ _;refine vn ?_;simp only[wq.1,↓reduceIte,Nat.reduceEqDiff,Nat.reduceLT,Nat.reduceLeDiff,Nat.reduceAdd,Nat.reduceSub,Int.reduceToNat,Nat.reduceDiv,Int.reduceLT,Int.reduceLE,Int.reduceNeg,Int.reduceBEq,Int.reduceBNe,Int.reduceAdd,Int.reduceSub,Nat.reduceBEq,reduceCtorEq,Nat.reduceMul,aj,Tryz.results6,vS,KF,beq_self_eq_true,zre];refine⟨Dy,by decide,by decide,RS,Dy,Dy,by decide,?_⟩;refine vm ?_;simp only[wq.1,↓reduceIte];exact az.dat rfl
theorem J4[MO](g:Ga):Ev TE 15 [g.v,g.v] (.bool true):=by
 have h1:=zM g.ins g.ins;have h2:=zM g.rows g.rows;rw[beq_self_eq_true]at h1 h2;have hd1:∀a:List S,V.dats [aW a,aW a]=true:=fun a=>by simp only[V.dats,V.dat,aJ,zre]
 refine ah Tryz.func15 rfl (by simp[nts]) (vm ?_);simp only[wq.1,seval,Tryz.results15];refine ag.ev h1 (hd1 _) ?_;simp only[wq.1,seval];refine ag.ev h2 (hd1 _) ?_;simp only[wq.1,seval];exact az.dat rfl
theorem ev_blifPlain[MO](g:Ga)(l:List Bool):Ev TE 4 [g.v,mf l] (.bool true):=by
 have h1:=Gs;have h2:=Gq g;have h3:=EG g l;have hd2:∀g:Ga,V.dats [g.v,mf l]=true:=fun g=>by simp only[V.dats,V.dat,aJ,nS,zre]
 have hd1:∀g:Ga,V.dats [g.v]=true:=fun g=>by simp only[V.dats,V.dat,aJ,zre]
 have hd3:∀g:Ga,V.dats [g.v,g.v]=true:=fun g=>by simp only[V.dats,V.dat,aJ,zre]
 refine ah Tryz.func4 rfl (by simp[nts]) ?_;refine vn ?_;simp only[wq.1,Nat.reduceLT,Tryz.results4];refine vn ?_;simp only[wq.1,Nat.reduceLT];refine ag.ev h1 rfl ?_;simp only[wq.1,seval];refine vn ?_;simp only[wq.1,seval];refine vn ?_;simp only[wq.1,seval];refine ag.ev h2 (hd1 _) ?_;simp only[wq.1,seval];refine vn ?_;simp only[wq.1,seval];refine ag.ev h3 (hd2 _) ?_;simp only[wq.1,seval];refine vn ?_;simp only[wq.1,seval];refine vcB.mk (fun hc=> ?_) (fun hc=> ?_)
 ·simp only[wq.1,seval];exact az.dat rfl
 ·simp only[zsf,Bool.not_eq_false',zqd]at hc;obtain⟨⟨hf,hs0⟩,hl60⟩:=hc;have hs0:(rW g l).2=0:=by simpa using hs0
  have hins:g.ins.length<=12:=by unfold Sj LC at hf;simp only[zqf,zqb]at hf;exact hf.1.1.1
  have hgb:fK g=true:=by
   unfold rW at hs0;split at hs0
   ·rename_i hc;rw[zqf]at hc;exact hc.1
   ·exact absurd hs0 (by decide)
  obtain⟨hgo,_,_⟩:=lg hgb;obtain⟨_,hpi,_,_⟩:=mF hgo;have e1:=sQ g (by omega);have e2:=EG (bQ g) l;rw[Gg hs0]at e2;have e3:=sQ (bQ g) (by rw[hpi];omega);rw[I8 hgo]at e3;have e4:=J4 (bQ g);simp only[wq.1];show awp _ _ _ _ _ _ _;refine vn ?_;simp only[wq.1,seval];refine ag.ev e1 (hd1 _) ?_;simp only[wq.1,seval];refine vn ?_;simp only[wq.1,seval];refine ag.ev e2 (hd2 _) ?_;simp only[wq.1,seval];refine vn ?_;simp only[wq.1,seval];refine⟨by decide +kernel,BB.mk e3 rfl (hd1 _) ?_⟩;simp only[wq.1,seval];refine BB.mk e4 rfl (hd3 _) ?_;simp only[wq.1,seval];refine vn ?_;simp only[wq.1,seval,hs0];refine vm ?_;simp only[wq.1,↓reduceIte];exact az.dat rfl
open Go.RowKit
open Go.ChangeShapes
open Go.WideShapes
theorem vH{H:Type}{enc:TypeId×Value->H}{P:Program}{w:World}{base:Nat}{sp:Nat->Bool}{held:Bool}{fuel:Nat}{t k e:TypeId}{cs:List Value}{dl:List (Lit×DataW H)}{p:List MemPlace}
 (ht:P.underlying t=some (.map k e)) (h:DataW.trod enc P w base sp held fuel t cs=some (.map dl,p)) :
 ∃b es clk n,cs=[.map (some b)]/\w.heap[b]? =some (.map es clk)/\vO es clk/\(es.toList.map (·.key)).Nodup /\
  (∀x∈es.toList,∃l d q,(l,d)∈dl/\keyOf P k x.key=some l/\DataW.trod enc P w base sp held n e x.val.cells.toList=some (d,q)/\x.val.formed P e=true) /\
  (∀y∈dl,∃x∈es.toList,keyOf P k x.key=some y.1):=by
 rcases WideElems.open_map ht h with⟨_,hx⟩|⟨b,es,clk,n,rfl,hcs,hb,_,F,hx⟩
 ·cases hx
 ·simp only[Prod.mk.injEq,DataW.map.injEq]at hx;obtain⟨hdl,_⟩:=hx;have hperm:=sorted_perm (es.toList.map (WideElems.rg P k (WideElems.elemAt enc P w base sp held n e)));rw[<-hdl]at hperm;obtain⟨s1,s2,s3⟩:=F.stamped;refine⟨b,es,clk,n,hcs,hb,⟨s1,s2⟩,s3,fun x hx=> ?_,fun y hy=> ?_⟩
  ·obtain⟨y,hy⟩:=F.reads x hx;have hk:=WideElems.rd_key hy;obtain⟨z,hz,hyz⟩:=WideElems.rd_val hy;unfold WideElems.elemAt at hz;split at hz
   ·rename_i hf;refine⟨y.1,y.2,z.2,hperm.mem_iff.2 (zrh.2 ⟨x,hx,WideElems.rg_of hy⟩),hk,?_,hf⟩;rw[hz,hyz]
   ·cases hz
  ·obtain⟨x,hx,hxy⟩:=zrh.1 (hperm.mem_iff.1 hy);obtain⟨y',hy'⟩:=F.reads x hx;rw[WideElems.rg_of hy']at hxy;subst hxy;exact⟨x,hx,WideElems.rd_key hy'⟩
def vOf:Value->V
 | .string s=> .str s.data.toList
 | .int k n=> .int k n
 | .func f _ _=> .fn f [] []
 | .agg cs=> .agg (cs.toList.map fun x=>match x with | .int k n=>V.int k n|_=> .any)
 |_=> .any
theorem yQ{c:C}{F:MapEntry->Value}{G:MapEntry->V}:∀ {l:List MapEntry},(∀x∈l,VRel c (G x) (F x))->VList c (l.map G) (l.map F)
 |[],_=>by simp only[List.map_nil,VList]
 |a::l,h=>by simp only[zrd,VList];exact⟨_,_,rfl,h a (by simp),yQ fun x hx=>h x (by simp[hx])⟩
theorem OD{W:World}{g b:Nat}{ty:TypeId}{fz:Nat×Nat}{es:Array MapEntry}{clk:Nat}(h1:W.heap[g]? =some (.cells #[.map (some b)] ty fz))(h2:W.heap[b]? =some (.map es clk))(h3:vO es clk)
 (hk:∀x∈es.toList,VRel (cw W).data (vOf x.key) x.key) (hv:∀x∈es.toList,VRel (cw W).data (vOf x.val) x.val) :
 VRel (cw W) (.ip (.im (es.toList.map fun x=>vOf x.key) (es.toList.map fun x=>vOf x.val))) (.pointer (some ⟨g,0,none⟩)):=by
 simp only[VRel];refine⟨g,0,.map (some b),rfl,fun j hj=>⟨⟨trivial,fun i hi=>by cases hi⟩,?_⟩,by simp[Value.cells],b,es,clk,rfl,⟨trivial,fun i hi=>by cases hi⟩,h2,yQ hk,yQ hv,h3⟩;have hj:j=0:=by simp[Value.cells]at hj;omega
 subst hj;show W.cell? ⟨g,0+0,none⟩=_;unfold World.cell?;simp only[h1];rfl
theorem Bz{α:Type}[DecidableEq α]{kd:K}{mk:α->V}(hk:∀a b,keq kd (mk a) (mk b)=some (decide (a=b)))(a:α):∀ks:List α,gY kd (mk a) (ks.map mk)=some (ks.findIdx? fun b=>decide (a=b))
 |[]=>rfl
 |k::ks=>by
  simp only[zrd,gY,hk,List.findIdx?_cons];by_cases h:a=k
  ·simp[h]
  ·rw[decide_eq_false h];simp only[Bz hk a ks];cases ks.findIdx? fun b=>decide (a=b)<;>rfl
theorem J5{α:Type}{mk:α->V}{T:List (α×V)}:∀ {L:List MapEntry},(∀x∈L,∃y∈T,vOf x.key=mk y.1/\vOf x.val=y.2) ->
 ∃T':List (α×V),(L.map fun x=>vOf x.key)=(T'.map (·.1)).map mk/\(L.map fun x=>vOf x.val)=T'.map (·.2)/\(∀y∈T',y∈T)/\∀x∈L,∃y∈T',vOf x.key=mk y.1
 |[],_=>⟨[],rfl,rfl,fun y h=>(by cases h),fun x h=>(by cases h)⟩
 |a::L,h=>by
  obtain⟨y,hy,h1,h2⟩:=h a (by simp);obtain⟨T',t1,t2,t3,t4⟩:=J5 (L:=L) (T:=T) (mk:=mk) fun x hx=>h x (List.mem_cons_of_mem _ hx);refine⟨y::T',?_,?_,fun z hz=> ?_,fun x hx=> ?_⟩
  ·rw[zrd,zrd,zrd,t1,h1]
  ·rw[zrd,zrd,t2,h2]
  ·rcases zrj.1 hz with rfl|hz
   ·exact hy
   ·exact t3 z hz
  ·rcases zrj.1 hx with rfl|hx
   ·exact⟨y,by simp,h1⟩
   ·obtain⟨z,hz,e⟩:=t4 x hx;exact⟨z,by simp[hz],e⟩
theorem BA{α β:Type}:∀ {T:List (α×β)},(T.map (·.1)).Nodup->∀ {x y},x∈T->y∈T->x.1=y.1->x=y
 |[],_,x,y,hx,_,_=>by cases hx
 |a::T,hn,x,y,hx,hy,he=>by
  rw[zrd,List.nodup_cons]at hn;rcases zrj.1 hx with ex|hx2<;>rcases zrj.1 hy with ey|hy2
  ·rw[ex,ey]
  ·exact absurd (show a.1∈T.map (·.1)from zrh.2 ⟨y,hy2,by rw[<-ex,he]⟩) hn.1
  ·exact absurd (show a.1∈T.map (·.1)from zrh.2 ⟨x,hx2,by rw[<-ey,he]⟩) hn.1
  ·exact BA hn.2 hx2 hy2 he
def Qh(z:V):Option V->V
 |some v=> .tup [v,.bool true]
 |none=> .tup [z,.bool false]
theorem EH{α:Type}[DecidableEq α]{kd:K}{mk:α->V}(hk:∀a b,keq kd (mk a) (mk b)=some (decide (a=b)))(hi:∀a b,mk a=mk b->a=b){L:List MapEntry}{T:List (α×V)}(hT:(T.map (·.1)).Nodup)
 (h1:∀x∈L,∃y∈T,vOf x.key=mk y.1/\vOf x.val=y.2) (h2:∀y∈T,∃x∈L,vOf x.key=mk y.1) (a:α) (z:V) :
 nU kd (mk a) (L.map fun x=>vOf x.key) (L.map fun x=>vOf x.val) z true=(True,Qh z ((T.find? fun y=>decide (a=y.1)).map (·.2))):=by
 obtain⟨T',t1,t2,t3,t4⟩:=J5 h1;rw[t1,t2];unfold nU;rw[Bz hk];cases hf:(T'.map (·.1)).findIdx? fun b=>decide (a=b)with
 |some n =>
  obtain⟨hn,hp,_⟩:=List.findIdx?_eq_some_iff_getElem.1 hf;have hn':n<T'.length:=by simpa using hn
  have hp:a=T'[n].1:=by simpa using hp
  have hm:=t3 _ (zqu hn');have hff:(T.find? fun y=>decide (a=y.1))=some T'[n]:=by
   cases hq:T.find? fun y=>decide (a=y.1)with
   |none=>have:=List.find?_eq_none.1 hq _ hm;rw[hp]at this;simp at this
   |some y =>
    have e1:=List.find?_some hq;have e2:=List.mem_of_find?_eq_some hq;have e1:a=y.1:=by simpa using e1
    rw[BA hT e2 hm (by rw[<-e1,<-hp])]
  rw[hff];dsimp only[Qh,zrw];have:(T'.map (·.2)).getD n .any=T'[n].2:=dG hn' _;rw[this];rfl
 |none =>
  have hff:(T.find? fun y=>decide (a=y.1))=none:=by
   rw[List.find?_eq_none];intro y hy e;have e:a=y.1:=by simpa using e
   obtain⟨x,hx,ex⟩:=h2 y hy;obtain⟨y',hy',ey⟩:=t4 x hx;have e3:=hi _ _ (ex.symm.trans ey);have:=List.findIdx?_eq_none_iff.1 hf y'.1 (zrh.2 ⟨y',hy',rfl⟩);rw[e,e3]at this;simp at this
  rw[hff];rfl
theorem Qi(a b:S):keq .str (.str a) (.str b)=some (decide (a=b)):=by
 simp only[keq];by_cases h:a=b
 ·simp[h]
 ·rw[decide_eq_false h,beq_eq_false_iff_ne.2 h]
theorem Qj(a b:Int):keq (.int .i64) (.int .i64 a) (.int .i64 b)=some (decide (a=b)):=by
 simp only[keq,if_true];by_cases h:a=b
 ·simp[h]
 ·rw[decide_eq_false h,beq_eq_false_iff_ne.2 h]
abbrev LL : List (String × DataW Unit) := [("math/bits.deBruijn32tab", Rows.laid_math_bits_deBruijn32tab), ("math/bits.deBruijn64tab", Rows.laid_math_bits_deBruijn64tab), ("internal/strconv.uint64pow10", Rows.laid_internal_strconv_uint64pow10), ("unicode/utf8.acceptRanges", Rows.laid_unicode_utf8_acceptRanges), ("patchbay/spot.start", Rows.laid_patchbay_spot_start), ("patchbay/ident.kept", Rows.laid_patchbay_ident_kept), ("patchbay/net.ins", Rows.laid_patchbay_net_ins), ("patchbay/blif.tells", Rows.laid_patchbay_blif_tells), ("unicode/utf8.first", Rows.laid_unicode_utf8_first)]
theorem NW {W : World} (h : laidMetH Tryz.prog LL W) : laidMet Tryz.prog [("math/bits.deBruijn32tab", Rows.laid_math_bits_deBruijn32tab), ("math/bits.deBruijn64tab", Rows.laid_math_bits_deBruijn64tab), ("internal/strconv.uint64pow10", Rows.laid_internal_strconv_uint64pow10), ("unicode/utf8.acceptRanges", Rows.laid_unicode_utf8_acceptRanges), ("patchbay/spot.start", Rows.laid_patchbay_spot_start), ("patchbay/ident.kept", Rows.laid_patchbay_ident_kept), ("patchbay/net.ins", Rows.laid_patchbay_net_ins), ("unicode/utf8.first", Rows.laid_unicode_utf8_first)] W ∧ handlesMet Tryz.prog [("patchbay/blif.tells", Rows.laid_patchbay_blif_tells)] W := h
theorem jG{P:Program}{w:World}{n:String}{g:Nat}{cs:Array Value}(hg:P.globalNamed n=some g)(h:w.var? P n=some cs):∃ty fz,w.heap[g]? =some (.cells cs ty fz):=by
 unfold World.var? at h;rw[hg,Option.bind_some]at h;split at h
 ·cases h;exact⟨_,_,by assumption⟩
 ·cases h
theorem Sl{P:Program}{v:Value}{e e':TypeId}{n:Nat}(hu:P.underlying e=some (.array n e'))(hf:v.formed P e=true):∃cs,v= .agg cs:=by cases v<;>simp[Value.formed,hu]at hf;exact⟨_,rfl⟩
theorem Sm{P:Program}{v:Value}{e:TypeId}{ps rs:Array TypeId}{va:Bool}(hu:P.underlying e=some (.func ps rs va))(hf:v.formed P e=true):v.cells.toList=[v]:=by cases v<;>simp[Value.formed,hu]at hf<;>rfl
def vJ:List (S×FuncId):=[(FN,195),(iE,210),(kw,212),(iK,209),(ig,213),(fO,211)]
def J6:List (S×V):=vJ.map fun y=>(y.1,.fn (.func y.2) [] [])
theorem NY{W:World}(h:laidMetH Tryz.prog LL W):∃b es clk ty fz,W.heap[0]? =some (.cells #[.map (some b)] ty fz)/\W.heap[b]? =some (.map es clk)/\vO es clk /\
 (∀x∈es.toList,∃s y,y∈vJ/\x.key= .string s/\s.data.toList=y.1/\s.size<=maxLen/\x.val= .func (.func y.2) #[] #[])/\∀y∈vJ,∃x∈es.toList,∃s:ByteArray,x.key= .string s/\s.data.toList=y.1:=by
 have hm : ("patchbay/blif.tells", DataW.iface "func table" (.map [(.string [46, 101, 110, 100], .iface "func" (.lit (.string [40, 42, 112, 97, 116, 99, 104, 98, 97, 121, 47, 98, 108, 105, 102, 46, 112, 97, 114, 115, 101, 114, 41, 46, 101, 110, 100]))), (.string [46, 105, 110, 112, 117, 116, 115], .iface "func" (.lit (.string [40, 42, 112, 97, 116, 99, 104, 98, 97, 121, 47, 98, 108, 105, 102, 46, 112, 97, 114, 115, 101, 114, 41, 46, 105, 110, 112, 117, 116, 115]))), (.string [46, 108, 97, 116, 99, 104], .iface "func" (.lit (.string [40, 42, 112, 97, 116, 99, 104, 98, 97, 121, 47, 98, 108, 105, 102, 46, 112, 97, 114, 115, 101, 114, 41, 46, 108, 97, 116, 99, 104]))), (.string [46, 109, 111, 100, 101, 108], .iface "func" (.lit (.string [40, 42, 112, 97, 116, 99, 104, 98, 97, 121, 47, 98, 108, 105, 102, 46, 112, 97, 114, 115, 101, 114, 41, 46, 109, 111, 100, 101, 108]))), (.string [46, 110, 97, 109, 101, 115], .iface "func" (.lit (.string [40, 42, 112, 97, 116, 99, 104, 98, 97, 121, 47, 98, 108, 105, 102, 46, 112, 97, 114, 115, 101, 114, 41, 46, 110, 97, 109, 101, 115]))), (.string [46, 111, 117, 116, 112, 117, 116, 115], .iface "func" (.lit (.string [40, 42, 112, 97, 116, 99, 104, 98, 97, 121, 47, 98, 108, 105, 102, 46, 112, 97, 114, 115, 101, 114, 41, 46, 111, 117, 116, 112, 117, 116, 115])))])) ∈ LL := by
  show ("patchbay/blif.tells", Rows.laid_patchbay_blif_tells) ∈ LL
  simp[LL]
 obtain ⟨g, t, cs, fuel, p, hg, ht, hv, hd⟩ := h.funcs hm;have e1 : Tryz.prog.globalNamed "patchbay/blif.tells" = some 0 := by kernel_rfl
 obtain rfl:=Option.some.inj (e1.symm.trans hg);have e2:(Tryz.prog.globals[0]?).map (·.type)=some 141:=by kernel_rfl
 obtain rfl:=Option.some.inj (e2.symm.trans ht);have hd':DataW.trod (funcToken Tryz.prog) Tryz.prog W 0 (fun _=>true) true fuel 141 cs.toList=some (.map [(.string [46,101,110,100],.held [40,42,112,97,116,99,104,98,97,121,47,98,108,105,102,46,112,97,114,115,101,114,41,46,101,110,100]),(.string [46,105,110,112,117,116,115],.held [40,42,112,97,116,99,104,98,97,121,47,98,108,105,102,46,112,97,114,115,101,114,41,46,105,110,112,117,116,115]),(.string [46,108,97,116,99,104],.held [40,42,112,97,116,99,104,98,97,121,47,98,108,105,102,46,112,97,114,115,101,114,41,46,108,97,116,99,104]),(.string [46,109,111,100,101,108],.held [40,42,112,97,116,99,104,98,97,121,47,98,108,105,102,46,112,97,114,115,101,114,41,46,109,111,100,101,108]),(.string [46,110,97,109,101,115],.held [40,42,112,97,116,99,104,98,97,121,47,98,108,105,102,46,112,97,114,115,101,114,41,46,110,97,109,101,115]),(.string [46,111,117,116,112,117,116,115],.held [40,42,112,97,116,99,104,98,97,121,47,98,108,105,102,46,112,97,114,115,101,114,41,46,111,117,116,112,117,116,115])],p):=hd;obtain⟨b,es,clk,n,hcs,hb,hok,hnd,h1,h2⟩:=vH Tryz.underlying141 hd';obtain⟨ty,fz,hh⟩:=jG e1 hv;have hcs':cs=#[.map (some b)]:=Array.toList_inj.1 hcs;rw[hcs']at hh;refine⟨b,es,clk,ty,fz,hh,hb,hok,fun x hx=> ?_,fun y hy=> ?_⟩
 ·obtain⟨l,d,q,hm,hk,hr,hf⟩:=h1 x hx;obtain⟨s,hs1,hs2,hs3⟩:=WideMaps.string_of_keyOf Tryz.underlying9 hk;rw[Sm Tryz.underlying139 hf]at hr;simp only[zrj,zrp,or_false,Prod.mk.injEq]at hm;rcases hm with⟨rfl,rfl⟩|⟨rfl,rfl⟩|⟨rfl,rfl⟩|⟨rfl,rfl⟩|⟨rfl,rfl⟩|⟨rfl,rfl⟩
  ·simp only[Lit.string.injEq]at hs2;exact⟨s,(FN,195),by simp[vJ],hs1,hs2.symm,hs3,func_of_trod (f0:=195) Tryz.underlying139 (by kernel_rfl) hr⟩
  ·simp only[Lit.string.injEq]at hs2;exact⟨s,(iE,210),by simp[vJ],hs1,hs2.symm,hs3,func_of_trod (f0:=210) Tryz.underlying139 (by kernel_rfl) hr⟩
  ·simp only[Lit.string.injEq]at hs2;exact⟨s,(kw,212),by simp[vJ],hs1,hs2.symm,hs3,func_of_trod (f0:=212) Tryz.underlying139 (by kernel_rfl) hr⟩
  ·simp only[Lit.string.injEq]at hs2;exact⟨s,(iK,209),by simp[vJ],hs1,hs2.symm,hs3,func_of_trod (f0:=209) Tryz.underlying139 (by kernel_rfl) hr⟩
  ·simp only[Lit.string.injEq]at hs2;exact⟨s,(ig,213),by simp[vJ],hs1,hs2.symm,hs3,func_of_trod (f0:=213) Tryz.underlying139 (by kernel_rfl) hr⟩
  ·simp only[Lit.string.injEq]at hs2;exact⟨s,(fO,211),by simp[vJ],hs1,hs2.symm,hs3,func_of_trod (f0:=211) Tryz.underlying139 (by kernel_rfl) hr⟩
 ·have hy':∃y'∈([(.string [46,101,110,100],.held [40,42,112,97,116,99,104,98,97,121,47,98,108,105,102,46,112,97,114,115,101,114,41,46,101,110,100]),(.string [46,105,110,112,117,116,115],.held [40,42,112,97,116,99,104,98,97,121,47,98,108,105,102,46,112,97,114,115,101,114,41,46,105,110,112,117,116,115]),(.string [46,108,97,116,99,104],.held [40,42,112,97,116,99,104,98,97,121,47,98,108,105,102,46,112,97,114,115,101,114,41,46,108,97,116,99,104]),(.string [46,109,111,100,101,108],.held [40,42,112,97,116,99,104,98,97,121,47,98,108,105,102,46,112,97,114,115,101,114,41,46,109,111,100,101,108]),(.string [46,110,97,109,101,115],.held [40,42,112,97,116,99,104,98,97,121,47,98,108,105,102,46,112,97,114,115,101,114,41,46,110,97,109,101,115]),(.string [46,111,117,116,112,117,116,115],.held [40,42,112,97,116,99,104,98,97,121,47,98,108,105,102,46,112,97,114,115,101,114,41,46,111,117,116,112,117,116,115])]:List (Lit×DataW (List UInt8))),y'.1= .string y.1:=by
   simp only[vJ,zrj,zrp,or_false]at hy;rcases hy with rfl|rfl|rfl|rfl|rfl|rfl
   ·exact⟨(.string [46,101,110,100],.held [40,42,112,97,116,99,104,98,97,121,47,98,108,105,102,46,112,97,114,115,101,114,41,46,101,110,100]),by simp,rfl⟩
   ·exact⟨(.string [46,105,110,112,117,116,115],.held [40,42,112,97,116,99,104,98,97,121,47,98,108,105,102,46,112,97,114,115,101,114,41,46,105,110,112,117,116,115]),by simp,rfl⟩
   ·exact⟨(.string [46,108,97,116,99,104],.held [40,42,112,97,116,99,104,98,97,121,47,98,108,105,102,46,112,97,114,115,101,114,41,46,108,97,116,99,104]),by simp,rfl⟩
   ·exact⟨(.string [46,109,111,100,101,108],.held [40,42,112,97,116,99,104,98,97,121,47,98,108,105,102,46,112,97,114,115,101,114,41,46,109,111,100,101,108]),by simp,rfl⟩
   ·exact⟨(.string [46,110,97,109,101,115],.held [40,42,112,97,116,99,104,98,97,121,47,98,108,105,102,46,112,97,114,115,101,114,41,46,110,97,109,101,115]),by simp,rfl⟩
   ·exact⟨(.string [46,111,117,116,112,117,116,115],.held [40,42,112,97,116,99,104,98,97,121,47,98,108,105,102,46,112,97,114,115,101,114,41,46,111,117,116,112,117,116,115]),by simp,rfl⟩
  obtain⟨y',hm,he⟩:=hy';obtain⟨x,hx,hk⟩:=h2 y' hm;obtain⟨s,hs1,hs2,_⟩:=WideMaps.string_of_keyOf Tryz.underlying9 hk;rw[he]at hs2;simp only[Lit.string.injEq]at hs2;exact⟨x,hx,s,hs1,hs2.symm⟩
def BD:List (Int×Int×Int):=[(0,0,0),(1,0,0),(2,1,1),(3,1,1),(4,2,8),(5,2,8),(6,2,8),(7,2,8),(8,2,8),(9,2,8),(10,0,8)]
def Sr:List (Int×V):=BD.map fun y=>(y.1,.agg [.int .i64 y.2.1,.int .i64 y.2.2])
theorem Su {W : World} {r : List (String × DataW Unit)} (h : laidMet Tryz.prog (("patchbay/net.ins", Rows.laid_patchbay_net_ins) :: r) W) : ∃ b es clk ty fz, W.heap[1]? = some (.cells #[.map (some b)] ty fz) ∧ W.heap[b]? = some (.map es clk) ∧ vO es clk ∧
 (∀x∈es.toList,∃y∈BD,x.key= .int .i64 y.1/\x.val= .agg #[.int .i64 y.2.1,.int .i64 y.2.2])/\∀y∈BD,∃x∈es.toList,x.key= .int .i64 y.1:=by
 obtain ⟨ps, ⟨g', t', cs, fuel, p, q, hg', ht', hvar, hd, _, _⟩, _⟩ := h;have e1 : Tryz.prog.globalNamed "patchbay/net.ins" = some 1 := by kernel_rfl
 obtain rfl:=Option.some.inj (e1.symm.trans hg');have e2:(Tryz.prog.globals[1]?).map (·.type)=some 177:=by kernel_rfl
 obtain rfl:=Option.some.inj (e2.symm.trans ht');have hd':DataW.trod (fun _=>()) Tryz.prog W 0 (fun _=>true) false fuel 177 cs.toList=some (.map [(.int .i64 0,.agg [.lit (.int .i64 0),.lit (.int .i64 0)]),(.int .i64 1,.agg [.lit (.int .i64 0),.lit (.int .i64 0)]),(.int .i64 2,.agg [.lit (.int .i64 1),.lit (.int .i64 1)]),(.int .i64 3,.agg [.lit (.int .i64 1),.lit (.int .i64 1)]),(.int .i64 4,.agg [.lit (.int .i64 2),.lit (.int .i64 8)]),(.int .i64 5,.agg [.lit (.int .i64 2),.lit (.int .i64 8)]),(.int .i64 6,.agg [.lit (.int .i64 2),.lit (.int .i64 8)]),(.int .i64 7,.agg [.lit (.int .i64 2),.lit (.int .i64 8)]),(.int .i64 8,.agg [.lit (.int .i64 2),.lit (.int .i64 8)]),(.int .i64 9,.agg [.lit (.int .i64 2),.lit (.int .i64 8)]),(.int .i64 10,.agg [.lit (.int .i64 0),.lit (.int .i64 8)])],p):=hd;obtain⟨b,es,clk,n,hcs,hb,hok,hnd,h1,h2⟩:=vH Tryz.underlying177 hd';obtain⟨ty,fz,hh⟩:=jG e1 hvar;have hcs':cs=#[.map (some b)]:=Array.toList_inj.1 hcs;rw[hcs']at hh;have c1:Tryz.prog.cellsOf 3=1:=by kernel_rfl
 have c2:Tryz.prog.cellsOf 175=2:=by kernel_rfl
 have ikey:∀ {v:Value} {n:Int},keyOf Tryz.prog 34 v=some (.int .i64 n)->v= .int .i64 n:=fun {v n} hk=>by rw[keyOf_int Tryz.underlying34]at hk;cases v<;>simp[mapKey,Tryz.underlying34]at hk;obtain⟨⟨rfl,_⟩,rfl⟩:=hk;rfl
 have ival:∀ {v:Value} {a b:Int} {q:List MemPlace},v.formed Tryz.prog 175=true->DataW.trod (fun _=>()) Tryz.prog W 0 (fun _=>true) false n 175 v.cells.toList=some (.agg [.lit (.int .i64 a),.lit (.int .i64 b)],q)->v= .agg #[.int .i64 a,.int .i64 b]:=fun {v a b q} hf hr=>by obtain⟨cs,rfl⟩:=Sl Tryz.underlying175 hf;have:=Lib.cells_of_tab (zs:=[a,b]) (k:= .i64) Tryz.underlying175 Tryz.underlying3 c1 c2 hr;have:cs=#[.int .i64 a,.int .i64 b]:=Array.toList_inj.1 this;rw[this]
 refine⟨b,es,clk,ty,fz,hh,hb,hok,fun x hx=> ?_,fun y hy=> ?_⟩
 ·obtain⟨l,d,q,hm,hk,hr,hf⟩:=h1 x hx;simp only[zrj,zrp,or_false,Prod.mk.injEq]at hm;rcases hm with⟨rfl,rfl⟩|⟨rfl,rfl⟩|⟨rfl,rfl⟩|⟨rfl,rfl⟩|⟨rfl,rfl⟩|⟨rfl,rfl⟩|⟨rfl,rfl⟩|⟨rfl,rfl⟩|⟨rfl,rfl⟩|⟨rfl,rfl⟩|⟨rfl,rfl⟩
  ·exact⟨(0,0,0),by simp[BD],ikey hk,ival hf hr⟩
  ·exact⟨(1,0,0),by simp[BD],ikey hk,ival hf hr⟩
  ·exact⟨(2,1,1),by simp[BD],ikey hk,ival hf hr⟩
  ·exact⟨(3,1,1),by simp[BD],ikey hk,ival hf hr⟩
  ·exact⟨(4,2,8),by simp[BD],ikey hk,ival hf hr⟩
  ·exact⟨(5,2,8),by simp[BD],ikey hk,ival hf hr⟩
  ·exact⟨(6,2,8),by simp[BD],ikey hk,ival hf hr⟩
  ·exact⟨(7,2,8),by simp[BD],ikey hk,ival hf hr⟩
  ·exact⟨(8,2,8),by simp[BD],ikey hk,ival hf hr⟩
  ·exact⟨(9,2,8),by simp[BD],ikey hk,ival hf hr⟩
  ·exact⟨(10,0,8),by simp[BD],ikey hk,ival hf hr⟩
 ·have hy':∃y'∈([(.int .i64 0,.agg [.lit (.int .i64 0),.lit (.int .i64 0)]),(.int .i64 1,.agg [.lit (.int .i64 0),.lit (.int .i64 0)]),(.int .i64 2,.agg [.lit (.int .i64 1),.lit (.int .i64 1)]),(.int .i64 3,.agg [.lit (.int .i64 1),.lit (.int .i64 1)]),(.int .i64 4,.agg [.lit (.int .i64 2),.lit (.int .i64 8)]),(.int .i64 5,.agg [.lit (.int .i64 2),.lit (.int .i64 8)]),(.int .i64 6,.agg [.lit (.int .i64 2),.lit (.int .i64 8)]),(.int .i64 7,.agg [.lit (.int .i64 2),.lit (.int .i64 8)]),(.int .i64 8,.agg [.lit (.int .i64 2),.lit (.int .i64 8)]),(.int .i64 9,.agg [.lit (.int .i64 2),.lit (.int .i64 8)]),(.int .i64 10,.agg [.lit (.int .i64 0),.lit (.int .i64 8)])]:List (Lit×DataW Unit)),y'.1= .int .i64 y.1:=by
   simp only[BD,zrj,zrp,or_false]at hy;rcases hy with rfl|rfl|rfl|rfl|rfl|rfl|rfl|rfl|rfl|rfl|rfl
   ·exact⟨(.int .i64 0,.agg [.lit (.int .i64 0),.lit (.int .i64 0)]),by simp,rfl⟩
   ·exact⟨(.int .i64 1,.agg [.lit (.int .i64 0),.lit (.int .i64 0)]),by simp,rfl⟩
   ·exact⟨(.int .i64 2,.agg [.lit (.int .i64 1),.lit (.int .i64 1)]),by simp,rfl⟩
   ·exact⟨(.int .i64 3,.agg [.lit (.int .i64 1),.lit (.int .i64 1)]),by simp,rfl⟩
   ·exact⟨(.int .i64 4,.agg [.lit (.int .i64 2),.lit (.int .i64 8)]),by simp,rfl⟩
   ·exact⟨(.int .i64 5,.agg [.lit (.int .i64 2),.lit (.int .i64 8)]),by simp,rfl⟩
   ·exact⟨(.int .i64 6,.agg [.lit (.int .i64 2),.lit (.int .i64 8)]),by simp,rfl⟩
   ·exact⟨(.int .i64 7,.agg [.lit (.int .i64 2),.lit (.int .i64 8)]),by simp,rfl⟩
   ·exact⟨(.int .i64 8,.agg [.lit (.int .i64 2),.lit (.int .i64 8)]),by simp,rfl⟩
   ·exact⟨(.int .i64 9,.agg [.lit (.int .i64 2),.lit (.int .i64 8)]),by simp,rfl⟩
   ·exact⟨(.int .i64 10,.agg [.lit (.int .i64 0),.lit (.int .i64 8)]),by simp,rfl⟩
  obtain⟨y',hm,he⟩:=hy';obtain⟨x,hx,hk⟩:=h2 y' hm;rw[he]at hk;exact⟨x,hx,ikey hk⟩
theorem own:ownKnob Tryz.prog.godebug=none:=by kernel_rfl
theorem laid:laidOutB Tryz.prog=true:=by kernel_rfl
theorem vK{H:Type}{enc:TypeId×Value->H}{P:Program}{w:World}{base:Nat}{sp:Nat->Bool}{b:Bool}{fuel:Nat}{t:TypeId}{k:IntKind}{n:Int}{cs:List Value}{p:List MemPlace}
 (ht:P.underlying t=some (.int k)) (h:DataW.trod enc P w base sp b fuel t cs=some (.lit (.int k n),p)):cs=[.int k n]:=by
 cases fuel with
 |zero=>simp[DataW.trod]at h
 |succ fuel =>
  simp only [DataW.trod,ht] at h;split at h <;> first
   |(cases h;done)
   |(split at h<;>simp_all;done)
   |simp_all
theorem NZ {W : World} {r : List (String × DataW Unit)} (h : laidMet Tryz.prog (("patchbay/spot.start", Rows.laid_patchbay_spot_start) :: r) W) : ∃ ty fz, W.heap[2]? = some (.cells #[.int .i64 1, .int .i64 1] ty fz) := by
 obtain ⟨ps, ⟨g', t', cs, fuel, p, q, hg', ht', hvar, hd, _, _⟩, _⟩ := h;have e1 : Tryz.prog.globalNamed "patchbay/spot.start" = some 2 := by kernel_rfl
 obtain rfl:=Option.some.inj (e1.symm.trans hg');have e2:(Tryz.prog.globals[2]?).map (·.type)=some 186:=by kernel_rfl
 obtain rfl:=Option.some.inj (e2.symm.trans ht');have c1:Tryz.prog.cellsOf 186=2:=by kernel_rfl
 have c2:Tryz.prog.cellsOf 3=1:=by kernel_rfl
 have u3:Tryz.prog.underlying 3=some (.int .i64):=by kernel_rfl
 obtain⟨ty,fz,hh⟩:=jG e1 hvar;cases fuel with
 |zero=>simp[DataW.trod]at hd
 |succ fuel =>
  simp only[DataW.trod,Tryz.underlying186]at hd;split at hd
  ·rename_i hl;rw[Option.map_eq_some_iff]at hd;obtain⟨xs,hx,he⟩:=hd;rw[c1]at hl;rw[c2,show List.range 2=[0,1]from rfl]at hx;simp only[List.mapM_cons,List.mapM_nil,Option.bind_eq_bind,Option.pure_def,Option.bind_eq_some_iff,Option.some.injEq]at hx;obtain⟨⟨y1,y2⟩,hy,ys,⟨⟨z1,z2⟩,hz,zs,rfl,rfl⟩,rfl⟩:=hx;simp only[zrd,List.map_nil,Prod.mk.injEq,Rows.laid_patchbay_spot_start,DataW.agg.injEq,List.cons.injEq,and_true]at he;obtain⟨⟨rfl,rfl⟩,_⟩:=he;have a1:=vK u3 hy;have a2:=vK u3 hz;have:cs=#[.int .i64 1,.int .i64 1]:=by
    apply Array.toList_inj.1
    match hcs:cs.toList,hl with
    |[a,b],_=>rw[hcs]at a1 a2;simp at a1 a2;rw[a1,a2]
   rw[this]at hh;exact⟨ty,fz,hh⟩
  ·cases hd
theorem TG {W : World} {r : List (String × DataW Unit)} (h : laidMet Tryz.prog (("math/bits.deBruijn64tab", Rows.laid_math_bits_deBruijn64tab) :: r) W) : ∃ ty fz, W.heap[7]? = some (.cells (CG.map fun z => Value.int .u8 z).toArray ty fz) := by
 have e1 : Tryz.prog.globalNamed "math/bits.deBruijn64tab" = some 7 := by kernel_rfl
 have e2:(Tryz.prog.globals[7]?).map (·.type)=some 243:=by kernel_rfl
 have c1:Tryz.prog.cellsOf 5=1:=by kernel_rfl
 have c2:Tryz.prog.cellsOf 243=64:=by kernel_rfl
 have:=Lib.tabIs_of_head (zs:=CG) (k:= .u8) e1 e2 Tryz.underlying243 Tryz.underlying5 c1 c2 h;exact jG e1 this
theorem TJ{W:World}(h:W.ShapedOpen Tryz.prog):∃ty fz m,W.heap[5]? =some (.cells #[.int .i64 m] ty fz):=by
 have h0:((begin Tryz.prog (fun _ _=>0) default).world.heap[5]?).bind Obj.row? =some (#[.int .i64 0],3):=by kernel_rfl
 have hg:5<Tryz.prog.globals.size:=by
  have:Tryz.prog.globals.size=10:=by kernel_rfl
  omega
 have hu:Tryz.prog.underlying 3=some (.int .i64):=Tryz.underlying3;obtain⟨m,hm⟩:=cell_of_shapedOpen_int h hg h0 rfl (by kernel_rfl) (by kernel_rfl) hu;obtain⟨cs,hh,hs,_⟩:=h.1 _ _ _ hg h0;have hs:cs.size=1:=hs;have:cs=#[.int .i64 m]:=by
  unfold World.cell? at hm;simp only[hh]at hm;have hm:cs[0]? =some (.int .i64 m):=hm;obtain⟨l⟩:=cs
  match l,hs with
  |[a],_=>simp at hm;rw[hm]
 rw[this]at hh;exact⟨3,(0,0),m,hh⟩
theorem Qk{w:World}{g:Nat}{k:IntKind}{zs:List Int}{ty:TypeId}{fz:Nat×Nat}(hz:zs≠[])(h:w.heap[g]? =some (.cells (zs.map fun z=>Value.int k z).toArray ty fz)):VRel (cw w) (.ip (.agg (zs.map fun n=>V.int k n))) (.pointer (some ⟨g,0,none⟩)):=by
 have hl:∀zs:List Int,VList (cw w).data (zs.map fun n=>V.int k n) (zs.map fun z=>Value.int k z):=fun zs=>by
  induction zs with
  |nil=>simp only[List.map_nil,VList]
  |cons a l ih=>simp only[zrd,VList,VRel];exact⟨_,_,rfl,rfl,ih⟩
 simp only[VRel];refine⟨g,0,.agg (zs.map fun z=>Value.int k z).toArray,rfl,fun j hj=>⟨⟨trivial,fun i hi=>by cases hi⟩,?_⟩,?_,_,rfl,hl zs⟩
 ·show w.cell? ⟨g,0+j,none⟩=_;unfold World.cell?;simp only[h,Nat.zero_add];rfl
 ·have:0<zs.length:=List.length_pos_iff.2 hz;simpa [Value.cells]using this
theorem J7(s:S)(z:V):Qh z ((J6.find? fun y=>decide (s=y.1)).map (·.2))=if s=FN then .tup [.fn (.func 195) [] [],.bool true]else if s=iE then .tup [.fn (.func 210) [] [],.bool true]else if s=kw then .tup [.fn (.func 212) [] [],.bool true]else if s=iK then .tup [.fn (.func 209) [] [],.bool true]else if s=ig then .tup [.fn (.func 213) [] [],.bool true]else if s=fO then .tup [.fn (.func 211) [] [],.bool true]else .tup [z,.bool false]:=by
 unfold J6 vJ;simp only[zrd,List.map_nil];by_cases h0:s=FN
 ·rw[if_pos h0,List.find?_cons_of_pos (by simpa using h0)];rfl
 ·rw[if_neg h0,List.find?_cons_of_neg (by simpa using h0)];by_cases h1:s=iE
  ·rw[if_pos h1,List.find?_cons_of_pos (by simpa using h1)];rfl
  ·rw[if_neg h1,List.find?_cons_of_neg (by simpa using h1)];by_cases h2:s=kw
   ·rw[if_pos h2,List.find?_cons_of_pos (by simpa using h2)];rfl
   ·rw[if_neg h2,List.find?_cons_of_neg (by simpa using h2)];by_cases h3:s=iK
    ·rw[if_pos h3,List.find?_cons_of_pos (by simpa using h3)];rfl
    ·rw[if_neg h3,List.find?_cons_of_neg (by simpa using h3)];by_cases h4:s=ig
     ·rw[if_pos h4,List.find?_cons_of_pos (by simpa using h4)];rfl
     ·rw[if_neg h4,List.find?_cons_of_neg (by simpa using h4)];by_cases h5:s=fO
      ·rw[if_pos h5,List.find?_cons_of_pos (by simpa using h5)];rfl
      ·rw[if_neg h5,List.find?_cons_of_neg (by simpa using h5)];rfl
/-- What the condition gives the walks. -/
theorem laid_mo{W:World}(h:laidMetH Tryz.prog LL W)(hsh:W.ShapedOpen Tryz.prog):∃mo:MO,(∀g v,(@TE mo).gl g=some v->VRel (cw W) (.ip v) (.pointer (some ⟨g,0,none⟩)))/\∀g p,(@TE mo).gx g=some p->∃cs ty fz,W.heap[g]? =some (.cells cs ty fz)/\p cs:=by
 have h1:=(NW h).1;have h2:=laidMet.tail h1;have h5:=laidMet.tail (laidMet.tail (laidMet.tail h2));have h7:=laidMet.tail (laidMet.tail h5);obtain⟨b,es,clk,ty,fz,t1,t2,t3,t4,t5⟩:=NY h;obtain⟨b',es',clk',ty',fz',i1,i2,i3,i4,i5⟩:=Su h7;obtain⟨sty,sfz,s1⟩:=NZ h5;obtain⟨dty,dfz,d1⟩:=TG h2;obtain⟨mty,mfz,m,m1⟩:=TJ hsh;have q1:∀x∈es.toList,∃y∈J6,vOf x.key=V.str y.1/\vOf x.val=y.2:=fun x hx=>by obtain⟨s,y,hy,e1,e2,_,e3⟩:=t4 x hx;exact⟨(y.1,.fn (.func y.2) [] []),zrh.2 ⟨y,hy,rfl⟩,by rw[e1,<-e2];rfl,by rw[e3];rfl⟩
 have q2:∀y∈J6,∃x∈es.toList,vOf x.key=V.str y.1:=fun y hy=>by obtain⟨y',hy',rfl⟩:=zrh.1 hy;obtain⟨x,hx,s,e1,e2⟩:=t5 y' hy';exact⟨x,hx,by rw[e1,<-e2];rfl⟩
 have q3:∀x∈es'.toList,∃y∈Sr,vOf x.key=V.int .i64 y.1/\vOf x.val=y.2:=fun x hx=>by obtain⟨y,hy,e1,e3⟩:=i4 x hx;exact⟨(y.1,.agg [.int .i64 y.2.1,.int .i64 y.2.2]),zrh.2 ⟨y,hy,rfl⟩,by rw[e1];rfl,by rw[e3];rfl⟩
 have q4:∀y∈Sr,∃x∈es'.toList,vOf x.key=V.int .i64 y.1:=fun y hy=>by obtain⟨y',hy',rfl⟩:=zrh.1 hy;obtain⟨x,hx,e1⟩:=i5 y' hy';exact⟨x,hx,by rw[e1];rfl⟩
 have g1:=EH Qi (fun a b e=>by injection e) (T:=J6) (by decide) q1 q2;have g2:=EH Qj (fun a b e=>by injection e) (T:=Sr) (by decide) q3 q4;refine⟨{ik:=es'.toList.map fun x=>vOf x.key,iv:=es'.toList.map fun x=>vOf x.val,tk:=es.toList.map fun x=>vOf x.key,tv:=es.toList.map fun x=>vOf x.val,ins:=fun n z=> ?_,tell:=fun s z=> ?_},fun g v hg=> ?_,fun g p hg=> ?_⟩
 ·rw[g2];refine congrArg _ ?_;by_cases hn:0<=n/\n<=10
  ·rw[if_pos hn];have:n=0\/n=1\/n=2\/n=3\/n=4\/n=5\/n=6\/n=7\/n=8\/n=9\/n=10:=by omega
   rcases this with rfl|rfl|rfl|rfl|rfl|rfl|rfl|rfl|rfl|rfl|rfl<;>rfl
  ·rw[if_neg hn];have:(Sr.find? fun y=>decide (n=y.1))=none:=by
    rw[List.find?_eq_none];intro y hy e;have e:n=y.1:=by simpa using e
    simp only[Sr,BD,zrd,List.map_nil,zrj,zrp,or_false]at hy;rcases hy with rfl|rfl|rfl|rfl|rfl|rfl|rfl|rfl|rfl|rfl|rfl<;>exact hn (by omega)
   rw[this];rfl
 ·rw[g1];refine congrArg _ ?_;exact J7 s z
 ·match g,hg with
  |0,hg =>
   obtain rfl:=Option.some.inj hg;exact OD t1 t2 t3 (fun x hx=>by
    obtain⟨s,y,_,e1,_,e2,_⟩:=t4 x hx;rw[e1];simp only[vOf,VRel];exact⟨s,rfl,rfl,by simpa using e2⟩) (fun x hx=>by
    obtain⟨s,y,_,_,_,_,e3⟩:=t4 x hx;rw[e3];simp only[vOf,VRel,VList];exact⟨#[],#[],rfl,rfl,rfl⟩)
  |1,hg =>
   obtain rfl:=Option.some.inj hg;exact OD i1 i2 i3 (fun x hx=>by
    obtain⟨y,_,e1,_⟩:=i4 x hx;rw[e1];simp only[vOf,VRel]) (fun x hx=>by
    obtain⟨y,_,_,e3⟩:=i4 x hx;rw[e3];simp only[vOf,VRel];refine⟨_,rfl,?_⟩;simp only[zrd,List.map_nil,VList,VRel];exact⟨_,_,rfl,rfl,_,_,rfl,rfl,rfl⟩)
  |2,hg=>obtain rfl:=Option.some.inj hg;exact O9 s1
  |7,hg=>obtain rfl:=Option.some.inj hg;exact Qk (by decide) d1
 ·match g,hg with
  |2,hg=>have hp:(fun cs=>cs=#[Value.int .i64 1,Value.int .i64 1])=p:=Option.some.inj hg;subst hp;exact⟨_,sty,sfz,s1,rfl⟩
  |5,hg=>have hp:(fun cs=>∃m,cs=#[Value.int .i64 m])=p:=Option.some.inj hg;subst hp;exact⟨_,mty,mfz,m1,m,rfl⟩
theorem reach_of'{H:Type}{P:Program}{fn:Func}{more:List TypeId}{ds gs:List (DataW H)}(h:(DataW.weightsEach P (fn.params.toList++more) (ds++gs)).all (·<=reachBytes)=true) :
 ∀(i:Nat) d t,ds[i]? =some d->fn.params.toList[i]? =some t->(reachM H P).L t d:=by
 intro i d t h1 h2 n hn;have h3:=zrs.1 h n (jg _ _ i d t (by rw[zqj (zqe h1).1];exact h1) (by rw[zqj (zqe h2).1];exact h2) hn);simpa using h3
noncomputable def Sv (os : Os) : World := (World.doorLaid Tryz.prog 1200 os).layVars Tryz.prog [("unicode/utf8.first", Rows.laid_unicode_utf8_first)]
theorem door_met(os:Os)(args:Array Value):laidMetH Tryz.prog LL ((Sv os).forCall (fun _ _=>0) ⟨#[],args,[]⟩).memory :=
 laidMetH_of_parts3 (fuel:=8) (laidMet_of_run' 8 (by kernel_rfl) (by kernel_rfl)) (by kernel_rfl) (by kernel_rfl)
section
variable{H:Type}{enc:TypeId×Value->H}
theorem rih_andS{a:Assume}{C:Checked}{os:Os}{f:FuncId}{fn:Func}{s:ChangeSpec}{conds:List PathCond}{apart fresh handsOn again:Bool}{X:World->Array Value->Prop}
 (hX:∀(w w':World)(args:Array Value),w.heap=w'.heap->X w args->X w' args)
 (own:ownKnob C.prog.godebug=none) (started:os.Started) (noInit:C.prog.inits.idxOf? f=none) (hfn:C.prog.funcs[f]? =some fn)
 (witness:∃(w:World)(tape:Tape)(i:Input),w.os=os/\(w.forCall tape i).Shaped C.prog/\i.vars=[]/\Input.okWide C.prog (w.forCall tape i) .any w.heap.size f i /\
  ((s.pre enc C.prog fn conds apart (w.forCall tape i).memory i.args/\X (w.forCall tape i).memory i.args)/\sizedMet enc C.prog fn (OpenSpec.ofChange s) apart (w.forCall tape i).memory i.args)/\a.holds C.prog (lone (Frame.enter C.prog f i.args .normal) [] (w.forCall tape i)))
 (contract:∀(W:World)(base:Nat)(args:Array Value)(ds gs:List (DataW H))(before:List MemPlace),
  (∀(j:Nat) t v,fn.params[j]? =some t->args[j]? =some v->Value.okWide C.prog W .any base t v) ->
  DataW.Whole enc C.prog fn.params.toList s.vars apart W args.toList ds gs before ->
  (DataW.weightsEach C.prog (fn.params.toList++s.plain.varTypes C.prog) (ds++gs)).all (·<=reachBytes)=true->X W args->W.ShapedOpen C.prog ->
  Calls C.prog f args W fun e W'=>∃v,e= .returned v/\s.post enc C.prog fn apart fresh handsOn again W args v W') :
 ReturnsInHanded a C os f .any (fun w args=>(s.pre enc C.prog fn conds apart w args/\X w args)/\sizedMet enc C.prog fn (OpenSpec.ofChange s) apart w args) (s.post enc C.prog fn apart fresh handsOn again):=by
 refine returnsInHanded_of_calls own started noInit witness ?_;intro w tape i _ hsh _ hok hpre hholds;obtain⟨_,_,_,fn',hfn',_,_,_,_,hval⟩:=hok;have e:fn'=fn:=Option.some.inj (hfn'.symm.trans hfn);subst e;obtain⟨⟨⟨ds,gs,before,hw,hc⟩,hx⟩,hz⟩:=hpre;have hw':=DataW.Whole.of_heap (w':=w.forCall tape i) (by rfl) hw;refine(contract (w.forCall tape i) w.heap.size i.args ds gs before hval hw' (hz.weights hw) (hX _ _ _ (by rfl) hx) hsh).mono fun e W' ⟨v,he,hp⟩=> ?_;subst he;exact ChangeSpec.post_blind hp
end
abbrev EI:Sh:= .slice .str
abbrev shGa:Sh:= .struct [.str,.int .i64,EI,EI,.bool]
abbrev shBs:Sh:= .slice .bool
theorem DC{R:Nat}{e:Sh}{α:Type}{F:α->V}(he:∀v,Sh.Sz R e v->∃a,v=F a):∀es:List V,(∀x∈es,Sh.Sz R e x)->∃l:List α,es=l.map F
 |[],_=>⟨[],rfl⟩
 |x::es,h=>by obtain⟨a,rfl⟩:=he x (h x (by simp));obtain⟨l,rfl⟩:=DC he es fun y hy=>h y (by simp[hy]);exact⟨a::l,rfl⟩
theorem SA{R:Nat}{v:V}(h:Sh.Sz R (.int .i64) v):∃n:Int,v=vi n:=by simp only[Sh.Sz]at h;obtain⟨n,rfl,hw⟩:=h;exact⟨n,rfl⟩
theorem OE{R:Nat}{v:V}(h:Sh.Sz R .str v):∃s:S,v= .str s:=by simp only[Sh.Sz]at h;obtain⟨s,rfl,_⟩:=h;exact⟨s,rfl⟩
theorem J8{R:Nat}{v:V}(h:Sh.Sz R .bool v):∃b:Bool,v= .bool b:=by simpa only[Sh.Sz]using h
theorem J9{R:Nat}{v:V}(h:Sh.Sz R EI v):∃c:List S,v=aW c:=by unfold EI at h;rw[Sh.Sz]at h;obtain⟨es,rfl,hl,h⟩:=h;obtain⟨l,rfl⟩:=DC (F:=V.str) (fun v hv=>OE hv) es h;exact⟨l,rfl⟩
theorem sz_bs{R:Nat}{v:V}(h:Sh.Sz R shBs v):∃c:List Bool,v=mf c:=by unfold shBs at h;rw[Sh.Sz]at h;obtain⟨es,rfl,hl,h⟩:=h;obtain⟨l,rfl⟩:=DC (F:=V.bool) (fun v hv=>J8 hv) es h;exact⟨l,rfl⟩
theorem sz_ga{R:Nat}{v:V}(h:Sh.Sz R shGa v):∃g:Ga,v=g.v:=by unfold shGa at h;rw[Sh.Sz]at h;obtain⟨vs,rfl,h⟩:=h;simp only[Sh.Szs]at h;obtain⟨u0,us,rfl,h0,u1,us,rfl,h1,u2,us,rfl,h2,u3,us,rfl,h3,u4,us,rfl,h4,rfl⟩:=h;obtain⟨n,rfl⟩:=OE h0;obtain⟨o,rfl⟩:=SA h1;obtain⟨i,rfl⟩:=J9 h2;obtain⟨r,rfl⟩:=J9 h3;obtain⟨b,rfl⟩:=J8 h4;exact⟨⟨n,o,i,r,b⟩,rfl⟩
theorem pf_laid:laidOutB Tryz.pinned.checked.prog=true:=by kernel_rfl
theorem pf_maps:mapsRowed Tryz.pinned.checked.prog=true:=by kernel_rfl
theorem pf_stops:(Tryz.pinned.checked.prog.stops==[])=true:=by kernel_rfl
theorem pf_knobs:(Tryz.pinned.checked.prog.stopKnobs==[])=true:=by kernel_rfl
theorem pf_heard:Tryz.pinned.checked.prog.stopsHeard=true:=by kernel_rfl
theorem pf_enter:Tryz.pinned.checked.prog.mayEnter=true:=by kernel_rfl
theorem pf_lifts:(Rows.blifPlainRow.lifted==Tryz.pinned.checked.prog.liftsFinal)=true:=by kernel_rfl
theorem pf_plain:(Rows.blifPlainRow.plainKeys==Tryz.pinned.checked.prog.plainKeys)=true:=by kernel_rfl
theorem pf_main : Tryz.pinned.checked.prog.mainIs = some (true, "4e0d963d9c82b205ceb97253c8819733dc7bbfead33dbde74c9d0ac28f42e1e6".toList) := by kernel_rfl
theorem pf_looks:true=Tryz.pinned.checked.prog.looks []:=by kernel_rfl
end Go.Proofs.YtokppohljajhjaaGreatDoor
