/- Lemmas for this claim, part F13: each holds under what it names. -/
import Derived.Test.YtokppohljajhjaaGreatDoorRF12
import Derived.Test.YtokppohljajhjaaGreatDoorRA8
import Derived.LaidHandle
import Derived.LaidMore
import Derived.Lay
import Derived.WideKeyElems2
import Derived.StringKeys
import Derived.Shelf.Vars
import Derived.Lib.LaidTab
import Derived.Test.YtokppohljajhjaaGreatDoorRows
import Derived.Test.YtokppohljajhjaaGreatDoorTie
import Derived.HandedShaped
import Derived.Stop.LaidErr
import Derived.JoinedOf
set_option linter.all false
set_option maxRecDepth 100000
set_option maxHeartbeats 4000000
namespace Go.Proofs.YtokppohljajhjaaGreatDoor
open Go Go.Proofs Go.Abs
theorem QL{l:List Bool}{i:Nat}(h:i<l.length)(d:V):(l.map V.bool).getD i d= .bool l[i]:=dL h _
theorem Jn{l:List Bool}{i:Nat}(h:i<l.length):(l.take (i+1)).count true=if l[i]=true then(l.take i).count true+1 else(l.take i).count true:=by rw[List.take_succ_eq_append_getElem h,List.count_append];cases l[i]<;>simp
theorem Au[MO](l:List Bool):Ev TE 82 [dh l] (vi (l.count true)):=by
 have hM:=mLx;refine Ev.bnd fun hb=> ?_;have hlen:=Lp hb;refine ah Tryz.func82 rfl (by simp[nts]) (vm ?_);simp only[wq.1,seval,Tryz.results82];refine aF (fun m f h=>∃i:Nat,m+i=l.length/\i<=l.length/\f.t 3=vi ((l.take i).count true)/\f.t 6=dh l/\f.t 7=vi l.length/\f.t 8=vi i/\f.d=[]) l.length ⟨0,by omega,by omega,by simp only[wq.1,seval];simp,by simp only[wq.1,seval],by simp only[wq.1,seval],by simp only[wq.1,↓reduceIte];rfl,by simp only[wq.1]⟩ ?_;rintro m f h ⟨i,hm,hil,t3,t6,t7,t8,hd⟩;have hc:=List.count_le_length (a:=true) (l:=l.take i);rw[zrl]at hc;refine vm ?_;simp only[wq.1,seval,t7,t8];refine vcB.mk (fun hlt=> ?_) (fun hlt=> ?_)
 ·have hlt:i<l.length:=by have:=zqs hlt;omega
  have hg:=QL hlt .any;have hct:=Jn hlt;have hw:=az (show i<maxLen by omega);have hw2:=az (show(l.take i).count true<maxLen by omega);simp only[wq.1,seval,t6,t8,hg];refine⟨⟨by omega,by omega⟩,?_⟩;cases hv:l[i]with
  |true=>rw[hv,if_pos rfl]at hct;simp only[wq.1,seval,t3,t8,hw,hw2];exact .inl ⟨m-1,by omega,i+1,by omega,by omega,by simp only[wq.1,seval,hct],by simp only[wq.1,seval,t6],by simp only[wq.1,seval,t7],by simp only[wq.1,↓reduceIte],by simp only[wq.1,hd]⟩
  |false=>rw[hv,if_neg (by decide)]at hct;simp only[wq.1,seval,t8,hw];exact .inl ⟨m-1,by omega,i+1,by omega,by omega,by simp only[wq.1,seval,hct,t3],by simp only[wq.1,seval,t6],by simp only[wq.1,seval,t7],by simp only[wq.1,↓reduceIte],by simp only[wq.1,hd]⟩
 ·have hi:i=l.length:=by have:=of_decide_eq_false hlt;omega
  rw[hi,zrx]at t3;simp only[wq.1,seval,t3,hd];exact aA.dat rfl
theorem Vl[MO](l:List Bool):Ev TE 80 [dh l] (.bool false):=by refine ah Tryz.func80 rfl (by simp[nts]) (vm ?_);simp only[wq.1,seval,Tryz.results80];exact aA.dat rfl
theorem Vm[MO](l:List Bool):Ev TE 81 [dh l] (.bool (l.count true==l.length)):=by
 have h:=Au l;have e:(((l.count true:Nat):Int)==((l.length:Nat):Int))=(l.count true==l.length):=by rw[Bool.eq_iff_iff,beq_iff_eq,beq_iff_eq];omega
 refine ah Tryz.func81 rfl (by simp[nts]) (vm ?_);simp only[wq.1,seval,Tryz.results81];refine ag.ev h (by simp only[V.dats,V.dat,jL,zre]) ?_;simp only[wq.1,seval,e];exact aA.dat rfl
theorem Vo[MO](l:List Bool):Ev TE 83 [dh l] (.bool (decide (0<l.count true))):=by have h:=Au l;have e:decide ((0:Int)<((l.count true:Nat):Int))=decide (0<l.count true):=decide_eq_decide.2 (by omega);refine ah Tryz.func83 rfl (by simp[nts]) (vm ?_);simp only[wq.1,seval,Tryz.results83];refine ag.ev h (by simp only[V.dats,V.dat,jL,zre]) ?_;simp only[wq.1,seval,e];exact aA.dat rfl
theorem Vp[MO](l:List Bool):Ev TE 84 [dh l] (.bool (l.count true%2==1)):=by
 have h:=Au l;have e:(Int.tmod ((l.count true:Nat):Int) 2==1)=(l.count true%2==1):=by rw[Bool.eq_iff_iff,beq_iff_eq,beq_iff_eq,Int.tmod_eq_emod_of_nonneg (by omega)];omega
 refine ah Tryz.func84 rfl (by simp[nts]) (vm ?_);simp only[wq.1,↓reduceIte,Nat.reduceLT,reduceCtorEq,Tryz.results84];refine ag.ev h (by simp only[V.dats,V.dat,jL,zre]) ?_;simp only[wq.1,↓reduceIte,Nat.reduceLT,e];exact⟨by decide,aA.dat rfl⟩
def ofF(op:Nat):FuncId:=if op<=1 then 80 else if op<=5 then 81 else if op<=7 then 83 else 84
theorem Vq[MO](op:Nat)(l:List Bool):Ev TE (ofF op) [dh l] (.bool (opB op l)):=by
 unfold ofF opB;split
 ·exact Vl l
 ·split
  ·exact Vm l
  ·split
   ·exact Vo l
   ·exact Vp l
theorem Jo(op:Nat):ai P (ofF op)=true:=by
 unfold ofF;split
 ·rfl
 ·split
  ·rfl
  ·split<;>rfl
theorem VU[MO](op:Nat)(ho:op<=10)(k:Int)(hk:k=op):Ev TE 42 [vi k] (.agg [if op=10 then .nilf else .fn (.func (ofF op)) [] [],.bool (NE op)]):=by
 have h:op=0\/op=1\/op=2\/op=3\/op=4\/op=5\/op=6\/op=7\/op=8\/op=9\/op=10:=by omega
 rcases h with rfl|rfl|rfl|rfl|rfl|rfl|rfl|rfl|rfl|rfl|rfl
 ·obtain rfl:k=0:=hk;show Ev TE 42 [vi 0] (.agg [.fn (.func 80) [] [],.bool false]);refine ah Tryz.func42 rfl (by simp[nts]) (vm ?_);simp only[wq.1,seval,Tryz.results42];exact aA.agg (au.cons (aA.fn au.nil au.nil) (au.cons (aA.dat rfl) au.nil))
 ·obtain rfl:k=1:=hk;show Ev TE 42 [vi 1] (.agg [.fn (.func 80) [] [],.bool true]);refine ah Tryz.func42 rfl (by simp[nts]) (vm ?_);simp only[wq.1,seval,Tryz.results42];exact aA.agg (au.cons (aA.fn au.nil au.nil) (au.cons (aA.dat rfl) au.nil))
 ·obtain rfl:k=2:=hk;show Ev TE 42 [vi 2] (.agg [.fn (.func 81) [] [],.bool false]);refine ah Tryz.func42 rfl (by simp[nts]) (vm ?_);simp only[wq.1,seval,Tryz.results42];exact aA.agg (au.cons (aA.fn au.nil au.nil) (au.cons (aA.dat rfl) au.nil))
 ·obtain rfl:k=3:=hk;show Ev TE 42 [vi 3] (.agg [.fn (.func 81) [] [],.bool true]);refine ah Tryz.func42 rfl (by simp[nts]) (vm ?_);simp only[wq.1,seval,Tryz.results42];exact aA.agg (au.cons (aA.fn au.nil au.nil) (au.cons (aA.dat rfl) au.nil))
 ·obtain rfl:k=4:=hk;show Ev TE 42 [vi 4] (.agg [.fn (.func 81) [] [],.bool false]);refine ah Tryz.func42 rfl (by simp[nts]) (vm ?_);simp only[wq.1,seval,Tryz.results42];exact aA.agg (au.cons (aA.fn au.nil au.nil) (au.cons (aA.dat rfl) au.nil))
 ·obtain rfl:k=5:=hk;show Ev TE 42 [vi 5] (.agg [.fn (.func 81) [] [],.bool true]);refine ah Tryz.func42 rfl (by simp[nts]) (vm ?_);simp only[wq.1,seval,Tryz.results42];exact aA.agg (au.cons (aA.fn au.nil au.nil) (au.cons (aA.dat rfl) au.nil))
 ·obtain rfl:k=6:=hk;show Ev TE 42 [vi 6] (.agg [.fn (.func 83) [] [],.bool false]);refine ah Tryz.func42 rfl (by simp[nts]) (vm ?_);simp only[wq.1,seval,Tryz.results42];exact aA.agg (au.cons (aA.fn au.nil au.nil) (au.cons (aA.dat rfl) au.nil))
 ·obtain rfl:k=7:=hk;show Ev TE 42 [vi 7] (.agg [.fn (.func 83) [] [],.bool true]);refine ah Tryz.func42 rfl (by simp[nts]) (vm ?_);simp only[wq.1,seval,Tryz.results42];exact aA.agg (au.cons (aA.fn au.nil au.nil) (au.cons (aA.dat rfl) au.nil))
 ·obtain rfl:k=8:=hk;show Ev TE 42 [vi 8] (.agg [.fn (.func 84) [] [],.bool false]);refine ah Tryz.func42 rfl (by simp[nts]) (vm ?_);simp only[wq.1,seval,Tryz.results42];exact aA.agg (au.cons (aA.fn au.nil au.nil) (au.cons (aA.dat rfl) au.nil))
 ·obtain rfl:k=9:=hk;show Ev TE 42 [vi 9] (.agg [.fn (.func 84) [] [],.bool true]);refine ah Tryz.func42 rfl (by simp[nts]) (vm ?_);simp only[wq.1,seval,Tryz.results42];exact aA.agg (au.cons (aA.fn au.nil au.nil) (au.cons (aA.dat rfl) au.nil))
 ·obtain rfl:k=10:=hk;show Ev TE 42 [vi 10] (.agg [.nilf,.bool false]);refine ah Tryz.func42 rfl (by simp[nts]) (vm ?_);simp only[wq.1,seval,Tryz.results42];exact aA.agg (au.cons (aA.dat rfl) (au.cons (aA.dat rfl) au.nil))
theorem TR[MO](r:S)(l:List Bool)(hl:l.length<=r.length):Ev TE 46 [.str r,dh l] (.bool (o6 r l)):=by
 have hM:=mLx;refine Ev.bnd fun hb=> ?_;have hlen:l.length<=maxLen:=by simp only[V.bnds,V.bnd,zra]at hb;omega
 obtain⟨F,hF⟩:∃F,F=o6 r l:=⟨_,rfl⟩;rw[<-hF];refine ah Tryz.func46 rfl (by simp[nts]) (vm ?_);simp only[wq.1,seval,Tryz.results46];refine aF (fun m f h=>∃i:Nat,m+i=l.length/\i<=l.length/\F=o6 (r.drop i) (l.drop i)/\f.t 0= .str r/\f.t 7=dh l/\f.t 8=vi l.length/\f.t 9=vi i/\f.d=[]) l.length ⟨0,by omega,by omega,hF,by simp only[wq.1,seval],by simp only[wq.1,seval],by simp only[wq.1,seval],by simp only[wq.1,↓reduceIte];rfl,by simp only[wq.1]⟩ ?_;rintro m f h ⟨i,hm,hil,hFi,t0,t7,t8,t9,hd⟩;refine vm ?_;simp only[wq.1,seval,t8,t9];refine vcB.mk (fun hlt=> ?_) (fun hlt=> ?_)
 ·have hlt:i<l.length:=by have:=zqs hlt;omega
  have hlr:i<r.length:=by omega
  have hg:=QL hlt .any;have hgr:r.getD i 0=r[i]:=OZ hlr;rw[List.drop_eq_getElem_cons hlt,List.drop_eq_getElem_cons hlr]at hFi;have hFi:F=((r[i]==45||((r[i]==49)==l[i]))&&o6 (r.drop (i+1)) (l.drop (i+1))):=hFi;have q1:((r[i].toNat:Int) != 45)= !(r[i]==45):=SN r[i] 45;have q2:((r[i].toNat:Int)==49)=(r[i]==49):=PM r[i] 49;have hw:=az (show i<maxLen by omega);have hbe:((r[i]==45||((r[i]==49)==l[i])))= !(!(r[i]==45)&& !((r[i]==49)==l[i])):=by cases(r[i]==45)<;>cases(r[i]==49)<;>cases l[i]<;>rfl
  rw[hbe]at hFi;simp only[wq.1,seval,t0,t7,t9,hg,hgr,q1,q2];refine⟨⟨by omega,by omega⟩,⟨by omega,by omega⟩,fun h=>⟨h,by omega,by omega⟩,vcB.mk (fun hc=> ?_) (fun hc=> ?_)⟩
  ·rw[hc]at hFi;have hFi:F=false:=hFi;rw[hFi];simp only[wq.1,seval,hd];exact aA.dat rfl
  ·rw[hc]at hFi;have hFi:F=o6 (r.drop (i+1)) (l.drop (i+1)):=hFi;simp only[wq.1,seval,t9,hw];exact .inl ⟨m-1,by omega,i+1,by omega,by omega,hFi,by simp only[wq.1,seval,t0],by simp only[wq.1,seval,t7],by simp only[wq.1,seval,t8],by simp only[wq.1,↓reduceIte],by simp only[wq.1,hd]⟩
 ·have hi:i=l.length:=by have:=of_decide_eq_false hlt;omega
  rw[hi,List.drop_length]at hFi;have hFi:F=true:=hFi.trans (by cases r.drop l.length<;>rfl);rw[hFi];simp only[wq.1,seval,hd];exact aA.dat rfl
theorem NK[MO](r:S)(l:List Bool)(hl:l.length<=r.length):Ev TE 45 [.str r,.ip (dh l)] (.bool (o6 r l)):=by have h:=TR r l hl;refine ah Tryz.func45 rfl (by simp[nts]) (vm ?_);simp only[wq.1,seval,Tryz.results45];refine ag.ev h (by simp only[V.dats,V.dat,jL,zre]) ?_;simp only[wq.1,seval];exact aA.dat rfl
theorem NL[MO](g:Ga)(l:List Bool)(hl:∀r∈g.rows,l.length<=r.length):Ev TE 43 [dh l,.ip g.v] (.bool (g.rows.any fun r=>o6 r l)):=by have hct:=Md g.rows 45 [.ip (dh l)] (fun r=>o6 r l) rfl (by simp only[V.dats,V.dat,jL,zre]) fun r hr=>NK r l (hl r hr);refine ah Tryz.func43 rfl (by simp[nts]) (vm ?_);simp only[wq.1,seval,Tryz.results43];refine ag.lend hct (au.cons (aA.dat (by simp only[V.dat,aG])) (au.cons (aA.fn au.nil (au.cons (aA.lp rfl (au.dat (by simp only[V.dats,V.dat,jL,zre])) rfl rfl (by simp[V.vc]) rfl) au.nil)) au.nil)) rfl ?_;simp only[wq.1,seval];exact aA.dat rfl
theorem QM[MO](g:Ga)(l:List Bool):Ev TE 14 [g.v,dh l] (.tup [.bool (ry g l).1,vi (ry g l).2]):=by
 have hM:=mLx;have hG:=GR g;have hd1:∀g:Ga,V.dats [g.v]=true:=fun g=>by simp only[V.dats,V.dat,aG,zre]
 have en:(((l.length:Nat):Int) != ((g.ins.length:Nat):Int))= !(l.length==g.ins.length):=by
  unfold bne
  congr 1
  rw[Bool.eq_iff_iff,beq_iff_eq,beq_iff_eq];omega
 refine ah Tryz.func14 rfl (by simp[nts]) ?_;refine vn ?_;simp only[wq.1,Nat.reduceLT,Tryz.results14];refine aj ?_;refine vn ?_;simp only[wq.1,seval];refine ag.ev hG (hd1 g) ?_;simp only[wq.1,seval,en];cases hc:(fB g&&l.length==g.ins.length)with
 |false =>
  have hb:(!fB g|| !(l.length==g.ins.length))=true:=by cases h1:fB g<;>cases h2:(l.length==g.ins.length)<;>rw[h1,h2]at hc<;>first|rfl|cases hc
  have hs:ry g l=(false,1):=by unfold ry;rw[if_neg (by rw[hc];decide)]
  rw[hs];refine jY (b:=true) (by simp only[wq.1,↓reduceIte]) (by simp only[wq.1,↓reduceIte,hb]) (fun _=> ?_) (fun h=>by cases h);refine vm ?_;simp only[wq.1,seval];exact aA.dat rfl
 |true =>
  have hb:(!fB g|| !(l.length==g.ins.length))=false:=by cases h1:fB g<;>cases h2:(l.length==g.ins.length)<;>rw[h1,h2]at hc<;>first|rfl|cases hc
  have hs:ry g l=(Jy g l,0):=by unfold ry;rw[if_pos hc]
  rw[hs];rw[zqf,beq_iff_eq]at hc;obtain⟨hgo,hgr,hgw⟩:=dV hc.1;have hh:=hgo.h;unfold uX at hh;simp only[zqf,zqb]at hh;obtain⟨op,hop⟩:∃op:Nat,g.op=op:=⟨g.op.toNat,by omega⟩;have hop1:op<=10:=by omega
  have hof:=VU op hop1 g.op hop;refine jY (b:=false) (by simp only[wq.1,↓reduceIte]) (by simp only[wq.1,↓reduceIte,hb]) (fun h=>by cases h) (fun _=> ?_);refine vm ?_;simp only[wq.1];show awp _ _ _ _ _ _ _;refine vn ?_;simp only[wq.1,seval];refine ag.ev hof rfl ?_;by_cases h10:op=10
  ·have hv:Jy g l=((g.rows.any fun r=>o6 r l) != g.off):=by unfold Jy;rw[if_pos (by omega)]
   have e10:(g.op==10)=true:=by rw[hop,h10];rfl
   have hg1:=NL g l fun r hr=>by have:=hgw r hr;unfold iW at this;rw[zqf,beq_iff_eq]at this;omega
   rw[if_pos h10,hv];simp only[wq.1,seval];refine aj ?_;refine vn ?_;simp only[wq.1,seval,e10];refine vm ?_;simp only[wq.1,seval];refine wz (·==0) [.dead,.cells [.fn (.func 43) [] [.ip g.v],.bool g.off]] (fun j hj=> ?_) (fun j x hj hx=> ?_) (fun j hj=>by cases hj) ?_
   ·match j,hj with
    |1,_=>exact .inr ⟨_,_,rfl,rfl,.inr ⟨rfl,aA.fn au.nil (au.cons (aA.lp rfl (au.dat (by show V.dats [V.str g.name,vi g.op,aV g.ins,aV g.rows,V.bool g.off]=true;simp only[V.dats,V.dat,aG,zre])) rfl rfl (by simp[V.vc]) rfl) au.nil)⟩,.inl rfl,trivial⟩
    |j+2,_=>exact .inl rfl
   ·match j,hj with
    |0,_=>cases hx;rfl
   ·refine vn ?_;simp only[wq.1,seval];refine⟨by decide +kernel,F8.mk hg1 rfl (by simp only[V.dats,V.dat,aG,jL,zre]) ?_⟩;simp only[wq.1,seval];refine vm ?_;simp only[wq.1,seval];exact aA.dat rfl
  ·have hv:Jy g l=(opB op l != NE op):=by unfold Jy;rw[if_neg (by omega),hop,zsg]
   have e10:(g.op==10)=false:=by rw[beq_eq_false_iff_ne];omega
   have hg1:=Vq op l;have hen:=Jo op;rw[if_neg h10,hv];simp only[wq.1,seval];refine aj ?_;refine vn ?_;simp only[wq.1,seval,e10];refine vm ?_;simp only[wq.1,↓reduceIte];refine vn ?_;simp only[wq.1,seval];refine⟨by decide +kernel,F8.mk hg1 hen (by simp only[V.dats,V.dat,jL,zre]) ?_⟩;simp only[wq.1,seval];refine vm ?_;simp only[wq.1,seval];exact aA.dat rfl
def D8(g:Ga):Bool:=Lt 12 g.ins&&Lt 140 g.rows&&decide (g.name.length<=60)
theorem Jp[MO](g:Ga):Ev TE 13 [g.v] (.bool (D8 g)):=by have h1:=qO g.ins 12;have h2:=qO g.rows 140;have e:decide ((g.name.length:Int)<=60)=decide (g.name.length<=60):=decide_eq_decide.2 (by omega);refine ah Tryz.func13 rfl (by simp[nts]) (vm ?_);simp only[wq.1,seval,Tryz.results13];refine ag.ev h1 (by simp only[V.dats,V.dat,aG,zre]) ?_;simp only[wq.1,seval];refine ag.ev h2 (by simp only[V.dats,V.dat,aG,zre]) ?_;simp only[wq.1,seval,e];exact aA.dat rfl
def wT1:S:=[46,109,111,100,101,108,32,109,10,46,105,110,112,117,116,115,32,97,32,98,10,46,111,117,116,112,117,116,115,32,122,10,46,108,97,116,99,104,32,122,32,113,32,49,10,46,110,97,109,101,115,32,97,32,98,32,122,32,35,32,97,110,100,10,49,49,32,49,10,46,101,110,100,10]
def wT2:S:=[46,109,111,100,101,108,32,109,10,46,110,97,109,101,115,32,97,32,122,10,49,32,49,10,46,101,110,100,10]
def wT3:S:=[46,109,111,100,101,108,32,109,10,46,115,117,98,99,107,116,32,120,10,46,101,110,100,10]
def wT4:S:=[46,109,111,100,101,108,32,116,111,112,10,46,105,110,112,117,116,115,32,97,32,98,10,46,111,117,116,112,117,116,115,32,122,10,46,108,97,116,99,104,32,122,32,113,32,49,10,46,110,97,109,101,115,32,97,32,98,32,122,10,49,49,32,49,10,46,101,110,100,10]
def wC1:Ci:=⟨[[97],[98]],[[122]],[⟨[113],[122],1⟩],[⟨[122],4,[[97],[98]],[],false⟩]⟩
theorem VV:mV wT1= .ok wC1:=by kernel_rfl
theorem VW:mV wT2= .error (16,6):=by kernel_rfl
theorem VX:mV wT3= .error (9,9):=by kernel_rfl
theorem VY:qQ wC1=(wT4,0):=by kernel_rfl
theorem VZ:jU wT2 ((16:Nat):Int) 6= .agg [vi 6,vi 2,vi 8]:=by kernel_rfl
theorem V3:jU wT3 ((9:Nat):Int) 9= .agg [vi 9,vi 2,vi 1]:=by kernel_rfl
theorem V4:aK ⟨[122],10,[[97],[98]],[],true⟩=⟨[122],10,[[97],[98]],[[45,45]],false⟩:=by kernel_rfl
theorem Jq[MO]:Ev TE 6 [] (.bool true):=by have e1:=rD wT1 (by decide);have e2:=G9 wC1 (by decide);have e3:=rD wT2 (by decide);have e4:=rD wT3 (by decide);have e5:=G7 ⟨[122],10,[[97],[98]],[],true⟩ (by decide);unfold kR at e1 e3 e4;rw[VV]at e1;rw[VW]at e3;rw[VX]at e4;rw[VY]at e2;rw[V4]at e5;dsimp only at e3 e4;rw[VZ]at e3;rw[V3]at e4;simp only[wC1,wT1,wT2,wT3,wT4,Ci.v,Ga.v,La.v,zrd,List.map_nil]at e1 e2 e3 e4 e5;refine ah Tryz.func6 rfl (by simp[nts]) ?_;refine vn ?_;simp only[wq.1,Nat.reduceLT,Tryz.results6];refine vn ?_;simp only[wq.1,seval];refine ag.ev e1 rfl ?_;simp only[wq.1,seval];refine vn ?_;simp only[wq.1,seval];refine ag.ev e2 rfl ?_;simp only[wq.1,seval];refine vn ?_;simp only[wq.1,seval];refine ag.ev e3 rfl ?_;simp only[wq.1,seval];refine vn ?_;simp only[wq.1,seval];refine ag.ev e4 rfl ?_;simp only[wq.1,↓reduceIte,Nat.reduceEqDiff,Nat.reduceLT,Nat.reduceAdd];refine vn ?_;simp only[wq.1,↓reduceIte,Nat.reduceLT,Nat.reduceLeDiff,Nat.reduceAdd,reduceCtorEq,Nat.reduceMul];refine⟨⟨rfl,by decide⟩,jZ (gX.cons (VLe.agg (gX.cons (VLe.refl _) (gX.cons (VLe.refl _) (gX.cons VLe.exact (gX.cons VLe.nils (gX.refl _)))))) (gX.refl _)) (HLe.refl _) (ag.ev e5 rfl ?_)⟩;simp only[wq.1,seval];have en:(((1:Nat):Int) != 1)=false:=rfl;refine aj ?_;refine vn ?_;simp only[wq.1,seval,en];refine vm ?_;simp only[wq.1,↓reduceIte,Nat.reduceEqDiff,Nat.reduceLT,Nat.reduceLeDiff,Nat.reduceAdd,Nat.reduceSub,Int.reduceToNat,Nat.reduceDiv,Int.reduceLT,Int.reduceLE,Int.reduceNeg,Int.reduceBEq,Int.reduceBNe,Int.reduceAdd,Int.reduceSub,Nat.reduceBEq,reduceCtorEq,Nat.reduceMul,ak,Tryz.results6,en,Bool.or_self];show awp _ _ _ _ _ _ _;refine vn ?_;simp only[wq.1,↓reduceIte,Nat.reduceEqDiff,Nat.reduceLT,Nat.reduceLeDiff,Nat.reduceAdd,Nat.reduceSub,Int.reduceToNat,Nat.reduceDiv,Int.reduceLT,Int.reduceLE,Int.reduceNeg,Int.reduceBEq,Int.reduceBNe,Int.reduceAdd,Int.reduceSub,Nat.reduceBEq,reduceCtorEq,Nat.reduceMul,ak,Tryz.results6,vM,Ol,beq_self_eq_true,zre];refine⟨Am,by decide,by decide,Vk,Am,Am,by decide,?_⟩;refine vm ?_;simp only[wq.1,↓reduceIte];exact aA.dat rfl
def Aw(q:La):Bool:=decide (q.name.length<=60)&&decide (q.next.length<=60)
def Az(c:Ci):Bool:=Lt 210 c.ins&&Lt 210 c.outs&&decide (c.gates.length<=210)&&decide (c.lat.length<=210)
def xG(c:Ci):Bool:=c.gates.all D8&&(c.lat.all Aw&&Az c)
def oN(c:Ci):Bool:=xG c&&decide (c.gates.length<=24)&&decide (c.ins.length<=24)&&decide (c.lat.length<=24)
theorem TS{c:Ci}(h1:c.gates.all D8=true\/210<c.gates.length)(h2:c.lat.all Aw=true\/210<c.lat.length):xG c=Az c:=by
 unfold xG;rcases h1 with h1|h1
 ·rw[h1,Bool.true_and];rcases h2 with h2|h2
  ·rw[h2,Bool.true_and]
  ·have:Az c=false:=by unfold Az;rw[decide_eq_false (show ¬c.lat.length<=210 by omega),Bool.and_false]
   rw[this,Bool.and_false]
 ·have:Az c=false:=by unfold Az;rw[decide_eq_false (show ¬c.gates.length<=210 by omega),Bool.and_false,Bool.false_and]
  rw[this,Bool.and_false,Bool.and_false]
theorem QN{c:Ci}{i:Nat}(h:i<c.gates.length)(hb:D8 c.gates[i]=false):xG c=false:=by
 have:c.gates.all D8=false:=by rw[Bool.eq_false_iff];intro e;rw[zrs.1 e _ (zqu h)]at hb;cases hb
 unfold xG;rw[this,Bool.false_and]
theorem QO{c:Ci}{i:Nat}(h:i<c.lat.length)(hb:Aw c.lat[i]=false):xG c=false:=by
 have:c.lat.all Aw=false:=by rw[Bool.eq_false_iff];intro e;rw[zrs.1 e _ (zqu h)]at hb;cases hb
 unfold xG;rw[this,Bool.false_and,Bool.and_false]
theorem Hl{α:Type}{l:List α}{p:α->Bool}{i:Nat}(h:∀x∈l.take i,p x=true)(hi:i=l.length\/210<i/\i<=l.length):l.all p=true\/210<l.length:=by
 rcases hi with hi|⟨h1,h2⟩
 ·rw[hi,zrx]at h;exact .inl (zrs.2 h)
 ·exact .inr (by omega)
theorem QQ[MO](c:Ci):Ev TE 19 [c.v] (.bool (xG c)):=by
 have hM:=mLx;refine Ev.bnd fun hb=> ?_;have hlg:c.gates.length<=maxLen/\c.lat.length<=maxLen:=by simp only[V.bnds,V.bnd,zra]at hb;exact⟨hb.1.2.2.2.1.1,hb.1.2.2.1.1⟩
 have h1:=qO c.ins 210;have h2:=qO c.outs 210;have q1:decide ((c.gates.length:Int)<=210)=decide (c.gates.length<=210):=decide_eq_decide.2 (by omega);have q2:decide ((c.lat.length:Int)<=210)=decide (c.lat.length<=210):=decide_eq_decide.2 (by omega);obtain⟨B,hB⟩:∃B:H,B=[.cells [aV c.ins,aV c.outs,oK c.lat,iZ c.gates]]:=⟨_,rfl⟩;refine ah Tryz.func19 rfl (by simp[nts]) ?_;refine vn ?_;simp only[wq.1,Nat.reduceLT,Tryz.results19];refine aj (bi (Q:=fun xe f h=>(xe= .normal/\(c.gates.all D8=true\/210<c.gates.length)/\f.t 1= .lp 0 0/\f.d=[]/\h=[.cells [aV c.ins,aV c.outs,oK c.lat,iZ c.gates]])\/(xe= .ret/\xG c=false/\f.t 2= .bool false/\f.d=[])) ?_ ?_)
 ·rintro xe f h (⟨rfl,hg,t1,hd,rfl⟩|⟨rfl,hf,t2,hd⟩)
  ·show awp _ _ _ _ _ _ _;refine aj (bi (Q:=fun xe f h=>(xe= .normal/\(c.lat.all Aw=true\/210<c.lat.length)/\f.t 1= .lp 0 0/\f.d=[]/\h=[.cells [aV c.ins,aV c.outs,oK c.lat,iZ c.gates]])\/(xe= .ret/\xG c=false/\f.t 2= .bool false/\f.d=[])) ?_ ?_)
   ·rintro xe f h (⟨rfl,hl,t1,hd,rfl⟩|⟨rfl,hf,t2,hd⟩)
    ·show awp _ _ _ _ _ _ _;have e:=TS hg hl;refine vn ?_;simp only[wq.1,seval,t1];refine ag.ev h1 (by simp only[V.dats,V.dat,aG,zre]) ?_;simp only[wq.1,seval];refine vn ?_;simp only[wq.1,seval,t1];refine ag.ev h2 (by simp only[V.dats,V.dat,aG,zre]) ?_;simp only[wq.1,seval];refine vn ?_;simp only[wq.1,seval,t1,e];refine vm ?_;simp only[wq.1,↓reduceIte,q1,q2,hd];show aA TE _ (V.bool (Az c)) (V.bool (Az c));exact aA.dat rfl
    ·simp only[wq.1,t2,hd,hf];exact aA.dat rfl
   ·refine vn ?_;simp only[wq.1,Nat.reduceLT];refine aB ?_;refine aF (fun m f h=>∃i:Nat,m+i=c.lat.length/\i<=211/\(∀x∈c.lat.take i,Aw x=true)/\f.t 1= .lp 0 0/\f.t 5=vi i/\f.d=[]/\h=[.cells [aV c.ins,aV c.outs,oK c.lat,iZ c.gates]]) c.lat.length ⟨0,by omega,by omega,(fun x hx=>by simp at hx),by simp only[wq.1,seval,t1],by simp only[wq.1,↓reduceIte];rfl,by simp only[wq.1,hd],rfl⟩ ?_;rintro m f h ⟨i,hm,hil,hall,t1,t5,hd,rfl⟩;refine vn ?_;simp only[wq.1,seval,t1,t5];refine vcB.mk (fun hc=> ?_) (fun hc=> ?_)
    ·rw[zqf,zqb,zqb]at hc;obtain⟨hc1,hc2⟩:i<c.lat.length/\i<=210:=by omega
     have ha:=Fa hc1 .any;have hw:=az (show i<maxLen by omega);have qa:decide (60<(c.lat[i].name.length:Int))= !decide (c.lat[i].name.length<=60):=by
      by_cases hh:c.lat[i].name.length<=60
      ·rw[decide_eq_true hh,decide_eq_false (by omega)];rfl
      ·rw[decide_eq_false hh,decide_eq_true (by omega)];rfl
     have qb:decide (60<(c.lat[i].next.length:Int))= !decide (c.lat[i].next.length<=60):=by
      by_cases hh:c.lat[i].next.length<=60
      ·rw[decide_eq_true hh,decide_eq_false (by omega)];rfl
      ·rw[decide_eq_false hh,decide_eq_true (by omega)];rfl
     simp only[wq.1];refine aj (aB ?_);refine vn ?_;simp only[wq.1,seval,t1,t5,ha];refine⟨⟨by omega,by omega⟩,fun h=>⟨h,by omega,by omega⟩,?_⟩;refine vm ?_;simp only[wq.1,↓reduceIte,qa,qb];cases hfw:Aw c.lat[i]with
     |false=>unfold Aw at hfw;rw[<-Bool.not_and,hfw];simp only[wq.1,seval,hd];exact .inr (QO hc1 hfw)
     |true =>
      have hfw2:=hfw;unfold Aw at hfw2;rw[<-Bool.not_and,hfw2];simp only[wq.1];refine vm ?_;simp only[wq.1,seval,t5,hw];refine .inl ⟨m-1,by omega,i+1,by omega,by omega,?_,t1,rfl,hd,rfl⟩;rw[zrg,zqk hc1];intro x hx;rcases zrf.1 hx with hx|hx
      ·exact hall x hx
      ·obtain rfl:=zrc.1 (by simpa using hx);exact hfw
    ·have hi:i=c.lat.length\/210<i/\i<=c.lat.length:=by rw[Bool.and_eq_false_iff,zqd,zqd]at hc;omega
     simp only[wq.1,seval,t1,hd];exact .inl (Hl hall hi)
  ·simp only[wq.1,t2,hd,hf];exact aA.dat rfl
 ·refine vn ?_;simp only[wq.1,Nat.reduceLT];refine aB ?_;refine aF (fun m f h=>∃i:Nat,m+i=c.gates.length/\i<=211/\(∀x∈c.gates.take i,D8 x=true)/\f.t 1= .lp 0 0/\f.t 3=vi i/\f.d=[]/\h=[.cells [aV c.ins,aV c.outs,oK c.lat,iZ c.gates]]) c.gates.length ⟨0,by omega,by omega,(fun x hx=>by simp at hx),by simp only[wq.1,seval],by simp only[wq.1,↓reduceIte];rfl,by simp only[wq.1],rfl⟩ ?_;rintro m f h ⟨i,hm,hil,hall,t1,t3,hd,rfl⟩;refine vn ?_;simp only[wq.1,seval,t1,t3];refine vcB.mk (fun hc=> ?_) (fun hc=> ?_)
  ·rw[zqf,zqb,zqb]at hc;obtain⟨hc1,hc2⟩:i<c.gates.length/\i<=210:=by omega
   have ha:=uM hc1 .any;have hev:=Jp c.gates[i];have hw:=az (show i<maxLen by omega);simp only[wq.1];refine aj (aB ?_);refine vn ?_;simp only[wq.1,seval,t1,t3,ha];refine⟨⟨by omega,by omega⟩,ag.ev hev (by simp only[V.dats,V.dat,aG,zre]) ?_⟩;simp only[wq.1,seval];refine vn ?_;simp only[wq.1,seval];cases hfw:D8 c.gates[i]with
   |false=>refine vm ?_;simp only[wq.1,seval,hd];exact .inr (QN hc1 hfw)
   |true =>
    refine vm ?_;simp only[wq.1,↓reduceIte];refine vm ?_;simp only[wq.1,seval,t3,hw];refine .inl ⟨m-1,by omega,i+1,by omega,by omega,?_,t1,rfl,hd,rfl⟩;rw[zrg,zqk hc1];intro x hx;rcases zrf.1 hx with hx|hx
    ·exact hall x hx
    ·obtain rfl:=zrc.1 (by simpa using hx);exact hfw
  ·have hi:i=c.gates.length\/210<i/\i<=c.gates.length:=by rw[Bool.and_eq_false_iff,zqd,zqd]at hc;omega
   simp only[wq.1,seval,t1,hd];exact .inl (Hl hall hi)
theorem NM[MO](c:Ci):Ev TE 7 [c.v] (.bool (oN c)):=by have e:=QQ c;have q1:decide ((c.gates.length:Int)<=24)=decide (c.gates.length<=24):=decide_eq_decide.2 (by omega);have q2:decide ((c.ins.length:Int)<=24)=decide (c.ins.length<=24):=decide_eq_decide.2 (by omega);have q3:decide ((c.lat.length:Int)<=24)=decide (c.lat.length<=24):=decide_eq_decide.2 (by omega);refine ah Tryz.func7 rfl (by simp[nts]) ?_;refine vn ?_;simp only[wq.1,Nat.reduceLT,Tryz.results7];refine vn ?_;simp only[wq.1,seval];refine ag.ev e (by simp only[V.dats,V.dat,aG,qh,mr,zre]) ?_;simp only[wq.1,seval];refine vn ?_;simp only[wq.1,seval];refine vm ?_;simp only[wq.1,↓reduceIte,q1,q2,q3];exact aA.dat rfl
open Go.RowKit
open Go.ChangeShapes
open Go.WideShapes
theorem xH{H:Type}{enc:TypeId×Value->H}{P:Program}{w:World}{base:Nat}{sp:Nat->Bool}{held:Bool}{fuel:Nat}{t k e:TypeId}{cs:List Value}{dl:List (Lit×DataW H)}{p:List MemPlace}
 (ht:P.underlying t=some (.map k e)) (h:DataW.trod enc P w base sp held fuel t cs=some (.map dl,p)) :
 ∃b es clk n,cs=[.map (some b)]/\w.heap[b]? =some (.map es clk)/\xQ es clk/\(es.toList.map (·.key)).Nodup /\
  (∀x∈es.toList,∃l d q,(l,d)∈dl/\keyOf P k x.key=some l/\DataW.trod enc P w base sp held n e x.val.cells.toList=some (d,q)/\x.val.formed P e=true) /\
  (∀y∈dl,∃x∈es.toList,keyOf P k x.key=some y.1):=by
 rcases WideElems.open_map ht h with⟨_,hx⟩|⟨b,es,clk,n,rfl,hcs,hb,_,F,hx⟩
 ·cases hx
 ·simp only[Prod.mk.injEq,DataW.map.injEq]at hx;obtain⟨hdl,_⟩:=hx;have hperm:=sorted_perm (es.toList.map (WideElems.rg P k (WideElems.elemAt enc P w base sp held n e)));rw[<-hdl]at hperm;obtain⟨s1,s2,s3⟩:=F.stamped;refine⟨b,es,clk,n,hcs,hb,⟨s1,s2⟩,s3,fun x hx=> ?_,fun y hy=> ?_⟩
  ·obtain⟨y,hy⟩:=F.reads x hx;have hk:=WideElems.rd_key hy;obtain⟨z,hz,hyz⟩:=WideElems.rd_val hy;unfold WideElems.elemAt at hz;split at hz
   ·rename_i hf;refine⟨y.1,y.2,z.2,hperm.mem_iff.2 (zrh.2 ⟨x,hx,WideElems.rg_of hy⟩),hk,?_,hf⟩;rw[hz,hyz]
   ·cases hz
  ·obtain⟨x,hx,hxy⟩:=zrh.1 (hperm.mem_iff.1 hy);obtain⟨y',hy'⟩:=F.reads x hx;rw[WideElems.rg_of hy']at hxy;subst hxy;exact⟨x,hx,WideElems.rd_key hy'⟩
def vOf:Value->V
 | .string s=> .str s.data.toList
 | .int k n=> .int k n
 | .func f _ _=> .fn f [] []
 | .agg cs=> .agg (cs.toList.map fun x=>match x with | .int k n=>V.int k n|_=> .any)
 |_=> .any
theorem AA{c:C}{F:MapEntry->Value}{G:MapEntry->V}:∀ {l:List MapEntry},(∀x∈l,VRel c (G x) (F x))->VList c (l.map G) (l.map F)
 |[],_=>by simp only[List.map_nil,VList]
 |a::l,h=>by simp only[zrd,VList];exact⟨_,_,rfl,h a (by simp),AA fun x hx=>h x (by simp[hx])⟩
theorem RD{W:World}{g b:Nat}{ty:TypeId}{fz:Nat×Nat}{es:Array MapEntry}{clk:Nat}(h1:W.heap[g]? =some (.cells #[.map (some b)] ty fz))(h2:W.heap[b]? =some (.map es clk))(h3:xQ es clk)
 (hk:∀x∈es.toList,VRel (cw W).data (vOf x.key) x.key) (hv:∀x∈es.toList,VRel (cw W).data (vOf x.val) x.val) :
 VRel (cw W) (.ip (.im (es.toList.map fun x=>vOf x.key) (es.toList.map fun x=>vOf x.val))) (.pointer (some ⟨g,0,none⟩)):=by
 simp only[VRel];refine⟨g,0,.map (some b),rfl,fun j hj=>⟨⟨trivial,fun i hi=>by cases hi⟩,?_⟩,by simp[Value.cells],b,es,clk,rfl,⟨trivial,fun i hi=>by cases hi⟩,h2,AA hk,AA hv,h3⟩;have hj:j=0:=by simp[Value.cells]at hj;omega
 subst hj;show W.cell? ⟨g,0+0,none⟩=_;unfold World.cell?;simp only[h1];rfl
theorem D9{α:Type}[DecidableEq α]{kd:K}{mk:α->V}(hk:∀a b,keq kd (mk a) (mk b)=some (decide (a=b)))(a:α):∀ks:List α,iP kd (mk a) (ks.map mk)=some (ks.findIdx? fun b=>decide (a=b))
 |[]=>rfl
 |k::ks=>by
  simp only[zrd,iP,hk,List.findIdx?_cons];by_cases h:a=k
  ·simp[h]
  ·rw[decide_eq_false h];simp only[D9 hk a ks];cases ks.findIdx? fun b=>decide (a=b)<;>rfl
theorem NP{α:Type}{mk:α->V}{T:List (α×V)}:∀ {L:List MapEntry},(∀x∈L,∃y∈T,vOf x.key=mk y.1/\vOf x.val=y.2) ->
 ∃T':List (α×V),(L.map fun x=>vOf x.key)=(T'.map (·.1)).map mk/\(L.map fun x=>vOf x.val)=T'.map (·.2)/\(∀y∈T',y∈T)/\∀x∈L,∃y∈T',vOf x.key=mk y.1
 |[],_=>⟨[],rfl,rfl,fun y h=>(by cases h),fun x h=>(by cases h)⟩
 |a::L,h=>by
  obtain⟨y,hy,h1,h2⟩:=h a (by simp);obtain⟨T',t1,t2,t3,t4⟩:=NP (L:=L) (T:=T) (mk:=mk) fun x hx=>h x (List.mem_cons_of_mem _ hx);refine⟨y::T',?_,?_,fun z hz=> ?_,fun x hx=> ?_⟩
  ·rw[zrd,zrd,zrd,t1,h1]
  ·rw[zrd,zrd,t2,h2]
  ·rcases zrj.1 hz with rfl|hz
   ·exact hy
   ·exact t3 z hz
  ·rcases zrj.1 hx with rfl|hx
   ·exact⟨y,by simp,h1⟩
   ·obtain⟨z,hz,e⟩:=t4 x hx;exact⟨z,by simp[hz],e⟩
theorem Ea{α β:Type}:∀ {T:List (α×β)},(T.map (·.1)).Nodup->∀ {x y},x∈T->y∈T->x.1=y.1->x=y
 |[],_,x,y,hx,_,_=>by cases hx
 |a::T,hn,x,y,hx,hy,he=>by
  rw[zrd,List.nodup_cons]at hn;rcases zrj.1 hx with ex|hx2<;>rcases zrj.1 hy with ey|hy2
  ·rw[ex,ey]
  ·exact absurd (show a.1∈T.map (·.1)from zrh.2 ⟨y,hy2,by rw[<-ex,he]⟩) hn.1
  ·exact absurd (show a.1∈T.map (·.1)from zrh.2 ⟨x,hx2,by rw[<-ey,he]⟩) hn.1
  ·exact Ea hn.2 hx2 hy2 he
def TT(z:V):Option V->V
 |some v=> .tup [v,.bool true]
 |none=> .tup [z,.bool false]
theorem Hm{α:Type}[DecidableEq α]{kd:K}{mk:α->V}(hk:∀a b,keq kd (mk a) (mk b)=some (decide (a=b)))(hi:∀a b,mk a=mk b->a=b){L:List MapEntry}{T:List (α×V)}(hT:(T.map (·.1)).Nodup)
 (h1:∀x∈L,∃y∈T,vOf x.key=mk y.1/\vOf x.val=y.2) (h2:∀y∈T,∃x∈L,vOf x.key=mk y.1) (a:α) (z:V) :
 oQ kd (mk a) (L.map fun x=>vOf x.key) (L.map fun x=>vOf x.val) z true=(True,TT z ((T.find? fun y=>decide (a=y.1)).map (·.2))):=by
 obtain⟨T',t1,t2,t3,t4⟩:=NP h1;rw[t1,t2];unfold oQ;rw[D9 hk];cases hf:(T'.map (·.1)).findIdx? fun b=>decide (a=b)with
 |some n =>
  obtain⟨hn,hp,_⟩:=List.findIdx?_eq_some_iff_getElem.1 hf;have hn':n<T'.length:=by simpa using hn
  have hp:a=T'[n].1:=by simpa using hp
  have hm:=t3 _ (zqu hn');have hff:(T.find? fun y=>decide (a=y.1))=some T'[n]:=by
   cases hq:T.find? fun y=>decide (a=y.1)with
   |none=>have:=List.find?_eq_none.1 hq _ hm;rw[hp]at this;simp at this
   |some y =>
    have e1:=List.find?_some hq;have e2:=List.mem_of_find?_eq_some hq;have e1:a=y.1:=by simpa using e1
    rw[Ea hT e2 hm (by rw[<-e1,<-hp])]
  rw[hff];dsimp only[TT,zrw];have:(T'.map (·.2)).getD n .any=T'[n].2:=dL hn' _;rw[this];rfl
 |none =>
  have hff:(T.find? fun y=>decide (a=y.1))=none:=by
   rw[List.find?_eq_none];intro y hy e;have e:a=y.1:=by simpa using e
   obtain⟨x,hx,ex⟩:=h2 y hy;obtain⟨y',hy',ey⟩:=t4 x hx;have e3:=hi _ _ (ex.symm.trans ey);have:=List.findIdx?_eq_none_iff.1 hf y'.1 (zrh.2 ⟨y',hy',rfl⟩);rw[e,e3]at this;simp at this
  rw[hff];rfl
theorem TU(a b:S):keq .str (.str a) (.str b)=some (decide (a=b)):=by
 simp only[keq];by_cases h:a=b
 ·simp[h]
 ·rw[decide_eq_false h,beq_eq_false_iff_ne.2 h]
theorem TV(a b:Int):keq (.int .i64) (.int .i64 a) (.int .i64 b)=some (decide (a=b)):=by
 simp only[keq,if_true];by_cases h:a=b
 ·simp[h]
 ·rw[decide_eq_false h,beq_eq_false_iff_ne.2 h]
abbrev LL : List (String × DataW Unit) := [("math/bits.deBruijn32tab", Rows.laid_math_bits_deBruijn32tab), ("math/bits.deBruijn64tab", Rows.laid_math_bits_deBruijn64tab), ("internal/strconv.uint64pow10", Rows.laid_internal_strconv_uint64pow10), ("unicode/utf8.acceptRanges", Rows.laid_unicode_utf8_acceptRanges), ("patchbay/spot.start", Rows.laid_patchbay_spot_start), ("patchbay/ident.kept", Rows.laid_patchbay_ident_kept), ("patchbay/net.ins", Rows.laid_patchbay_net_ins), ("patchbay/blif.tells", Rows.laid_patchbay_blif_tells), ("unicode/utf8.first", Rows.laid_unicode_utf8_first)]
theorem QR {W : World} (h : laidMetH Tryz.prog LL W) : laidMet Tryz.prog [("math/bits.deBruijn32tab", Rows.laid_math_bits_deBruijn32tab), ("math/bits.deBruijn64tab", Rows.laid_math_bits_deBruijn64tab), ("internal/strconv.uint64pow10", Rows.laid_internal_strconv_uint64pow10), ("unicode/utf8.acceptRanges", Rows.laid_unicode_utf8_acceptRanges), ("patchbay/spot.start", Rows.laid_patchbay_spot_start), ("patchbay/ident.kept", Rows.laid_patchbay_ident_kept), ("patchbay/net.ins", Rows.laid_patchbay_net_ins), ("unicode/utf8.first", Rows.laid_unicode_utf8_first)] W ∧ handlesMet Tryz.prog [("patchbay/blif.tells", Rows.laid_patchbay_blif_tells)] W := h
theorem kF{P:Program}{w:World}{n:String}{g:Nat}{cs:Array Value}(hg:P.globalNamed n=some g)(h:w.var? P n=some cs):∃ty fz,w.heap[g]? =some (.cells cs ty fz):=by
 unfold World.var? at h;rw[hg,Option.bind_some]at h;split at h
 ·cases h;exact⟨_,_,by assumption⟩
 ·cases h
theorem Vr{P:Program}{v:Value}{e e':TypeId}{n:Nat}(hu:P.underlying e=some (.array n e'))(hf:v.formed P e=true):∃cs,v= .agg cs:=by cases v<;>simp[Value.formed,hu]at hf;exact⟨_,rfl⟩
theorem Vs{P:Program}{v:Value}{e:TypeId}{ps rs:Array TypeId}{va:Bool}(hu:P.underlying e=some (.func ps rs va))(hf:v.formed P e=true):v.cells.toList=[v]:=by cases v<;>simp[Value.formed,hu]at hf<;>rfl
def xI:List (S×FuncId):=[(zY,195),(fJ,210),(gW,212),(fC,209),(gI,213),(dM,211)]
def NQ:List (S×V):=xI.map fun y=>(y.1,.fn (.func y.2) [] [])
theorem QS{W:World}(h:laidMetH Tryz.prog LL W):∃b es clk ty fz,W.heap[0]? =some (.cells #[.map (some b)] ty fz)/\W.heap[b]? =some (.map es clk)/\xQ es clk /\
 (∀x∈es.toList,∃s y,y∈xI/\x.key= .string s/\s.data.toList=y.1/\s.size<=maxLen/\x.val= .func (.func y.2) #[] #[])/\∀y∈xI,∃x∈es.toList,∃s:ByteArray,x.key= .string s/\s.data.toList=y.1:=by
 have hm : ("patchbay/blif.tells", DataW.iface "func table" (.map [(.string [46, 101, 110, 100], .iface "func" (.lit (.string [40, 42, 112, 97, 116, 99, 104, 98, 97, 121, 47, 98, 108, 105, 102, 46, 112, 97, 114, 115, 101, 114, 41, 46, 101, 110, 100]))), (.string [46, 105, 110, 112, 117, 116, 115], .iface "func" (.lit (.string [40, 42, 112, 97, 116, 99, 104, 98, 97, 121, 47, 98, 108, 105, 102, 46, 112, 97, 114, 115, 101, 114, 41, 46, 105, 110, 112, 117, 116, 115]))), (.string [46, 108, 97, 116, 99, 104], .iface "func" (.lit (.string [40, 42, 112, 97, 116, 99, 104, 98, 97, 121, 47, 98, 108, 105, 102, 46, 112, 97, 114, 115, 101, 114, 41, 46, 108, 97, 116, 99, 104]))), (.string [46, 109, 111, 100, 101, 108], .iface "func" (.lit (.string [40, 42, 112, 97, 116, 99, 104, 98, 97, 121, 47, 98, 108, 105, 102, 46, 112, 97, 114, 115, 101, 114, 41, 46, 109, 111, 100, 101, 108]))), (.string [46, 110, 97, 109, 101, 115], .iface "func" (.lit (.string [40, 42, 112, 97, 116, 99, 104, 98, 97, 121, 47, 98, 108, 105, 102, 46, 112, 97, 114, 115, 101, 114, 41, 46, 110, 97, 109, 101, 115]))), (.string [46, 111, 117, 116, 112, 117, 116, 115], .iface "func" (.lit (.string [40, 42, 112, 97, 116, 99, 104, 98, 97, 121, 47, 98, 108, 105, 102, 46, 112, 97, 114, 115, 101, 114, 41, 46, 111, 117, 116, 112, 117, 116, 115])))])) ∈ LL := by
  show ("patchbay/blif.tells", Rows.laid_patchbay_blif_tells) ∈ LL
  simp[LL]
 obtain ⟨g, t, cs, fuel, p, hg, ht, hv, hd⟩ := h.funcs hm;have e1 : Tryz.prog.globalNamed "patchbay/blif.tells" = some 0 := by kernel_rfl
 obtain rfl:=Option.some.inj (e1.symm.trans hg);have e2:(Tryz.prog.globals[0]?).map (·.type)=some 141:=by kernel_rfl
 obtain rfl:=Option.some.inj (e2.symm.trans ht);have hd':DataW.trod (funcToken Tryz.prog) Tryz.prog W 0 (fun _=>true) true fuel 141 cs.toList=some (.map [(.string [46,101,110,100],.held [40,42,112,97,116,99,104,98,97,121,47,98,108,105,102,46,112,97,114,115,101,114,41,46,101,110,100]),(.string [46,105,110,112,117,116,115],.held [40,42,112,97,116,99,104,98,97,121,47,98,108,105,102,46,112,97,114,115,101,114,41,46,105,110,112,117,116,115]),(.string [46,108,97,116,99,104],.held [40,42,112,97,116,99,104,98,97,121,47,98,108,105,102,46,112,97,114,115,101,114,41,46,108,97,116,99,104]),(.string [46,109,111,100,101,108],.held [40,42,112,97,116,99,104,98,97,121,47,98,108,105,102,46,112,97,114,115,101,114,41,46,109,111,100,101,108]),(.string [46,110,97,109,101,115],.held [40,42,112,97,116,99,104,98,97,121,47,98,108,105,102,46,112,97,114,115,101,114,41,46,110,97,109,101,115]),(.string [46,111,117,116,112,117,116,115],.held [40,42,112,97,116,99,104,98,97,121,47,98,108,105,102,46,112,97,114,115,101,114,41,46,111,117,116,112,117,116,115])],p):=hd;obtain⟨b,es,clk,n,hcs,hb,hok,hnd,h1,h2⟩:=xH Tryz.underlying141 hd';obtain⟨ty,fz,hh⟩:=kF e1 hv;have hcs':cs=#[.map (some b)]:=Array.toList_inj.1 hcs;rw[hcs']at hh;refine⟨b,es,clk,ty,fz,hh,hb,hok,fun x hx=> ?_,fun y hy=> ?_⟩
 ·obtain⟨l,d,q,hm,hk,hr,hf⟩:=h1 x hx;obtain⟨s,hs1,hs2,hs3⟩:=WideMaps.string_of_keyOf Tryz.underlying9 hk;rw[Vs Tryz.underlying139 hf]at hr;simp only[zrj,zrp,or_false,Prod.mk.injEq]at hm;rcases hm with⟨rfl,rfl⟩|⟨rfl,rfl⟩|⟨rfl,rfl⟩|⟨rfl,rfl⟩|⟨rfl,rfl⟩|⟨rfl,rfl⟩
  ·simp only[Lit.string.injEq]at hs2;exact⟨s,(zY,195),by simp[xI],hs1,hs2.symm,hs3,func_of_trod (f0:=195) Tryz.underlying139 (by kernel_rfl) hr⟩
  ·simp only[Lit.string.injEq]at hs2;exact⟨s,(fJ,210),by simp[xI],hs1,hs2.symm,hs3,func_of_trod (f0:=210) Tryz.underlying139 (by kernel_rfl) hr⟩
  ·simp only[Lit.string.injEq]at hs2;exact⟨s,(gW,212),by simp[xI],hs1,hs2.symm,hs3,func_of_trod (f0:=212) Tryz.underlying139 (by kernel_rfl) hr⟩
  ·simp only[Lit.string.injEq]at hs2;exact⟨s,(fC,209),by simp[xI],hs1,hs2.symm,hs3,func_of_trod (f0:=209) Tryz.underlying139 (by kernel_rfl) hr⟩
  ·simp only[Lit.string.injEq]at hs2;exact⟨s,(gI,213),by simp[xI],hs1,hs2.symm,hs3,func_of_trod (f0:=213) Tryz.underlying139 (by kernel_rfl) hr⟩
  ·simp only[Lit.string.injEq]at hs2;exact⟨s,(dM,211),by simp[xI],hs1,hs2.symm,hs3,func_of_trod (f0:=211) Tryz.underlying139 (by kernel_rfl) hr⟩
 ·have hy':∃y'∈([(.string [46,101,110,100],.held [40,42,112,97,116,99,104,98,97,121,47,98,108,105,102,46,112,97,114,115,101,114,41,46,101,110,100]),(.string [46,105,110,112,117,116,115],.held [40,42,112,97,116,99,104,98,97,121,47,98,108,105,102,46,112,97,114,115,101,114,41,46,105,110,112,117,116,115]),(.string [46,108,97,116,99,104],.held [40,42,112,97,116,99,104,98,97,121,47,98,108,105,102,46,112,97,114,115,101,114,41,46,108,97,116,99,104]),(.string [46,109,111,100,101,108],.held [40,42,112,97,116,99,104,98,97,121,47,98,108,105,102,46,112,97,114,115,101,114,41,46,109,111,100,101,108]),(.string [46,110,97,109,101,115],.held [40,42,112,97,116,99,104,98,97,121,47,98,108,105,102,46,112,97,114,115,101,114,41,46,110,97,109,101,115]),(.string [46,111,117,116,112,117,116,115],.held [40,42,112,97,116,99,104,98,97,121,47,98,108,105,102,46,112,97,114,115,101,114,41,46,111,117,116,112,117,116,115])]:List (Lit×DataW (List UInt8))),y'.1= .string y.1:=by
   simp only[xI,zrj,zrp,or_false]at hy;rcases hy with rfl|rfl|rfl|rfl|rfl|rfl
   ·exact⟨(.string [46,101,110,100],.held [40,42,112,97,116,99,104,98,97,121,47,98,108,105,102,46,112,97,114,115,101,114,41,46,101,110,100]),by simp,rfl⟩
   ·exact⟨(.string [46,105,110,112,117,116,115],.held [40,42,112,97,116,99,104,98,97,121,47,98,108,105,102,46,112,97,114,115,101,114,41,46,105,110,112,117,116,115]),by simp,rfl⟩
   ·exact⟨(.string [46,108,97,116,99,104],.held [40,42,112,97,116,99,104,98,97,121,47,98,108,105,102,46,112,97,114,115,101,114,41,46,108,97,116,99,104]),by simp,rfl⟩
   ·exact⟨(.string [46,109,111,100,101,108],.held [40,42,112,97,116,99,104,98,97,121,47,98,108,105,102,46,112,97,114,115,101,114,41,46,109,111,100,101,108]),by simp,rfl⟩
   ·exact⟨(.string [46,110,97,109,101,115],.held [40,42,112,97,116,99,104,98,97,121,47,98,108,105,102,46,112,97,114,115,101,114,41,46,110,97,109,101,115]),by simp,rfl⟩
   ·exact⟨(.string [46,111,117,116,112,117,116,115],.held [40,42,112,97,116,99,104,98,97,121,47,98,108,105,102,46,112,97,114,115,101,114,41,46,111,117,116,112,117,116,115]),by simp,rfl⟩
  obtain⟨y',hm,he⟩:=hy';obtain⟨x,hx,hk⟩:=h2 y' hm;obtain⟨s,hs1,hs2,_⟩:=WideMaps.string_of_keyOf Tryz.underlying9 hk;rw[he]at hs2;simp only[Lit.string.injEq]at hs2;exact⟨x,hx,s,hs1,hs2.symm⟩
def Ef:List (Int×Int×Int):=[(0,0,0),(1,0,0),(2,1,1),(3,1,1),(4,2,8),(5,2,8),(6,2,8),(7,2,8),(8,2,8),(9,2,8),(10,0,8)]
def Vt:List (Int×V):=Ef.map fun y=>(y.1,.agg [.int .i64 y.2.1,.int .i64 y.2.2])
theorem Vu {W : World} {r : List (String × DataW Unit)} (h : laidMet Tryz.prog (("patchbay/net.ins", Rows.laid_patchbay_net_ins) :: r) W) : ∃ b es clk ty fz, W.heap[1]? = some (.cells #[.map (some b)] ty fz) ∧ W.heap[b]? = some (.map es clk) ∧ xQ es clk ∧
 (∀x∈es.toList,∃y∈Ef,x.key= .int .i64 y.1/\x.val= .agg #[.int .i64 y.2.1,.int .i64 y.2.2])/\∀y∈Ef,∃x∈es.toList,x.key= .int .i64 y.1:=by
 obtain ⟨ps, ⟨g', t', cs, fuel, p, q, hg', ht', hvar, hd, _, _⟩, _⟩ := h;have e1 : Tryz.prog.globalNamed "patchbay/net.ins" = some 1 := by kernel_rfl
 obtain rfl:=Option.some.inj (e1.symm.trans hg');have e2:(Tryz.prog.globals[1]?).map (·.type)=some 177:=by kernel_rfl
 obtain rfl:=Option.some.inj (e2.symm.trans ht');have hd':DataW.trod (fun _=>()) Tryz.prog W 0 (fun _=>true) false fuel 177 cs.toList=some (.map [(.int .i64 0,.agg [.lit (.int .i64 0),.lit (.int .i64 0)]),(.int .i64 1,.agg [.lit (.int .i64 0),.lit (.int .i64 0)]),(.int .i64 2,.agg [.lit (.int .i64 1),.lit (.int .i64 1)]),(.int .i64 3,.agg [.lit (.int .i64 1),.lit (.int .i64 1)]),(.int .i64 4,.agg [.lit (.int .i64 2),.lit (.int .i64 8)]),(.int .i64 5,.agg [.lit (.int .i64 2),.lit (.int .i64 8)]),(.int .i64 6,.agg [.lit (.int .i64 2),.lit (.int .i64 8)]),(.int .i64 7,.agg [.lit (.int .i64 2),.lit (.int .i64 8)]),(.int .i64 8,.agg [.lit (.int .i64 2),.lit (.int .i64 8)]),(.int .i64 9,.agg [.lit (.int .i64 2),.lit (.int .i64 8)]),(.int .i64 10,.agg [.lit (.int .i64 0),.lit (.int .i64 8)])],p):=hd;obtain⟨b,es,clk,n,hcs,hb,hok,hnd,h1,h2⟩:=xH Tryz.underlying177 hd';obtain⟨ty,fz,hh⟩:=kF e1 hvar;have hcs':cs=#[.map (some b)]:=Array.toList_inj.1 hcs;rw[hcs']at hh;have c1:Tryz.prog.cellsOf 3=1:=by kernel_rfl
 have c2:Tryz.prog.cellsOf 175=2:=by kernel_rfl
 have ikey:∀ {v:Value} {n:Int},keyOf Tryz.prog 34 v=some (.int .i64 n)->v= .int .i64 n:=fun {v n} hk=>by rw[keyOf_int Tryz.underlying34]at hk;cases v<;>simp[mapKey,Tryz.underlying34]at hk;obtain⟨⟨rfl,_⟩,rfl⟩:=hk;rfl
 have ival:∀ {v:Value} {a b:Int} {q:List MemPlace},v.formed Tryz.prog 175=true->DataW.trod (fun _=>()) Tryz.prog W 0 (fun _=>true) false n 175 v.cells.toList=some (.agg [.lit (.int .i64 a),.lit (.int .i64 b)],q)->v= .agg #[.int .i64 a,.int .i64 b]:=fun {v a b q} hf hr=>by obtain⟨cs,rfl⟩:=Vr Tryz.underlying175 hf;have:=Lib.cells_of_tab (zs:=[a,b]) (k:= .i64) Tryz.underlying175 Tryz.underlying3 c1 c2 hr;have:cs=#[.int .i64 a,.int .i64 b]:=Array.toList_inj.1 this;rw[this]
 refine⟨b,es,clk,ty,fz,hh,hb,hok,fun x hx=> ?_,fun y hy=> ?_⟩
 ·obtain⟨l,d,q,hm,hk,hr,hf⟩:=h1 x hx;simp only[zrj,zrp,or_false,Prod.mk.injEq]at hm;rcases hm with⟨rfl,rfl⟩|⟨rfl,rfl⟩|⟨rfl,rfl⟩|⟨rfl,rfl⟩|⟨rfl,rfl⟩|⟨rfl,rfl⟩|⟨rfl,rfl⟩|⟨rfl,rfl⟩|⟨rfl,rfl⟩|⟨rfl,rfl⟩|⟨rfl,rfl⟩
  ·exact⟨(0,0,0),by simp[Ef],ikey hk,ival hf hr⟩
  ·exact⟨(1,0,0),by simp[Ef],ikey hk,ival hf hr⟩
  ·exact⟨(2,1,1),by simp[Ef],ikey hk,ival hf hr⟩
  ·exact⟨(3,1,1),by simp[Ef],ikey hk,ival hf hr⟩
  ·exact⟨(4,2,8),by simp[Ef],ikey hk,ival hf hr⟩
  ·exact⟨(5,2,8),by simp[Ef],ikey hk,ival hf hr⟩
  ·exact⟨(6,2,8),by simp[Ef],ikey hk,ival hf hr⟩
  ·exact⟨(7,2,8),by simp[Ef],ikey hk,ival hf hr⟩
  ·exact⟨(8,2,8),by simp[Ef],ikey hk,ival hf hr⟩
  ·exact⟨(9,2,8),by simp[Ef],ikey hk,ival hf hr⟩
  ·exact⟨(10,0,8),by simp[Ef],ikey hk,ival hf hr⟩
 ·have hy':∃y'∈([(.int .i64 0,.agg [.lit (.int .i64 0),.lit (.int .i64 0)]),(.int .i64 1,.agg [.lit (.int .i64 0),.lit (.int .i64 0)]),(.int .i64 2,.agg [.lit (.int .i64 1),.lit (.int .i64 1)]),(.int .i64 3,.agg [.lit (.int .i64 1),.lit (.int .i64 1)]),(.int .i64 4,.agg [.lit (.int .i64 2),.lit (.int .i64 8)]),(.int .i64 5,.agg [.lit (.int .i64 2),.lit (.int .i64 8)]),(.int .i64 6,.agg [.lit (.int .i64 2),.lit (.int .i64 8)]),(.int .i64 7,.agg [.lit (.int .i64 2),.lit (.int .i64 8)]),(.int .i64 8,.agg [.lit (.int .i64 2),.lit (.int .i64 8)]),(.int .i64 9,.agg [.lit (.int .i64 2),.lit (.int .i64 8)]),(.int .i64 10,.agg [.lit (.int .i64 0),.lit (.int .i64 8)])]:List (Lit×DataW Unit)),y'.1= .int .i64 y.1:=by
   simp only[Ef,zrj,zrp,or_false]at hy;rcases hy with rfl|rfl|rfl|rfl|rfl|rfl|rfl|rfl|rfl|rfl|rfl
   ·exact⟨(.int .i64 0,.agg [.lit (.int .i64 0),.lit (.int .i64 0)]),by simp,rfl⟩
   ·exact⟨(.int .i64 1,.agg [.lit (.int .i64 0),.lit (.int .i64 0)]),by simp,rfl⟩
   ·exact⟨(.int .i64 2,.agg [.lit (.int .i64 1),.lit (.int .i64 1)]),by simp,rfl⟩
   ·exact⟨(.int .i64 3,.agg [.lit (.int .i64 1),.lit (.int .i64 1)]),by simp,rfl⟩
   ·exact⟨(.int .i64 4,.agg [.lit (.int .i64 2),.lit (.int .i64 8)]),by simp,rfl⟩
   ·exact⟨(.int .i64 5,.agg [.lit (.int .i64 2),.lit (.int .i64 8)]),by simp,rfl⟩
   ·exact⟨(.int .i64 6,.agg [.lit (.int .i64 2),.lit (.int .i64 8)]),by simp,rfl⟩
   ·exact⟨(.int .i64 7,.agg [.lit (.int .i64 2),.lit (.int .i64 8)]),by simp,rfl⟩
   ·exact⟨(.int .i64 8,.agg [.lit (.int .i64 2),.lit (.int .i64 8)]),by simp,rfl⟩
   ·exact⟨(.int .i64 9,.agg [.lit (.int .i64 2),.lit (.int .i64 8)]),by simp,rfl⟩
   ·exact⟨(.int .i64 10,.agg [.lit (.int .i64 0),.lit (.int .i64 8)]),by simp,rfl⟩
  obtain⟨y',hm,he⟩:=hy';obtain⟨x,hx,hk⟩:=h2 y' hm;rw[he]at hk;exact⟨x,hx,ikey hk⟩
theorem own:ownKnob Tryz.prog.godebug=none:=by kernel_rfl
theorem laid:laidOutB Tryz.prog=true:=by kernel_rfl
theorem xJ{H:Type}{enc:TypeId×Value->H}{P:Program}{w:World}{base:Nat}{sp:Nat->Bool}{b:Bool}{fuel:Nat}{t:TypeId}{k:IntKind}{n:Int}{cs:List Value}{p:List MemPlace}
 (ht:P.underlying t=some (.int k)) (h:DataW.trod enc P w base sp b fuel t cs=some (.lit (.int k n),p)):cs=[.int k n]:=by
 cases fuel with
 |zero=>simp[DataW.trod]at h
 |succ fuel =>
  simp only [DataW.trod,ht] at h;split at h <;> first
   |(cases h;done)
   |(split at h<;>simp_all;done)
   |simp_all
theorem QT {W : World} {r : List (String × DataW Unit)} (h : laidMet Tryz.prog (("patchbay/spot.start", Rows.laid_patchbay_spot_start) :: r) W) : ∃ ty fz, W.heap[2]? = some (.cells #[.int .i64 1, .int .i64 1] ty fz) := by
 obtain ⟨ps, ⟨g', t', cs, fuel, p, q, hg', ht', hvar, hd, _, _⟩, _⟩ := h;have e1 : Tryz.prog.globalNamed "patchbay/spot.start" = some 2 := by kernel_rfl
 obtain rfl:=Option.some.inj (e1.symm.trans hg');have e2:(Tryz.prog.globals[2]?).map (·.type)=some 186:=by kernel_rfl
 obtain rfl:=Option.some.inj (e2.symm.trans ht');have c1:Tryz.prog.cellsOf 186=2:=by kernel_rfl
 have c2:Tryz.prog.cellsOf 3=1:=by kernel_rfl
 have u3:Tryz.prog.underlying 3=some (.int .i64):=by kernel_rfl
 obtain⟨ty,fz,hh⟩:=kF e1 hvar;cases fuel with
 |zero=>simp[DataW.trod]at hd
 |succ fuel =>
  simp only[DataW.trod,Tryz.underlying186]at hd;split at hd
  ·rename_i hl;rw[Option.map_eq_some_iff]at hd;obtain⟨xs,hx,he⟩:=hd;rw[c1]at hl;rw[c2,show List.range 2=[0,1]from rfl]at hx;simp only[List.mapM_cons,List.mapM_nil,Option.bind_eq_bind,Option.pure_def,Option.bind_eq_some_iff,Option.some.injEq]at hx;obtain⟨⟨y1,y2⟩,hy,ys,⟨⟨z1,z2⟩,hz,zs,rfl,rfl⟩,rfl⟩:=hx;simp only[zrd,List.map_nil,Prod.mk.injEq,Rows.laid_patchbay_spot_start,DataW.agg.injEq,List.cons.injEq,and_true]at he;obtain⟨⟨rfl,rfl⟩,_⟩:=he;have a1:=xJ u3 hy;have a2:=xJ u3 hz;have:cs=#[.int .i64 1,.int .i64 1]:=by
    apply Array.toList_inj.1
    match hcs:cs.toList,hl with
    |[a,b],_=>rw[hcs]at a1 a2;simp at a1 a2;rw[a1,a2]
   rw[this]at hh;exact⟨ty,fz,hh⟩
  ·cases hd
theorem V5 {W : World} {r : List (String × DataW Unit)} (h : laidMet Tryz.prog (("math/bits.deBruijn64tab", Rows.laid_math_bits_deBruijn64tab) :: r) W) : ∃ ty fz, W.heap[7]? = some (.cells (EM.map fun z => Value.int .u8 z).toArray ty fz) := by
 have e1 : Tryz.prog.globalNamed "math/bits.deBruijn64tab" = some 7 := by kernel_rfl
 have e2:(Tryz.prog.globals[7]?).map (·.type)=some 243:=by kernel_rfl
 have c1:Tryz.prog.cellsOf 5=1:=by kernel_rfl
 have c2:Tryz.prog.cellsOf 243=64:=by kernel_rfl
 have:=Lib.tabIs_of_head (zs:=EM) (k:= .u8) e1 e2 Tryz.underlying243 Tryz.underlying5 c1 c2 h;exact kF e1 this
theorem V6{W:World}(h:W.ShapedOpen Tryz.prog):∃ty fz m,W.heap[5]? =some (.cells #[.int .i64 m] ty fz):=by
 have h0:((begin Tryz.prog (fun _ _=>0) default).world.heap[5]?).bind Obj.row? =some (#[.int .i64 0],3):=by kernel_rfl
 have hg:5<Tryz.prog.globals.size:=by
  have:Tryz.prog.globals.size=10:=by kernel_rfl
  omega
 have hu:Tryz.prog.underlying 3=some (.int .i64):=Tryz.underlying3;obtain⟨m,hm⟩:=cell_of_shapedOpen_int h hg h0 rfl (by kernel_rfl) (by kernel_rfl) hu;obtain⟨cs,hh,hs,_⟩:=h.1 _ _ _ hg h0;have hs:cs.size=1:=hs;have:cs=#[.int .i64 m]:=by
  unfold World.cell? at hm;simp only[hh]at hm;have hm:cs[0]? =some (.int .i64 m):=hm;obtain⟨l⟩:=cs
  match l,hs with
  |[a],_=>simp at hm;rw[hm]
 rw[this]at hh;exact⟨3,(0,0),m,hh⟩
theorem TW{w:World}{g:Nat}{k:IntKind}{zs:List Int}{ty:TypeId}{fz:Nat×Nat}(hz:zs≠[])(h:w.heap[g]? =some (.cells (zs.map fun z=>Value.int k z).toArray ty fz)):VRel (cw w) (.ip (.agg (zs.map fun n=>V.int k n))) (.pointer (some ⟨g,0,none⟩)):=by
 have hl:∀zs:List Int,VList (cw w).data (zs.map fun n=>V.int k n) (zs.map fun z=>Value.int k z):=fun zs=>by
  induction zs with
  |nil=>simp only[List.map_nil,VList]
  |cons a l ih=>simp only[zrd,VList,VRel];exact⟨_,_,rfl,rfl,ih⟩
 simp only[VRel];refine⟨g,0,.agg (zs.map fun z=>Value.int k z).toArray,rfl,fun j hj=>⟨⟨trivial,fun i hi=>by cases hi⟩,?_⟩,?_,_,rfl,hl zs⟩
 ·show w.cell? ⟨g,0+j,none⟩=_;unfold World.cell?;simp only[h,Nat.zero_add];rfl
 ·have:0<zs.length:=List.length_pos_iff.2 hz;simpa [Value.cells]using this
theorem NT(s:S)(z:V):TT z ((NQ.find? fun y=>decide (s=y.1)).map (·.2))=if s=zY then .tup [.fn (.func 195) [] [],.bool true]else if s=fJ then .tup [.fn (.func 210) [] [],.bool true]else if s=gW then .tup [.fn (.func 212) [] [],.bool true]else if s=fC then .tup [.fn (.func 209) [] [],.bool true]else if s=gI then .tup [.fn (.func 213) [] [],.bool true]else if s=dM then .tup [.fn (.func 211) [] [],.bool true]else .tup [z,.bool false]:=by
 unfold NQ xI;simp only[zrd,List.map_nil];by_cases h0:s=zY
 ·rw[if_pos h0,List.find?_cons_of_pos (by simpa using h0)];rfl
 ·rw[if_neg h0,List.find?_cons_of_neg (by simpa using h0)];by_cases h1:s=fJ
  ·rw[if_pos h1,List.find?_cons_of_pos (by simpa using h1)];rfl
  ·rw[if_neg h1,List.find?_cons_of_neg (by simpa using h1)];by_cases h2:s=gW
   ·rw[if_pos h2,List.find?_cons_of_pos (by simpa using h2)];rfl
   ·rw[if_neg h2,List.find?_cons_of_neg (by simpa using h2)];by_cases h3:s=fC
    ·rw[if_pos h3,List.find?_cons_of_pos (by simpa using h3)];rfl
    ·rw[if_neg h3,List.find?_cons_of_neg (by simpa using h3)];by_cases h4:s=gI
     ·rw[if_pos h4,List.find?_cons_of_pos (by simpa using h4)];rfl
     ·rw[if_neg h4,List.find?_cons_of_neg (by simpa using h4)];by_cases h5:s=dM
      ·rw[if_pos h5,List.find?_cons_of_pos (by simpa using h5)];rfl
      ·rw[if_neg h5,List.find?_cons_of_neg (by simpa using h5)];rfl
/-- What the condition gives the walks. -/
theorem laid_mo{W:World}(h:laidMetH Tryz.prog LL W)(hsh:W.ShapedOpen Tryz.prog):∃mo:MO,(∀g v,(@TE mo).gl g=some v->VRel (cw W) (.ip v) (.pointer (some ⟨g,0,none⟩)))/\∀g p,(@TE mo).gx g=some p->∃cs ty fz,W.heap[g]? =some (.cells cs ty fz)/\p cs:=by
 have h1:=(QR h).1;have h2:=laidMet.tail h1;have h5:=laidMet.tail (laidMet.tail (laidMet.tail h2));have h7:=laidMet.tail (laidMet.tail h5);obtain⟨b,es,clk,ty,fz,t1,t2,t3,t4,t5⟩:=QS h;obtain⟨b',es',clk',ty',fz',i1,i2,i3,i4,i5⟩:=Vu h7;obtain⟨sty,sfz,s1⟩:=QT h5;obtain⟨dty,dfz,d1⟩:=V5 h2;obtain⟨mty,mfz,m,m1⟩:=V6 hsh;have q1:∀x∈es.toList,∃y∈NQ,vOf x.key=V.str y.1/\vOf x.val=y.2:=fun x hx=>by obtain⟨s,y,hy,e1,e2,_,e3⟩:=t4 x hx;exact⟨(y.1,.fn (.func y.2) [] []),zrh.2 ⟨y,hy,rfl⟩,by rw[e1,<-e2];rfl,by rw[e3];rfl⟩
 have q2:∀y∈NQ,∃x∈es.toList,vOf x.key=V.str y.1:=fun y hy=>by obtain⟨y',hy',rfl⟩:=zrh.1 hy;obtain⟨x,hx,s,e1,e2⟩:=t5 y' hy';exact⟨x,hx,by rw[e1,<-e2];rfl⟩
 have q3:∀x∈es'.toList,∃y∈Vt,vOf x.key=V.int .i64 y.1/\vOf x.val=y.2:=fun x hx=>by obtain⟨y,hy,e1,e3⟩:=i4 x hx;exact⟨(y.1,.agg [.int .i64 y.2.1,.int .i64 y.2.2]),zrh.2 ⟨y,hy,rfl⟩,by rw[e1];rfl,by rw[e3];rfl⟩
 have q4:∀y∈Vt,∃x∈es'.toList,vOf x.key=V.int .i64 y.1:=fun y hy=>by obtain⟨y',hy',rfl⟩:=zrh.1 hy;obtain⟨x,hx,e1⟩:=i5 y' hy';exact⟨x,hx,by rw[e1];rfl⟩
 have g1:=Hm TU (fun a b e=>by injection e) (T:=NQ) (by decide) q1 q2;have g2:=Hm TV (fun a b e=>by injection e) (T:=Vt) (by decide) q3 q4;refine⟨{ik:=es'.toList.map fun x=>vOf x.key,iv:=es'.toList.map fun x=>vOf x.val,tk:=es.toList.map fun x=>vOf x.key,tv:=es.toList.map fun x=>vOf x.val,ins:=fun n z=> ?_,tell:=fun s z=> ?_},fun g v hg=> ?_,fun g p hg=> ?_⟩
 ·rw[g2];refine congrArg _ ?_;by_cases hn:0<=n/\n<=10
  ·rw[if_pos hn];have:n=0\/n=1\/n=2\/n=3\/n=4\/n=5\/n=6\/n=7\/n=8\/n=9\/n=10:=by omega
   rcases this with rfl|rfl|rfl|rfl|rfl|rfl|rfl|rfl|rfl|rfl|rfl<;>rfl
  ·rw[if_neg hn];have:(Vt.find? fun y=>decide (n=y.1))=none:=by
    rw[List.find?_eq_none];intro y hy e;have e:n=y.1:=by simpa using e
    simp only[Vt,Ef,zrd,List.map_nil,zrj,zrp,or_false]at hy;rcases hy with rfl|rfl|rfl|rfl|rfl|rfl|rfl|rfl|rfl|rfl|rfl<;>exact hn (by omega)
   rw[this];rfl
 ·rw[g1];refine congrArg _ ?_;exact NT s z
 ·match g,hg with
  |0,hg =>
   obtain rfl:=Option.some.inj hg;exact RD t1 t2 t3 (fun x hx=>by
    obtain⟨s,y,_,e1,_,e2,_⟩:=t4 x hx;rw[e1];simp only[vOf,VRel];exact⟨s,rfl,rfl,by simpa using e2⟩) (fun x hx=>by
    obtain⟨s,y,_,_,_,_,e3⟩:=t4 x hx;rw[e3];simp only[vOf,VRel,VList];exact⟨#[],#[],rfl,rfl,rfl⟩)
  |1,hg =>
   obtain rfl:=Option.some.inj hg;exact RD i1 i2 i3 (fun x hx=>by
    obtain⟨y,_,e1,_⟩:=i4 x hx;rw[e1];simp only[vOf,VRel]) (fun x hx=>by
    obtain⟨y,_,_,e3⟩:=i4 x hx;rw[e3];simp only[vOf,VRel];refine⟨_,rfl,?_⟩;simp only[zrd,List.map_nil,VList,VRel];exact⟨_,_,rfl,rfl,_,_,rfl,rfl,rfl⟩)
  |2,hg=>obtain rfl:=Option.some.inj hg;exact SB s1
  |7,hg=>obtain rfl:=Option.some.inj hg;exact TW (by decide) d1
 ·match g,hg with
  |2,hg=>have hp:(fun cs=>cs=#[Value.int .i64 1,Value.int .i64 1])=p:=Option.some.inj hg;subst hp;exact⟨_,sty,sfz,s1,rfl⟩
  |5,hg=>have hp:(fun cs=>∃m,cs=#[Value.int .i64 m])=p:=Option.some.inj hg;subst hp;exact⟨_,mty,mfz,m1,m,rfl⟩
theorem reach_of'{H:Type}{P:Program}{fn:Func}{more:List TypeId}{ds gs:List (DataW H)}(h:(DataW.weightsEach P (fn.params.toList++more) (ds++gs)).all (·<=reachBytes)=true) :
 ∀(i:Nat) d t,ds[i]? =some d->fn.params.toList[i]? =some t->(reachM H P).L t d:=by
 intro i d t h1 h2 n hn;have h3:=zrs.1 h n (jJ _ _ i d t (by rw[zqj (zqe h1).1];exact h1) (by rw[zqj (zqe h2).1];exact h2) hn);simpa using h3
noncomputable def Vw (os : Os) : World := (World.doorLaid Tryz.prog 1200 os).layVars Tryz.prog [("unicode/utf8.first", Rows.laid_unicode_utf8_first)]
theorem door_met(os:Os)(args:Array Value):laidMetH Tryz.prog LL ((Vw os).forCall (fun _ _=>0) ⟨#[],args,[]⟩).memory :=
 laidMetH_of_parts3 (fuel:=8) (laidMet_of_run' 8 (by kernel_rfl) (by kernel_rfl)) (by kernel_rfl) (by kernel_rfl)
section
variable{H:Type}{enc:TypeId×Value->H}
theorem rih_andS{a:Assume}{C:Checked}{os:Os}{f:FuncId}{fn:Func}{s:ChangeSpec}{conds:List PathCond}{apart fresh handsOn again:Bool}{X:World->Array Value->Prop}
 (hX:∀(w w':World)(args:Array Value),w.heap=w'.heap->X w args->X w' args)
 (own:ownKnob C.prog.godebug=none) (started:os.Started) (noInit:C.prog.inits.idxOf? f=none) (hfn:C.prog.funcs[f]? =some fn)
 (witness:∃(w:World)(tape:Tape)(i:Input),w.os=os/\(w.forCall tape i).Shaped C.prog/\i.vars=[]/\Input.okWide C.prog (w.forCall tape i) .any w.heap.size f i /\
  ((s.pre enc C.prog fn conds apart (w.forCall tape i).memory i.args/\X (w.forCall tape i).memory i.args)/\sizedMet enc C.prog fn (OpenSpec.ofChange s) apart (w.forCall tape i).memory i.args)/\a.holds C.prog (lone (Frame.enter C.prog f i.args .normal) [] (w.forCall tape i)))
 (contract:∀(W:World)(base:Nat)(args:Array Value)(ds gs:List (DataW H))(before:List MemPlace),
  (∀(j:Nat) t v,fn.params[j]? =some t->args[j]? =some v->Value.okWide C.prog W .any base t v) ->
  DataW.Whole enc C.prog fn.params.toList s.vars apart W args.toList ds gs before ->
  (DataW.weightsEach C.prog (fn.params.toList++s.plain.varTypes C.prog) (ds++gs)).all (·<=reachBytes)=true->X W args->W.ShapedOpen C.prog ->
  Calls C.prog f args W fun e W'=>∃v,e= .returned v/\s.post enc C.prog fn apart fresh handsOn again W args v W') :
 ReturnsInHanded a C os f .any (fun w args=>(s.pre enc C.prog fn conds apart w args/\X w args)/\sizedMet enc C.prog fn (OpenSpec.ofChange s) apart w args) (s.post enc C.prog fn apart fresh handsOn again):=by
 refine returnsInHanded_of_calls own started noInit witness ?_;intro w tape i _ hsh _ hok hpre hholds;obtain⟨_,_,_,fn',hfn',_,_,_,_,hval⟩:=hok;have e:fn'=fn:=Option.some.inj (hfn'.symm.trans hfn);subst e;obtain⟨⟨⟨ds,gs,before,hw,hc⟩,hx⟩,hz⟩:=hpre;have hw':=DataW.Whole.of_heap (w':=w.forCall tape i) (by rfl) hw;refine(contract (w.forCall tape i) w.heap.size i.args ds gs before hval hw' (hz.weights hw) (hX _ _ _ (by rfl) hx) hsh).mono fun e W' ⟨v,he,hp⟩=> ?_;subst he;exact ChangeSpec.post_blind hp
end
abbrev uu:Sh:= .slice .str
abbrev V7:Sh:= .struct [.str,.int .i64,uu,uu,.bool]
abbrev shBs:Sh:= .slice .bool
theorem tK{R:Nat}{e:Sh}{α:Type}{F:α->V}(he:∀v,Sh.Sz R e v->∃a,v=F a):∀es:List V,(∀x∈es,Sh.Sz R e x)->∃l:List α,es=l.map F
 |[],_=>⟨[],rfl⟩
 |x::es,h=>by obtain⟨a,rfl⟩:=he x (h x (by simp));obtain⟨l,rfl⟩:=tK he es fun y hy=>h y (by simp[hy]);exact⟨a::l,rfl⟩
theorem RH{R:Nat}{v:V}(h:Sh.Sz R (.int .i64) v):∃n:Int,v=vi n:=by simp only[Sh.Sz]at h;obtain⟨n,rfl,hw⟩:=h;exact⟨n,rfl⟩
theorem Eb{R:Nat}{v:V}(h:Sh.Sz R .str v):∃s:S,v= .str s:=by simp only[Sh.Sz]at h;obtain⟨s,rfl,_⟩:=h;exact⟨s,rfl⟩
theorem NU{R:Nat}{v:V}(h:Sh.Sz R .bool v):∃b:Bool,v= .bool b:=by simpa only[Sh.Sz]using h
theorem FO{R:Nat}{v:V}(h:Sh.Sz R uu v):∃c:List S,v=aV c:=by unfold uu at h;rw[Sh.Sz]at h;obtain⟨es,rfl,hl,h⟩:=h;obtain⟨l,rfl⟩:=tK (F:=V.str) (fun v hv=>Eb hv) es h;exact⟨l,rfl⟩
theorem sz_bs{R:Nat}{v:V}(h:Sh.Sz R shBs v):∃c:List Bool,v=dh c:=by unfold shBs at h;rw[Sh.Sz]at h;obtain⟨es,rfl,hl,h⟩:=h;obtain⟨l,rfl⟩:=tK (F:=V.bool) (fun v hv=>NU hv) es h;exact⟨l,rfl⟩
theorem V8{R:Nat}{v:V}(h:Sh.Sz R V7 v):∃g:Ga,v=g.v:=by unfold V7 at h;rw[Sh.Sz]at h;obtain⟨vs,rfl,h⟩:=h;simp only[Sh.Szs]at h;obtain⟨u0,us,rfl,h0,u1,us,rfl,h1,u2,us,rfl,h2,u3,us,rfl,h3,u4,us,rfl,h4,rfl⟩:=h;obtain⟨n,rfl⟩:=Eb h0;obtain⟨o,rfl⟩:=RH h1;obtain⟨i,rfl⟩:=FO h2;obtain⟨r,rfl⟩:=FO h3;obtain⟨b,rfl⟩:=NU h4;exact⟨⟨n,o,i,r,b⟩,rfl⟩
theorem pf_laid:laidOutB Tryz.pinned.checked.prog=true:=by kernel_rfl
theorem pf_maps:mapsRowed Tryz.pinned.checked.prog=true:=by kernel_rfl
theorem pf_stops:(Tryz.pinned.checked.prog.stops==[])=true:=by kernel_rfl
theorem pf_knobs:(Tryz.pinned.checked.prog.stopKnobs==[])=true:=by kernel_rfl
theorem pf_heard:Tryz.pinned.checked.prog.stopsHeard=true:=by kernel_rfl
theorem pf_enter:Tryz.pinned.checked.prog.mayEnter=true:=by kernel_rfl
theorem pf_lifts:(Rows.blifPlainRow.lifted==Tryz.pinned.checked.prog.liftsFinal)=true:=by kernel_rfl
theorem pf_plain:(Rows.blifPlainRow.plainKeys==Tryz.pinned.checked.prog.plainKeys)=true:=by kernel_rfl
theorem pf_main : Tryz.pinned.checked.prog.mainIs = some (true, "4e0d963d9c82b205ceb97253c8819733dc7bbfead33dbde74c9d0ac28f42e1e6".toList) := by kernel_rfl
theorem pf_looks:true=Tryz.pinned.checked.prog.looks []:=by kernel_rfl
theorem TY(s:S):(spV s).length<=83:=by
 unfold spV;split
 ·rename_i h;have hl:s.length<=40:=by
   unfold aT at h;simp only[zqf,zqb]at h;exact h.2.2
  unfold bf;split
  ·unfold aY;have:∀l:S,(l.flatMap LJ).length=2*l.length:=by
    intro l
    induction l with
    |nil=>rfl
    |cons a l ih=>rw[List.flatMap_cons,zqa,ih,zrt];simp[LJ];omega
   rw[zqa,this];have:mX.length=3:=rfl;omega
  ·omega
 ·simp
theorem Ho{α:Type}{f:α->S}{l:List α}{n:Nat}(h:∀a∈l,(f a).length<=n):(l.flatMap f).length<=l.length*n:=by
 induction l with
 |nil=>simp
 |cons a l ih=>rw[List.flatMap_cons,zqa,zrt,Nat.succ_mul];have h1:=h a (by simp);have h2:=ih fun b hb=>h b (by simp[hb]);omega
theorem lL(w:S)(l:List S):(dY w l).length<=w.length+l.length*84+1:=by
 unfold dY;rw[zqa,zqa];have:=Ho (f:=fun x=>32::spV x) (l:=l) (n:=84) fun a _=>by
  have:=TY a;simp only[zrt];omega
 simp only[zrt,List.length_nil];omega
theorem Jr{g:Ga}(h:fB g=true):(mY g).length<=4000:=by
 have hp:=iY h;obtain⟨b1,b2⟩:=qm hp;obtain⟨g1,_,_⟩:=dV hp;have hn:(aK g).ins.length<=8:=by have:=g1.h;unfold uX at this;simp only[zqf]at this;exact Ns this.2.2
 have h1:=lL gI ((aK g).ins++[(aK g).name]);have h0:gI.length=6:=rfl;rw[zqa,zrk,h0]at h1;have h2:=Ho (f:=ET (aQ (aK g)).2) (l:=(aQ (aK g)).1) (n:=11) fun a ha=>by have:=b2 a ha;unfold ET;split<;>simp<;>omega
 unfold mY;rw[zqa];omega
theorem Js{c:Ci}(h:(mO c).1=0)(hf:oN c=true):(kw c).length<=800000:=by
 have ok:=qf h;unfold oN xG Az Lt at hf;simp only[zqf,zqb]at hf;obtain⟨⟨⟨⟨f1,f2,f3⟩,f4⟩,f5⟩,f6⟩:=hf;have k1:=lL fC [Pq];have k2:=lL fJ c.ins;have k3:=lL dM c.outs;have k4:=Ho (f:=fun q:La=>dY gW [q.next,q.name,lu q.init]) (l:=c.lat) (n:=300) fun a _=>by have:=lL gW [a.next,a.name,lu a.init];have e:gW.length=6:=rfl;simp only[zrt,List.length_nil,e]at this;omega
 have k5:=Ho (f:=mY) (l:=c.gates) (n:=4000) fun g hg=>Jr (ok.gates g hg);have k6:=lL zY [];have e1:fC.length=6:=rfl;have e2:fJ.length=7:=rfl;have e3:dM.length=8:=rfl;have e4:zY.length=4:=rfl;simp only[zrt,List.length_nil,e1,e2,e3,e4]at k1 k2 k3 k6;have f7:c.outs.length<=210:=by first|exact f3.1.1.2.1|exact f3.1.2.1|omega
 unfold kw;simp only[zqa];omega
end Go.Proofs.YtokppohljajhjaaGreatDoor
