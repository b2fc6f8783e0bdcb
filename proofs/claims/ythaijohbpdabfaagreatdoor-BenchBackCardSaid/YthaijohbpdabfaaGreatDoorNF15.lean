/- Lemmas for this claim, part F15: each holds under what it names. -/
import Derived.Test.YthaijohbpdabfaaGreatDoorNF12
import Derived.Test.YthaijohbpdabfaaGreatDoorNF14
import Derived.Test.YthaijohbpdabfaaGreatDoorNF07
import Derived.Test.YthaijohbpdabfaaGreatDoorNA8
import Derived.LaidHandle
import Derived.LaidMore
import Derived.Lay
import Derived.WideKeyElems2
import Derived.StringKeys
import Derived.Shelf.Vars
import Derived.Lib.LaidTab
import Derived.Test.YthaijohbpdabfaaGreatDoorRows
import Derived.Test.YthaijohbpdabfaaGreatDoorTie
set_option linter.all false
set_option maxRecDepth 20000
set_option maxHeartbeats 16000000
namespace Go.Proofs.YthaijohbpdabfaaGreatDoor
open Go Go.Proofs Go.Abs
theorem Dl{α:Type}(F:α->S)(l:List α){i:Nat}(h:i<l.length):((l.take i).flatMap F).length+(F l[i]).length<=(l.flatMap F).length:=by
 have e:l.flatMap F=(l.take i).flatMap F++(F l[i]++(l.drop (i+1)).flatMap F):=by
  conv=>lhs;rw[<-List.take_append_drop i l,List.flatMap_append,List.drop_eq_getElem_cons h,List.flatMap_cons]
 rw[e];simp only[zqa];omega
theorem um{α:Type}(F:α->S)(l:List α){i:Nat}(h:i<l.length):(l.take (i+1)).flatMap F=(l.take i).flatMap F++F l[i]:=by rw[List.take_succ_eq_append_getElem h,List.flatMap_append];simp
abbrev fnP:V:= .fn (.func 38) [] [.lp 1 0]
def F1:S->S:=fun s=>gm [] iK [s]
def F2:S->S:=fun s=>gm [] dZ [s]
def F3:La->S:=fun q=>gm (aO q.name++[32,61,32]) (bM.getD q.init.toNat []) [q.next]
def F4:Ga->S:=fun g=>gm (aO g.name++[32,61,32]) (dL.getD g.op.toNat []) g.ins
theorem FZ(x:Ci):o9 x=x.ins.flatMap F1++x.outs.flatMap F2++x.lat.flatMap F3++x.gates.flatMap F4:=rfl
def yZ(c:Ci):V:=if(Dw c).2=0 then .tup [.str (o9 (Dw c).1),vi 0]else .tup [.str [],vi (Dw c).2]
theorem y5[MO](c:Ci)(hs:Sum c):Ev TE 13 [c.v] (yZ c):=by
 have hM:=mLx;have hE:=ui c hs;have hoX:=fun h=>Hq (c:=c) (x:=(Dw c).1) h;unfold yZ;obtain⟨x,ee,ex⟩:∃x ee,Dw c=(x,ee):=⟨_,_,rfl⟩;rw[ex]at hE hoX ⊢;dsimp only at hE hoX ⊢;refine ak Tryz.func13 rfl (by simp[nts]) ?_;refine vn ?_;simp only[wq.1,seval,Tryz.results13];refine vn ?_;simp only[wq.1,seval];refine ag.ev hE (iW c) ?_;simp only[wq.1,seval];refine ai ?_;refine vn ?_;simp only[wq.1,seval];by_cases he:ee=0
 rotate_left
 ·have e0:(ee != 0)=true:=by simpa using he
  rw[if_neg he];refine bF (b:=true) (by simp only[wq.1,↓reduceIte,e0]) (by simp only[wq.1,↓reduceIte,e0];try trivial) (fun _=> ?_) (fun h=>by cases h);refine vm ?_;simp only[wq.1,seval];exact aG.dat rfl
 have e0:(ee != 0)=false:=by rw[he];rfl
 rw[if_pos he];subst he;obtain⟨ho,hpl,_,_,_⟩:=hoX rfl;have hlen:=Au (x:=x) (by rw[ho]);have hn:=ny (c:=x) (by rw[ho]);have hlc:=Vb hn.lim;have lIn:x.ins.length<=1000000:=by have:=hlc.ins;omega
 have lOut:x.outs.length<=1000000:=by have:=hlc.outs;omega
 have lLat:x.lat.length<=1000000:=by have:=hlc.lat;omega
 have lGa:x.gates.length<=1000000:=by have:=hlc.gates;omega
 rw[FZ]at hlen ⊢;obtain⟨P1,eP1⟩:∃P1,P1=x.ins.flatMap F1:=⟨_,rfl⟩;obtain⟨P2,eP2⟩:∃P2,P2=x.outs.flatMap F2:=⟨_,rfl⟩;obtain⟨P3,eP3⟩:∃P3,P3=x.lat.flatMap F3:=⟨_,rfl⟩;obtain⟨P4,eP4⟩:∃P4,P4=x.gates.flatMap F4:=⟨_,rfl⟩;rw[<-eP1,<-eP2,<-eP3,<-eP4]at hlen ⊢;simp only[zqa]at hlen;have hd0:V.dats [aN x.ins,aN x.outs,kG x.lat,iG x.gates]=true:=PH x;have nLat:∀q∈x.lat,aS q.name=true/\aS q.next=true:=fun q h=>⟨hn.told _ (by unfold dG;simp only[zrf,List.mem_flatMap];exact .inl (.inr ⟨q,h,by simp⟩)),hn.told _ (by unfold dG;simp only[zrf,List.mem_flatMap];exact .inl (.inr ⟨q,h,by simp⟩))⟩
 have nGa:∀g∈x.gates,aS g.name=true/\∀s∈g.ins,aS s=true:=fun g h=>⟨hn.told _ (by unfold dG;exact List.mem_append_right _ (List.mem_flatMap.2 ⟨g,h,by simp⟩)),fun s hs=>hn.told _ (by unfold dG;exact List.mem_append_right _ (List.mem_flatMap.2 ⟨g,h,by simp[hs]⟩))⟩;have nIn:∀s∈x.ins,aS s=true:=fun s h=>hn.told s (by unfold dG;simp[h]);have nOut:∀s∈x.outs,aS s=true:=fun s h=>hn.told s (by unfold dG;simp[h]);refine bF (b:=false) (by simp only[wq.1,↓reduceIte,e0]) (by simp only[wq.1,↓reduceIte,e0];try trivial) (fun h=>by cases h) (fun _=> ?_);refine vm ?_;simp only[wq.1,Int.reduceBNe];show awp _ _ _ _ _ _ _;refine ai (iT ?_);refine eX rfl rfl ?_;refine J4 (q:=⟨.struct [(0,78),(1,79)],2,32,.agg [.nilp,.nils]⟩) rfl (by simp only[wq.1]) (by simp only[wq.1]) ?_;simp only[wq.1];refine dX ?_;simp only[wq.1];show awp _ _ _ _ _ _ [ciO x,.typed 81 [.nilp,.nils]];refine vn ?_;simp only[wq.1,seval];obtain⟨P0,eP0⟩:∃P0:S,P0=[]:=⟨_,rfl⟩;have lP0:P0.length=0:=by rw[eP0];rfl
 have hw:Wb P0 [ciO x,.typed 81 [.nilp,.nils]]:= .inl ⟨eP0,rfl⟩;have h0:([ciO x,.typed 81 [.nilp,.nils]]:H)[0]? =some (ciO x):=rfl;generalize ([ciO x,.typed 81 [.nilp,.nils]]:H)=h at hw h0 ⊢;refine fM (fun f=>f.t 1= .lp 0 0/\f.t 5= .lp 1 0/\f.t 6=fnP/\f.d=[]/\(∀j,f.k j=true->1<j)) ⟨by simp only[wq.1,seval],by simp only[wq.1,seval],by simp only[wq.1,↓reduceIte],by simp only[wq.1],fun j hj=>by cases hj⟩ ?_;rintro f ⟨t1,t5,t6,hd,hk⟩;refine ai ?_;refine vn ?_;simp only[wq.1,seval,t1,h0];refine aA ?_;refine aC (fun m f h=>∃i:Nat,m+i=x.ins.length/\i<=x.ins.length/\Wb (P0++(x.ins.take i).flatMap F1) h/\h[0]? =some (ciO x)/\f.t 1= .lp 0 0/\f.t 5= .lp 1 0/\f.t 6=fnP/\f.t 25=aN x.ins/\f.t 26=vi x.ins.length/\f.t 27=vi i/\f.d=[]/\(∀j,f.k j=true->1<j)) x.ins.length ⟨0,by omega,by omega,by simpa using hw,h0,by simp only[wq.1,seval,t1],by simp only[wq.1,seval,t5],by simp only[wq.1,seval,t6],by simp only[wq.1,seval],by simp only[wq.1,seval],by simp only[wq.1,↓reduceIte];rfl,by simp only[wq.1,hd],fun j hj=>hk j hj⟩ ?_;clear hw h0 t1 t5 t6 hd hk;rintro m f h ⟨i,hm,hil,hw,h0,t1,t5,t6,ta,tb,tc,hd,hk⟩;have hwi:=aB (show i<maxLen by omega);refine vn ?_;simp only[wq.1,Nat.reduceLT,tb,tc];refine vn ?_;simp only[wq.1,↓reduceIte];refine vcB.mk (fun hlt=> ?_) (fun hlt=> ?_)
 ·have hlt:i<x.ins.length:=by have:=zqs hlt;omega
  have hfl:=Dl F1 x.ins hlt;have hsn:=um F1 x.ins hlt;rw[<-eP1]at hfl;obtain⟨z,ez⟩:∃z,z=x.ins[i]:=⟨_,rfl⟩;have hz:z∈x.ins:=ez▸zqu hlt;rw[<-ez]at hfl hsn;have hgs:=zW hlt .any;rw[<-ez]at hgs;have hF:F1 z=gm [] iK [z]:=rfl;rw[hF]at hfl;simp only[wq.1];refine ai ?_;refine aA ?_;refine vn ?_;simp only[wq.1,↓reduceIte,Nat.reduceEqDiff,Nat.reduceLT,ta,tc,hgs];refine⟨⟨by omega,by omega⟩,?_⟩;refine vm ?_;simp only[wq.1,↓reduceIte,Nat.reduceEqDiff,Nat.reduceLT,Nat.reduceLeDiff,Nat.reduceAdd,reduceCtorEq,Nat.reduceMul,t6];refine⟨⟨rfl,by decide⟩,gG (bW.cons (VLe.refl _) (bW.cons (VLe.refl _) (bW.cons cO (bW.cons (VLe.refl _) bW.nil)))) (HLe.refl _) (nM (ahead:=[]) (word:=iK) (l:=[z]) hw (fun s hs=>by rw[zrc.1 hs];exact nIn z hz) (by simp only[zqa];omega) (by simp) fun v h' p hp hw' hk'=> ?_)⟩;have p0:p 0=false:=by
   cases hc:p 0 with
   |false=>rfl
   |true=>have:=hp 0 hc;omega
  have p1:p 1=false:=by
   cases hc:p 1 with
   |false=>rfl
   |true=>have:=hp 1 hc;omega
  simp only[wq.1,bu,hd];refine vm ?_;simp only[wq.1,seval,tc,hwi];refine .inl ⟨m-1,by omega,i+1,by omega,by omega,by rw[hsn,hF,<-zqc];exact hw',hk' _ h0 hd0,by simp only[wq.1,seval,t1,p0],by simp only[wq.1,seval,t5,p1],by simp only[wq.1,seval,t6,p1],by simp only[wq.1,seval,ta],by simp only[wq.1,seval,tb],by simp only[wq.1,↓reduceIte],by simp only[wq.1,hd],fun j hj=> ?_⟩;have hj:(f.k j||p j)=true:=hj;rcases(Bool.or_eq_true _ _).mp hj with h|h
  ·exact hk j h
  ·exact hp j h
 have hi:i=x.ins.length:=by have:=of_decide_eq_false hlt;omega
 rw[hi,zrx,<-eP1]at hw;simp only[wq.1];show awp _ _ _ _ _ _ _;clear hlt hi hm hil hwi;rw[eP0,List.nil_append]at hw;refine ai ?_;refine vn ?_;simp only[wq.1,seval,t1,h0];refine aA ?_;refine aC (fun m f h=>∃i:Nat,m+i=x.outs.length/\i<=x.outs.length/\Wb (P1++(x.outs.take i).flatMap F2) h/\h[0]? =some (ciO x)/\f.t 1= .lp 0 0/\f.t 5= .lp 1 0/\f.t 6=fnP/\f.t 37=aN x.outs/\f.t 38=vi x.outs.length/\f.t 39=vi i/\f.d=[]/\(∀j,f.k j=true->1<j)) x.outs.length ⟨0,by omega,by omega,by simpa using hw,h0,by simp only[wq.1,seval,t1],by simp only[wq.1,seval,t5],by simp only[wq.1,seval,t6],by simp only[wq.1,seval],by simp only[wq.1,seval],by simp only[wq.1,↓reduceIte];rfl,by simp only[wq.1,hd],fun j hj=>hk j hj⟩ ?_;clear hw h0 t1 t5 t6 hd hk;rintro m f h ⟨i,hm,hil,hw,h0,t1,t5,t6,ta,tb,tc,hd,hk⟩;have hwi:=aB (show i<maxLen by omega);refine vn ?_;simp only[wq.1,Nat.reduceLT,tb,tc];refine vn ?_;simp only[wq.1,↓reduceIte];refine vcB.mk (fun hlt=> ?_) (fun hlt=> ?_)
 ·have hlt:i<x.outs.length:=by have:=zqs hlt;omega
  have hfl:=Dl F2 x.outs hlt;have hsn:=um F2 x.outs hlt;rw[<-eP2]at hfl;obtain⟨z,ez⟩:∃z,z=x.outs[i]:=⟨_,rfl⟩;have hz:z∈x.outs:=ez▸zqu hlt;rw[<-ez]at hfl hsn;have hgs:=zW hlt .any;rw[<-ez]at hgs;have hF:F2 z=gm [] dZ [z]:=rfl;rw[hF]at hfl;simp only[wq.1];refine ai ?_;refine aA ?_;refine vn ?_;simp only[wq.1,↓reduceIte,Nat.reduceEqDiff,Nat.reduceLT,ta,tc,hgs];refine⟨⟨by omega,by omega⟩,?_⟩;refine vm ?_;simp only[wq.1,↓reduceIte,Nat.reduceEqDiff,Nat.reduceLT,Nat.reduceLeDiff,Nat.reduceAdd,reduceCtorEq,Nat.reduceMul,t6];refine⟨⟨rfl,by decide⟩,gG (bW.cons (VLe.refl _) (bW.cons (VLe.refl _) (bW.cons cO (bW.cons (VLe.refl _) bW.nil)))) (HLe.refl _) (nM (ahead:=[]) (word:=dZ) (l:=[z]) hw (fun s hs=>by rw[zrc.1 hs];exact nOut z hz) (by simp only[zqa];omega) (by simp) fun v h' p hp hw' hk'=> ?_)⟩;have p0:p 0=false:=by
   cases hc:p 0 with
   |false=>rfl
   |true=>have:=hp 0 hc;omega
  have p1:p 1=false:=by
   cases hc:p 1 with
   |false=>rfl
   |true=>have:=hp 1 hc;omega
  simp only[wq.1,bu,hd];refine vm ?_;simp only[wq.1,seval,tc,hwi];refine .inl ⟨m-1,by omega,i+1,by omega,by omega,by rw[hsn,hF,<-zqc];exact hw',hk' _ h0 hd0,by simp only[wq.1,seval,t1,p0],by simp only[wq.1,seval,t5,p1],by simp only[wq.1,seval,t6,p1],by simp only[wq.1,seval,ta],by simp only[wq.1,seval,tb],by simp only[wq.1,↓reduceIte],by simp only[wq.1,hd],fun j hj=> ?_⟩;have hj:(f.k j||p j)=true:=hj;rcases(Bool.or_eq_true _ _).mp hj with h|h
  ·exact hk j h
  ·exact hp j h
 have hi:i=x.outs.length:=by have:=of_decide_eq_false hlt;omega
 rw[hi,zrx,<-eP2]at hw;simp only[wq.1];show awp _ _ _ _ _ _ _;clear hlt hi hm hil hwi;refine ai ?_;refine vn ?_;simp only[wq.1,seval,t1,h0];refine aA ?_;refine aC (fun m f h=>∃i:Nat,m+i=x.lat.length/\i<=x.lat.length/\Wb ((P1++P2)++(x.lat.take i).flatMap F3) h/\h[0]? =some (ciO x)/\f.t 1= .lp 0 0/\f.t 5= .lp 1 0/\f.t 6=fnP/\f.t 49=kG x.lat/\f.t 50=vi x.lat.length/\f.t 51=vi i/\f.d=[]/\(∀j,f.k j=true->1<j)) x.lat.length ⟨0,by omega,by omega,by simpa using hw,h0,by simp only[wq.1,seval,t1],by simp only[wq.1,seval,t5],by simp only[wq.1,seval,t6],by simp only[wq.1,seval],by simp only[wq.1,seval],by simp only[wq.1,↓reduceIte];rfl,by simp only[wq.1,hd],fun j hj=>hk j hj⟩ ?_;clear hw h0 t1 t5 t6 hd hk;rintro m f h ⟨i,hm,hil,hw,h0,t1,t5,t6,ta,tb,tc,hd,hk⟩;have hwi:=aB (show i<maxLen by omega);refine vn ?_;simp only[wq.1,Nat.reduceLT,tb,tc];refine vn ?_;simp only[wq.1,↓reduceIte];refine vcB.mk (fun hlt=> ?_) (fun hlt=> ?_)
 ·have hlt:i<x.lat.length:=by have:=zqs hlt;omega
  have hfl:=Dl F3 x.lat hlt;have hsn:=um F3 x.lat hlt;rw[<-eP3]at hfl;obtain⟨z,ez⟩:∃z,z=x.lat[i]:=⟨_,rfl⟩;have hz:z∈x.lat:=ez▸zqu hlt;rw[<-ez]at hfl hsn;have hgs:=GX hlt .any;rw[<-ez]at hgs;obtain⟨B,hB⟩:∃B,B=h.length:=⟨_,rfl⟩;have hgE:∀x:O,(h++[x])[B]? =some x:=fun x=>by rw[hB];simp
  have hgS:∀x y:O,(h++[x]).set B y=h++[y]:=fun x y=>by rw[hB];simp
  simp only[wq.1];refine ai ?_;refine aA ?_;refine vn ?_;simp only[wq.1,↓reduceIte,Nat.reduceEqDiff,Nat.reduceLT,Nat.reduceAdd,ta,tc,hgs,<-hB,hgE,hgS];refine⟨⟨by omega,by omega⟩,?_⟩;have hzn:=nLat z hz;have hsv:uo z.name=aO z.name:=by unfold uo;rw[if_pos hzn.1]
  have hspE:Ev TE 41 [.is true 1 [.str z.name]] (aN [aO z.name]):=by rw[<-hsv];exact Ev.le (bW.cons cO bW.nil) (rG [z.name] (by simp))
  have hin:=hn.lat z hz;unfold oP at hin;simp only[zqf,zqb]at hin;have hln:z.init.toNat<bM.length:=by show _<3;omega
  have hgl:(bM.map V.str).getD (z.init.toNat*1) .any= .str (bM.getD z.init.toNat []):=by rw[Nat.mul_one,fP hln,zqg,zqk hln];rfl
  have hF:F3 z=gm (aO z.name++[32,61,32]) (bM.getD z.init.toNat []) [z.next]:=rfl;rw[hF]at hfl;have hcl:(aO z.name).length+3<=(gm (aO z.name++[32,61,32]) (bM.getD z.init.toNat []) [z.next]).length:=by unfold gm;simp only[zqa,zrt,List.length_nil];omega
  have gsp:(List.map V.str [aO z.name]).getD 0 .any= .str (aO z.name):=rfl;have hwB:=hw.app [O.cells [V.str z.name,V.str z.next,vi z.init]];have h0B:(h++[O.cells [V.str z.name,V.str z.next,vi z.init]])[0]? =some (ciO x):=by rw[zqj (zqe h0).1];exact h0
  have hBg:=hgE (O.cells [V.str z.name,V.str z.next,vi z.init]);obtain⟨hB',ehB⟩:∃hB',hB'=h++[O.cells [V.str z.name,V.str z.next,vi z.init]]:=⟨_,rfl⟩;rw[<-ehB]at hwB h0B hBg ⊢;refine kN mixed (by decide +kernel) ?_;simp only[nts,List.size_toArray,zrt,List.length_nil,Nat.reduceAdd,Nat.reduceSub,List.take_succ_cons,List.take_zero];simp only[wq.1,↓reduceIte,Nat.reduceEqDiff,Nat.reduceLT,Nat.reduceLeDiff,Nat.reduceAdd,Nat.reduceSub,Int.reduceToNat,Nat.reduceDiv,Int.reduceLT,Int.reduceLE,Int.reduceNeg,Int.reduceBEq,Int.reduceBNe,Int.reduceAdd,Int.reduceSub,Nat.reduceBEq,reduceCtorEq,Nat.reduceMul,au,Tryz.results13,bC,bI,t6,hd,hBg];refine⟨⟨rfl,by decide⟩,uw.mk hspE rfl rfl ?_⟩;simp only[wq.1,↓reduceIte,Nat.reduceEqDiff,Nat.reduceLT,Nat.reduceLeDiff,Nat.reduceAdd,Nat.reduceSub,Int.reduceToNat,Nat.reduceDiv,Int.reduceLT,Int.reduceLE,Int.reduceNeg,Int.reduceBEq,Int.reduceBNe,Int.reduceAdd,Int.reduceSub,Nat.reduceBEq,reduceCtorEq,Nat.reduceMul,au,Tryz.results13,bC,bI,t6,hd,hBg,GG,iQ,gl6,hgl,gsp];refine⟨by omega,by omega,⟨by omega,by omega,by omega⟩,⟨rfl,by decide⟩,gG (bW.cons (VLe.refl _) (bW.cons (VLe.refl _) (bW.cons cO (bW.cons (VLe.refl _) bW.nil)))) (HLe.refl _)<|nM (ahead:=aO z.name++[32,61,32]) (word:=bM.getD z.init.toNat []) (l:=[z.next]) hwB (fun s hs=>by rw[zrc.1 hs];exact hzn.2) (by simp only[zqa]at hfl ⊢;omega) (by simp) (fun v h' p hp hw' hk'=> ?_)⟩;have p0:p 0=false:=by
   cases hc:p 0 with
   |false=>rfl
   |true=>have:=hp 0 hc;omega
  have p1:p 1=false:=by
   cases hc:p 1 with
   |false=>rfl
   |true=>have:=hp 1 hc;omega
  simp only[wq.1,bu,hd];refine vm ?_;simp only[wq.1,seval,tc,hwi];refine .inl ⟨m-1,by omega,i+1,by omega,by omega,by rw[hsn,hF,<-zqc];exact hw',hk' _ h0B hd0,by simp only[wq.1,seval,t1,p0],by simp only[wq.1,seval,t5,p1],by simp only[wq.1,seval,t6,p1],by simp only[wq.1,seval,ta],by simp only[wq.1,seval,tb],by simp only[wq.1,↓reduceIte],by simp only[wq.1,hd],fun j hj=> ?_⟩;have hj:(f.k j||p j)=true:=hj;rcases(Bool.or_eq_true _ _).mp hj with h|h
  ·exact hk j h
  ·exact hp j h
 have hi:i=x.lat.length:=by have:=of_decide_eq_false hlt;omega
 rw[hi,zrx,<-eP3]at hw;simp only[wq.1];show awp _ _ _ _ _ _ _;clear hlt hi hm hil hwi;refine ai ?_;refine vn ?_;simp only[wq.1,seval,t1,h0];refine aA ?_;refine aC (fun m f h=>∃i:Nat,m+i=x.gates.length/\i<=x.gates.length/\Wb ((P1++P2++P3)++(x.gates.take i).flatMap F4) h/\h[0]? =some (ciO x)/\f.t 1= .lp 0 0/\f.t 5= .lp 1 0/\f.t 6=fnP/\f.t 73=iG x.gates/\f.t 74=vi x.gates.length/\f.t 75=vi i/\f.d=[]/\(∀j,f.k j=true->1<j)) x.gates.length ⟨0,by omega,by omega,by simpa using hw,h0,by simp only[wq.1,seval,t1],by simp only[wq.1,seval,t5],by simp only[wq.1,seval,t6],by simp only[wq.1,seval],by simp only[wq.1,seval],by simp only[wq.1,↓reduceIte];rfl,by simp only[wq.1,hd],fun j hj=>hk j hj⟩ ?_;clear hw h0 t1 t5 t6 hd hk;rintro m f h ⟨i,hm,hil,hw,h0,t1,t5,t6,ta,tb,tc,hd,hk⟩;have hwi:=aB (show i<maxLen by omega);refine vn ?_;simp only[wq.1,Nat.reduceLT,tb,tc];refine vn ?_;simp only[wq.1,↓reduceIte];refine vcB.mk (fun hlt=> ?_) (fun hlt=> ?_)
 ·have hlt:i<x.gates.length:=by have:=zqs hlt;omega
  have hfl:=Dl F4 x.gates hlt;have hsn:=um F4 x.gates hlt;rw[<-eP4]at hfl;obtain⟨z,ez⟩:∃z,z=x.gates[i]:=⟨_,rfl⟩;have hz:z∈x.gates:=ez▸zqu hlt;rw[<-ez]at hfl hsn;have hgs:=sZ hlt .any;rw[<-ez]at hgs;obtain⟨B,hB⟩:∃B,B=h.length:=⟨_,rfl⟩;have hgE:∀x:O,(h++[x])[B]? =some x:=fun x=>by rw[hB];simp
  have hgS:∀x y:O,(h++[x]).set B y=h++[y]:=fun x y=>by rw[hB];simp
  simp only[wq.1];refine ai ?_;refine aA ?_;refine vn ?_;simp only[wq.1,↓reduceIte,Nat.reduceEqDiff,Nat.reduceLT,Nat.reduceAdd,ta,tc,hgs,<-hB,hgE,hgS];refine⟨⟨by omega,by omega⟩,?_⟩;have hzn:=nGa z hz;have hsv:uo z.name=aO z.name:=by unfold uo;rw[if_pos hzn.1]
  have hspE:Ev TE 41 [.is true 1 [.str z.name]] (aN [aO z.name]):=by rw[<-hsv];exact Ev.le (bW.cons cO bW.nil) (rG [z.name] (by simp))
  obtain⟨kk,hkk⟩:=Vw (hpl z hz);have hkl:=kk.2;have hln:z.op.toNat<dL.length:=by show _<10;omega
  have hgl:(dL.map V.str).getD (z.op.toNat*1) .any= .str (dL.getD z.op.toNat []):=by rw[Nat.mul_one,fP hln,zqg,zqk hln];rfl
  have hgi:=hlc.gins z hz;have hF:F4 z=gm (aO z.name++[32,61,32]) (dL.getD z.op.toNat []) z.ins:=rfl;rw[hF]at hfl;have hcl:(aO z.name).length+3<=(gm (aO z.name++[32,61,32]) (dL.getD z.op.toNat []) z.ins).length:=by unfold gm;simp only[zqa,zrt,List.length_nil];omega
  have gsp:(List.map V.str [aO z.name]).getD 0 .any= .str (aO z.name):=rfl;have hwB:=hw.app [O.cells [V.str z.name,vi z.op,aN z.ins,aN z.rows,.bool z.off]];have h0B:(h++[O.cells [V.str z.name,vi z.op,aN z.ins,aN z.rows,.bool z.off]])[0]? =some (ciO x):=by rw[zqj (zqe h0).1];exact h0
  have hBg:=hgE (O.cells [V.str z.name,vi z.op,aN z.ins,aN z.rows,.bool z.off]);obtain⟨hB',ehB⟩:∃hB',hB'=h++[O.cells [V.str z.name,vi z.op,aN z.ins,aN z.rows,.bool z.off]]:=⟨_,rfl⟩;rw[<-ehB]at hwB h0B hBg ⊢;refine kN mixed (by decide +kernel) ?_;simp only[nts,List.size_toArray,zrt,List.length_nil,Nat.reduceAdd,Nat.reduceSub,List.take_succ_cons,List.take_zero];simp only[wq.1,↓reduceIte,Nat.reduceEqDiff,Nat.reduceLT,Nat.reduceLeDiff,Nat.reduceAdd,Nat.reduceSub,Int.reduceToNat,Nat.reduceDiv,Int.reduceLT,Int.reduceLE,Int.reduceNeg,Int.reduceBEq,Int.reduceBNe,Int.reduceAdd,Int.reduceSub,Nat.reduceBEq,reduceCtorEq,Nat.reduceMul,au,Tryz.results13,bC,bI,t6,hd,hBg];refine⟨⟨rfl,by decide⟩,uw.mk hspE rfl rfl ?_⟩;simp only[wq.1,↓reduceIte,Nat.reduceEqDiff,Nat.reduceLT,Nat.reduceLeDiff,Nat.reduceAdd,Nat.reduceSub,Int.reduceToNat,Nat.reduceDiv,Int.reduceLT,Int.reduceLE,Int.reduceNeg,Int.reduceBEq,Int.reduceBNe,Int.reduceAdd,Int.reduceSub,Nat.reduceBEq,reduceCtorEq,Nat.reduceMul,au,Tryz.results13,bC,bI,t6,hd,hBg,GG,iQ,gl5,hgl,gsp];refine⟨by omega,by omega,⟨by omega,by omega,by omega⟩,nM (ahead:=aO z.name++[32,61,32]) (word:=dL.getD z.op.toNat []) (l:=z.ins) hwB hzn.2 (by simp only[zqa]at hfl ⊢;omega) (by omega) (fun v h' p hp hw' hk'=> ?_)⟩;have p0:p 0=false:=by
   cases hc:p 0 with
   |false=>rfl
   |true=>have:=hp 0 hc;omega
  have p1:p 1=false:=by
   cases hc:p 1 with
   |false=>rfl
   |true=>have:=hp 1 hc;omega
  simp only[wq.1,bu,hd];refine vm ?_;simp only[wq.1,seval,tc,hwi];refine .inl ⟨m-1,by omega,i+1,by omega,by omega,by rw[hsn,hF,<-zqc];exact hw',hk' _ h0B hd0,by simp only[wq.1,seval,t1,p0],by simp only[wq.1,seval,t5,p1],by simp only[wq.1,seval,t6,p1],by simp only[wq.1,seval,ta],by simp only[wq.1,seval,tb],by simp only[wq.1,↓reduceIte],by simp only[wq.1,hd],fun j hj=> ?_⟩;have hj:(f.k j||p j)=true:=hj;rcases(Bool.or_eq_true _ _).mp hj with h|h
  ·exact hk j h
  ·exact hp j h
 have hi:i=x.gates.length:=by have:=of_decide_eq_false hlt;omega
 rw[hi,zrx,<-eP4]at hw;simp only[wq.1];show awp _ _ _ _ _ _ _;clear hlt hi hm hil hwi;refine vn ?_;simp only[wq.1,seval,t5];refine KU hw (by simp only[zqa];omega) fun h' p=> ?_;simp only[wq.1,seval,bu,hd];refine vm ?_;simp only[wq.1,seval,hd];exact aG.dat rfl
theorem KW{P:Program}{w:World}{e:TypeId}(he:P.underlying e=some .string)(n:Nat)(a b:ByteArray):(Op.equalIn (n+1) e (.string a) (.string b)).run P w= .ok (a==b) w:=by rw[Op.equalIn];simp[run_underlying he,Result.andThen]
theorem KX{P:Program}{w:World}{e:TypeId}{k:IntKind}(he:P.underlying e=some (.int k))(n:Nat)(a b:Int):(Op.equalIn (n+1) e (.int k a) (.int k b)).run P w= .ok (a==b) w:=by rw[Op.equalIn];simp[run_underlying he,Result.andThen]
theorem XC:LH P 56:=by
 refine⟨by kernel_rfl,fun w a b c d m n=> ?_⟩;have p0:∀(x y z:Value),(part 9 #[x,y,z] 0).run P w= .ok x w:=fun x y z=>run_part_plain w (by simp[Program.plainKey,Tryz.underlying9]) (by simp);have p1:∀(x y z:Value),(part 9 #[x,y,z] 1).run P w= .ok y w:=fun x y z=>run_part_plain w (by simp[Program.plainKey,Tryz.underlying9]) (by simp);have p2:∀(x y z:Value),(part 3 #[x,y,z] 2).run P w= .ok z w:=fun x y z=>run_part_plain w (by simp[Program.plainKey,Tryz.underlying3]) (by simp);have hso:P.stoodInHeld 56=false:=by kernel_rfl
 show(Op.equalIn 10000 56 (.agg #[.string a,.string c,.int .i64 m]) (.agg #[.string b,.string d,.int .i64 n])).run P w= .ok (a==b&&c==d&&m==n) w;rw[Op.equalIn];have e1:=KW (P:=P) (w:=w) Tryz.underlying9 9998;have e2:=KX (P:=P) (w:=w) Tryz.underlying3 9998;simp only[Sem.run_bind,run_underlying Tryz.underlying56,Result.andThen];cases h1:(a==b)<;>cases h2:(c==d)<;>cases h3:(m==n)<;>simp[hso,p0,p1,p2,e1,e2,Sem.run_bind,Result.andThen,h1,h2,h3]
theorem Tj{c:List La}{r:List V}(hb:V.bnds (kG c::r)):c.length<=maxLen:=by simp only[V.bnds,V.bnd,zra]at hb;exact hb.1.1
theorem VT[MO](c:List La):Ev TE 55 [kG c,kG c] (.bool true):=by
 have hM:=mLx;refine Ev.bnd fun hb=> ?_;have hlen:=Tj hb;refine ak Tryz.func55 rfl (by simp[nts]) (vm ?_);have e1:(((c.length:Int) != (c.length:Int)))=false:=by simp
 simp only[wq.1,seval,Tryz.results55,e1];refine aC (fun m f h=>∃i,m+i=c.length/\f.t 0=kG c/\f.t 1=kG c/\f.t 12=vi c.length/\f.t 13=vi i/\f.d=[]) c.length ⟨0,by simp,rfl,rfl,rfl,rfl,rfl⟩ ?_;rintro m f h ⟨i,hm,h0,h1,h12,h13,hdd⟩;refine vm ?_;simp only[wq.1,seval,h12,h13];refine vcB.mk (fun hc=> ?_) (fun hc=> ?_)
 ·simp only[zqb,zqi]at hc;have ha:=GX hc .any;simp only[wq.1,seval,h0,h1,h13,ha,vX,LJ];refine⟨by decide +kernel,⟨by omega,by omega⟩,⟨by omega,by omega⟩,XC,?_⟩;simp only[wq.1,aB (show i<maxLen by omega)];exact .inl ⟨m-1,by omega,i+1,by omega,h0,h1,h12,rfl,hdd⟩
 ·simp only[wq.1,seval,hdd];exact aG.dat rfl
theorem qo(a:List S):V.dats [aN a,aN a]=true:=by simp only[V.dats,V.dat,ax,zre]
theorem Tm[MO](g:Ga):Ev TE 57 [g.v,g.v] (.bool true):=by have h1:=wO g.ins g.ins;have h2:=wO g.rows g.rows;rw[beq_self_eq_true]at h1 h2;refine ak Tryz.func57 rfl (by simp[nts]) (vm ?_);simp only[wq.1,seval,Tryz.results57];refine ag.ev h1 (qo _) ?_;simp only[wq.1,seval];refine ag.ev h2 (qo _) ?_;simp only[wq.1,seval];exact aG.dat rfl
theorem Tn(g:Ga):V.dats [g.v,g.v]=true:=by simp only[V.dats,V.dat,ax,zre]
theorem XD[MO](l:List Ga):Ev TE 56 [iG l,iG l,.fn (.func 57) [] []] (.bool true):=by
 have hM:=mLx;refine Ev.bnd fun hb=> ?_;have hlen:=IR hb;refine ak Tryz.func56 rfl (by simp[nts]) (vm ?_);have e1:(((l.length:Int) != (l.length:Int)))=false:=by simp
 simp only[wq.1,seval,Tryz.results56,e1];refine aC (fun m f h=>∃i,m+i=l.length/\f.t 0=iG l/\f.t 1=iG l/\f.t 2= .fn (.func 57) [] []/\f.t 15=iG l/\f.t 16=vi l.length/\f.t 17=vi i/\f.d=[]) l.length ⟨0,by simp,rfl,rfl,rfl,rfl,rfl,rfl,rfl⟩ ?_;rintro m f h ⟨i,hm,h0,h1,h2,h15,h16,h17,hdd⟩;refine vm ?_;simp only[wq.1,seval,h16,h17];refine vcB.mk (fun hc=> ?_) (fun hc=> ?_)
 ·simp only[zqb,zqi]at hc;have ha:=sZ hc .any;have hev:=Tm l[i];have hgE:∀x:O,(h++[x])[h.length]? =some x:=fun x=>by simp
  have hgS:∀x y:O,(h++[x]).set h.length y=h++[y]:=fun x y=>by simp
  have hgE2:∀x y:O,(h++[x]++[y])[h.length]? =some x:=fun x y=>by simp
  have hgE3:∀x y:O,(h++[x]++[y])[h.length+1]? =some y:=fun x y=>by simp
  have hgS3:∀x y z:O,(h++[x]++[y]).set (h.length+1) z=h++[x]++[z]:=fun x y z=>by simp
  have hgL:∀x:O,(h++[x]).length=h.length+1:=fun x=>by simp
  simp only[wq.1,seval,h1,h2,h15,h17,ha,hgE,hgS,hgE2,hgE3,hgS3];refine⟨⟨by omega,by omega⟩,⟨by omega,by omega⟩,ag.ev hev (Tn _) ?_⟩;simp only[wq.1,seval,h17,aB (show i<maxLen by omega)];exact .inl ⟨m-1,by omega,i+1,by omega,h0,h1,h2,h15,h16,rfl,hdd⟩
 ·simp only[wq.1,seval,hdd];exact aG.dat rfl
theorem Tq[MO](c:Ci):Ev TE 17 [c.v,c.v] (.bool true):=by have h1:=wO c.ins c.ins;have h2:=wO c.outs c.outs;have h3:=VT c.lat;have h4:=XD c.gates;rw[beq_self_eq_true]at h1 h2;refine ak Tryz.func17 rfl (by simp[nts]) (vm ?_);simp only[wq.1,seval,Tryz.results17];refine ag.ev h1 (qo _) ?_;simp only[wq.1,seval];refine ag.ev h2 (qo _) ?_;simp only[wq.1,seval];refine ag.ev h3 (by simp only[V.dats,V.dat,lD,zre]) ?_;simp only[wq.1,seval];refine ag.ev h4 (by simp only[V.dats,V.dat,lC,zre]) ?_;simp only[wq.1,seval];exact aG.dat rfl
def F5(g:Ga):Bool:=Qa 12 g.ins&&Qa 140 g.rows&&decide (g.name.length<=60)
theorem KY[MO](g:Ga):Ev TE 115 [g.v] (.bool (F5 g)):=by have h1:=sK g.ins 12;have h2:=sK g.rows 140;have e:decide ((g.name.length:Int)<=60)=decide (g.name.length<=60):=decide_eq_decide.2 (by omega);refine ak Tryz.func115 rfl (by simp[nts]) (vm ?_);simp only[wq.1,seval,Tryz.results115];refine ag.ev h1 (by simp only[V.dats,V.dat,ax,zre]) ?_;simp only[wq.1,seval];refine ag.ev h2 (by simp only[V.dats,V.dat,ax,zre]) ?_;simp only[wq.1,seval,e];exact aG.dat rfl
def Dn(q:La):Bool:=decide (q.name.length<=60)&&decide (q.next.length<=60)
def F6(c:Ci):Bool:=Qa 210 c.ins&&Qa 210 c.outs&&decide (c.gates.length<=210)&&decide (c.lat.length<=210)
def zI(c:Ci):Bool:=c.gates.all F5&&(c.lat.all Dn&&F6 c)
def Dp(c:Ci):Bool:=zI c&&decide (c.gates.length<=24)&&decide (c.ins.length<=24)&&decide (c.lat.length<=24)
theorem VU{c:Ci}(h1:c.gates.all F5=true\/210<c.gates.length)(h2:c.lat.all Dn=true\/210<c.lat.length):zI c=F6 c:=by
 unfold zI;rcases h1 with h1|h1
 ·rw[h1,Bool.true_and];rcases h2 with h2|h2
  ·rw[h2,Bool.true_and]
  ·have:F6 c=false:=by unfold F6;rw[decide_eq_false (show ¬c.lat.length<=210 by omega),Bool.and_false]
   rw[this,Bool.and_false]
 ·have:F6 c=false:=by unfold F6;rw[decide_eq_false (show ¬c.gates.length<=210 by omega),Bool.and_false,Bool.false_and]
  rw[this,Bool.and_false,Bool.and_false]
theorem Tt{c:Ci}{i:Nat}(h:i<c.gates.length)(hb:F5 c.gates[i]=false):zI c=false:=by
 have:c.gates.all F5=false:=by rw[Bool.eq_false_iff];intro e;rw[zrs.1 e _ (zqu h)]at hb;cases hb
 unfold zI;rw[this,Bool.false_and]
theorem Tu{c:Ci}{i:Nat}(h:i<c.lat.length)(hb:Dn c.lat[i]=false):zI c=false:=by
 have:c.lat.all Dn=false:=by rw[Bool.eq_false_iff];intro e;rw[zrs.1 e _ (zqu h)]at hb;cases hb
 unfold zI;rw[this,Bool.false_and,Bool.and_false]
theorem Jy{α:Type}{l:List α}{p:α->Bool}{i:Nat}(h:∀x∈l.take i,p x=true)(hi:i=l.length\/210<i/\i<=l.length):l.all p=true\/210<l.length:=by
 rcases hi with hi|⟨h1,h2⟩
 ·rw[hi,zrx]at h;exact .inl (zrs.2 h)
 ·exact .inr (by omega)
theorem Tv[MO](c:Ci):Ev TE 64 [c.v] (.bool (zI c)):=by
 have hM:=mLx;refine Ev.bnd fun hb=> ?_;have hlg:c.gates.length<=maxLen/\c.lat.length<=maxLen:=by simp only[V.bnds,V.bnd,zra]at hb;exact⟨hb.1.2.2.2.1.1,hb.1.2.2.1.1⟩
 have h1:=sK c.ins 210;have h2:=sK c.outs 210;have q1:decide ((c.gates.length:Int)<=210)=decide (c.gates.length<=210):=decide_eq_decide.2 (by omega);have q2:decide ((c.lat.length:Int)<=210)=decide (c.lat.length<=210):=decide_eq_decide.2 (by omega);obtain⟨B,hB⟩:∃B:H,B=[.cells [aN c.ins,aN c.outs,kG c.lat,iG c.gates]]:=⟨_,rfl⟩;refine ak Tryz.func64 rfl (by simp[nts]) ?_;refine vn ?_;simp only[wq.1,Nat.reduceLT,Tryz.results64];refine ai (aX (Q:=fun xe f h=>(xe= .normal/\(c.gates.all F5=true\/210<c.gates.length)/\f.t 1= .lp 0 0/\f.d=[]/\h=[.cells [aN c.ins,aN c.outs,kG c.lat,iG c.gates]])\/(xe= .ret/\zI c=false/\f.t 2= .bool false/\f.d=[])) ?_ ?_)
 ·rintro xe f h (⟨rfl,hg,t1,hd,rfl⟩|⟨rfl,hf,t2,hd⟩)
  ·show awp _ _ _ _ _ _ _;refine ai (aX (Q:=fun xe f h=>(xe= .normal/\(c.lat.all Dn=true\/210<c.lat.length)/\f.t 1= .lp 0 0/\f.d=[]/\h=[.cells [aN c.ins,aN c.outs,kG c.lat,iG c.gates]])\/(xe= .ret/\zI c=false/\f.t 2= .bool false/\f.d=[])) ?_ ?_)
   ·rintro xe f h (⟨rfl,hl,t1,hd,rfl⟩|⟨rfl,hf,t2,hd⟩)
    ·show awp _ _ _ _ _ _ _;have e:=VU hg hl;refine vn ?_;simp only[wq.1,seval,t1];refine ag.ev h1 (by simp only[V.dats,V.dat,ax,zre]) ?_;simp only[wq.1,seval];refine vn ?_;simp only[wq.1,seval,t1];refine ag.ev h2 (by simp only[V.dats,V.dat,ax,zre]) ?_;simp only[wq.1,seval];refine vn ?_;simp only[wq.1,seval,t1,e];refine vm ?_;simp only[wq.1,↓reduceIte,q1,q2,hd];show aG TE _ (V.bool (F6 c)) (V.bool (F6 c));exact aG.dat rfl
    ·simp only[wq.1,t2,hd,hf];exact aG.dat rfl
   ·refine vn ?_;simp only[wq.1,Nat.reduceLT];refine aA ?_;refine aC (fun m f h=>∃i:Nat,m+i=c.lat.length/\i<=211/\(∀x∈c.lat.take i,Dn x=true)/\f.t 1= .lp 0 0/\f.t 5=vi i/\f.d=[]/\h=[.cells [aN c.ins,aN c.outs,kG c.lat,iG c.gates]]) c.lat.length ⟨0,by omega,by omega,(fun x hx=>by simp at hx),by simp only[wq.1,seval,t1],by simp only[wq.1,↓reduceIte];rfl,by simp only[wq.1,hd],rfl⟩ ?_;rintro m f h ⟨i,hm,hil,hall,t1,t5,hd,rfl⟩;refine vn ?_;simp only[wq.1,seval,t1,t5];refine vcB.mk (fun hc=> ?_) (fun hc=> ?_)
    ·rw[zqf,zqb,zqb]at hc;obtain⟨hc1,hc2⟩:i<c.lat.length/\i<=210:=by omega
     have ha:=GX hc1 .any;have hw:=aB (show i<maxLen by omega);have qa:decide (60<(c.lat[i].name.length:Int))= !decide (c.lat[i].name.length<=60):=by
      by_cases hh:c.lat[i].name.length<=60
      ·rw[decide_eq_true hh,decide_eq_false (by omega)];rfl
      ·rw[decide_eq_false hh,decide_eq_true (by omega)];rfl
     have qb:decide (60<(c.lat[i].next.length:Int))= !decide (c.lat[i].next.length<=60):=by
      by_cases hh:c.lat[i].next.length<=60
      ·rw[decide_eq_true hh,decide_eq_false (by omega)];rfl
      ·rw[decide_eq_false hh,decide_eq_true (by omega)];rfl
     simp only[wq.1];refine ai (aA ?_);refine vn ?_;simp only[wq.1,seval,t1,t5,ha];refine⟨⟨by omega,by omega⟩,fun h=>⟨h,by omega,by omega⟩,?_⟩;refine vm ?_;simp only[wq.1,↓reduceIte,qa,qb];cases hfw:Dn c.lat[i]with
     |false=>unfold Dn at hfw;rw[<-Bool.not_and,hfw];simp only[wq.1,seval,hd];exact .inr (Tu hc1 hfw)
     |true =>
      have hfw2:=hfw;unfold Dn at hfw2;rw[<-Bool.not_and,hfw2];simp only[wq.1];refine vm ?_;simp only[wq.1,seval,t5,hw];refine .inl ⟨m-1,by omega,i+1,by omega,by omega,?_,t1,rfl,hd,rfl⟩;rw[zrg,zqk hc1];intro x hx;rcases zrf.1 hx with hx|hx
      ·exact hall x hx
      ·obtain rfl:=zrc.1 (by simpa using hx);exact hfw
    ·have hi:i=c.lat.length\/210<i/\i<=c.lat.length:=by rw[Bool.and_eq_false_iff,zqd,zqd]at hc;omega
     simp only[wq.1,seval,t1,hd];exact .inl (Jy hall hi)
  ·simp only[wq.1,t2,hd,hf];exact aG.dat rfl
 ·refine vn ?_;simp only[wq.1,Nat.reduceLT];refine aA ?_;refine aC (fun m f h=>∃i:Nat,m+i=c.gates.length/\i<=211/\(∀x∈c.gates.take i,F5 x=true)/\f.t 1= .lp 0 0/\f.t 3=vi i/\f.d=[]/\h=[.cells [aN c.ins,aN c.outs,kG c.lat,iG c.gates]]) c.gates.length ⟨0,by omega,by omega,(fun x hx=>by simp at hx),by simp only[wq.1,seval],by simp only[wq.1,↓reduceIte];rfl,by simp only[wq.1],rfl⟩ ?_;rintro m f h ⟨i,hm,hil,hall,t1,t3,hd,rfl⟩;refine vn ?_;simp only[wq.1,seval,t1,t3];refine vcB.mk (fun hc=> ?_) (fun hc=> ?_)
  ·rw[zqf,zqb,zqb]at hc;obtain⟨hc1,hc2⟩:i<c.gates.length/\i<=210:=by omega
   have ha:=sZ hc1 .any;have hev:=KY c.gates[i];have hw:=aB (show i<maxLen by omega);simp only[wq.1];refine ai (aA ?_);refine vn ?_;simp only[wq.1,seval,t1,t3,ha];refine⟨⟨by omega,by omega⟩,ag.ev hev (by simp only[V.dats,V.dat,ax,zre]) ?_⟩;simp only[wq.1,seval];refine vn ?_;simp only[wq.1,seval];cases hfw:F5 c.gates[i]with
   |false=>refine vm ?_;simp only[wq.1,seval,hd];exact .inr (Tt hc1 hfw)
   |true =>
    refine vm ?_;simp only[wq.1,↓reduceIte];refine vm ?_;simp only[wq.1,seval,t3,hw];refine .inl ⟨m-1,by omega,i+1,by omega,by omega,?_,t1,rfl,hd,rfl⟩;rw[zrg,zqk hc1];intro x hx;rcases zrf.1 hx with hx|hx
    ·exact hall x hx
    ·obtain rfl:=zrc.1 (by simpa using hx);exact hfw
  ·have hi:i=c.gates.length\/210<i/\i<=c.gates.length:=by rw[Bool.and_eq_false_iff,zqd,zqd]at hc;omega
   simp only[wq.1,seval,t1,hd];exact .inl (Jy hall hi)
theorem PU[MO](c:Ci):Ev TE 23 [c.v] (.bool (Dp c)):=by have e:=Tv c;have q1:decide ((c.gates.length:Int)<=24)=decide (c.gates.length<=24):=decide_eq_decide.2 (by omega);have q2:decide ((c.ins.length:Int)<=24)=decide (c.ins.length<=24):=decide_eq_decide.2 (by omega);have q3:decide ((c.lat.length:Int)<=24)=decide (c.lat.length<=24):=decide_eq_decide.2 (by omega);refine ak Tryz.func23 rfl (by simp[nts]) ?_;refine vn ?_;simp only[wq.1,Nat.reduceLT,Tryz.results23];refine vn ?_;simp only[wq.1,seval];refine ag.ev e (by simp only[V.dats,V.dat,ax,lD,lC,zre]) ?_;simp only[wq.1,seval];refine vn ?_;simp only[wq.1,seval];refine vm ?_;simp only[wq.1,↓reduceIte,q1,q2,q3];exact aG.dat rfl
def F7(l:List Ga):Int:=l.foldl (fun a g=>IntKind.i64.wrap (a+g.rows.length)) 0
def Ib(c:Ci):Bool:=Dp c&&decide (F7 c.gates<=40)&&decide (c.gates.length<=16)
theorem KZ(l:List Ga)(g:Ga):F7 (l++[g])=IntKind.i64.wrap (F7 l+g.rows.length):=by unfold F7;rw[List.foldl_append];rfl
theorem PX[MO](c:Ci)(hs:Sum c):Ev TE 12 [c.v] (.bool (Ib c)):=by
 have hM:=mLx;have hL:=PU c;have hgl:c.gates.length<=9000000000000000000:=by unfold Sum at hs;omega
 unfold Ib;obtain⟨lt,elt⟩:∃lt,lt=Dp c:=⟨_,rfl⟩;rw[<-elt]at hL ⊢;refine ak Tryz.func12 rfl (by simp[nts]) ?_;refine vn ?_;simp only[wq.1,Nat.reduceLT,Tryz.results12];refine vn ?_;simp only[wq.1,seval];refine ag.ev hL (iW c) ?_;simp only[wq.1,seval];refine vn ?_;simp only[wq.1,Nat.reduceLT];refine ai ?_;refine vn ?_;simp only[wq.1,Nat.reduceLT];refine aA ?_;refine aC (fun m f h=>∃i:Nat,m+i=c.gates.length/\i<=c.gates.length/\h[0]? =some (.cells [aN c.ins,aN c.outs,kG c.lat,iG c.gates])/\f.t 1= .lp 0 0/\f.t 3= .bool lt/\f.t 4= .int .i64 (F7 (c.gates.take i))/\f.t 5=vi i/\f.d=[]) c.gates.length ⟨0,by omega,by omega,rfl,by simp only[wq.1,seval],by simp only[wq.1,seval],by simp only[wq.1,seval];rfl,by simp only[wq.1,↓reduceIte];rfl,by simp only[wq.1]⟩ ?_;rintro m f h ⟨i,hm,hil,h0,t1,t3,t4,t5,hd⟩;have hw:=aB (show i<maxLen by omega);refine ai ?_;refine vn ?_;simp only[wq.1,seval,t1,t5,h0];refine bF (b:=decide ((i:Int)<(c.gates.length:Int))) (by simp only[wq.1,↓reduceIte]) (by simp only[wq.1,↓reduceIte]) (fun hlt=> ?_) (fun hlt=> ?_)
 ·have hlt:i<c.gates.length:=by have:=zqs hlt;omega
  obtain⟨g,eg⟩:∃g,g=c.gates[i]:=⟨_,rfl⟩;have hgg:=sZ hlt .any;rw[<-eg]at hgg;have hsn:F7 (c.gates.take (i+1))=IntKind.i64.wrap (F7 (c.gates.take i)+g.rows.length):=by rw[List.take_succ_eq_append_getElem hlt,KZ,eg]
  refine vm ?_;simp only[wq.1];show awp _ _ _ _ _ _ _;refine ai ?_;refine aA ?_;refine vm ?_;simp only[wq.1,seval,t1,t4,t5,h0,hgg];refine⟨⟨by omega,by omega⟩,?_⟩;refine vm ?_;simp only[wq.1,seval,t5,hw];exact .inl ⟨m-1,by omega,i+1,by omega,by omega,h0,by simp only[wq.1,seval,t1],by simp only[wq.1,seval,t3],by simp only[wq.1,seval,hsn],by simp only[wq.1,↓reduceIte],by simp only[wq.1,hd]⟩
 ·have hi:i=c.gates.length:=by have:=of_decide_eq_false hlt;omega
  rw[hi,zrx]at t4;refine vm ?_;simp only[wq.1];show awp _ _ _ _ _ _ _;have e16:decide ((c.gates.length:Int)<=16)=decide (c.gates.length<=16):=decide_eq_decide.2 (by omega);obtain⟨b40,e40⟩:∃b,b=decide (F7 c.gates<=40):=⟨_,rfl⟩;obtain⟨b16,eb16⟩:∃b,b=decide (c.gates.length<=16):=⟨_,rfl⟩;rw[<-eb16]at e16;rw[<-e40,<-eb16];clear hlt;cases lt<;>cases b40<;>cases b16<;>(refine vn ?_)<;>simp only[wq.1,seval,t1,t3,t4,h0,<-e40,e16]<;>(refine vm ?_)<;>simp only[wq.1,↓reduceIte,hd]<;>exact aG.dat rfl
def nT1:S:=[73,78,80,85,84,40,97,41,10,73,78,80,85,84,40,98,41,10,79,85,84,80,85,84,40,122,41,10,122,32,61,32,65,78,68,40,97,44,32,98,41,32,35,32,97,110,100,10,113,32,61,32,68,70,70,49,40,122,41,10]
def nT2:S:=[122,32,61,32,77,85,88,40,97,41,10]
def nT3:S:=[73,78,80,85,84,40,97]
def nT4:S:=[73,78,80,85,84,40,97,41,10,73,78,80,85,84,40,98,41,10,79,85,84,80,85,84,40,122,41,10,113,32,61,32,68,70,70,49,40,122,41,10,122,32,61,32,65,78,68,40,97,44,32,98,41,10]
def nC1:Ci:=⟨[[97],[98]],[[122]],[⟨[113],[122],1⟩],[⟨[122],4,[[97],[98]],[],false⟩]⟩
def nC2:Ci:=⟨[[97],[98]],[[122]],[],[⟨[122],10,[[97],[98]],[[49,48]],true⟩]⟩
def nC3:Ci:=⟨[[97],[98]],[[122]],[],[⟨[110,49],3,[[98]],[],false⟩,⟨[122],5,[[97],[110,49]],[],false⟩]⟩
theorem Yk:nY nZ nT1= .ok nC1:=by kernel_rfl
theorem Yl:nY nZ nT2= .error (4,9):=by kernel_rfl
theorem Ym:nY nZ nT3= .error (7,2):=by kernel_rfl
theorem Yn:yZ nC1= .tup [.str nT4,vi 0]:=by kernel_rfl
theorem Yo:Dw nC2=(nC3,0):=by kernel_rfl
theorem Yp:kF nT2 ((4:Nat):Int) 9= .agg [vi 9,vi 1,vi 5]:=by kernel_rfl
theorem Yq:kF nT3 ((7:Nat):Int) 2= .agg [vi 2,vi 1,vi 8]:=by kernel_rfl
theorem VV{k:Nat}{v v':V}(h:VLe v v'):VLe (.is true k [v]) (.is false k [v']):=fun c x hx=>cO c x (VLe.is (x:=true) (es:=[v]) (es':=[v']) rfl (fun i a b ha hb=>by
 cases i with
 |zero=>obtain rfl:=Option.some.inj ha;obtain rfl:=Option.some.inj hb;exact h
 |succ i=>cases ha) c x hx)
theorem Lc[MO]:Ev TE 8 [] (.bool true):=by have e1:=ul nT1 (by decide);have e2:=y5 nC1 (by decide);have e3:=ul nT2 (by decide);have e4:=ul nT3 (by decide);have e5:=ui nC2 (by decide);unfold nK at e1 e3 e4;rw[Yk]at e1;rw[Yl]at e3;rw[Ym]at e4;rw[Yn]at e2;rw[Yo]at e5;dsimp only at e1 e3 e4 e5;rw[Yp]at e3;rw[Yq]at e4;simp only[nC1,nC2,nC3,nT1,nT2,nT3,nT4,Ci.v,Ga.v,La.v,zrd,List.map_nil]at e1 e2 e3 e4 e5;refine ak Tryz.func8 rfl (by simp[nts]) ?_;refine vn ?_;simp only[wq.1,Nat.reduceLT,Tryz.results8];refine vn ?_;simp only[wq.1,seval];refine ag.ev e1 rfl ?_;simp only[wq.1,seval];refine vn ?_;simp only[wq.1,seval];refine ag.ev e2 rfl ?_;simp only[wq.1,seval];refine vn ?_;simp only[wq.1,seval];refine ag.ev e3 rfl ?_;simp only[wq.1,seval];refine vn ?_;simp only[wq.1,seval];refine ag.ev e4 rfl ?_;simp only[wq.1,↓reduceIte,Nat.reduceEqDiff,Nat.reduceLT,Nat.reduceLeDiff,Nat.reduceAdd,Nat.reduceSub,Int.reduceToNat,Nat.reduceDiv,Int.reduceLT,Int.reduceLE,Int.reduceNeg,Int.reduceBEq,Int.reduceBNe,Int.reduceAdd,Int.reduceSub,Nat.reduceBEq,reduceCtorEq,Nat.reduceMul,au,Tryz.results8,bu];refine vn ?_;simp only[wq.1,↓reduceIte,Nat.reduceEqDiff,Nat.reduceLT,Nat.reduceLeDiff,Nat.reduceAdd,Nat.reduceSub,Int.reduceToNat,Nat.reduceDiv,Int.reduceLT,Int.reduceLE,Int.reduceNeg,Int.reduceBEq,Int.reduceBNe,Int.reduceAdd,Int.reduceSub,Nat.reduceBEq,reduceCtorEq,Nat.reduceMul,au,Tryz.results8];refine⟨⟨rfl,by decide⟩,⟨rfl,by decide⟩,⟨rfl,by decide⟩,⟨rfl,by decide⟩,⟨rfl,by decide⟩,gG (bW.cons (VLe.agg (bW.cons VLe.exact (bW.cons VLe.exact (bW.cons VLe.nils (bW.cons (VV (VLe.agg (bW.cons (VLe.refl _) (bW.cons (VLe.refl _) (bW.cons VLe.exact (bW.cons VLe.exact (bW.refl _))))))) (bW.refl _)))))) (bW.refl _)) (HLe.refl _) (ag.ev e5 rfl ?_)⟩;simp only[wq.1,seval];have en:(((1:Nat):Int) != 1)=false:=rfl;have en2:(((2:Nat):Int) != 2)=false:=rfl;refine ai ?_;refine vn ?_;simp only[wq.1,seval,en,en2];refine vm ?_;simp only[wq.1,↓reduceIte,Nat.reduceEqDiff,Nat.reduceLT,Nat.reduceLeDiff,Nat.reduceAdd,Nat.reduceSub,Int.reduceToNat,Nat.reduceDiv,Int.reduceLT,Int.reduceLE,Int.reduceNeg,Int.reduceBEq,Int.reduceBNe,Int.reduceAdd,Int.reduceSub,Nat.reduceBEq,reduceCtorEq,Nat.reduceMul,au,Tryz.results8,en,en2,Bool.or_self];show awp _ _ _ _ _ _ _;refine vn ?_;simp only[wq.1,↓reduceIte,Nat.reduceEqDiff,Nat.reduceLT,Nat.reduceLeDiff,Nat.reduceAdd,Nat.reduceSub,Int.reduceToNat,Nat.reduceDiv,Int.reduceLT,Int.reduceLE,Int.reduceNeg,Int.reduceBEq,Int.reduceBNe,Int.reduceAdd,Int.reduceSub,Nat.reduceBEq,reduceCtorEq,Nat.reduceMul,au,Tryz.results8,vX,LJ,beq_self_eq_true,zre];refine⟨Dj,by decide,by decide,Dj,Dj,by decide,by decide,by decide,?_⟩;refine vm ?_;simp only[wq.1,↓reduceIte];exact aG.dat rfl
theorem XF{x:Ci}(ho:(sV x).1=0):Sum x:=by have hl:=Vb (ny ho).lim;show x.ins.length+x.lat.length+x.gates.length<=_;have:=hl.ins;have:=hl.lat;have:=hl.gates;omega
theorem ev_BenchBack[MO](c:Ci)(hs:Sum c):Ev TE 5 [c.v] (.bool true):=by
 have hW:=Lc;have hF:=PX c hs;have hE:=ui c hs;have hPr:=y5 c hs;have hoX:=fun h=>Hq (c:=c) (x:=(Dw c).1) h;have hag:=fun h=>OH (c:=c) (x:=(Dw c).1) h;unfold yZ at hPr;obtain⟨x,ee,ex⟩:∃x ee,Dw c=(x,ee):=⟨_,_,rfl⟩;rw[ex]at hE hoX hPr hag;dsimp only at hE hoX hPr hag;obtain⟨few,efew⟩:∃few,few=Ib c:=⟨_,rfl⟩;rw[<-efew]at hF;refine ak Tryz.func5 rfl (by simp[nts]) ?_;refine vn ?_;simp only[wq.1,Nat.reduceLT,Tryz.results5];refine vn ?_;simp only[wq.1,Nat.reduceLT];refine ag.ev hW rfl ?_;simp only[wq.1,seval];refine ai ?_;refine vn ?_;simp only[wq.1,seval];refine bF (b:=false) (by simp only[wq.1,↓reduceIte];try rfl) (by simp only[wq.1,↓reduceIte];try trivial) (fun h=>by cases h) (fun _=> ?_);refine vm ?_;simp only[wq.1];show awp _ _ _ _ _ _ _;refine vn ?_;simp only[wq.1,seval];refine ag.ev hF (iW c) ?_;simp only[wq.1,seval];by_cases he:ee=0
 rotate_left
 ·rw[if_neg he]at hPr;have e0:(ee != 0)=true:=by simpa using he
  refine vn ?_;simp only[wq.1,seval];refine ag.ev hPr (iW c) ?_;simp only[wq.1,seval];refine vn ?_;simp only[wq.1,seval];refine ag.ev hE (iW c) ?_;simp only[wq.1,seval];refine ai ?_;cases few with
  |false=>refine vn ?_;simp only[wq.1,seval,e0];refine bF (b:=true) (by simp only[wq.1,↓reduceIte];try rfl) (by simp only[wq.1,↓reduceIte];try trivial) (fun _=> ?_) (fun h=>by cases h);refine vm ?_;simp only[wq.1,seval];exact aG.dat rfl
  |true=>refine vn ?_;simp only[wq.1,seval,e0];refine bF (b:=true) (by simp only[wq.1,↓reduceIte];try rfl) (by simp only[wq.1,↓reduceIte];try trivial) (fun _=> ?_) (fun h=>by cases h);refine vm ?_;simp only[wq.1,seval];exact aG.dat rfl
 ·rw[if_pos he]at hPr;subst he;obtain⟨ho,hpl,_,_,_⟩:=hoX rfl;have ho1:(sV x).1=0:=by rw[ho]
  have hlen:=Au (x:=x) ho1;have hsx:=XF ho1;have hagx:Dw x=(x,0):=hag rfl;have hpx:=Fh ho1 hpl nZ;have e9:=ul (o9 x) (by omega);have e10:=y5 x hsx;have e11:=ui x hsx;have e12:=Tq x;unfold nK at e9;rw[hpx]at e9;unfold yZ at e10;rw[hagx]at e10 e11;dsimp only at e9 e11;rw[if_pos rfl]at e10;dsimp only at e10;obtain⟨T,eT⟩:∃T,T=o9 x:=⟨_,rfl⟩;rw[<-eT]at e9 e10 hPr;refine vn ?_;simp only[wq.1,seval];refine ag.ev hPr (iW c) ?_;simp only[wq.1,seval];refine vn ?_;simp only[wq.1,seval];refine ag.ev hE (iW c) ?_;simp only[wq.1,seval];refine ai ?_;cases few with
  |false=>refine vn ?_;simp only[wq.1,seval];refine bF (b:=true) (by simp only[wq.1,↓reduceIte];try rfl) (by simp only[wq.1,↓reduceIte];try trivial) (fun _=> ?_) (fun h=>by cases h);refine vm ?_;simp only[wq.1,seval];exact aG.dat rfl
  |true=>refine vn ?_;simp only[wq.1,seval];refine bF (b:=false) (by simp only[wq.1,↓reduceIte];try rfl) (by simp only[wq.1,↓reduceIte];try trivial) (fun h=>by cases h) (fun _=> ?_);refine vm ?_;simp only[wq.1];show awp _ _ _ _ _ _ _;refine vn ?_;simp only[wq.1,seval];refine ag.ev e9 rfl ?_;simp only[wq.1,seval];refine vn ?_;simp only[wq.1,seval];refine ag.ev e10 (iW x) ?_;simp only[wq.1,seval];refine vn ?_;simp only[wq.1,seval];refine ag.ev e11 (iW x) ?_;simp only[wq.1,seval];refine vn ?_;simp only[wq.1,seval,vX];refine⟨Dj,ag.ev e12 (by simp only[V.dats,V.dat,ax,lD,lC,zre]) ?_⟩;simp only[wq.1,seval];refine ag.ev e12 (by simp only[V.dats,V.dat,ax,lD,lC,zre]) ?_;simp only[wq.1,seval];refine vm ?_;simp only[wq.1,↓reduceIte];exact aG.dat rfl
open Go.RowKit
open Go.ChangeShapes
open Go.WideShapes
theorem rH{H:Type}{enc:TypeId×Value->H}{P:Program}{w:World}{base:Nat}{sp:Nat->Bool}{held:Bool}{fuel:Nat}{t k e:TypeId}{cs:List Value}{dl:List (Lit×DataW H)}{p:List MemPlace}
 (ht:P.underlying t=some (.map k e)) (h:DataW.trod enc P w base sp held fuel t cs=some (.map dl,p)) :
 ∃b es clk n,cs=[.map (some b)]/\w.heap[b]? =some (.map es clk)/\wW es clk/\(es.toList.map (·.key)).Nodup /\
  (∀x∈es.toList,∃l d q,(l,d)∈dl/\keyOf P k x.key=some l/\DataW.trod enc P w base sp held n e x.val.cells.toList=some (d,q)/\x.val.formed P e=true) /\
  (∀y∈dl,∃x∈es.toList,keyOf P k x.key=some y.1):=by
 rcases WideElems.open_map ht h with⟨_,hx⟩|⟨b,es,clk,n,rfl,hcs,hb,_,F,hx⟩
 ·cases hx
 ·simp only[Prod.mk.injEq,DataW.map.injEq]at hx;obtain⟨hdl,_⟩:=hx;have hperm:=sorted_perm (es.toList.map (WideElems.rg P k (WideElems.elemAt enc P w base sp held n e)));rw[<-hdl]at hperm;obtain⟨s1,s2,s3⟩:=F.stamped;refine⟨b,es,clk,n,hcs,hb,⟨s1,s2⟩,s3,fun x hx=> ?_,fun y hy=> ?_⟩
  ·obtain⟨y,hy⟩:=F.reads x hx;have hk:=WideElems.rd_key hy;obtain⟨z,hz,hyz⟩:=WideElems.rd_val hy;unfold WideElems.elemAt at hz;split at hz
   ·rename_i hf;refine⟨y.1,y.2,z.2,hperm.mem_iff.2 (zrh.2 ⟨x,hx,WideElems.rg_of hy⟩),hk,?_,hf⟩;rw[hz,hyz]
   ·cases hz
  ·obtain⟨x,hx,hxy⟩:=zrh.1 (hperm.mem_iff.1 hy);obtain⟨y',hy'⟩:=F.reads x hx;rw[WideElems.rg_of hy']at hxy;subst hxy;exact⟨x,hx,WideElems.rd_key hy'⟩
def vOf:Value->V
 | .string s=> .str s.data.toList
 | .int k n=> .int k n
 | .func f _ _=> .fn f [] []
 | .agg cs=> .agg (cs.toList.map fun x=>match x with | .int k n=>V.int k n|_=> .any)
 |_=> .any
theorem Dq{c:C}{F:MapEntry->Value}{G:MapEntry->V}:∀ {l:List MapEntry},(∀x∈l,VRel c (G x) (F x))->VList c (l.map G) (l.map F)
 |[],_=>by simp only[List.map_nil,VList]
 |a::l,h=>by simp only[zrd,VList];exact⟨_,_,rfl,h a (by simp),Dq fun x hx=>h x (by simp[hx])⟩
theorem PY{W:World}{g b:Nat}{ty:TypeId}{fz:Nat×Nat}{es:Array MapEntry}{clk:Nat}(h1:W.heap[g]? =some (.cells #[.map (some b)] ty fz))(h2:W.heap[b]? =some (.map es clk))(h3:wW es clk)
 (hk:∀x∈es.toList,VRel (cw W).data (vOf x.key) x.key) (hv:∀x∈es.toList,VRel (cw W).data (vOf x.val) x.val) :
 VRel (cw W) (.ip (.im (es.toList.map fun x=>vOf x.key) (es.toList.map fun x=>vOf x.val))) (.pointer (some ⟨g,0,none⟩)):=by
 simp only[VRel];refine⟨g,0,.map (some b),rfl,fun j hj=>⟨⟨trivial,fun i hi=>by cases hi⟩,?_⟩,by simp[Value.cells],b,es,clk,rfl,⟨trivial,fun i hi=>by cases hi⟩,h2,Dq hk,Dq hv,h3⟩;have hj:j=0:=by simp[Value.cells]at hj;omega
 subst hj;show W.cell? ⟨g,0+0,none⟩=_;unfold World.cell?;simp only[h1];rfl
theorem y7{α:Type}[DecidableEq α]{kd:K}{mk:α->V}(hk:∀a b,keq kd (mk a) (mk b)=some (decide (a=b)))(a:α):∀ks:List α,iY kd (mk a) (ks.map mk)=some (ks.findIdx? fun b=>decide (a=b))
 |[]=>rfl
 |k::ks=>by
  simp only[zrd,iY,hk,List.findIdx?_cons];by_cases h:a=k
  ·simp[h]
  ·rw[decide_eq_false h];simp only[y7 hk a ks];cases ks.findIdx? fun b=>decide (a=b)<;>rfl
theorem Ic{α:Type}{mk:α->V}{T:List (α×V)}:∀ {L:List MapEntry},(∀x∈L,∃y∈T,vOf x.key=mk y.1/\vOf x.val=y.2) ->
 ∃T':List (α×V),(L.map fun x=>vOf x.key)=(T'.map (·.1)).map mk/\(L.map fun x=>vOf x.val)=T'.map (·.2)/\(∀y∈T',y∈T)/\∀x∈L,∃y∈T',vOf x.key=mk y.1
 |[],_=>⟨[],rfl,rfl,fun y h=>(by cases h),fun x h=>(by cases h)⟩
 |a::L,h=>by
  obtain⟨y,hy,h1,h2⟩:=h a (by simp);obtain⟨T',t1,t2,t3,t4⟩:=Ic (L:=L) (T:=T) (mk:=mk) fun x hx=>h x (List.mem_cons_of_mem _ hx);refine⟨y::T',?_,?_,fun z hz=> ?_,fun x hx=> ?_⟩
  ·rw[zrd,zrd,zrd,t1,h1]
  ·rw[zrd,zrd,t2,h2]
  ·rcases zrj.1 hz with rfl|hz
   ·exact hy
   ·exact t3 z hz
  ·rcases zrj.1 hx with rfl|hx
   ·exact⟨y,by simp,h1⟩
   ·obtain⟨z,hz,e⟩:=t4 x hx;exact⟨z,by simp[hz],e⟩
theorem y8{α β:Type}:∀ {T:List (α×β)},(T.map (·.1)).Nodup->∀ {x y},x∈T->y∈T->x.1=y.1->x=y
 |[],_,x,y,hx,_,_=>by cases hx
 |a::T,hn,x,y,hx,hy,he=>by
  rw[zrd,List.nodup_cons]at hn;rcases zrj.1 hx with ex|hx2<;>rcases zrj.1 hy with ey|hy2
  ·rw[ex,ey]
  ·exact absurd (show a.1∈T.map (·.1)from zrh.2 ⟨y,hy2,by rw[<-ex,he]⟩) hn.1
  ·exact absurd (show a.1∈T.map (·.1)from zrh.2 ⟨x,hx2,by rw[<-ey,he]⟩) hn.1
  ·exact y8 hn.2 hx2 hy2 he
def XG(z:V):Option V->V
 |some v=> .tup [v,.bool true]
 |none=> .tup [z,.bool false]
theorem Jz{α:Type}[DecidableEq α]{kd:K}{mk:α->V}(hk:∀a b,keq kd (mk a) (mk b)=some (decide (a=b)))(hi:∀a b,mk a=mk b->a=b){L:List MapEntry}{T:List (α×V)}(hT:(T.map (·.1)).Nodup)
 (h1:∀x∈L,∃y∈T,vOf x.key=mk y.1/\vOf x.val=y.2) (h2:∀y∈T,∃x∈L,vOf x.key=mk y.1) (a:α) (z:V) :
 rP kd (mk a) (L.map fun x=>vOf x.key) (L.map fun x=>vOf x.val) z true=(True,XG z ((T.find? fun y=>decide (a=y.1)).map (·.2))):=by
 obtain⟨T',t1,t2,t3,t4⟩:=Ic h1;rw[t1,t2];unfold rP;rw[y7 hk];cases hf:(T'.map (·.1)).findIdx? fun b=>decide (a=b)with
 |some n =>
  obtain⟨hn,hp,_⟩:=List.findIdx?_eq_some_iff_getElem.1 hf;have hn':n<T'.length:=by simpa using hn
  have hp:a=T'[n].1:=by simpa using hp
  have hm:=t3 _ (zqu hn');have hff:(T.find? fun y=>decide (a=y.1))=some T'[n]:=by
   cases hq:T.find? fun y=>decide (a=y.1)with
   |none=>have:=List.find?_eq_none.1 hq _ hm;rw[hp]at this;simp at this
   |some y =>
    have e1:=List.find?_some hq;have e2:=List.mem_of_find?_eq_some hq;have e1:a=y.1:=by simpa using e1
    rw[y8 hT e2 hm (by rw[<-e1,<-hp])]
  rw[hff];dsimp only[XG,zrw];have:(T'.map (·.2)).getD n .any=T'[n].2:=fP hn' _;rw[this];rfl
 |none =>
  have hff:(T.find? fun y=>decide (a=y.1))=none:=by
   rw[List.find?_eq_none];intro y hy e;have e:a=y.1:=by simpa using e
   obtain⟨x,hx,ex⟩:=h2 y hy;obtain⟨y',hy',ey⟩:=t4 x hx;have e3:=hi _ _ (ex.symm.trans ey);have:=List.findIdx?_eq_none_iff.1 hf y'.1 (zrh.2 ⟨y',hy',rfl⟩);rw[e,e3]at this;simp at this
  rw[hff];rfl
theorem VW(a b:S):keq .str (.str a) (.str b)=some (decide (a=b)):=by
 simp only[keq];by_cases h:a=b
 ·simp[h]
 ·rw[decide_eq_false h,beq_eq_false_iff_ne.2 h]
theorem PZ(a b:Int):keq (.int .i64) (.int .i64 a) (.int .i64 b)=some (decide (a=b)):=by
 simp only[keq,if_true];by_cases h:a=b
 ·simp[h]
 ·rw[decide_eq_false h,beq_eq_false_iff_ne.2 h]
end Go.Proofs.YthaijohbpdabfaaGreatDoor
