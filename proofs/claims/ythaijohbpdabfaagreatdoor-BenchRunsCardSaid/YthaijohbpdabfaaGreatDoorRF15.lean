/- Lemmas for this claim, part F15: each holds under what it names. -/
import Derived.Test.YthaijohbpdabfaaGreatDoorRF14
import Derived.Test.YthaijohbpdabfaaGreatDoorRF13
import Derived.Test.YthaijohbpdabfaaGreatDoorRF07
import Derived.Test.YthaijohbpdabfaaGreatDoorRA8
import Derived.LaidHandle
import Derived.LaidMore
import Derived.Lay
import Derived.WideKeyElems2
import Derived.StringKeys
import Derived.Shelf.Vars
import Derived.Lib.LaidTab
import Derived.Test.YthaijohbpdabfaaGreatDoorRows
import Derived.Test.YthaijohbpdabfaaGreatDoorTie
import Derived.HandedShaped
import Derived.Stop.LaidErr
set_option linter.all false
set_option maxRecDepth 100000
set_option maxHeartbeats 16000000
namespace Go.Proofs.YthaijohbpdabfaaGreatDoor
open Go Go.Proofs Go.Abs
open List renaming length → aa, replicate → ao
open Bool renaming true → ab, false → ac
open Option renaming some → al, none → aq
open Decidable renaming decide → ar
open Go.IntKind renaming wrap → aD
open Go.Result renaming andThen → aM
open Go.Abs.O renaming cells → am
open Go.Abs.V renaming drops → ap, dat → aE, dats → aL
theorem Ju(b:Nat)(w:World)(c1:w.drew.cell? ⟨b,1,aq⟩=al (.slice aq 0 0)) :
 Calls Tryz.prog 42 #[.pointer (al ⟨b,0,aq⟩)] w λe w'=>e= .returned (.string ⟨#[]⟩)/\w'=w.drew:=by
 have hSD:(Builtin.unsafeSliceData_ #[79] 145 #[.slice aq 0 0]).run Tryz.prog w.drew= .ok (.pointer aq) w.drew :=
  Lib.run_unsafeSliceData_nil w.drew _ _ _ _
 have hUS:(Builtin.unsafeString_ #[145,3] 9 #[.pointer aq,.int .i64 0]).run Tryz.prog w.drew= .ok (.string .empty) w.drew :=
  Lib.run_unsafeString_none w.drew 145 3 9 aq
 go_enter Tryz.func42,Tryz.ntmps42
 go_wp2
 go_region
 all_goals (go_wp2;go_ret;exact⟨rfl,rfl⟩)
theorem VG[MO]{T id:Nat}{a:V}{h:H}{R:AEnd->H->(Nat->Bool)->Prop}(hh:h[id]? =al (.typed T [a,.nils]))(hr:R (.ret (.str [])) h (λ_=>ac)):ag TE 42 [.lp id 0] h R:=by
 intro ok pl w vs hs hv;simp only[VList,VRel]at hv;obtain⟨y,ys,rfl,⟨b,hpb,rfl⟩,rfl⟩:=hv;have hpb:pl id=al b:=hpb;obtain⟨o,ho,hat⟩:=hs.obj id b hpb;rw[hh]at ho;cases ho;obtain⟨arr,fz,g1,g2,g3,g4⟩:=hat;have g1:w.heap[b]? =al (Obj.cells arr T fz):=g1;obtain⟨x1,e1,r1⟩:=VList.get 1 .nils g4 rfl;have e1:arr[1]? =al x1:=by
  rw[List.getElem?_take_of_lt (by simp)]at e1;simpa using e1
 simp only[VRel]at r1;have hcell:w.drew.cell? ⟨b,1,aq⟩=al (.slice aq 0 0):=by
  rw[Lib.cell_of_heap (w:=w.drew) g1,e1,r1]
 refine(Ju b w hcell).mono ?_;rintro en w' ⟨rfl,rfl⟩;have x:WExt w w.drew:=WExt.drew w;exact⟨λ_=>ac,pl,h,.ret (.str []),hs.wext x,x.keeps hs,by show VRel _ _ _;simp only[VRel];exact⟨_,rfl,by simp,by decide⟩,hr⟩
theorem NQ[MO]{out:S}{h:H}{R:AEnd->H->(Nat->Bool)->Prop}(hw:Wb out h)(hl:aa out<=20000000000000)(hr:∀h' p,R (.ret (.str out)) h' p):ag TE 42 [.lp 1 0] h R:=by
 rcases hw with⟨rfl,h1⟩|⟨ho,b,hb1,h1,h2⟩
 ·exact VG h1 (hr _ _)
 ·exact Xc out h1 h2 ho hl (hr _ _)
theorem Wb.app{out:S}{h:H}(hw:Wb out h)(X:H):Wb out (h++X):=by
 have old:∀ {j:Nat} {y:O},h[j]? =al y->(h++X)[j]? =al y:=λhy=>by rw[zqj (zqe hy).1];exact hy
 rcases hw with⟨rfl,h1⟩|⟨ho,b,hb1,h1,h2⟩
 ·exact .inl ⟨rfl,old h1⟩
 ·exact .inr ⟨ho,b,hb1,old h1,old h2⟩
theorem Ey{α:Type}(F:α->S)(l:List α){i:Nat}(h:i<aa l):aa ((l.take i).flatMap F)+aa (F l[i])<=aa (l.flatMap F):=by
 have e:l.flatMap F=(l.take i).flatMap F++(F l[i]++(l.drop (i+1)).flatMap F):=by
  conv=>lhs;rw[<-List.take_append_drop i l,List.flatMap_append,List.drop_eq_getElem_cons h,List.flatMap_cons]
 rw[e];simp only[zqa];omega
theorem vG{α:Type}(F:α->S)(l:List α){i:Nat}(h:i<aa l):(l.take (i+1)).flatMap F=(l.take i).flatMap F++F l[i]:=by rw[List.take_succ_eq_append_getElem h,List.flatMap_append];simp
abbrev fnP:V:= .fn (.func 38) [] [.lp 1 0]
def F1:S->S:=λs=>gV [] jc [s]
def F2:S->S:=λs=>gV [] fE [s]
def F3:La->S:=λq=>gV (aP q.name++[32,61,32]) (bW.getD q.init.toNat []) [q.next]
def F4:Ga->S:=λg=>gV (aP g.name++[32,61,32]) (dZ.getD g.op.toNat []) g.ins
theorem H7(x:Ci):qy x=x.ins.flatMap F1++x.outs.flatMap F2++x.lat.flatMap F3++x.gates.flatMap F4:=rfl
def Ez(c:Ci):V:=if(D6 c).2=0 then .tup [.str (qy (D6 c).1),vi 0]else .tup [.str [],vi (D6 c).2]
theorem H8[MO](c:Ci)(hs:Sum c):Ev TE 13 [c.v] (Ez c):=by
 have hM:=mLx;have hE:=Hq c hs;have hoX:=λh=>D9 (c:=c) (x:=(D6 c).1) h;unfold Ez;obtain⟨x,ee,ex⟩:∃x ee,D6 c=(x,ee):=⟨_,_,rfl⟩;rw[ex]at hE hoX ⊢;dsimp only at hE hoX ⊢;refine ai Tryz.func13 rfl (by simp[nts]) ?_;refine vn ?_;simp only[wq.1,seval,Tryz.results13];refine vn ?_;simp only[wq.1,seval];refine ag.ev hE (oK c) ?_;simp only[wq.1,seval];refine ak ?_;refine vn ?_;simp only[wq.1,seval];by_cases he:ee=0
 rotate_left
 ·have e0:(ee != 0)=ab:=by simpa using he
  rw[if_neg he];refine bH (b:=ab) (by simp only[wq.1,↓reduceIte,e0]) (by simp only[wq.1,↓reduceIte,e0];try trivial) (λ_=> ?_) (λh=>by cases h);refine vm ?_;simp only[wq.1,seval];exact aC.dat rfl
 have e0:(ee != 0)=ac:=by rw[he];rfl
 rw[if_pos he];subst he;obtain⟨ho,hpl,_,_,_⟩:=hoX rfl;have hlen:=BO (x:=x) (by rw[ho]);have hn:=iJ (c:=x) (by rw[ho]);have hlc:=P9 hn.lim;have lIn:aa x.ins<=1000000:=by have:=hlc.ins;omega
 have lOut:aa x.outs<=1000000:=by have:=hlc.outs;omega
 have lLat:aa x.lat<=1000000:=by have:=hlc.lat;omega
 have lGa:aa x.gates<=1000000:=by have:=hlc.gates;omega
 rw[H7]at hlen ⊢;obtain⟨P1,eP1⟩:∃P1,P1=x.ins.flatMap F1:=⟨_,rfl⟩;obtain⟨P2,eP2⟩:∃P2,P2=x.outs.flatMap F2:=⟨_,rfl⟩;obtain⟨P3,eP3⟩:∃P3,P3=x.lat.flatMap F3:=⟨_,rfl⟩;obtain⟨P4,eP4⟩:∃P4,P4=x.gates.flatMap F4:=⟨_,rfl⟩;rw[<-eP1,<-eP2,<-eP3,<-eP4]at hlen ⊢;simp only[zqa]at hlen;have hd0:aL [aJ x.ins,aJ x.outs,kY x.lat,iU x.gates]=ab:=RX x;have nLat:∀q∈x.lat,aU q.name=ab/\aU q.next=ab:=λq h=>⟨hn.told _ (by unfold dW;simp only[zrf,List.mem_flatMap];exact .inl (.inr ⟨q,h,by simp⟩)),hn.told _ (by unfold dW;simp only[zrf,List.mem_flatMap];exact .inl (.inr ⟨q,h,by simp⟩))⟩
 have nGa:∀g∈x.gates,aU g.name=ab/\∀s∈g.ins,aU s=ab:=λg h=>⟨hn.told _ (by unfold dW;exact List.mem_append_right _ (List.mem_flatMap.2 ⟨g,h,by simp⟩)),λs hs=>hn.told _ (by unfold dW;exact List.mem_append_right _ (List.mem_flatMap.2 ⟨g,h,by simp[hs]⟩))⟩;have nIn:∀s∈x.ins,aU s=ab:=λs h=>hn.told s (by unfold dW;simp[h]);have nOut:∀s∈x.outs,aU s=ab:=λs h=>hn.told s (by unfold dW;simp[h]);refine bH (b:=ac) (by simp only[wq.1,↓reduceIte,e0]) (by simp only[wq.1,↓reduceIte,e0];try trivial) (λh=>by cases h) (λ_=> ?_);refine vm ?_;simp only[wq.1,Int.reduceBNe];show awp _ _ _ _ _ _ _;refine ak (iE ?_);refine dM rfl rfl ?_;refine MQ (q:=⟨.struct [(0,78),(1,79)],2,32,.agg [.nilp,.nils]⟩) rfl (by simp only[wq.1]) (by simp only[wq.1]) ?_;simp only[wq.1];refine dL ?_;simp only[wq.1];show awp _ _ _ _ _ _ [ciO x,.typed 81 [.nilp,.nils]];refine vn ?_;simp only[wq.1,seval];obtain⟨P0,eP0⟩:∃P0:S,P0=[]:=⟨_,rfl⟩;have lP0:aa P0=0:=by rw[eP0];rfl
 have hw:Wb P0 [ciO x,.typed 81 [.nilp,.nils]]:= .inl ⟨eP0,rfl⟩;have h0:([ciO x,.typed 81 [.nilp,.nils]]:H)[0]? =al (ciO x):=rfl;generalize ([ciO x,.typed 81 [.nilp,.nils]]:H)=h at hw h0 ⊢;refine fU (λf=>f.t 1= .lp 0 0/\f.t 5= .lp 1 0/\f.t 6=fnP/\f.d=[]/\(∀j,f.k j=ab->1<j)) ⟨by simp only[wq.1,seval],by simp only[wq.1,seval],by simp only[wq.1,↓reduceIte],by simp only[wq.1],λj hj=>by cases hj⟩ ?_;rintro f ⟨t1,t5,t6,hd,hk⟩;refine ak ?_;refine vn ?_;simp only[wq.1,seval,t1,h0];refine aB ?_;refine aF (λm f h=>∃i:Nat,m+i=aa x.ins/\i<=aa x.ins/\Wb (P0++(x.ins.take i).flatMap F1) h/\h[0]? =al (ciO x)/\f.t 1= .lp 0 0/\f.t 5= .lp 1 0/\f.t 6=fnP/\f.t 25=aJ x.ins/\f.t 26=vi (aa x.ins)/\f.t 27=vi i/\f.d=[]/\(∀j,f.k j=ab->1<j)) (aa x.ins) ⟨0,by omega,by omega,by simpa using hw,h0,by simp only[wq.1,seval,t1],by simp only[wq.1,seval,t5],by simp only[wq.1,seval,t6],by simp only[wq.1,seval],by simp only[wq.1,seval],by simp only[wq.1,↓reduceIte];rfl,by simp only[wq.1,hd],λj hj=>hk j hj⟩ ?_;clear hw h0 t1 t5 t6 hd hk;rintro m f h ⟨i,hm,hil,hw,h0,t1,t5,t6,ta,tb,tc,hd,hk⟩;have hwi:=aA (show i<maxLen by omega);refine vn ?_;simp only[wq.1,Nat.reduceLT,tb,tc];refine vn ?_;simp only[wq.1,↓reduceIte];refine vcB.mk (λhlt=> ?_) (λhlt=> ?_)
 ·have hlt:i<aa x.ins:=by have:=zqs hlt;omega
  have hfl:=Ey F1 x.ins hlt;have hsn:=vG F1 x.ins hlt;rw[<-eP1]at hfl;obtain⟨z,ez⟩:∃z,z=x.ins[i]:=⟨_,rfl⟩;have hz:z∈x.ins:=ez▸zqu hlt;rw[<-ez]at hfl hsn;have hgs:=Bz hlt .any;rw[<-ez]at hgs;have hF:F1 z=gV [] jc [z]:=rfl;rw[hF]at hfl;simp only[wq.1];refine ak ?_;refine aB ?_;refine vn ?_;simp only[wq.1,↓reduceIte,Nat.reduceEqDiff,Nat.reduceLT,ta,tc,hgs];refine⟨⟨by omega,by omega⟩,?_⟩;refine vm ?_;simp only[wq.1,↓reduceIte,Nat.reduceEqDiff,Nat.reduceLT,Nat.reduceLeDiff,Nat.reduceAdd,reduceCtorEq,Nat.reduceMul,t6];refine⟨⟨rfl,by decide⟩,ig (dm.cons (VLe.refl _) (dm.cons (VLe.refl _) (dm.cons dH (dm.cons (VLe.refl _) dm.nil)))) (HLe.refl _) (oN (ahead:=[]) (word:=jc) (l:=[z]) hw (λs hs=>by rw[zrc.1 hs];exact nIn z hz) (by simp only[zqa];omega) (by simp) λv h' p hp hw' hk'=> ?_)⟩;have p0:p 0=ac:=by
   cases hc:p 0 with
   |false=>rfl
   |true=>have:=hp 0 hc;omega
  have p1:p 1=ac:=by
   cases hc:p 1 with
   |false=>rfl
   |true=>have:=hp 1 hc;omega
  simp only[wq.1,bC,hd];refine vm ?_;simp only[wq.1,seval,tc,hwi];refine .inl ⟨m-1,by omega,i+1,by omega,by omega,by rw[hsn,hF,<-zqc];exact hw',hk' _ h0 hd0,by simp only[wq.1,seval,t1,p0],by simp only[wq.1,seval,t5,p1],by simp only[wq.1,seval,t6,p1],by simp only[wq.1,seval,ta],by simp only[wq.1,seval,tb],by simp only[wq.1,↓reduceIte],by simp only[wq.1,hd],λj hj=> ?_⟩;have hj:(f.k j||p j)=ab:=hj;rcases(Bool.or_eq_true _ _).mp hj with h|h
  ·exact hk j h
  ·exact hp j h
 have hi:i=aa x.ins:=by have:=of_decide_eq_false hlt;omega
 rw[hi,zrx,<-eP1]at hw;simp only[wq.1];show awp _ _ _ _ _ _ _;clear hlt hi hm hil hwi;rw[eP0,List.nil_append]at hw;refine ak ?_;refine vn ?_;simp only[wq.1,seval,t1,h0];refine aB ?_;refine aF (λm f h=>∃i:Nat,m+i=aa x.outs/\i<=aa x.outs/\Wb (P1++(x.outs.take i).flatMap F2) h/\h[0]? =al (ciO x)/\f.t 1= .lp 0 0/\f.t 5= .lp 1 0/\f.t 6=fnP/\f.t 37=aJ x.outs/\f.t 38=vi (aa x.outs)/\f.t 39=vi i/\f.d=[]/\(∀j,f.k j=ab->1<j)) (aa x.outs) ⟨0,by omega,by omega,by simpa using hw,h0,by simp only[wq.1,seval,t1],by simp only[wq.1,seval,t5],by simp only[wq.1,seval,t6],by simp only[wq.1,seval],by simp only[wq.1,seval],by simp only[wq.1,↓reduceIte];rfl,by simp only[wq.1,hd],λj hj=>hk j hj⟩ ?_;clear hw h0 t1 t5 t6 hd hk;rintro m f h ⟨i,hm,hil,hw,h0,t1,t5,t6,ta,tb,tc,hd,hk⟩;have hwi:=aA (show i<maxLen by omega);refine vn ?_;simp only[wq.1,Nat.reduceLT,tb,tc];refine vn ?_;simp only[wq.1,↓reduceIte];refine vcB.mk (λhlt=> ?_) (λhlt=> ?_)
 ·have hlt:i<aa x.outs:=by have:=zqs hlt;omega
  have hfl:=Ey F2 x.outs hlt;have hsn:=vG F2 x.outs hlt;rw[<-eP2]at hfl;obtain⟨z,ez⟩:∃z,z=x.outs[i]:=⟨_,rfl⟩;have hz:z∈x.outs:=ez▸zqu hlt;rw[<-ez]at hfl hsn;have hgs:=Bz hlt .any;rw[<-ez]at hgs;have hF:F2 z=gV [] fE [z]:=rfl;rw[hF]at hfl;simp only[wq.1];refine ak ?_;refine aB ?_;refine vn ?_;simp only[wq.1,↓reduceIte,Nat.reduceEqDiff,Nat.reduceLT,ta,tc,hgs];refine⟨⟨by omega,by omega⟩,?_⟩;refine vm ?_;simp only[wq.1,↓reduceIte,Nat.reduceEqDiff,Nat.reduceLT,Nat.reduceLeDiff,Nat.reduceAdd,reduceCtorEq,Nat.reduceMul,t6];refine⟨⟨rfl,by decide⟩,ig (dm.cons (VLe.refl _) (dm.cons (VLe.refl _) (dm.cons dH (dm.cons (VLe.refl _) dm.nil)))) (HLe.refl _) (oN (ahead:=[]) (word:=fE) (l:=[z]) hw (λs hs=>by rw[zrc.1 hs];exact nOut z hz) (by simp only[zqa];omega) (by simp) λv h' p hp hw' hk'=> ?_)⟩;have p0:p 0=ac:=by
   cases hc:p 0 with
   |false=>rfl
   |true=>have:=hp 0 hc;omega
  have p1:p 1=ac:=by
   cases hc:p 1 with
   |false=>rfl
   |true=>have:=hp 1 hc;omega
  simp only[wq.1,bC,hd];refine vm ?_;simp only[wq.1,seval,tc,hwi];refine .inl ⟨m-1,by omega,i+1,by omega,by omega,by rw[hsn,hF,<-zqc];exact hw',hk' _ h0 hd0,by simp only[wq.1,seval,t1,p0],by simp only[wq.1,seval,t5,p1],by simp only[wq.1,seval,t6,p1],by simp only[wq.1,seval,ta],by simp only[wq.1,seval,tb],by simp only[wq.1,↓reduceIte],by simp only[wq.1,hd],λj hj=> ?_⟩;have hj:(f.k j||p j)=ab:=hj;rcases(Bool.or_eq_true _ _).mp hj with h|h
  ·exact hk j h
  ·exact hp j h
 have hi:i=aa x.outs:=by have:=of_decide_eq_false hlt;omega
 rw[hi,zrx,<-eP2]at hw;simp only[wq.1];show awp _ _ _ _ _ _ _;clear hlt hi hm hil hwi;refine ak ?_;refine vn ?_;simp only[wq.1,seval,t1,h0];refine aB ?_;refine aF (λm f h=>∃i:Nat,m+i=aa x.lat/\i<=aa x.lat/\Wb ((P1++P2)++(x.lat.take i).flatMap F3) h/\h[0]? =al (ciO x)/\f.t 1= .lp 0 0/\f.t 5= .lp 1 0/\f.t 6=fnP/\f.t 49=kY x.lat/\f.t 50=vi (aa x.lat)/\f.t 51=vi i/\f.d=[]/\(∀j,f.k j=ab->1<j)) (aa x.lat) ⟨0,by omega,by omega,by simpa using hw,h0,by simp only[wq.1,seval,t1],by simp only[wq.1,seval,t5],by simp only[wq.1,seval,t6],by simp only[wq.1,seval],by simp only[wq.1,seval],by simp only[wq.1,↓reduceIte];rfl,by simp only[wq.1,hd],λj hj=>hk j hj⟩ ?_;clear hw h0 t1 t5 t6 hd hk;rintro m f h ⟨i,hm,hil,hw,h0,t1,t5,t6,ta,tb,tc,hd,hk⟩;have hwi:=aA (show i<maxLen by omega);refine vn ?_;simp only[wq.1,Nat.reduceLT,tb,tc];refine vn ?_;simp only[wq.1,↓reduceIte];refine vcB.mk (λhlt=> ?_) (λhlt=> ?_)
 ·have hlt:i<aa x.lat:=by have:=zqs hlt;omega
  have hfl:=Ey F3 x.lat hlt;have hsn:=vG F3 x.lat hlt;rw[<-eP3]at hfl;obtain⟨z,ez⟩:∃z,z=x.lat[i]:=⟨_,rfl⟩;have hz:z∈x.lat:=ez▸zqu hlt;rw[<-ez]at hfl hsn;have hgs:=IY hlt .any;rw[<-ez]at hgs;obtain⟨B,hB⟩:∃B,B=aa h:=⟨_,rfl⟩;have hgE:∀x:O,(h++[x])[B]? =al x:=λx=>by rw[hB];simp
  have hgS:∀x y:O,(h++[x]).set B y=h++[y]:=λx y=>by rw[hB];simp
  simp only[wq.1];refine ak ?_;refine aB ?_;refine vn ?_;simp only[wq.1,↓reduceIte,Nat.reduceEqDiff,Nat.reduceLT,Nat.reduceAdd,ta,tc,hgs,<-hB,hgE,hgS];refine⟨⟨by omega,by omega⟩,?_⟩;have hzn:=nLat z hz;have hsv:vM z.name=aP z.name:=by unfold vM;rw[if_pos hzn.1]
  have hspE:Ev TE 41 [.is ab 1 [.str z.name]] (aJ [aP z.name]):=by rw[<-hsv];exact Ev.le (dm.cons dH dm.nil) (tV [z.name] (by simp))
  have hin:=hn.lat z hz;unfold qf at hin;simp only[zqf,zqb]at hin;have hln:z.init.toNat<aa bW:=by show _<3;omega
  have hgl:(bW.map V.str).getD (z.init.toNat*1) .any= .str (bW.getD z.init.toNat []):=by rw[Nat.mul_one,fG hln,zqg,zqk hln];rfl
  have hF:F3 z=gV (aP z.name++[32,61,32]) (bW.getD z.init.toNat []) [z.next]:=rfl;rw[hF]at hfl;have hcl:aa (aP z.name)+3<=aa (gV (aP z.name++[32,61,32]) (bW.getD z.init.toNat []) [z.next]):=by unfold gV;simp only[zqa,zrt,List.length_nil];omega
  have gsp:(List.map V.str [aP z.name]).getD 0 .any= .str (aP z.name):=rfl;have hwB:=hw.app [am [V.str z.name,V.str z.next,vi z.init]];have h0B:(h++[am [V.str z.name,V.str z.next,vi z.init]])[0]? =al (ciO x):=by rw[zqj (zqe h0).1];exact h0
  have hBg:=hgE (am [V.str z.name,V.str z.next,vi z.init]);obtain⟨hB',ehB⟩:∃hB',hB'=h++[am [V.str z.name,V.str z.next,vi z.init]]:=⟨_,rfl⟩;rw[<-ehB]at hwB h0B hBg ⊢;refine lT mixed (by decide +kernel) ?_;simp only[nts,List.size_toArray,zrt,List.length_nil,Nat.reduceAdd,Nat.reduceSub,List.take_succ_cons,List.take_zero];simp only[wq.1,↓reduceIte,Nat.reduceEqDiff,Nat.reduceLT,Nat.reduceLeDiff,Nat.reduceAdd,Nat.reduceSub,Int.reduceToNat,Nat.reduceDiv,Int.reduceLT,Int.reduceLE,Int.reduceNeg,Int.reduceBEq,Int.reduceBNe,Int.reduceAdd,Int.reduceSub,Nat.reduceBEq,reduceCtorEq,Nat.reduceMul,ay,Tryz.results13,bJ,bT,t6,hd,hBg];refine⟨⟨rfl,by decide⟩,uh.mk hspE rfl rfl ?_⟩;simp only[wq.1,↓reduceIte,Nat.reduceEqDiff,Nat.reduceLT,Nat.reduceLeDiff,Nat.reduceAdd,Nat.reduceSub,Int.reduceToNat,Nat.reduceDiv,Int.reduceLT,Int.reduceLE,Int.reduceNeg,Int.reduceBEq,Int.reduceBNe,Int.reduceAdd,Int.reduceSub,Nat.reduceBEq,reduceCtorEq,Nat.reduceMul,ay,Tryz.results13,bJ,bT,t6,hd,hBg,IJ,jh,gl6,hgl,gsp];refine⟨by omega,by omega,⟨by omega,by omega,by omega⟩,⟨rfl,by decide⟩,ig (dm.cons (VLe.refl _) (dm.cons (VLe.refl _) (dm.cons dH (dm.cons (VLe.refl _) dm.nil)))) (HLe.refl _)<|oN (ahead:=aP z.name++[32,61,32]) (word:=bW.getD z.init.toNat []) (l:=[z.next]) hwB (λs hs=>by rw[zrc.1 hs];exact hzn.2) (by simp only[zqa]at hfl ⊢;omega) (by simp) (λv h' p hp hw' hk'=> ?_)⟩;have p0:p 0=ac:=by
   cases hc:p 0 with
   |false=>rfl
   |true=>have:=hp 0 hc;omega
  have p1:p 1=ac:=by
   cases hc:p 1 with
   |false=>rfl
   |true=>have:=hp 1 hc;omega
  simp only[wq.1,bC,hd];refine vm ?_;simp only[wq.1,seval,tc,hwi];refine .inl ⟨m-1,by omega,i+1,by omega,by omega,by rw[hsn,hF,<-zqc];exact hw',hk' _ h0B hd0,by simp only[wq.1,seval,t1,p0],by simp only[wq.1,seval,t5,p1],by simp only[wq.1,seval,t6,p1],by simp only[wq.1,seval,ta],by simp only[wq.1,seval,tb],by simp only[wq.1,↓reduceIte],by simp only[wq.1,hd],λj hj=> ?_⟩;have hj:(f.k j||p j)=ab:=hj;rcases(Bool.or_eq_true _ _).mp hj with h|h
  ·exact hk j h
  ·exact hp j h
 have hi:i=aa x.lat:=by have:=of_decide_eq_false hlt;omega
 rw[hi,zrx,<-eP3]at hw;simp only[wq.1];show awp _ _ _ _ _ _ _;clear hlt hi hm hil hwi;refine ak ?_;refine vn ?_;simp only[wq.1,seval,t1,h0];refine aB ?_;refine aF (λm f h=>∃i:Nat,m+i=aa x.gates/\i<=aa x.gates/\Wb ((P1++P2++P3)++(x.gates.take i).flatMap F4) h/\h[0]? =al (ciO x)/\f.t 1= .lp 0 0/\f.t 5= .lp 1 0/\f.t 6=fnP/\f.t 73=iU x.gates/\f.t 74=vi (aa x.gates)/\f.t 75=vi i/\f.d=[]/\(∀j,f.k j=ab->1<j)) (aa x.gates) ⟨0,by omega,by omega,by simpa using hw,h0,by simp only[wq.1,seval,t1],by simp only[wq.1,seval,t5],by simp only[wq.1,seval,t6],by simp only[wq.1,seval],by simp only[wq.1,seval],by simp only[wq.1,↓reduceIte];rfl,by simp only[wq.1,hd],λj hj=>hk j hj⟩ ?_;clear hw h0 t1 t5 t6 hd hk;rintro m f h ⟨i,hm,hil,hw,h0,t1,t5,t6,ta,tb,tc,hd,hk⟩;have hwi:=aA (show i<maxLen by omega);refine vn ?_;simp only[wq.1,Nat.reduceLT,tb,tc];refine vn ?_;simp only[wq.1,↓reduceIte];refine vcB.mk (λhlt=> ?_) (λhlt=> ?_)
 ·have hlt:i<aa x.gates:=by have:=zqs hlt;omega
  have hfl:=Ey F4 x.gates hlt;have hsn:=vG F4 x.gates hlt;rw[<-eP4]at hfl;obtain⟨z,ez⟩:∃z,z=x.gates[i]:=⟨_,rfl⟩;have hz:z∈x.gates:=ez▸zqu hlt;rw[<-ez]at hfl hsn;have hgs:=uH hlt .any;rw[<-ez]at hgs;obtain⟨B,hB⟩:∃B,B=aa h:=⟨_,rfl⟩;have hgE:∀x:O,(h++[x])[B]? =al x:=λx=>by rw[hB];simp
  have hgS:∀x y:O,(h++[x]).set B y=h++[y]:=λx y=>by rw[hB];simp
  simp only[wq.1];refine ak ?_;refine aB ?_;refine vn ?_;simp only[wq.1,↓reduceIte,Nat.reduceEqDiff,Nat.reduceLT,Nat.reduceAdd,ta,tc,hgs,<-hB,hgE,hgS];refine⟨⟨by omega,by omega⟩,?_⟩;have hzn:=nGa z hz;have hsv:vM z.name=aP z.name:=by unfold vM;rw[if_pos hzn.1]
  have hspE:Ev TE 41 [.is ab 1 [.str z.name]] (aJ [aP z.name]):=by rw[<-hsv];exact Ev.le (dm.cons dH dm.nil) (tV [z.name] (by simp))
  obtain⟨kk,hkk⟩:=XY (hpl z hz);have hkl:=kk.2;have hln:z.op.toNat<aa dZ:=by show _<10;omega
  have hgl:(dZ.map V.str).getD (z.op.toNat*1) .any= .str (dZ.getD z.op.toNat []):=by rw[Nat.mul_one,fG hln,zqg,zqk hln];rfl
  have hgi:=hlc.gins z hz;have hF:F4 z=gV (aP z.name++[32,61,32]) (dZ.getD z.op.toNat []) z.ins:=rfl;rw[hF]at hfl;have hcl:aa (aP z.name)+3<=aa (gV (aP z.name++[32,61,32]) (dZ.getD z.op.toNat []) z.ins):=by unfold gV;simp only[zqa,zrt,List.length_nil];omega
  have gsp:(List.map V.str [aP z.name]).getD 0 .any= .str (aP z.name):=rfl;have hwB:=hw.app [am [V.str z.name,vi z.op,aJ z.ins,aJ z.rows,.bool z.off]];have h0B:(h++[am [V.str z.name,vi z.op,aJ z.ins,aJ z.rows,.bool z.off]])[0]? =al (ciO x):=by rw[zqj (zqe h0).1];exact h0
  have hBg:=hgE (am [V.str z.name,vi z.op,aJ z.ins,aJ z.rows,.bool z.off]);obtain⟨hB',ehB⟩:∃hB',hB'=h++[am [V.str z.name,vi z.op,aJ z.ins,aJ z.rows,.bool z.off]]:=⟨_,rfl⟩;rw[<-ehB]at hwB h0B hBg ⊢;refine lT mixed (by decide +kernel) ?_;simp only[nts,List.size_toArray,zrt,List.length_nil,Nat.reduceAdd,Nat.reduceSub,List.take_succ_cons,List.take_zero];simp only[wq.1,↓reduceIte,Nat.reduceEqDiff,Nat.reduceLT,Nat.reduceLeDiff,Nat.reduceAdd,Nat.reduceSub,Int.reduceToNat,Nat.reduceDiv,Int.reduceLT,Int.reduceLE,Int.reduceNeg,Int.reduceBEq,Int.reduceBNe,Int.reduceAdd,Int.reduceSub,Nat.reduceBEq,reduceCtorEq,Nat.reduceMul,ay,Tryz.results13,bJ,bT,t6,hd,hBg];refine⟨⟨rfl,by decide⟩,uh.mk hspE rfl rfl ?_⟩;simp only[wq.1,↓reduceIte,Nat.reduceEqDiff,Nat.reduceLT,Nat.reduceLeDiff,Nat.reduceAdd,Nat.reduceSub,Int.reduceToNat,Nat.reduceDiv,Int.reduceLT,Int.reduceLE,Int.reduceNeg,Int.reduceBEq,Int.reduceBNe,Int.reduceAdd,Int.reduceSub,Nat.reduceBEq,reduceCtorEq,Nat.reduceMul,ay,Tryz.results13,bJ,bT,t6,hd,hBg,IJ,jh,gl5,hgl,gsp];refine⟨by omega,by omega,⟨by omega,by omega,by omega⟩,oN (ahead:=aP z.name++[32,61,32]) (word:=dZ.getD z.op.toNat []) (l:=z.ins) hwB hzn.2 (by simp only[zqa]at hfl ⊢;omega) (by omega) (λv h' p hp hw' hk'=> ?_)⟩;have p0:p 0=ac:=by
   cases hc:p 0 with
   |false=>rfl
   |true=>have:=hp 0 hc;omega
  have p1:p 1=ac:=by
   cases hc:p 1 with
   |false=>rfl
   |true=>have:=hp 1 hc;omega
  simp only[wq.1,bC,hd];refine vm ?_;simp only[wq.1,seval,tc,hwi];refine .inl ⟨m-1,by omega,i+1,by omega,by omega,by rw[hsn,hF,<-zqc];exact hw',hk' _ h0B hd0,by simp only[wq.1,seval,t1,p0],by simp only[wq.1,seval,t5,p1],by simp only[wq.1,seval,t6,p1],by simp only[wq.1,seval,ta],by simp only[wq.1,seval,tb],by simp only[wq.1,↓reduceIte],by simp only[wq.1,hd],λj hj=> ?_⟩;have hj:(f.k j||p j)=ab:=hj;rcases(Bool.or_eq_true _ _).mp hj with h|h
  ·exact hk j h
  ·exact hp j h
 have hi:i=aa x.gates:=by have:=of_decide_eq_false hlt;omega
 rw[hi,zrx,<-eP4]at hw;simp only[wq.1];show awp _ _ _ _ _ _ _;clear hlt hi hm hil hwi;refine vn ?_;simp only[wq.1,seval,t5];refine NQ hw (by simp only[zqa];omega) λh' p=> ?_;simp only[wq.1,seval,bC,hd];refine vm ?_;simp only[wq.1,seval,hd];exact aC.dat rfl
def H9(g:Ga):Bool:=Td 12 g.ins&&Td 140 g.rows&&ar (aa g.name<=60)
theorem NT[MO](g:Ga):Ev TE 115 [g.v] (.bool (H9 g)):=by have h1:=uz g.ins 12;have h2:=uz g.rows 140;have e:ar ((aa g.name:Int)<=60)=ar (aa g.name<=60):=decide_eq_decide.2 (by omega);refine ai Tryz.func115 rfl (by simp[nts]) (vm ?_);simp only[wq.1,seval,Tryz.results115];refine ag.ev h1 (by simp only[aL,aE,ax,zre]) ?_;simp only[wq.1,seval];refine ag.ev h2 (by simp only[aL,aE,ax,zre]) ?_;simp only[wq.1,seval,e];exact aC.dat rfl
def EC(q:La):Bool:=ar (aa q.name<=60)&&ar (aa q.next<=60)
def Ia(c:Ci):Bool:=Td 210 c.ins&&Td 210 c.outs&&ar (aa c.gates<=210)&&ar (aa c.lat<=210)
def Bc(c:Ci):Bool:=c.gates.all H9&&(c.lat.all EC&&Ia c)
def yx(c:Ci):Bool:=Bc c&&ar (aa c.gates<=24)&&ar (aa c.ins<=24)&&ar (aa c.lat<=24)
theorem Yu{c:Ci}(h1:c.gates.all H9=ab\/210<aa c.gates)(h2:c.lat.all EC=ab\/210<aa c.lat):Bc c=Ia c:=by
 unfold Bc;rcases h1 with h1|h1
 ·rw[h1,Bool.true_and];rcases h2 with h2|h2
  ·rw[h2,Bool.true_and]
  ·have:Ia c=ac:=by unfold Ia;rw[decide_eq_false (show ¬aa c.lat<=210 by omega),Bool.and_false]
   rw[this,Bool.and_false]
 ·have:Ia c=ac:=by unfold Ia;rw[decide_eq_false (show ¬aa c.gates<=210 by omega),Bool.and_false,Bool.false_and]
  rw[this,Bool.and_false,Bool.and_false]
theorem VH{c:Ci}{i:Nat}(h:i<aa c.gates)(hb:H9 c.gates[i]=ac):Bc c=ac:=by
 have:c.gates.all H9=ac:=by rw[Bool.eq_false_iff];intro e;rw[zrs.1 e _ (zqu h)]at hb;cases hb
 unfold Bc;rw[this,Bool.false_and]
theorem VI{c:Ci}{i:Nat}(h:i<aa c.lat)(hb:EC c.lat[i]=ac):Bc c=ac:=by
 have:c.lat.all EC=ac:=by rw[Bool.eq_false_iff];intro e;rw[zrs.1 e _ (zqu h)]at hb;cases hb
 unfold Bc;rw[this,Bool.false_and,Bool.and_false]
theorem LD{α:Type}{l:List α}{p:α->Bool}{i:Nat}(h:∀x∈l.take i,p x=ab)(hi:i=aa l\/210<i/\i<=aa l):l.all p=ab\/210<aa l:=by
 rcases hi with hi|⟨h1,h2⟩
 ·rw[hi,zrx]at h;exact .inl (zrs.2 h)
 ·exact .inr (by omega)
theorem VJ[MO](c:Ci):Ev TE 64 [c.v] (.bool (Bc c)):=by
 have hM:=mLx;refine Ev.bnd λhb=> ?_;have hlg:aa c.gates<=maxLen/\aa c.lat<=maxLen:=by simp only[V.bnds,V.bnd,zra]at hb;exact⟨hb.1.2.2.2.1.1,hb.1.2.2.1.1⟩
 have h1:=uz c.ins 210;have h2:=uz c.outs 210;have q1:ar ((aa c.gates:Int)<=210)=ar (aa c.gates<=210):=decide_eq_decide.2 (by omega);have q2:ar ((aa c.lat:Int)<=210)=ar (aa c.lat<=210):=decide_eq_decide.2 (by omega);obtain⟨B,hB⟩:∃B:H,B=[am [aJ c.ins,aJ c.outs,kY c.lat,iU c.gates]]:=⟨_,rfl⟩;refine ai Tryz.func64 rfl (by simp[nts]) ?_;refine vn ?_;simp only[wq.1,Nat.reduceLT,Tryz.results64];refine ak (bf (Q:=λxe f h=>(xe= .normal/\(c.gates.all H9=ab\/210<aa c.gates)/\f.t 1= .lp 0 0/\f.d=[]/\h=[am [aJ c.ins,aJ c.outs,kY c.lat,iU c.gates]])\/(xe= .ret/\Bc c=ac/\f.t 2= .bool ac/\f.d=[])) ?_ ?_)
 ·rintro xe f h (⟨rfl,hg,t1,hd,rfl⟩|⟨rfl,hf,t2,hd⟩)
  ·show awp _ _ _ _ _ _ _;refine ak (bf (Q:=λxe f h=>(xe= .normal/\(c.lat.all EC=ab\/210<aa c.lat)/\f.t 1= .lp 0 0/\f.d=[]/\h=[am [aJ c.ins,aJ c.outs,kY c.lat,iU c.gates]])\/(xe= .ret/\Bc c=ac/\f.t 2= .bool ac/\f.d=[])) ?_ ?_)
   ·rintro xe f h (⟨rfl,hl,t1,hd,rfl⟩|⟨rfl,hf,t2,hd⟩)
    ·show awp _ _ _ _ _ _ _;have e:=Yu hg hl;refine vn ?_;simp only[wq.1,seval,t1];refine ag.ev h1 (by simp only[aL,aE,ax,zre]) ?_;simp only[wq.1,seval];refine vn ?_;simp only[wq.1,seval,t1];refine ag.ev h2 (by simp only[aL,aE,ax,zre]) ?_;simp only[wq.1,seval];refine vn ?_;simp only[wq.1,seval,t1,e];refine vm ?_;simp only[wq.1,↓reduceIte,q1,q2,hd];show aC TE _ (V.bool (Ia c)) (V.bool (Ia c));exact aC.dat rfl
    ·simp only[wq.1,t2,hd,hf];exact aC.dat rfl
   ·refine vn ?_;simp only[wq.1,Nat.reduceLT];refine aB ?_;refine aF (λm f h=>∃i:Nat,m+i=aa c.lat/\i<=211/\(∀x∈c.lat.take i,EC x=ab)/\f.t 1= .lp 0 0/\f.t 5=vi i/\f.d=[]/\h=[am [aJ c.ins,aJ c.outs,kY c.lat,iU c.gates]]) (aa c.lat) ⟨0,by omega,by omega,(λx hx=>by simp at hx),by simp only[wq.1,seval,t1],by simp only[wq.1,↓reduceIte];rfl,by simp only[wq.1,hd],rfl⟩ ?_;rintro m f h ⟨i,hm,hil,hall,t1,t5,hd,rfl⟩;refine vn ?_;simp only[wq.1,seval,t1,t5];refine vcB.mk (λhc=> ?_) (λhc=> ?_)
    ·rw[zqf,zqb,zqb]at hc;obtain⟨hc1,hc2⟩:i<aa c.lat/\i<=210:=by omega
     have ha:=IY hc1 .any;have hw:=aA (show i<maxLen by omega);have qa:ar (60<(c.lat[i].name.length:Int))= !ar (c.lat[i].name.length<=60):=by
      by_cases hh:c.lat[i].name.length<=60
      ·rw[decide_eq_true hh,decide_eq_false (by omega)];rfl
      ·rw[decide_eq_false hh,decide_eq_true (by omega)];rfl
     have qb:ar (60<(c.lat[i].next.length:Int))= !ar (c.lat[i].next.length<=60):=by
      by_cases hh:c.lat[i].next.length<=60
      ·rw[decide_eq_true hh,decide_eq_false (by omega)];rfl
      ·rw[decide_eq_false hh,decide_eq_true (by omega)];rfl
     simp only[wq.1];refine ak (aB ?_);refine vn ?_;simp only[wq.1,seval,t1,t5,ha];refine⟨⟨by omega,by omega⟩,λh=>⟨h,by omega,by omega⟩,?_⟩;refine vm ?_;simp only[wq.1,↓reduceIte,qa,qb];cases hfw:EC c.lat[i]with
     |false=>unfold EC at hfw;rw[<-Bool.not_and,hfw];simp only[wq.1,seval,hd];exact .inr (VI hc1 hfw)
     |true =>
      have hfw2:=hfw;unfold EC at hfw2;rw[<-Bool.not_and,hfw2];simp only[wq.1];refine vm ?_;simp only[wq.1,seval,t5,hw];refine .inl ⟨m-1,by omega,i+1,by omega,by omega,?_,t1,rfl,hd,rfl⟩;rw[zrg,zqk hc1];intro x hx;rcases zrf.1 hx with hx|hx
      ·exact hall x hx
      ·obtain rfl:=zrc.1 (by simpa using hx);exact hfw
    ·have hi:i=aa c.lat\/210<i/\i<=aa c.lat:=by rw[Bool.and_eq_false_iff,zqd,zqd]at hc;omega
     simp only[wq.1,seval,t1,hd];exact .inl (LD hall hi)
  ·simp only[wq.1,t2,hd,hf];exact aC.dat rfl
 ·refine vn ?_;simp only[wq.1,Nat.reduceLT];refine aB ?_;refine aF (λm f h=>∃i:Nat,m+i=aa c.gates/\i<=211/\(∀x∈c.gates.take i,H9 x=ab)/\f.t 1= .lp 0 0/\f.t 3=vi i/\f.d=[]/\h=[am [aJ c.ins,aJ c.outs,kY c.lat,iU c.gates]]) (aa c.gates) ⟨0,by omega,by omega,(λx hx=>by simp at hx),by simp only[wq.1,seval],by simp only[wq.1,↓reduceIte];rfl,by simp only[wq.1],rfl⟩ ?_;rintro m f h ⟨i,hm,hil,hall,t1,t3,hd,rfl⟩;refine vn ?_;simp only[wq.1,seval,t1,t3];refine vcB.mk (λhc=> ?_) (λhc=> ?_)
  ·rw[zqf,zqb,zqb]at hc;obtain⟨hc1,hc2⟩:i<aa c.gates/\i<=210:=by omega
   have ha:=uH hc1 .any;have hev:=NT c.gates[i];have hw:=aA (show i<maxLen by omega);simp only[wq.1];refine ak (aB ?_);refine vn ?_;simp only[wq.1,seval,t1,t3,ha];refine⟨⟨by omega,by omega⟩,ag.ev hev (by simp only[aL,aE,ax,zre]) ?_⟩;simp only[wq.1,seval];refine vn ?_;simp only[wq.1,seval];cases hfw:H9 c.gates[i]with
   |false=>refine vm ?_;simp only[wq.1,seval,hd];exact .inr (VH hc1 hfw)
   |true =>
    refine vm ?_;simp only[wq.1,↓reduceIte];refine vm ?_;simp only[wq.1,seval,t3,hw];refine .inl ⟨m-1,by omega,i+1,by omega,by omega,?_,t1,rfl,hd,rfl⟩;rw[zrg,zqk hc1];intro x hx;rcases zrf.1 hx with hx|hx
    ·exact hall x hx
    ·obtain rfl:=zrc.1 (by simpa using hx);exact hfw
  ·have hi:i=aa c.gates\/210<i/\i<=aa c.gates:=by rw[Bool.and_eq_false_iff,zqd,zqd]at hc;omega
   simp only[wq.1,seval,t1,hd];exact .inl (LD hall hi)
theorem Ib[MO](c:Ci):Ev TE 23 [c.v] (.bool (yx c)):=by have e:=VJ c;have q1:ar ((aa c.gates:Int)<=24)=ar (aa c.gates<=24):=decide_eq_decide.2 (by omega);have q2:ar ((aa c.ins:Int)<=24)=ar (aa c.ins<=24):=decide_eq_decide.2 (by omega);have q3:ar ((aa c.lat:Int)<=24)=ar (aa c.lat<=24):=decide_eq_decide.2 (by omega);refine ai Tryz.func23 rfl (by simp[nts]) ?_;refine vn ?_;simp only[wq.1,Nat.reduceLT,Tryz.results23];refine vn ?_;simp only[wq.1,seval];refine ag.ev e (by simp only[aL,aE,ax,lg,kZ,zre]) ?_;simp only[wq.1,seval];refine vn ?_;simp only[wq.1,seval];refine vm ?_;simp only[wq.1,↓reduceIte,q1,q2,q3];exact aC.dat rfl
def Ic(l:List Ga):Int:=l.foldl (λa g=>aD .i64 (a+aa g.rows)) 0
def Jv(c:Ci):Bool:=yx c&&ar (Ic c.gates<=40)&&ar (aa c.gates<=16)
theorem NU(l:List Ga)(g:Ga):Ic (l++[g])=aD .i64 (Ic l+aa g.rows):=by unfold Ic;rw[List.foldl_append];rfl
theorem SE[MO](c:Ci)(hs:Sum c):Ev TE 12 [c.v] (.bool (Jv c)):=by
 have hM:=mLx;have hL:=Ib c;have hgl:aa c.gates<=9000000000000000000:=by unfold Sum at hs;omega
 unfold Jv;obtain⟨lt,elt⟩:∃lt,lt=yx c:=⟨_,rfl⟩;rw[<-elt]at hL ⊢;refine ai Tryz.func12 rfl (by simp[nts]) ?_;refine vn ?_;simp only[wq.1,Nat.reduceLT,Tryz.results12];refine vn ?_;simp only[wq.1,seval];refine ag.ev hL (oK c) ?_;simp only[wq.1,seval];refine vn ?_;simp only[wq.1,Nat.reduceLT];refine ak ?_;refine vn ?_;simp only[wq.1,Nat.reduceLT];refine aB ?_;refine aF (λm f h=>∃i:Nat,m+i=aa c.gates/\i<=aa c.gates/\h[0]? =al (am [aJ c.ins,aJ c.outs,kY c.lat,iU c.gates])/\f.t 1= .lp 0 0/\f.t 3= .bool lt/\f.t 4= .int .i64 (Ic (c.gates.take i))/\f.t 5=vi i/\f.d=[]) (aa c.gates) ⟨0,by omega,by omega,rfl,by simp only[wq.1,seval],by simp only[wq.1,seval],by simp only[wq.1,seval];rfl,by simp only[wq.1,↓reduceIte];rfl,by simp only[wq.1]⟩ ?_;rintro m f h ⟨i,hm,hil,h0,t1,t3,t4,t5,hd⟩;have hw:=aA (show i<maxLen by omega);refine ak ?_;refine vn ?_;simp only[wq.1,seval,t1,t5,h0];refine bH (b:=ar ((i:Int)<(aa c.gates:Int))) (by simp only[wq.1,↓reduceIte]) (by simp only[wq.1,↓reduceIte]) (λhlt=> ?_) (λhlt=> ?_)
 ·have hlt:i<aa c.gates:=by have:=zqs hlt;omega
  obtain⟨g,eg⟩:∃g,g=c.gates[i]:=⟨_,rfl⟩;have hgg:=uH hlt .any;rw[<-eg]at hgg;have hsn:Ic (c.gates.take (i+1))=aD .i64 (Ic (c.gates.take i)+aa g.rows):=by rw[List.take_succ_eq_append_getElem hlt,NU,eg]
  refine vm ?_;simp only[wq.1];show awp _ _ _ _ _ _ _;refine ak ?_;refine aB ?_;refine vm ?_;simp only[wq.1,seval,t1,t4,t5,h0,hgg];refine⟨⟨by omega,by omega⟩,?_⟩;refine vm ?_;simp only[wq.1,seval,t5,hw];exact .inl ⟨m-1,by omega,i+1,by omega,by omega,h0,by simp only[wq.1,seval,t1],by simp only[wq.1,seval,t3],by simp only[wq.1,seval,hsn],by simp only[wq.1,↓reduceIte],by simp only[wq.1,hd]⟩
 ·have hi:i=aa c.gates:=by have:=of_decide_eq_false hlt;omega
  rw[hi,zrx]at t4;refine vm ?_;simp only[wq.1];show awp _ _ _ _ _ _ _;have e16:ar ((aa c.gates:Int)<=16)=ar (aa c.gates<=16):=decide_eq_decide.2 (by omega);obtain⟨b40,e40⟩:∃b,b=ar (Ic c.gates<=40):=⟨_,rfl⟩;obtain⟨b16,eb16⟩:∃b,b=ar (aa c.gates<=16):=⟨_,rfl⟩;rw[<-eb16]at e16;rw[<-e40,<-eb16];clear hlt;cases lt<;>cases b40<;>cases b16<;>(refine vn ?_)<;>simp only[wq.1,seval,t1,t3,t4,h0,<-e40,e16]<;>(refine vm ?_)<;>simp only[wq.1,↓reduceIte,hd]<;>exact aC.dat rfl
def nT1:S:=[73,78,80,85,84,40,97,41,10,73,78,80,85,84,40,98,41,10,79,85,84,80,85,84,40,122,41,10,122,32,61,32,65,78,68,40,97,44,32,98,41,32,35,32,97,110,100,10,113,32,61,32,68,70,70,49,40,122,41,10]
def nT2:S:=[122,32,61,32,77,85,88,40,97,41,10]
def nT3:S:=[73,78,80,85,84,40,97]
def nT4:S:=[73,78,80,85,84,40,97,41,10,73,78,80,85,84,40,98,41,10,79,85,84,80,85,84,40,122,41,10,113,32,61,32,68,70,70,49,40,122,41,10,122,32,61,32,65,78,68,40,97,44,32,98,41,10]
def nC1:Ci:=⟨[[97],[98]],[[122]],[⟨[113],[122],1⟩],[⟨[122],4,[[97],[98]],[],ac⟩]⟩
def nC2:Ci:=⟨[[97],[98]],[[122]],[],[⟨[122],10,[[97],[98]],[[49,48]],ab⟩]⟩
def nC3:Ci:=⟨[[97],[98]],[[122]],[],[⟨[110,49],3,[[98]],[],ac⟩,⟨[122],5,[[97],[110,49]],[],ac⟩]⟩
theorem zav:o6 o7 nT1= .ok nC1:=by kernel_rfl
theorem zaw:o6 o7 nT2= .error (4,9):=by kernel_rfl
theorem zax:o6 o7 nT3= .error (7,2):=by kernel_rfl
theorem zay:Ez nC1= .tup [.str nT4,vi 0]:=by kernel_rfl
theorem zaz:D6 nC2=(nC3,0):=by kernel_rfl
theorem zaA:lH nT2 ((4:Nat):Int) 9= .agg [vi 9,vi 1,vi 5]:=by kernel_rfl
theorem zaB:lH nT3 ((7:Nat):Int) 2= .agg [vi 2,vi 1,vi 8]:=by kernel_rfl
theorem Yv{k:Nat}{v v':V}(h:VLe v v'):VLe (.is ab k [v]) (.is ac k [v']):=λc x hx=>dH c x (VLe.is (x:=ab) (es:=[v]) (es':=[v']) rfl (λi a b ha hb=>by
 cases i with
 |zero=>obtain rfl:=Option.some.inj ha;obtain rfl:=Option.some.inj hb;exact h
 |succ i=>cases ha) c x hx)
theorem NV[MO]:Ev TE 8 [] (.bool ab):=by have e1:=vF nT1 (by decide);have e2:=H8 nC1 (by decide);have e3:=vF nT2 (by decide);have e4:=vF nT3 (by decide);have e5:=Hq nC2 (by decide);unfold oM at e1 e3 e4;rw[zav]at e1;rw[zaw]at e3;rw[zax]at e4;rw[zay]at e2;rw[zaz]at e5;dsimp only at e1 e3 e4 e5;rw[zaA]at e3;rw[zaB]at e4;simp only[nC1,nC2,nC3,nT1,nT2,nT3,nT4,Ci.v,Ga.v,La.v,zrd,List.map_nil]at e1 e2 e3 e4 e5;refine ai Tryz.func8 rfl (by simp[nts]) ?_;refine vn ?_;simp only[wq.1,Nat.reduceLT,Tryz.results8];refine vn ?_;simp only[wq.1,seval];refine ag.ev e1 rfl ?_;simp only[wq.1,seval];refine vn ?_;simp only[wq.1,seval];refine ag.ev e2 rfl ?_;simp only[wq.1,seval];refine vn ?_;simp only[wq.1,seval];refine ag.ev e3 rfl ?_;simp only[wq.1,seval];refine vn ?_;simp only[wq.1,seval];refine ag.ev e4 rfl ?_;simp only[wq.1,↓reduceIte,Nat.reduceEqDiff,Nat.reduceLT,Nat.reduceLeDiff,Nat.reduceAdd,Nat.reduceSub,Int.reduceToNat,Nat.reduceDiv,Int.reduceLT,Int.reduceLE,Int.reduceNeg,Int.reduceBEq,Int.reduceBNe,Int.reduceAdd,Int.reduceSub,Nat.reduceBEq,reduceCtorEq,Nat.reduceMul,ay,Tryz.results8,bC];refine vn ?_;simp only[wq.1,↓reduceIte,Nat.reduceEqDiff,Nat.reduceLT,Nat.reduceLeDiff,Nat.reduceAdd,Nat.reduceSub,Int.reduceToNat,Nat.reduceDiv,Int.reduceLT,Int.reduceLE,Int.reduceNeg,Int.reduceBEq,Int.reduceBNe,Int.reduceAdd,Int.reduceSub,Nat.reduceBEq,reduceCtorEq,Nat.reduceMul,ay,Tryz.results8];refine⟨⟨rfl,by decide⟩,⟨rfl,by decide⟩,⟨rfl,by decide⟩,⟨rfl,by decide⟩,⟨rfl,by decide⟩,ig (dm.cons (VLe.agg (dm.cons VLe.exact (dm.cons VLe.exact (dm.cons VLe.nils (dm.cons (Yv (VLe.agg (dm.cons (VLe.refl _) (dm.cons (VLe.refl _) (dm.cons VLe.exact (dm.cons VLe.exact (dm.refl _))))))) (dm.refl _)))))) (dm.refl _)) (HLe.refl _) (ag.ev e5 rfl ?_)⟩;simp only[wq.1,seval];have en:(((1:Nat):Int) != 1)=ac:=rfl;have en2:(((2:Nat):Int) != 2)=ac:=rfl;refine ak ?_;refine vn ?_;simp only[wq.1,seval,en,en2];refine vm ?_;simp only[wq.1,↓reduceIte,Nat.reduceEqDiff,Nat.reduceLT,Nat.reduceLeDiff,Nat.reduceAdd,Nat.reduceSub,Int.reduceToNat,Nat.reduceDiv,Int.reduceLT,Int.reduceLE,Int.reduceNeg,Int.reduceBEq,Int.reduceBNe,Int.reduceAdd,Int.reduceSub,Nat.reduceBEq,reduceCtorEq,Nat.reduceMul,ay,Tryz.results8,en,en2,Bool.or_self];show awp _ _ _ _ _ _ _;refine vn ?_;simp only[wq.1,↓reduceIte,Nat.reduceEqDiff,Nat.reduceLT,Nat.reduceLeDiff,Nat.reduceAdd,Nat.reduceSub,Int.reduceToNat,Nat.reduceDiv,Int.reduceLT,Int.reduceLE,Int.reduceNeg,Int.reduceBEq,Int.reduceBNe,Int.reduceAdd,Int.reduceSub,Nat.reduceBEq,reduceCtorEq,Nat.reduceMul,ay,Tryz.results8,yG,TC,beq_self_eq_true,zre];refine⟨Eu,by decide,by decide,Eu,Eu,by decide,by decide,by decide,?_⟩;refine vm ?_;simp only[wq.1,↓reduceIte];exact aC.dat rfl
theorem ZN{x:Ci}(ho:(kW x).1=0):Sum x:=by have hl:=P9 (iJ ho).lim;show aa x.ins+aa x.lat+aa x.gates<=_;have:=hl.ins;have:=hl.lat;have:=hl.gates;omega
open Go.RowKit
open Go.ChangeShapes
open Go.WideShapes
theorem tX{H:Type}{enc:TypeId×Value->H}{P:Program}{w:World}{base:Nat}{sp:Nat->Bool}{held:Bool}{fuel:Nat}{t k e:TypeId}{cs:List Value}{dl:List (Lit×DataW H)}{p:List MemPlace}
 (ht:P.underlying t=al (.map k e)) (h:DataW.trod enc P w base sp held fuel t cs=al (.map dl,p)) :
 ∃b es clk n,cs=[.map (al b)]/\w.heap[b]? =al (.map es clk)/\yz es clk/\(es.toList.map (·.key)).Nodup /\
  (∀x∈es.toList,∃l d q,(l,d)∈dl/\keyOf P k x.key=al l/\DataW.trod enc P w base sp held n e x.val.cells.toList=al (d,q)/\x.val.formed P e=ab) /\
  (∀y∈dl,∃x∈es.toList,keyOf P k x.key=al y.1):=by
 rcases WideElems.open_map ht h with⟨_,hx⟩|⟨b,es,clk,n,rfl,hcs,hb,_,F,hx⟩
 ·cases hx
 ·simp only[Prod.mk.injEq,DataW.map.injEq]at hx;obtain⟨hdl,_⟩:=hx;have hperm:=sorted_perm (es.toList.map (WideElems.rg P k (WideElems.elemAt enc P w base sp held n e)));rw[<-hdl]at hperm;obtain⟨s1,s2,s3⟩:=F.stamped;refine⟨b,es,clk,n,hcs,hb,⟨s1,s2⟩,s3,λx hx=> ?_,λy hy=> ?_⟩
  ·obtain⟨y,hy⟩:=F.reads x hx;have hk:=WideElems.rd_key hy;obtain⟨z,hz,hyz⟩:=WideElems.rd_val hy;unfold WideElems.elemAt at hz;split at hz
   ·rename_i hf;refine⟨y.1,y.2,z.2,hperm.mem_iff.2 (zrh.2 ⟨x,hx,WideElems.rg_of hy⟩),hk,?_,hf⟩;rw[hz,hyz]
   ·cases hz
  ·obtain⟨x,hx,hxy⟩:=zrh.1 (hperm.mem_iff.1 hy);obtain⟨y',hy'⟩:=F.reads x hx;rw[WideElems.rg_of hy']at hxy;subst hxy;exact⟨x,hx,WideElems.rd_key hy'⟩
def vOf:Value->V
 | .string s=> .str s.data.toList
 | .int k n=> .int k n
 | .func f _ _=> .fn f [] []
 | .agg cs=> .agg (cs.toList.map λx=>match x with | .int k n=>V.int k n|_=> .any)
 |_=> .any
theorem ED{c:C}{F:MapEntry->Value}{G:MapEntry->V}:∀ {l:List MapEntry},(∀x∈l,VRel c (G x) (F x))->VList c (l.map G) (l.map F)
 |[],_=>by simp only[List.map_nil,VList]
 |a::l,h=>by simp only[zrd,VList];exact⟨_,_,rfl,h a (by simp),ED λx hx=>h x (by simp[hx])⟩
theorem SG{W:World}{g b:Nat}{ty:TypeId}{fz:Nat×Nat}{es:Array MapEntry}{clk:Nat}(h1:W.heap[g]? =al (Obj.cells #[.map (al b)] ty fz))(h2:W.heap[b]? =al (.map es clk))(h3:yz es clk)
 (hk:∀x∈es.toList,VRel (cw W).data (vOf x.key) x.key) (hv:∀x∈es.toList,VRel (cw W).data (vOf x.val) x.val) :
 VRel (cw W) (.ip (.im (es.toList.map λx=>vOf x.key) (es.toList.map λx=>vOf x.val))) (.pointer (al ⟨g,0,aq⟩)):=by
 simp only[VRel];refine⟨g,0,.map (al b),rfl,λj hj=>⟨⟨trivial,λi hi=>by cases hi⟩,?_⟩,by simp[Value.cells],b,es,clk,rfl,⟨trivial,λi hi=>by cases hi⟩,h2,ED hk,ED hv,h3⟩;have hj:j=0:=by simp[Value.cells]at hj;omega
 subst hj;show W.cell? ⟨g,0+0,aq⟩=_;unfold World.cell?;simp only[h1];rfl
theorem Aj{α:Type}[DecidableEq α]{kd:K}{mk:α->V}(hk:∀a b,keq kd (mk a) (mk b)=al (ar (a=b)))(a:α):∀ks:List α,jm kd (mk a) (ks.map mk)=al (ks.findIdx? λb=>ar (a=b))
 |[]=>rfl
 |k::ks=>by
  simp only[zrd,jm,hk,List.findIdx?_cons];by_cases h:a=k
  ·simp[h]
  ·rw[decide_eq_false h];simp only[Aj hk a ks];cases ks.findIdx? λb=>ar (a=b)<;>rfl
theorem Jw{α:Type}{mk:α->V}{T:List (α×V)}:∀ {L:List MapEntry},(∀x∈L,∃y∈T,vOf x.key=mk y.1/\vOf x.val=y.2) ->
 ∃T':List (α×V),(L.map λx=>vOf x.key)=(T'.map (·.1)).map mk/\(L.map λx=>vOf x.val)=T'.map (·.2)/\(∀y∈T',y∈T)/\∀x∈L,∃y∈T',vOf x.key=mk y.1
 |[],_=>⟨[],rfl,rfl,λy h=>(by cases h),λx h=>(by cases h)⟩
 |a::L,h=>by
  obtain⟨y,hy,h1,h2⟩:=h a (by simp);obtain⟨T',t1,t2,t3,t4⟩:=Jw (L:=L) (T:=T) (mk:=mk) λx hx=>h x (List.mem_cons_of_mem _ hx);refine⟨y::T',?_,?_,λz hz=> ?_,λx hx=> ?_⟩
  ·rw[zrd,zrd,zrd,t1,h1]
  ·rw[zrd,zrd,t2,h2]
  ·rcases zrj.1 hz with rfl|hz
   ·exact hy
   ·exact t3 z hz
  ·rcases zrj.1 hx with rfl|hx
   ·exact⟨y,by simp,h1⟩
   ·obtain⟨z,hz,e⟩:=t4 x hx;exact⟨z,by simp[hz],e⟩
theorem Ak{α β:Type}:∀ {T:List (α×β)},(T.map (·.1)).Nodup->∀ {x y},x∈T->y∈T->x.1=y.1->x=y
 |[],_,x,y,hx,_,_=>by cases hx
 |a::T,hn,x,y,hx,hy,he=>by
  rw[zrd,List.nodup_cons]at hn;rcases zrj.1 hx with ex|hx2<;>rcases zrj.1 hy with ey|hy2
  ·rw[ex,ey]
  ·exact absurd (show a.1∈T.map (·.1)from zrh.2 ⟨y,hy2,by rw[<-ex,he]⟩) hn.1
  ·exact absurd (show a.1∈T.map (·.1)from zrh.2 ⟨x,hx2,by rw[<-ey,he]⟩) hn.1
  ·exact Ak hn.2 hx2 hy2 he
def ZO(z:V):Option V->V
 |some v=> .tup [v,.bool ab]
 |none=> .tup [z,.bool ac]
theorem LG{α:Type}[DecidableEq α]{kd:K}{mk:α->V}(hk:∀a b,keq kd (mk a) (mk b)=al (ar (a=b)))(hi:∀a b,mk a=mk b->a=b){L:List MapEntry}{T:List (α×V)}(hT:(T.map (·.1)).Nodup)
 (h1:∀x∈L,∃y∈T,vOf x.key=mk y.1/\vOf x.val=y.2) (h2:∀y∈T,∃x∈L,vOf x.key=mk y.1) (a:α) (z:V) :
 rU kd (mk a) (L.map λx=>vOf x.key) (L.map λx=>vOf x.val) z ab=(True,ZO z ((T.find? λy=>ar (a=y.1)).map (·.2))):=by
 obtain⟨T',t1,t2,t3,t4⟩:=Jw h1;rw[t1,t2];unfold rU;rw[Aj hk];cases hf:(T'.map (·.1)).findIdx? λb=>ar (a=b)with
 |some n =>
  obtain⟨hn,hp,_⟩:=List.findIdx?_eq_some_iff_getElem.1 hf;have hn':n<aa T':=by simpa using hn
  have hp:a=T'[n].1:=by simpa using hp
  have hm:=t3 _ (zqu hn');have hff:(T.find? λy=>ar (a=y.1))=al T'[n]:=by
   cases hq:T.find? λy=>ar (a=y.1)with
   |none=>have:=List.find?_eq_none.1 hq _ hm;rw[hp]at this;simp at this
   |some y =>
    have e1:=List.find?_some hq;have e2:=List.mem_of_find?_eq_some hq;have e1:a=y.1:=by simpa using e1
    rw[Ak hT e2 hm (by rw[<-e1,<-hp])]
  rw[hff];dsimp only[ZO,zrw];have:(T'.map (·.2)).getD n .any=T'[n].2:=fG hn' _;rw[this];rfl
 |none =>
  have hff:(T.find? λy=>ar (a=y.1))=aq:=by
   rw[List.find?_eq_none];intro y hy e;have e:a=y.1:=by simpa using e
   obtain⟨x,hx,ex⟩:=h2 y hy;obtain⟨y',hy',ey⟩:=t4 x hx;have e3:=hi _ _ (ex.symm.trans ey);have:=List.findIdx?_eq_none_iff.1 hf y'.1 (zrh.2 ⟨y',hy',rfl⟩);rw[e,e3]at this;simp at this
  rw[hff];rfl
theorem Yw(a b:S):keq .str (.str a) (.str b)=al (ar (a=b)):=by
 simp only[keq];by_cases h:a=b
 ·simp[h]
 ·rw[decide_eq_false h,beq_eq_false_iff_ne.2 h]
theorem SH(a b:Int):keq (.int .i64) (.int .i64 a) (.int .i64 b)=al (ar (a=b)):=by
 simp only[keq,if_true];by_cases h:a=b
 ·simp[h]
 ·rw[decide_eq_false h,beq_eq_false_iff_ne.2 h]
abbrev LLn : List (String × DataW Unit) := [("math/bits.deBruijn32tab", Rows.laid_math_bits_deBruijn32tab), ("math/bits.deBruijn64tab", Rows.laid_math_bits_deBruijn64tab), ("internal/strconv.uint64pow10", Rows.laid_internal_strconv_uint64pow10), ("unicode/utf8.acceptRanges", Rows.laid_unicode_utf8_acceptRanges), ("patchbay/spot.start", Rows.laid_patchbay_spot_start), ("patchbay/ident.kept", Rows.laid_patchbay_ident_kept), ("patchbay/net.ins", Rows.laid_patchbay_net_ins), ("patchbay/bench.words", Rows.laid_patchbay_bench_words), ("patchbay/bench.latches", Rows.laid_patchbay_bench_latches), ("patchbay/bench.more", Rows.laid_patchbay_bench_more), ("patchbay/bench.other", Rows.laid_patchbay_bench_other), ("unicode/utf8.first", Rows.laid_unicode_utf8_first)]
theorem Jy{W:World}(h:laidMetH Tryz.prog LLn W):laidMet Tryz.prog LLn W:=h
theorem iy{P:Program}{w:World}{n:String}{g:Nat}{cs:Array Value}(hg:P.globalNamed n=al g)(h:w.var? P n=al cs):∃ty fz,w.heap[g]? =al (Obj.cells cs ty fz):=by
 unfold World.var? at h;rw[hg,Option.bind_some]at h;split at h
 ·cases h;exact⟨_,_,by assumption⟩
 ·cases h
theorem ZP{P:Program}{v:Value}{e e':TypeId}{n:Nat}(hu:P.underlying e=al (.array n e'))(hf:v.formed P e=ab):∃cs,v= .agg cs:=by cases v<;>simp[Value.formed,hu]at hf;exact⟨_,rfl⟩
def Ik:List (Int×Int×Int):=[(0,0,0),(1,0,0),(2,1,1),(3,1,1),(4,2,8),(5,2,8),(6,2,8),(7,2,8),(8,2,8),(9,2,8),(10,0,8)]
def ZQ:List (Int×V):=Ik.map λy=>(y.1,.agg [.int .i64 y.2.1,.int .i64 y.2.2])
theorem ZR {W : World} {r : List (String × DataW Unit)} (h : laidMet Tryz.prog (("patchbay/net.ins", Rows.laid_patchbay_net_ins) :: r) W) : ∃ b es clk ty fz, W.heap[5]? = some (Obj.cells #[.map (some b)] ty fz) ∧ W.heap[b]? = some (.map es clk) ∧ yz es clk ∧
 (∀x∈es.toList,∃y∈Ik,x.key= .int .i64 y.1/\x.val= .agg #[.int .i64 y.2.1,.int .i64 y.2.2])/\∀y∈Ik,∃x∈es.toList,x.key= .int .i64 y.1:=by
 obtain ⟨ps, ⟨g', t', cs, fuel, p, q, hg', ht', hvar, hd, _, _⟩, _⟩ := h;have e1 : Tryz.prog.globalNamed "patchbay/net.ins" = some 5 := by kernel_rfl
 obtain rfl:=Option.some.inj (e1.symm.trans hg');have e2:(Tryz.prog.globals[5]?).map (·.type)=al 220:=by kernel_rfl
 obtain rfl:=Option.some.inj (e2.symm.trans ht');have hd':DataW.trod (λ_=>()) Tryz.prog W 0 (λ_=>ab) ac fuel 220 cs.toList=al (.map [(.int .i64 0,.agg [.lit (.int .i64 0),.lit (.int .i64 0)]),(.int .i64 1,.agg [.lit (.int .i64 0),.lit (.int .i64 0)]),(.int .i64 2,.agg [.lit (.int .i64 1),.lit (.int .i64 1)]),(.int .i64 3,.agg [.lit (.int .i64 1),.lit (.int .i64 1)]),(.int .i64 4,.agg [.lit (.int .i64 2),.lit (.int .i64 8)]),(.int .i64 5,.agg [.lit (.int .i64 2),.lit (.int .i64 8)]),(.int .i64 6,.agg [.lit (.int .i64 2),.lit (.int .i64 8)]),(.int .i64 7,.agg [.lit (.int .i64 2),.lit (.int .i64 8)]),(.int .i64 8,.agg [.lit (.int .i64 2),.lit (.int .i64 8)]),(.int .i64 9,.agg [.lit (.int .i64 2),.lit (.int .i64 8)]),(.int .i64 10,.agg [.lit (.int .i64 0),.lit (.int .i64 8)])],p):=hd;obtain⟨b,es,clk,n,hcs,hb,hok,hnd,h1,h2⟩:=tX Tryz.underlying220 hd';obtain⟨ty,fz,hh⟩:=iy e1 hvar;have hcs':cs=#[.map (al b)]:=Array.toList_inj.1 hcs;rw[hcs']at hh;have c1:Tryz.prog.cellsOf 3=1:=by kernel_rfl
 have c2:Tryz.prog.cellsOf 187=2:=by kernel_rfl
 have ikey:∀ {v:Value} {n:Int},keyOf Tryz.prog 47 v=al (.int .i64 n)->v= .int .i64 n:=λ{v n} hk=>by rw[keyOf_int Tryz.underlying47]at hk;cases v<;>simp[mapKey,Tryz.underlying47]at hk;obtain⟨⟨rfl,_⟩,rfl⟩:=hk;rfl
 have ival:∀ {v:Value} {a b:Int} {q:List MemPlace},v.formed Tryz.prog 187=ab->DataW.trod (λ_=>()) Tryz.prog W 0 (λ_=>ab) ac n 187 v.cells.toList=al (.agg [.lit (.int .i64 a),.lit (.int .i64 b)],q)->v= .agg #[.int .i64 a,.int .i64 b]:=λ{v a b q} hf hr=>by obtain⟨cs,rfl⟩:=ZP Tryz.underlying187 hf;have:=Lib.cells_of_tab (zs:=[a,b]) (k:= .i64) Tryz.underlying187 Tryz.underlying3 c1 c2 hr;have:cs=#[.int .i64 a,.int .i64 b]:=Array.toList_inj.1 this;rw[this]
 refine⟨b,es,clk,ty,fz,hh,hb,hok,λx hx=> ?_,λy hy=> ?_⟩
 ·obtain⟨l,d,q,hm,hk,hr,hf⟩:=h1 x hx;simp only[zrj,zrp,or_false,Prod.mk.injEq]at hm;rcases hm with⟨rfl,rfl⟩|⟨rfl,rfl⟩|⟨rfl,rfl⟩|⟨rfl,rfl⟩|⟨rfl,rfl⟩|⟨rfl,rfl⟩|⟨rfl,rfl⟩|⟨rfl,rfl⟩|⟨rfl,rfl⟩|⟨rfl,rfl⟩|⟨rfl,rfl⟩
  ·exact⟨(0,0,0),by simp[Ik],ikey hk,ival hf hr⟩
  ·exact⟨(1,0,0),by simp[Ik],ikey hk,ival hf hr⟩
  ·exact⟨(2,1,1),by simp[Ik],ikey hk,ival hf hr⟩
  ·exact⟨(3,1,1),by simp[Ik],ikey hk,ival hf hr⟩
  ·exact⟨(4,2,8),by simp[Ik],ikey hk,ival hf hr⟩
  ·exact⟨(5,2,8),by simp[Ik],ikey hk,ival hf hr⟩
  ·exact⟨(6,2,8),by simp[Ik],ikey hk,ival hf hr⟩
  ·exact⟨(7,2,8),by simp[Ik],ikey hk,ival hf hr⟩
  ·exact⟨(8,2,8),by simp[Ik],ikey hk,ival hf hr⟩
  ·exact⟨(9,2,8),by simp[Ik],ikey hk,ival hf hr⟩
  ·exact⟨(10,0,8),by simp[Ik],ikey hk,ival hf hr⟩
 ·have hy':∃y'∈([(.int .i64 0,.agg [.lit (.int .i64 0),.lit (.int .i64 0)]),(.int .i64 1,.agg [.lit (.int .i64 0),.lit (.int .i64 0)]),(.int .i64 2,.agg [.lit (.int .i64 1),.lit (.int .i64 1)]),(.int .i64 3,.agg [.lit (.int .i64 1),.lit (.int .i64 1)]),(.int .i64 4,.agg [.lit (.int .i64 2),.lit (.int .i64 8)]),(.int .i64 5,.agg [.lit (.int .i64 2),.lit (.int .i64 8)]),(.int .i64 6,.agg [.lit (.int .i64 2),.lit (.int .i64 8)]),(.int .i64 7,.agg [.lit (.int .i64 2),.lit (.int .i64 8)]),(.int .i64 8,.agg [.lit (.int .i64 2),.lit (.int .i64 8)]),(.int .i64 9,.agg [.lit (.int .i64 2),.lit (.int .i64 8)]),(.int .i64 10,.agg [.lit (.int .i64 0),.lit (.int .i64 8)])]:List (Lit×DataW Unit)),y'.1= .int .i64 y.1:=by
   simp only[Ik,zrj,zrp,or_false]at hy;rcases hy with rfl|rfl|rfl|rfl|rfl|rfl|rfl|rfl|rfl|rfl|rfl
   ·exact⟨(.int .i64 0,.agg [.lit (.int .i64 0),.lit (.int .i64 0)]),by simp,rfl⟩
   ·exact⟨(.int .i64 1,.agg [.lit (.int .i64 0),.lit (.int .i64 0)]),by simp,rfl⟩
   ·exact⟨(.int .i64 2,.agg [.lit (.int .i64 1),.lit (.int .i64 1)]),by simp,rfl⟩
   ·exact⟨(.int .i64 3,.agg [.lit (.int .i64 1),.lit (.int .i64 1)]),by simp,rfl⟩
   ·exact⟨(.int .i64 4,.agg [.lit (.int .i64 2),.lit (.int .i64 8)]),by simp,rfl⟩
   ·exact⟨(.int .i64 5,.agg [.lit (.int .i64 2),.lit (.int .i64 8)]),by simp,rfl⟩
   ·exact⟨(.int .i64 6,.agg [.lit (.int .i64 2),.lit (.int .i64 8)]),by simp,rfl⟩
   ·exact⟨(.int .i64 7,.agg [.lit (.int .i64 2),.lit (.int .i64 8)]),by simp,rfl⟩
   ·exact⟨(.int .i64 8,.agg [.lit (.int .i64 2),.lit (.int .i64 8)]),by simp,rfl⟩
   ·exact⟨(.int .i64 9,.agg [.lit (.int .i64 2),.lit (.int .i64 8)]),by simp,rfl⟩
   ·exact⟨(.int .i64 10,.agg [.lit (.int .i64 0),.lit (.int .i64 8)]),by simp,rfl⟩
  obtain⟨y',hm,he⟩:=hy';obtain⟨x,hx,hk⟩:=h2 y' hm;rw[he]at hk;exact⟨x,hx,ikey hk⟩
theorem own:ownKnob Tryz.prog.godebug=aq:=by kernel_rfl
theorem laid:laidOutB Tryz.prog=ab:=by kernel_rfl
theorem oO{H:Type}{enc:TypeId×Value->H}{P:Program}{w:World}{base:Nat}{sp:Nat->Bool}{b:Bool}{fuel:Nat}{t:TypeId}{k:IntKind}{n:Int}{cs:List Value}{p:List MemPlace}
 (ht:P.underlying t=al (.int k)) (h:DataW.trod enc P w base sp b fuel t cs=al (.lit (.int k n),p)):cs=[.int k n]:=by
 cases fuel with
 |zero=>simp[DataW.trod]at h
 |succ fuel =>
  simp only [DataW.trod,ht] at h;split at h <;> first
   |(cases h;done)
   |(split at h<;>simp_all;done)
   |simp_all
theorem VK {W : World} {r : List (String × DataW Unit)} (h : laidMet Tryz.prog (("patchbay/spot.start", Rows.laid_patchbay_spot_start) :: r) W) : ∃ ty fz, W.heap[3]? = some (Obj.cells #[.int .i64 1, .int .i64 1] ty fz) := by
 obtain ⟨ps, ⟨g', t', cs, fuel, p, q, hg', ht', hvar, hd, _, _⟩, _⟩ := h;have e1 : Tryz.prog.globalNamed "patchbay/spot.start" = some 3 := by kernel_rfl
 obtain rfl:=Option.some.inj (e1.symm.trans hg');have e2:(Tryz.prog.globals[3]?).map (·.type)=al 188:=by kernel_rfl
 obtain rfl:=Option.some.inj (e2.symm.trans ht');have c1:Tryz.prog.cellsOf 188=2:=by kernel_rfl
 have c2:Tryz.prog.cellsOf 3=1:=by kernel_rfl
 have u3:Tryz.prog.underlying 3=al (.int .i64):=by kernel_rfl
 obtain⟨ty,fz,hh⟩:=iy e1 hvar;cases fuel with
 |zero=>simp[DataW.trod]at hd
 |succ fuel =>
  simp only[DataW.trod,Tryz.underlying188]at hd;split at hd
  ·rename_i hl;rw[Option.map_eq_some_iff]at hd;obtain⟨xs,hx,he⟩:=hd;rw[c1]at hl;rw[c2,show List.range 2=[0,1]from rfl]at hx;simp only[List.mapM_cons,List.mapM_nil,Option.bind_eq_bind,Option.pure_def,Option.bind_eq_some_iff,Option.some.injEq]at hx;obtain⟨⟨y1,y2⟩,hy,ys,⟨⟨z1,z2⟩,hz,zs,rfl,rfl⟩,rfl⟩:=hx;simp only[zrd,List.map_nil,Prod.mk.injEq,Rows.laid_patchbay_spot_start,DataW.agg.injEq,List.cons.injEq,and_true]at he;obtain⟨⟨rfl,rfl⟩,_⟩:=he;have a1:=oO u3 hy;have a2:=oO u3 hz;have:cs=#[.int .i64 1,.int .i64 1]:=by
    apply Array.toList_inj.1
    match hcs:cs.toList,hl with
    |[a,b],_=>rw[hcs]at a1 a2;simp at a1 a2;rw[a1,a2]
   rw[this]at hh;exact⟨ty,fz,hh⟩
  ·cases hd
theorem zaC{W:World}(h:W.ShapedOpen Tryz.prog):∃ty fz m,W.heap[7]? =al (Obj.cells #[.int .i64 m] ty fz):=by
 have h0:((begin Tryz.prog (λ_ _=>0) default).world.heap[7]?).bind Obj.row? =al (#[.int .i64 0],3):=by kernel_rfl
 have hg:7<Tryz.prog.globals.size:=by
  have:Tryz.prog.globals.size=13:=by kernel_rfl
  omega
 have hu:Tryz.prog.underlying 3=al (.int .i64):=Tryz.underlying3;obtain⟨m,hm⟩:=cell_of_shapedOpen_int h hg h0 rfl (by kernel_rfl) (by kernel_rfl) hu;obtain⟨cs,hh,hs,_⟩:=h.1 _ _ _ hg h0;have hs:cs.size=1:=hs;have:cs=#[.int .i64 m]:=by
  unfold World.cell? at hm;simp only[hh]at hm;have hm:cs[0]? =al (.int .i64 m):=hm;obtain⟨l⟩:=cs
  match l,hs with
  |[a],_=>simp at hm;rw[hm]
 rw[this]at hh;exact⟨3,(0,0),m,hh⟩
theorem reach_of'{H:Type}{P:Program}{fn:Func}{more:List TypeId}{ds gs:List (DataW H)}(h:(DataW.weightsEach P (fn.params.toList++more) (ds++gs)).all (·<=reachBytes)=ab) :
 ∀(i:Nat) d t,ds[i]? =al d->fn.params.toList[i]? =al t->(reachM H P).L t d:=by
 intro i d t h1 h2 n hn;have h3:=zrs.1 h n (kR _ _ i d t (by rw[zqj (zqe h1).1];exact h1) (by rw[zqj (zqe h2).1];exact h2) hn);simpa using h3
theorem SI{P:Program}{v:Value}{e:TypeId}{k:IntKind}{n:Int}(hu:P.underlying e=al (.int k))(hf:v.formed P e=ab)(h:v.cells.toList=[.int k n]):v= .int k n:=by
 cases v with
 |agg cs=>simp[Value.formed,hu]at hf
 |tuple cs=>simp[Value.formed,hu]at hf
 |_=>exact(List.cons.inj (show [_]=[Value.int k n]from h)).1
def NW:List (S×Int):=[([66,85,70],2)]
def qG:List (Int×Int):=[(0,1),(1,0),(2,3),(3,2),(4,5),(6,7)]
theorem Yx {W : World} {r : List (String × DataW Unit)} (h : laidMet Tryz.prog (("patchbay/bench.more", Rows.laid_patchbay_bench_more) :: r) W) : ∃ b es clk ty fz, W.heap[4]? = some (Obj.cells #[.map (some b)] ty fz) ∧ W.heap[b]? = some (.map es clk) ∧ yz es clk ∧
 (∀x∈es.toList,∃s y,y∈NW/\x.key= .string s/\s.data.toList=y.1/\s.size<=maxLen/\x.val= .int .i64 y.2)/\∀y∈NW,∃x∈es.toList,∃s:ByteArray,x.key= .string s/\s.data.toList=y.1:=by
 obtain ⟨ps, ⟨g', t', cs, fuel, p, q, hg', ht', hvar, hd, _, _⟩, _⟩ := h;have e1 : Tryz.prog.globalNamed "patchbay/bench.more" = some 4 := by kernel_rfl
 obtain rfl:=Option.some.inj (e1.symm.trans hg');have e2:(Tryz.prog.globals[4]?).map (·.type)=al 178:=by kernel_rfl
 obtain rfl:=Option.some.inj (e2.symm.trans ht');have hd':DataW.trod (λ_=>()) Tryz.prog W 0 (λ_=>ab) ac fuel 178 cs.toList=al (.map [(.string [66,85,70],.lit (.int .i64 2))],p):=hd;obtain⟨b,es,clk,n,hcs,hb,hok,hnd,h1,h2⟩:=tX Tryz.underlying178 hd';obtain⟨ty,fz,hh⟩:=iy e1 hvar;have hcs':cs=#[.map (al b)]:=Array.toList_inj.1 hcs;rw[hcs']at hh;refine⟨b,es,clk,ty,fz,hh,hb,hok,λx hx=> ?_,λy hy=> ?_⟩
 ·obtain⟨l,d,q,hm,hk,hr,hf⟩:=h1 x hx;obtain⟨s,hs1,hs2,hs3⟩:=WideMaps.string_of_keyOf Tryz.underlying9 hk;simp only[zrj,zrp,or_false,Prod.mk.injEq]at hm;obtain⟨rfl,rfl⟩:=hm;simp only[Lit.string.injEq]at hs2;exact⟨s,([66,85,70],2),by simp[NW],hs1,hs2.symm,hs3,SI Tryz.underlying3 hf (oO Tryz.underlying3 hr)⟩
 ·simp only[NW,zrj,zrp,or_false]at hy;subst hy;obtain⟨x,hx,hk⟩:=h2 (.string [66,85,70],.lit (.int .i64 2)) (by simp);obtain⟨s,hs1,hs2,_⟩:=WideMaps.string_of_keyOf Tryz.underlying9 hk;simp only[Lit.string.injEq]at hs2;exact⟨x,hx,s,hs1,hs2.symm⟩
theorem VL {W : World} {r : List (String × DataW Unit)} (h : laidMet Tryz.prog (("patchbay/bench.other", Rows.laid_patchbay_bench_other) :: r) W) : ∃ b es clk ty fz, W.heap[2]? = some (Obj.cells #[.map (some b)] ty fz) ∧ W.heap[b]? = some (.map es clk) ∧ yz es clk ∧
 (∀x∈es.toList,∃y∈qG,x.key= .int .i64 y.1/\x.val= .int .i64 y.2)/\∀y∈qG,∃x∈es.toList,x.key= .int .i64 y.1:=by
 obtain ⟨ps, ⟨g', t', cs, fuel, p, q, hg', ht', hvar, hd, _, _⟩, _⟩ := h;have e1 : Tryz.prog.globalNamed "patchbay/bench.other" = some 2 := by kernel_rfl
 obtain rfl:=Option.some.inj (e1.symm.trans hg');have e2:(Tryz.prog.globals[2]?).map (·.type)=al 149:=by kernel_rfl
 obtain rfl:=Option.some.inj (e2.symm.trans ht');have hd':DataW.trod (λ_=>()) Tryz.prog W 0 (λ_=>ab) ac fuel 149 cs.toList=al (.map [(.int .i64 0,.lit (.int .i64 1)),(.int .i64 1,.lit (.int .i64 0)),(.int .i64 2,.lit (.int .i64 3)),(.int .i64 3,.lit (.int .i64 2)),(.int .i64 4,.lit (.int .i64 5)),(.int .i64 6,.lit (.int .i64 7))],p):=hd;obtain⟨b,es,clk,n,hcs,hb,hok,hnd,h1,h2⟩:=tX Tryz.underlying149 hd';obtain⟨ty,fz,hh⟩:=iy e1 hvar;have hcs':cs=#[.map (al b)]:=Array.toList_inj.1 hcs;rw[hcs']at hh;have ikey:∀ {v:Value} {n:Int},keyOf Tryz.prog 47 v=al (.int .i64 n)->v= .int .i64 n:=λ{v n} hk=>by rw[keyOf_int Tryz.underlying47]at hk;cases v<;>simp[mapKey,Tryz.underlying47]at hk;obtain⟨⟨rfl,_⟩,rfl⟩:=hk;rfl
 have ival:∀ {v:Value} {m:Int} {q:List MemPlace},v.formed Tryz.prog 47=ab->DataW.trod (λ_=>()) Tryz.prog W 0 (λ_=>ab) ac n 47 v.cells.toList=al (.lit (.int .i64 m),q)->v= .int .i64 m:=λhf hr=>SI Tryz.underlying47 hf (oO Tryz.underlying47 hr);refine⟨b,es,clk,ty,fz,hh,hb,hok,λx hx=> ?_,λy hy=> ?_⟩
 ·obtain⟨l,d,q,hm,hk,hr,hf⟩:=h1 x hx;simp only[zrj,zrp,or_false,Prod.mk.injEq]at hm;rcases hm with⟨rfl,rfl⟩|⟨rfl,rfl⟩|⟨rfl,rfl⟩|⟨rfl,rfl⟩|⟨rfl,rfl⟩|⟨rfl,rfl⟩
  ·exact⟨(0,1),by simp[qG],ikey hk,ival hf hr⟩
  ·exact⟨(1,0),by simp[qG],ikey hk,ival hf hr⟩
  ·exact⟨(2,3),by simp[qG],ikey hk,ival hf hr⟩
  ·exact⟨(3,2),by simp[qG],ikey hk,ival hf hr⟩
  ·exact⟨(4,5),by simp[qG],ikey hk,ival hf hr⟩
  ·exact⟨(6,7),by simp[qG],ikey hk,ival hf hr⟩
 ·have hy':∃y'∈([(.int .i64 0,.lit (.int .i64 1)),(.int .i64 1,.lit (.int .i64 0)),(.int .i64 2,.lit (.int .i64 3)),(.int .i64 3,.lit (.int .i64 2)),(.int .i64 4,.lit (.int .i64 5)),(.int .i64 6,.lit (.int .i64 7))]:List (Lit×DataW Unit)),y'.1= .int .i64 y.1:=by
   simp only[qG,zrj,zrp,or_false]at hy;rcases hy with rfl|rfl|rfl|rfl|rfl|rfl
   ·exact⟨(.int .i64 0,.lit (.int .i64 1)),by simp,rfl⟩
   ·exact⟨(.int .i64 1,.lit (.int .i64 0)),by simp,rfl⟩
   ·exact⟨(.int .i64 2,.lit (.int .i64 3)),by simp,rfl⟩
   ·exact⟨(.int .i64 3,.lit (.int .i64 2)),by simp,rfl⟩
   ·exact⟨(.int .i64 4,.lit (.int .i64 5)),by simp,rfl⟩
   ·exact⟨(.int .i64 6,.lit (.int .i64 7)),by simp,rfl⟩
  obtain⟨y',hm,he⟩:=hy';obtain⟨x,hx,hk⟩:=h2 y' hm;rw[he]at hk;exact⟨x,hx,ikey hk⟩
theorem xE{H:Type}{enc:TypeId×Value->H}{P:Program}{w:World}{base:Nat}{sp:Nat->Bool}{held:Bool}{fuel:Nat}{t e:TypeId}{n:Nat}{cs:List Value}{zs:List S}{p:List MemPlace}
 (ht:P.underlying t=al (.array n e)) (he:P.underlying e=al .string) (hce:P.cellsOf e=1) (hct:P.cellsOf t=n)
 (h:DataW.trod enc P w base sp held fuel t cs=al (.agg (zs.map λz=> .lit (.string z)),p)):cs=zs.map λz=>Value.string ⟨z.toArray⟩:=by
 cases fuel with
 |zero=>simp[DataW.trod]at h
 |succ fuel =>
  simp only[DataW.trod,ht,hce,hct,Nat.mul_one]at h;split at h
  ·rename_i hl;obtain⟨xs,hm,hx⟩:=Option.map_eq_some_iff.1 h;have hxs:xs.map (·.1)=zs.map λz=>(DataW.lit (.string z):DataW H):=by
    have:=congrArg Prod.fst hx;simpa using this
   have hxl:aa xs=n:=by simpa using Lib.mapM_length hm
   have hzl:aa zs=n:=by have:=congrArg List.length hxs;simp at this;omega
   apply List.ext_getElem?;intro i;by_cases hi:i<n
   ·obtain⟨b,hb,hf⟩:=Lib.mapM_at hm i i (by simp[hi]);obtain⟨z,hc,hbz,_⟩:=DataW.trod_string he hf;have h1:cs[i]? =al (.string z):=by have:=congrArg (·[0]?) hc;simpa [List.getElem?_take,List.getElem?_drop]using this
    have h2:(xs.map (·.1))[i]? =al b.1:=by simp[hb]
    rw[hxs]at h2;rw[hbz]at h2;simp only[zqo,Option.map_eq_some_iff,DataW.lit.injEq,Lit.string.injEq]at h2;obtain⟨z',hz',hzz⟩:=h2;simp only[h1,zqo,hz',zrw,hzz]
   ·rw[zsj (by omega),zsj (by simp;omega)]
  ·cases h
end Go.Proofs.YthaijohbpdabfaaGreatDoor
