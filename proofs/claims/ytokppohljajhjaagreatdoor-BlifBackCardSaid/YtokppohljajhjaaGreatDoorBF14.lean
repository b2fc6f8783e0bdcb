/- Lemmas for this claim, part F14: each holds under what it names. -/
import Derived.Test.YtokppohljajhjaaGreatDoorBF13
set_option linter.all false
set_option maxRecDepth 20000
set_option maxHeartbeats 4000000
namespace Go.Proofs.YtokppohljajhjaaGreatDoor
open Go Go.Proofs Go.Abs
theorem F9:∀l:List Ga,gaC l=l.flatMap gaX
 |[]=>rfl
 |g::l=>by rw[List.flatMap_cons,<-F9 l];rfl
def Dn:Plan:=tkZ [0,2,4]<| .alt 1 (.one 3<| .take 5<|onZ [6,7,8,9]<| .take 10<| .one 11<| .fin) (.one 3 (.take 5<| .alt 1 (onZ [6,7,8,9]<| .take 10<| .one 11<| .fin) (.one 6 (.alt 1 (onZ [7,8,9]<| .take 10<| .one 11<| .fin) (.one 7 (.alt 1 (.one 8<| .one 9<| .take 10<| .one 11<| .fin) (.one 8 (.one 1<| .one 9<| .take 10<| .one 11<| .fin))))))))
def dH(c:Ci)(C0:O)(i:Nat)(h:H):Prop:=i=0/\h=[C0,.cells [aW c.ins,aW c.outs,lu c.lat,.nils]]\/0<i/\h=[C0,.cells [aW c.ins,aW c.outs,lu c.lat,.ls 2 5 0 i i],.cells (((c.gates.take i).map az).flatMap gaX)]
theorem Ip{c:Ci}(h:jy c=true):(∀g∈c.gates,g.ins.length<=12)/\c.gates.length<=24:=by unfold jy uh zQ Ir at h;simp only[zqf,zqb,zrs]at h;exact⟨fun g hg=>(h.1.1.1.1 g hg).1.1.1,h.1.1.2⟩
theorem Dp{c:Ci}(h:(oK c).1=0):kN (gZ c)= .tup [(fZ c).v,.agg [vi 0,vi 0,vi 0]]:=by unfold kN;rw[Ef h]
theorem RJ(c d:Ci):V.dats [c.v,d.v]=true:=by simp only[V.dats,V.dat,aJ,nP,nO,zre]
theorem Uf[MO]{c:Ci}{C0:O}(hC0:C0= .cells [aW c.ins,aW c.outs,lu c.lat,iK c.gates]){n:Nat}{r:Option Nat}{cd:Code}{Q:XE->Fr->H->Prop}{f:Fr}{h:H}(hd:f.d=[])(hh:dH c C0 c.gates.length h)
 (hw:∀f':Fr,(∀i,f'.t i=(f.t i).drop fun j=>decide (1<j))->f'.d=[]->awp TE n r cd Q f' ([C0,.cells [aW c.ins,aW c.outs,lu c.lat,iK (c.gates.map az)]])):awp TE n r cd Q f h:=by
 refine vz (fun j=>decide (1<j)) [C0,.cells [aW c.ins,aW c.outs,lu c.lat,iK (c.gates.map az)]] (fun j hj=> ?_) (fun j x hj hx=> ?_) (fun j hj=>by rw[hd]at hj;cases hj) ?_
 ·have hj:j=0\/j=1:=by have:=of_decide_eq_false hj;omega
  rcases hj with rfl|rfl
  ·refine .inl ?_;have e:O.drop (fun j=>decide (1<j)) C0=C0:=by
    rw[hC0];show O.cells (V.drops _ _)=_;rw[iV.dats_drops _ (by simp only[V.dats,V.dat,aJ,nP,nO,zre])]
   rcases hh with⟨_,rfl⟩|⟨_,rfl⟩<;>exact congrArg some e.symm
  ·refine .inr ?_;rcases hh with⟨h0,rfl⟩|⟨hi,rfl⟩
   ·refine⟨_,_,rfl,rfl,.inl (iV _ (by simp only[V.dats,V.dat,aJ,zre])).symm,.inl (iV _ (by simp only[V.dats,V.dat,aJ,zre])).symm,.inl (iV _ (by simp only[V.dats,V.dat,nP,zre])).symm,.inr ⟨rfl,?_⟩,trivial⟩;rw[zse h0];exact aG.nils
   ·refine⟨_,_,rfl,rfl,.inl (iV _ (by simp only[V.dats,V.dat,aJ,zre])).symm,.inl (iV _ (by simp only[V.dats,V.dat,aJ,zre])).symm,.inl (iV _ (by simp only[V.dats,V.dat,nP,zre])).symm,.inr ⟨rfl,?_⟩,trivial⟩;have hk:(vg (fun j=>decide (1<j)) 0 [C0,O.cells [aW c.ins,aW c.outs,lu c.lat,V.ls 2 5 0 c.gates.length c.gates.length],O.cells (List.flatMap gaX (List.map az (List.take c.gates.length c.gates)))])[2]? =some (.cells (gaC (c.gates.map az))):=by
     rw[iJ,zrx,<-F9];show some (if _ then O.cells (V.drops _ _)else _)=_;rw[wz,if_pos (by decide)]
    exact aG.ls hk (ay.dat (zu _)) (Kt _) (QK _) (by simp)
 ·have:=zqs hj
  match j,this with
  |j+2,_=>cases hx
 ·exact hw _ (fun i=>rfl) hd
theorem ev_blifBack[MO](c:Ci)(hs:Sum c):Ev TE 3 [c.v] (.bool true):=by
 have hM:=mLx;have e1:=LJ c;have e2:=zJ c hs;have e3:=qJ c hs;refine ai Tryz.func3 rfl (by simp[nts]) ?_;refine vn ?_;simp only[wq.1,Nat.reduceLT,Tryz.results3];refine vn ?_;simp only[wq.1,Nat.reduceLT];refine ag.ev Ik rfl ?_;simp only[wq.1,seval];refine vn ?_;simp only[wq.1,seval];refine vn ?_;simp only[wq.1,seval];refine ag.ev e1 (mG c) ?_;simp only[wq.1,seval];refine vn ?_;simp only[wq.1,seval];refine ag.ev e2 (mG c) ?_;simp only[wq.1,seval];refine vn ?_;simp only[wq.1,seval];refine ag.ev e3 (mG c) ?_;simp only[wq.1,seval];refine vn ?_;simp only[wq.1,seval];by_cases hb:jy c=true/\(oK c).1=0
 ·obtain⟨hf,ho⟩:=hb;have hp:jX c=(gZ c,0):=by unfold jX;rw[if_pos ho]
  have hfw:=Ip hf;have e4:=qM (gZ c) (Io ho hf);rw[Dp ho]at e4;have hs2:Sum (fZ c):=by show c.ins.length+c.lat.length+(c.gates.map az).length<=_;rw[zra];exact hs
  have e5:=zJ (fZ c) hs2;rw[Eg ho,hp]at e5;have e6:=Ph (fZ c);obtain⟨C0,hC0⟩:∃C0:O,C0= .cells [aW c.ins,aW c.outs,lu c.lat,iK c.gates]:=⟨_,rfl⟩;simp only[wq.1,Int.reduceBNe,hf,ho,hp];refine vn ?_;simp only[wq.1,seval];refine vn ?_;simp only[wq.1,seval];refine ak (bi (Q:=fun xe f h=>xe= .normal/\f.t 3= .bool true/\f.t 5= .str (gZ c)/\f.t 7=vi 0/\f.t 9= .lp 1 0/\f.d=[]/\dH c C0 c.gates.length h) ?_ ?_)
  ·rintro xe f h ⟨rfl,t3,t5,t7,t9,hd,hh⟩;show awp _ _ _ _ _ _ _;refine Uf hC0 hd hh fun f' hft hfd=> ?_
   replace t3:=(hft 3).trans (congrArg _ t3)
   replace t5:=(hft 5).trans (congrArg _ t5)
   replace t7:=(hft 7).trans (congrArg _ t7)
   replace t9:=(hft 9).trans (congrArg _ t9)
   replace hd:=hfd
   refine vn ?_;simp only[wq.1,seval,t5];refine ag.ev e4 rfl ?_;simp only[wq.1,seval];refine vn ?_;simp only[wq.1,seval];refine ag.ev e5 (mG (fZ c)) ?_;simp only[wq.1,seval];refine vn ?_;simp only[wq.1,seval,t3,t7,t9,tJ];refine⟨zL,ag.ev e6 (RJ _ _) ?_⟩;simp only[wq.1,seval,t5];refine vm ?_;simp only[wq.1,↓reduceIte,hd];exact aG.dat rfl
  ·refine vn ?_;simp only[wq.1,Nat.reduceLT];refine aB ?_;refine aN (fun m f h=>∃i:Nat,m+i=c.gates.length/\i<=24/\f.t 1= .lp 0 0/\f.t 3= .bool true/\f.t 5= .str (gZ c)/\f.t 7=vi 0/\f.t 9= .lp 1 0/\f.t 10=vi i/\f.d=[]/\dH c C0 i h) c.gates.length ⟨0,by omega,by omega,by simp only[wq.1,seval],by simp only[wq.1,seval],by simp only[wq.1,seval],by simp only[wq.1,seval],by simp only[wq.1,seval],by simp only[wq.1,↓reduceIte];rfl,by simp only[wq.1],.inl ⟨rfl,by rw[hC0]⟩⟩ ?_;rintro m f h ⟨i,hm,hil,t1,t3,t5,t7,t9,t10,hd,hh⟩;have hw:=aC (show i<maxLen by omega);have h0:h[0]? =some (.cells [aW c.ins,aW c.outs,lu c.lat,iK c.gates]):=by
    rcases hh with⟨_,rfl⟩|⟨_,rfl⟩<;>exact congrArg some hC0
   have hll:c.gates.length<=24:=hfw.2;refine vn ?_;simp only[wq.1,seval,t1,t10,h0];refine vcB.mk (fun hc=> ?_) (fun hc=> ?_)
   ·have hc1:i<c.gates.length:=by have:=zqs hc;omega
    have ha:=rJ hc1 .any;have hev:=zH c.gates[i] (by have:=hfw.1 _ (zqu hc1);omega);simp only[wq.1];refine ak (aB ?_);obtain⟨X3,hX3⟩:∃X3,X3=((c.gates.take (i+1)).map az).flatMap gaX:=⟨_,rfl⟩;refine iq mixed Dn (fun f' h'=>f'.t 1= .lp 0 0/\f'.t 3= .bool true/\f'.t 5= .str (gZ c)/\f'.t 7=vi 0/\f'.t 9= .lp 1 0/\f'.t 10=vi i/\f'.d=[]/\h'=[C0,.cells [aW c.ins,aW c.outs,lu c.lat,.ls 2 5 0 (i+1) (i+1)],.cells X3]) (by rw[TEP];decide +kernel) (by decide +kernel) ?_ ?_
    ·rcases hh with⟨rfl,rfl⟩|⟨hi,rfl⟩
     ·have hX:List.flatMap V.vc [(az c.gates[0]).v]=X3:=by rw[hX3,List.take_succ_eq_append_getElem hc1];rfl
      simp only[wq.1,↓reduceIte,Nat.reduceEqDiff,Nat.reduceLT,Nat.reduceLeDiff,Nat.reduceAdd,Nat.reduceSub,Int.reduceToNat,Nat.reduceDiv,Int.reduceLT,Int.reduceLE,Int.reduceNeg,Int.reduceBEq,Int.reduceBNe,Int.reduceAdd,Int.reduceSub,Nat.reduceBEq,reduceCtorEq,Nat.reduceMul,aj,Tryz.results3,Dn,t1,t3,t5,t7,t9,t10,hd,hC0,ha]
      and_intros <;> first
       |omega
       | (refine ag.ev hev (jv _) ?_
          simp only[wq.1,↓reduceIte,Nat.reduceEqDiff,Nat.reduceLT,Nat.reduceLeDiff,Nat.reduceAdd,Nat.reduceSub,Int.reduceToNat,Nat.reduceDiv,Int.reduceLT,Int.reduceLE,Int.reduceNeg,Int.reduceBEq,Int.reduceBNe,Int.reduceAdd,Int.reduceSub,Nat.reduceBEq,reduceCtorEq,Nat.reduceMul,aj,Tryz.results3,bn,Dn,t1,t3,t5,t7,t9,t10,hd,hC0,ha,hX];exact⟨⟨rfl,by decide⟩,rfl,by omega⟩)
     ·have hX:V.drops (fun x=>x==2) (List.flatMap gaX (List.map az (List.take i c.gates)))++V.drops (fun x=>x==2) (List.flatMap V.vc [(az c.gates[i]).v])=X3:=by rw[hX3,List.take_succ_eq_append_getElem hc1,zql,List.flatMap_append,bu iL];exact congrArg _ (wz [az c.gates[i]])
      have hfl:(List.flatMap gaX (List.map az (List.take i c.gates))).length=i*5:=by rw[nV,zra,zrl];omega
      simp only[wq.1,↓reduceIte,Nat.reduceEqDiff,Nat.reduceLT,Nat.reduceLeDiff,Nat.reduceAdd,Nat.reduceSub,Int.reduceToNat,Nat.reduceDiv,Int.reduceLT,Int.reduceLE,Int.reduceNeg,Int.reduceBEq,Int.reduceBNe,Int.reduceAdd,Int.reduceSub,Nat.reduceBEq,reduceCtorEq,Nat.reduceMul,aj,Tryz.results3,Dn,t1,t3,t5,t7,t9,t10,hd,hC0,ha]
      and_intros <;> first
       |omega
       | (refine ag.ev hev (jv _) ?_
          simp only[wq.1,↓reduceIte,Nat.reduceEqDiff,Nat.reduceLT,Nat.reduceLeDiff,Nat.reduceAdd,Nat.reduceSub,Int.reduceToNat,Nat.reduceDiv,Int.reduceLT,Int.reduceLE,Int.reduceNeg,Int.reduceBEq,Int.reduceBNe,Int.reduceAdd,Int.reduceSub,Nat.reduceBEq,reduceCtorEq,Nat.reduceMul,aj,Tryz.results3,bn,Dn,t1,t3,t5,t7,t9,t10,hd,hC0,ha,hX];exact⟨⟨rfl,by decide⟩,rfl,hfl,rfl,by omega,by omega⟩)
    ·rintro f' h' ⟨t1',t3',t5',t7',t9',t10',hd',rfl⟩;simp only[wq.1];refine vm ?_;simp only[wq.1,seval,t10',hw];exact .inl ⟨m-1,by omega,i+1,by omega,by omega,t1',t3',t5',t7',t9',rfl,hd',.inr ⟨by omega,by rw[hX3]⟩⟩
   ·have hi:i=c.gates.length:=by have:=of_decide_eq_false hc;omega
    simp only[wq.1,seval,t3,t5,t7,t9,hd];rw[<-hi];exact hh
 ·have hpb:jy c=false\/jy c=true/\((oK c).1==0)=false/\jX c=([],1):=by
   cases hl:jy c with
   |false=>exact .inl rfl
   |true=>have ho:(oK c).1≠0:=fun ho=>hb ⟨hl,ho⟩;exact .inr ⟨rfl,by simpa using ho,by unfold jX;rw[if_neg ho]⟩
  have en:((1:Int) != 0)=true:=rfl;rcases hpb with hl|⟨hl,ho,hp⟩
  ·simp only[wq.1,seval,hl];exact aG.dat rfl
  ·simp only[wq.1,seval,hl,hp,en];have:((oK c).1 != 0)=true:=by unfold bne;rw[ho];rfl
   rw[this];exact aG.dat rfl
open Go.RowKit
abbrev UV:Sh:= .struct [.str,.str,.int .i64]
abbrev shCi:Sh:= .struct [tH,tH,.slice UV,.slice UT]
theorem UW{R:Nat}{v:V}(h:Sh.Sz R UV v):∃g:La,v=g.v:=by unfold UV at h;rw[Sh.Sz]at h;obtain⟨vs,rfl,h⟩:=h;simp only[Sh.Szs]at h;obtain⟨u0,us,rfl,h0,u1,us,rfl,h1,u2,us,rfl,h2,rfl⟩:=h;obtain⟨n,rfl⟩:=Dl h0;obtain⟨o,rfl⟩:=Dl h1;obtain⟨i,rfl⟩:=P9 h2;exact⟨⟨n,o,i⟩,rfl⟩
theorem Pv{R:Nat}{v:V}(h:Sh.Sz R tH v):∃c:List S,v=aW c/\c.length<=R:=by unfold tH at h;rw[Sh.Sz]at h;obtain⟨es,rfl,hl,h⟩:=h;obtain⟨l,rfl⟩:=wY (F:=V.str) (fun v hv=>Dl hv) es h;exact⟨l,rfl,by simpa using hl⟩
theorem sz_ci{R:Nat}(hR:R<=200000000000000){v:V}(h:Sh.Sz R shCi v):∃c:Ci,v=c.v/\Sum c:=by unfold shCi at h;rw[Sh.Sz]at h;obtain⟨vs,rfl,h⟩:=h;simp only[Sh.Szs]at h;obtain⟨u0,us,rfl,h0,u1,us,rfl,h1,u2,us,rfl,h2,u3,us,rfl,h3,rfl⟩:=h;obtain⟨a,rfl,ha⟩:=Pv h0;obtain⟨b,rfl⟩:=EN h1;rw[Sh.Sz]at h2 h3;obtain⟨es,rfl,hl,h2⟩:=h2;obtain⟨l,rfl⟩:=wY (F:=La.v) (fun v hv=>UW hv) es h2;obtain⟨es,rfl,hl3,h3⟩:=h3;obtain⟨g,rfl⟩:=wY (F:=Ga.v) (fun v hv=>UU hv) es h3;rw[zra]at hl hl3;exact⟨⟨a,b,l,g⟩,rfl,by show a.length+l.length+g.length<=_;omega⟩
end Go.Proofs.YtokppohljajhjaaGreatDoor
