/- Lemmas for this claim, part F13: each holds under what it names. -/
import Derived.Test.YtokppohljajhjaaGreatDoorBF12
import Derived.Test.YtokppohljajhjaaGreatDoorBF11
import Derived.Test.YtokppohljajhjaaGreatDoorBA8
import Derived.LaidHandle
import Derived.LaidMore
import Derived.Lay
import Derived.WideKeyElems2
import Derived.StringKeys
import Derived.Shelf.Vars
import Derived.Lib.LaidTab
import Derived.Test.YtokppohljajhjaaGreatDoorRows
import Derived.Test.YtokppohljajhjaaGreatDoorTie
import Derived.HandedShaped
import Derived.Stop.LaidErr
import Derived.JoinedOf
set_option linter.all false
set_option maxRecDepth 100000
set_option maxHeartbeats 4000000
namespace Go.Proofs.YtokppohljajhjaaGreatDoor
open Go Go.Proofs Go.Abs
theorem Ih{P:Program}{w:World}{e:TypeId}(he:P.underlying e=some .string)(n:Nat)(a b:ByteArray):(Op.equalIn (n+1) e (.string a) (.string b)).run P w= .ok (a==b) w:=by rw[Op.equalIn];simp[run_underlying he,Result.andThen]
theorem Ii{P:Program}{w:World}{e:TypeId}{k:IntKind}(he:P.underlying e=some (.int k))(n:Nat)(a b:Int):(Op.equalIn (n+1) e (.int k a) (.int k b)).run P w= .ok (a==b) w:=by rw[Op.equalIn];simp[run_underlying he,Result.andThen]
theorem P7:IK P 55:=by
 refine⟨by kernel_rfl,fun w a b c d m n=> ?_⟩;have p0:∀(x y z:Value),(part 9 #[x,y,z] 0).run P w= .ok x w:=fun x y z=>run_part_plain w (by simp[Program.plainKey,Tryz.underlying9]) (by simp);have p1:∀(x y z:Value),(part 9 #[x,y,z] 1).run P w= .ok y w:=fun x y z=>run_part_plain w (by simp[Program.plainKey,Tryz.underlying9]) (by simp);have p2:∀(x y z:Value),(part 3 #[x,y,z] 2).run P w= .ok z w:=fun x y z=>run_part_plain w (by simp[Program.plainKey,Tryz.underlying3]) (by simp);have hso:P.stoodInHeld 55=false:=by kernel_rfl
 show(Op.equalIn 10000 55 (.agg #[.string a,.string c,.int .i64 m]) (.agg #[.string b,.string d,.int .i64 n])).run P w= .ok (a==b&&c==d&&m==n) w;rw[Op.equalIn];have e1:=Ih (P:=P) (w:=w) Tryz.underlying9 9998;have e2:=Ii (P:=P) (w:=w) Tryz.underlying3 9998;simp only[Sem.run_bind,run_underlying Tryz.underlying55,Result.andThen];cases h1:(a==b)<;>cases h2:(c==d)<;>cases h3:(m==n)<;>simp[hso,p0,p1,p2,e1,e2,Sem.run_bind,Result.andThen,h1,h2,h3]
theorem O8{c:List La}{r:List V}(hb:V.bnds (lu c::r)):c.length<=maxLen:=by simp only[V.bnds,V.bnd,zra]at hb;exact hb.1.1
theorem Rt[MO](c:List La):Ev TE 37 [lu c,lu c] (.bool true):=by
 have hM:=mLx;refine Ev.bnd fun hb=> ?_;have hlen:=O8 hb;refine ai Tryz.func37 rfl (by simp[nts]) (vm ?_);have e1:(((c.length:Int) != (c.length:Int)))=false:=by simp
 simp only[wq.1,seval,Tryz.results37,e1];refine aN (fun m f h=>∃i,m+i=c.length/\f.t 0=lu c/\f.t 1=lu c/\f.t 12=vi c.length/\f.t 13=vi i/\f.d=[]) c.length ⟨0,by simp,rfl,rfl,rfl,rfl,rfl⟩ ?_;rintro m f h ⟨i,hm,h0,h1,h12,h13,hdd⟩;refine vm ?_;simp only[wq.1,seval,h12,h13];refine vcB.mk (fun hc=> ?_) (fun hc=> ?_)
 ·simp only[zqb,zqi]at hc;have ha:=Ep hc .any;simp only[wq.1,seval,h0,h1,h13,ha,tJ,IL];refine⟨by decide +kernel,⟨by omega,by omega⟩,⟨by omega,by omega⟩,P7,?_⟩;simp only[wq.1,aC (show i<maxLen by omega)];exact .inl ⟨m-1,by omega,i+1,by omega,h0,h1,h12,rfl,hdd⟩
 ·simp only[wq.1,seval,hdd];exact aG.dat rfl
theorem oD(a:List S):V.dats [aW a,aW a]=true:=by simp only[V.dats,V.dat,aJ,zre]
theorem O9[MO](g:Ga):Ev TE 39 [g.v,g.v] (.bool true):=by have h1:=ut g.ins g.ins;have h2:=ut g.rows g.rows;rw[beq_self_eq_true]at h1 h2;refine ai Tryz.func39 rfl (by simp[nts]) (vm ?_);simp only[wq.1,seval,Tryz.results39];refine ag.ev h1 (oD _) ?_;simp only[wq.1,seval];refine ag.ev h2 (oD _) ?_;simp only[wq.1,seval];exact aG.dat rfl
theorem Pg(g:Ga):V.dats [g.v,g.v]=true:=by simp only[V.dats,V.dat,aJ,zre]
theorem TZ[MO](l:List Ga):Ev TE 38 [iK l,iK l,.fn (.func 39) [] []] (.bool true):=by
 have hM:=mLx;refine Ev.bnd fun hb=> ?_;have hlen:=FO hb;refine ai Tryz.func38 rfl (by simp[nts]) (vm ?_);have e1:(((l.length:Int) != (l.length:Int)))=false:=by simp
 simp only[wq.1,seval,Tryz.results38,e1];refine aN (fun m f h=>∃i,m+i=l.length/\f.t 0=iK l/\f.t 1=iK l/\f.t 2= .fn (.func 39) [] []/\f.t 15=iK l/\f.t 16=vi l.length/\f.t 17=vi i/\f.d=[]) l.length ⟨0,by simp,rfl,rfl,rfl,rfl,rfl,rfl,rfl⟩ ?_;rintro m f h ⟨i,hm,h0,h1,h2,h15,h16,h17,hdd⟩;refine vm ?_;simp only[wq.1,seval,h16,h17];refine vcB.mk (fun hc=> ?_) (fun hc=> ?_)
 ·simp only[zqb,zqi]at hc;have ha:=rJ hc .any;have hev:=O9 l[i];have hgE:∀x:O,(h++[x])[h.length]? =some x:=fun x=>by simp
  have hgS:∀x y:O,(h++[x]).set h.length y=h++[y]:=fun x y=>by simp
  have hgE2:∀x y:O,(h++[x]++[y])[h.length]? =some x:=fun x y=>by simp
  have hgE3:∀x y:O,(h++[x]++[y])[h.length+1]? =some y:=fun x y=>by simp
  have hgS3:∀x y z:O,(h++[x]++[y]).set (h.length+1) z=h++[x]++[z]:=fun x y z=>by simp
  have hgL:∀x:O,(h++[x]).length=h.length+1:=fun x=>by simp
  simp only[wq.1,seval,h1,h2,h15,h17,ha,hgE,hgS,hgE2,hgE3,hgS3];refine⟨⟨by omega,by omega⟩,⟨by omega,by omega⟩,ag.ev hev (Pg _) ?_⟩;simp only[wq.1,seval,h17,aC (show i<maxLen by omega)];exact .inl ⟨m-1,by omega,i+1,by omega,h0,h1,h2,h15,h16,rfl,hdd⟩
 ·simp only[wq.1,seval,hdd];exact aG.dat rfl
theorem Ph[MO](c:Ci):Ev TE 12 [c.v,c.v] (.bool true):=by have h1:=ut c.ins c.ins;have h2:=ut c.outs c.outs;have h3:=Rt c.lat;have h4:=TZ c.gates;rw[beq_self_eq_true]at h1 h2;refine ai Tryz.func12 rfl (by simp[nts]) (vm ?_);simp only[wq.1,seval,Tryz.results12];refine ag.ev h1 (oD _) ?_;simp only[wq.1,seval];refine ag.ev h2 (oD _) ?_;simp only[wq.1,seval];refine ag.ev h3 (by simp only[V.dats,V.dat,nP,zre]) ?_;simp only[wq.1,seval];refine ag.ev h4 (by simp only[V.dats,V.dat,nO,zre]) ?_;simp only[wq.1,seval];exact aG.dat rfl
def zQ(g:Ga):Bool:=Ir 12 g.ins&&Ir 140 g.rows&&decide (g.name.length<=60)
theorem Ij[MO](g:Ga):Ev TE 13 [g.v] (.bool (zQ g)):=by have h1:=qA g.ins 12;have h2:=qA g.rows 140;have e:decide ((g.name.length:Int)<=60)=decide (g.name.length<=60):=decide_eq_decide.2 (by omega);refine ai Tryz.func13 rfl (by simp[nts]) (vm ?_);simp only[wq.1,seval,Tryz.results13];refine ag.ev h1 (by simp only[V.dats,V.dat,aJ,zre]) ?_;simp only[wq.1,seval];refine ag.ev h2 (by simp only[V.dats,V.dat,aJ,zre]) ?_;simp only[wq.1,seval,e];exact aG.dat rfl
def wT1:S:=[46,109,111,100,101,108,32,109,10,46,105,110,112,117,116,115,32,97,32,98,10,46,111,117,116,112,117,116,115,32,122,10,46,108,97,116,99,104,32,122,32,113,32,49,10,46,110,97,109,101,115,32,97,32,98,32,122,32,35,32,97,110,100,10,49,49,32,49,10,46,101,110,100,10]
def wT2:S:=[46,109,111,100,101,108,32,109,10,46,110,97,109,101,115,32,97,32,122,10,49,32,49,10,46,101,110,100,10]
def wT3:S:=[46,109,111,100,101,108,32,109,10,46,115,117,98,99,107,116,32,120,10,46,101,110,100,10]
def wT4:S:=[46,109,111,100,101,108,32,116,111,112,10,46,105,110,112,117,116,115,32,97,32,98,10,46,111,117,116,112,117,116,115,32,122,10,46,108,97,116,99,104,32,122,32,113,32,49,10,46,110,97,109,101,115,32,97,32,98,32,122,10,49,49,32,49,10,46,101,110,100,10]
def wC1:Ci:=⟨[[97],[98]],[[122]],[⟨[113],[122],1⟩],[⟨[122],4,[[97],[98]],[],false⟩]⟩
theorem UI:mF wT1= .ok wC1:=by kernel_rfl
theorem UJ:mF wT2= .error (16,6):=by kernel_rfl
theorem UK:mF wT3= .error (9,9):=by kernel_rfl
theorem UL:jX wC1=(wT4,0):=by kernel_rfl
theorem UM:jS wT2 ((16:Nat):Int) 6= .agg [vi 6,vi 2,vi 8]:=by kernel_rfl
theorem UN:jS wT3 ((9:Nat):Int) 9= .agg [vi 9,vi 2,vi 1]:=by kernel_rfl
theorem UO:az ⟨[122],10,[[97],[98]],[],true⟩=⟨[122],10,[[97],[98]],[[45,45]],false⟩:=by kernel_rfl
theorem Ik[MO]:Ev TE 6 [] (.bool true):=by have e1:=qM wT1 (by decide);have e2:=zJ wC1 (by decide);have e3:=qM wT2 (by decide);have e4:=qM wT3 (by decide);have e5:=zH ⟨[122],10,[[97],[98]],[],true⟩ (by decide);unfold kN at e1 e3 e4;rw[UI]at e1;rw[UJ]at e3;rw[UK]at e4;rw[UL]at e2;rw[UO]at e5;dsimp only at e3 e4;rw[UM]at e3;rw[UN]at e4;simp only[wC1,wT1,wT2,wT3,wT4,Ci.v,Ga.v,La.v,zrd,List.map_nil]at e1 e2 e3 e4 e5;refine ai Tryz.func6 rfl (by simp[nts]) ?_;refine vn ?_;simp only[wq.1,Nat.reduceLT,Tryz.results6];refine vn ?_;simp only[wq.1,seval];refine ag.ev e1 rfl ?_;simp only[wq.1,seval];refine vn ?_;simp only[wq.1,seval];refine ag.ev e2 rfl ?_;simp only[wq.1,seval];refine vn ?_;simp only[wq.1,seval];refine ag.ev e3 rfl ?_;simp only[wq.1,seval];refine vn ?_;simp only[wq.1,seval];refine ag.ev e4 rfl ?_;simp only[wq.1,↓reduceIte,Nat.reduceEqDiff,Nat.reduceLT,Nat.reduceAdd];refine vn ?_;simp only[wq.1,↓reduceIte,Nat.reduceLT,Nat.reduceLeDiff,Nat.reduceAdd,reduceCtorEq,Nat.reduceMul];refine⟨⟨rfl,by decide⟩,jW (gJ.cons (VLe.agg (gJ.cons (VLe.refl _) (gJ.cons (VLe.refl _) (gJ.cons VLe.exact (gJ.cons VLe.nils (gJ.refl _)))))) (gJ.refl _)) (HLe.refl _) (ag.ev e5 rfl ?_)⟩;simp only[wq.1,seval];have en:(((1:Nat):Int) != 1)=false:=rfl;refine ak ?_;refine vn ?_;simp only[wq.1,seval,en];refine vm ?_;simp only[wq.1,↓reduceIte,Nat.reduceEqDiff,Nat.reduceLT,Nat.reduceLeDiff,Nat.reduceAdd,Nat.reduceSub,Int.reduceToNat,Nat.reduceDiv,Int.reduceLT,Int.reduceLE,Int.reduceNeg,Int.reduceBEq,Int.reduceBNe,Int.reduceAdd,Int.reduceSub,Nat.reduceBEq,reduceCtorEq,Nat.reduceMul,aj,Tryz.results6,en,Bool.or_self];show awp _ _ _ _ _ _ _;refine vn ?_;simp only[wq.1,↓reduceIte,Nat.reduceEqDiff,Nat.reduceLT,Nat.reduceLeDiff,Nat.reduceAdd,Nat.reduceSub,Int.reduceToNat,Nat.reduceDiv,Int.reduceLT,Int.reduceLE,Int.reduceNeg,Int.reduceBEq,Int.reduceBNe,Int.reduceAdd,Int.reduceSub,Nat.reduceBEq,reduceCtorEq,Nat.reduceMul,aj,Tryz.results6,tJ,IL,beq_self_eq_true,zre];refine⟨zL,by decide,by decide,P7,zL,zL,by decide,?_⟩;refine vm ?_;simp only[wq.1,↓reduceIte];exact aG.dat rfl
def zS(q:La):Bool:=decide (q.name.length<=60)&&decide (q.next.length<=60)
def zT(c:Ci):Bool:=Ir 210 c.ins&&Ir 210 c.outs&&decide (c.gates.length<=210)&&decide (c.lat.length<=210)
def uh(c:Ci):Bool:=c.gates.all zQ&&(c.lat.all zS&&zT c)
def jy(c:Ci):Bool:=uh c&&decide (c.gates.length<=24)&&decide (c.ins.length<=24)&&decide (c.lat.length<=24)
theorem Ru{c:Ci}(h1:c.gates.all zQ=true\/210<c.gates.length)(h2:c.lat.all zS=true\/210<c.lat.length):uh c=zT c:=by
 unfold uh;rcases h1 with h1|h1
 ·rw[h1,Bool.true_and];rcases h2 with h2|h2
  ·rw[h2,Bool.true_and]
  ·have:zT c=false:=by unfold zT;rw[decide_eq_false (show ¬c.lat.length<=210 by omega),Bool.and_false]
   rw[this,Bool.and_false]
 ·have:zT c=false:=by unfold zT;rw[decide_eq_false (show ¬c.gates.length<=210 by omega),Bool.and_false,Bool.false_and]
  rw[this,Bool.and_false,Bool.and_false]
theorem Pi{c:Ci}{i:Nat}(h:i<c.gates.length)(hb:zQ c.gates[i]=false):uh c=false:=by
 have:c.gates.all zQ=false:=by rw[Bool.eq_false_iff];intro e;rw[zrs.1 e _ (zqu h)]at hb;cases hb
 unfold uh;rw[this,Bool.false_and]
theorem Pj{c:Ci}{i:Nat}(h:i<c.lat.length)(hb:zS c.lat[i]=false):uh c=false:=by
 have:c.lat.all zS=false:=by rw[Bool.eq_false_iff];intro e;rw[zrs.1 e _ (zqu h)]at hb;cases hb
 unfold uh;rw[this,Bool.false_and,Bool.and_false]
theorem F6{α:Type}{l:List α}{p:α->Bool}{i:Nat}(h:∀x∈l.take i,p x=true)(hi:i=l.length\/210<i/\i<=l.length):l.all p=true\/210<l.length:=by
 rcases hi with hi|⟨h1,h2⟩
 ·rw[hi,zrx]at h;exact .inl (zrs.2 h)
 ·exact .inr (by omega)
theorem Pm[MO](c:Ci):Ev TE 19 [c.v] (.bool (uh c)):=by
 have hM:=mLx;refine Ev.bnd fun hb=> ?_;have hlg:c.gates.length<=maxLen/\c.lat.length<=maxLen:=by simp only[V.bnds,V.bnd,zra]at hb;exact⟨hb.1.2.2.2.1.1,hb.1.2.2.1.1⟩
 have h1:=qA c.ins 210;have h2:=qA c.outs 210;have q1:decide ((c.gates.length:Int)<=210)=decide (c.gates.length<=210):=decide_eq_decide.2 (by omega);have q2:decide ((c.lat.length:Int)<=210)=decide (c.lat.length<=210):=decide_eq_decide.2 (by omega);obtain⟨B,hB⟩:∃B:H,B=[.cells [aW c.ins,aW c.outs,lu c.lat,iK c.gates]]:=⟨_,rfl⟩;refine ai Tryz.func19 rfl (by simp[nts]) ?_;refine vn ?_;simp only[wq.1,Nat.reduceLT,Tryz.results19];refine ak (bi (Q:=fun xe f h=>(xe= .normal/\(c.gates.all zQ=true\/210<c.gates.length)/\f.t 1= .lp 0 0/\f.d=[]/\h=[.cells [aW c.ins,aW c.outs,lu c.lat,iK c.gates]])\/(xe= .ret/\uh c=false/\f.t 2= .bool false/\f.d=[])) ?_ ?_)
 ·rintro xe f h (⟨rfl,hg,t1,hd,rfl⟩|⟨rfl,hf,t2,hd⟩)
  ·show awp _ _ _ _ _ _ _;refine ak (bi (Q:=fun xe f h=>(xe= .normal/\(c.lat.all zS=true\/210<c.lat.length)/\f.t 1= .lp 0 0/\f.d=[]/\h=[.cells [aW c.ins,aW c.outs,lu c.lat,iK c.gates]])\/(xe= .ret/\uh c=false/\f.t 2= .bool false/\f.d=[])) ?_ ?_)
   ·rintro xe f h (⟨rfl,hl,t1,hd,rfl⟩|⟨rfl,hf,t2,hd⟩)
    ·show awp _ _ _ _ _ _ _;have e:=Ru hg hl;refine vn ?_;simp only[wq.1,seval,t1];refine ag.ev h1 (by simp only[V.dats,V.dat,aJ,zre]) ?_;simp only[wq.1,seval];refine vn ?_;simp only[wq.1,seval,t1];refine ag.ev h2 (by simp only[V.dats,V.dat,aJ,zre]) ?_;simp only[wq.1,seval];refine vn ?_;simp only[wq.1,seval,t1,e];refine vm ?_;simp only[wq.1,↓reduceIte,q1,q2,hd];show aG TE _ (V.bool (zT c)) (V.bool (zT c));exact aG.dat rfl
    ·simp only[wq.1,t2,hd,hf];exact aG.dat rfl
   ·refine vn ?_;simp only[wq.1,Nat.reduceLT];refine aB ?_;refine aN (fun m f h=>∃i:Nat,m+i=c.lat.length/\i<=211/\(∀x∈c.lat.take i,zS x=true)/\f.t 1= .lp 0 0/\f.t 5=vi i/\f.d=[]/\h=[.cells [aW c.ins,aW c.outs,lu c.lat,iK c.gates]]) c.lat.length ⟨0,by omega,by omega,(fun x hx=>by simp at hx),by simp only[wq.1,seval,t1],by simp only[wq.1,↓reduceIte];rfl,by simp only[wq.1,hd],rfl⟩ ?_;rintro m f h ⟨i,hm,hil,hall,t1,t5,hd,rfl⟩;refine vn ?_;simp only[wq.1,seval,t1,t5];refine vcB.mk (fun hc=> ?_) (fun hc=> ?_)
    ·rw[zqf,zqb,zqb]at hc;obtain⟨hc1,hc2⟩:i<c.lat.length/\i<=210:=by omega
     have ha:=Ep hc1 .any;have hw:=aC (show i<maxLen by omega);have qa:decide (60<(c.lat[i].name.length:Int))= !decide (c.lat[i].name.length<=60):=by
      by_cases hh:c.lat[i].name.length<=60
      ·rw[decide_eq_true hh,decide_eq_false (by omega)];rfl
      ·rw[decide_eq_false hh,decide_eq_true (by omega)];rfl
     have qb:decide (60<(c.lat[i].next.length:Int))= !decide (c.lat[i].next.length<=60):=by
      by_cases hh:c.lat[i].next.length<=60
      ·rw[decide_eq_true hh,decide_eq_false (by omega)];rfl
      ·rw[decide_eq_false hh,decide_eq_true (by omega)];rfl
     simp only[wq.1];refine ak (aB ?_);refine vn ?_;simp only[wq.1,seval,t1,t5,ha];refine⟨⟨by omega,by omega⟩,fun h=>⟨h,by omega,by omega⟩,?_⟩;refine vm ?_;simp only[wq.1,↓reduceIte,qa,qb];cases hfw:zS c.lat[i]with
     |false=>unfold zS at hfw;rw[<-Bool.not_and,hfw];simp only[wq.1,seval,hd];exact .inr (Pj hc1 hfw)
     |true =>
      have hfw2:=hfw;unfold zS at hfw2;rw[<-Bool.not_and,hfw2];simp only[wq.1];refine vm ?_;simp only[wq.1,seval,t5,hw];refine .inl ⟨m-1,by omega,i+1,by omega,by omega,?_,t1,rfl,hd,rfl⟩;rw[zrg,zqk hc1];intro x hx;rcases zrf.1 hx with hx|hx
      ·exact hall x hx
      ·obtain rfl:=zrc.1 (by simpa using hx);exact hfw
    ·have hi:i=c.lat.length\/210<i/\i<=c.lat.length:=by rw[Bool.and_eq_false_iff,zqd,zqd]at hc;omega
     simp only[wq.1,seval,t1,hd];exact .inl (F6 hall hi)
  ·simp only[wq.1,t2,hd,hf];exact aG.dat rfl
 ·refine vn ?_;simp only[wq.1,Nat.reduceLT];refine aB ?_;refine aN (fun m f h=>∃i:Nat,m+i=c.gates.length/\i<=211/\(∀x∈c.gates.take i,zQ x=true)/\f.t 1= .lp 0 0/\f.t 3=vi i/\f.d=[]/\h=[.cells [aW c.ins,aW c.outs,lu c.lat,iK c.gates]]) c.gates.length ⟨0,by omega,by omega,(fun x hx=>by simp at hx),by simp only[wq.1,seval],by simp only[wq.1,↓reduceIte];rfl,by simp only[wq.1],rfl⟩ ?_;rintro m f h ⟨i,hm,hil,hall,t1,t3,hd,rfl⟩;refine vn ?_;simp only[wq.1,seval,t1,t3];refine vcB.mk (fun hc=> ?_) (fun hc=> ?_)
  ·rw[zqf,zqb,zqb]at hc;obtain⟨hc1,hc2⟩:i<c.gates.length/\i<=210:=by omega
   have ha:=rJ hc1 .any;have hev:=Ij c.gates[i];have hw:=aC (show i<maxLen by omega);simp only[wq.1];refine ak (aB ?_);refine vn ?_;simp only[wq.1,seval,t1,t3,ha];refine⟨⟨by omega,by omega⟩,ag.ev hev (by simp only[V.dats,V.dat,aJ,zre]) ?_⟩;simp only[wq.1,seval];refine vn ?_;simp only[wq.1,seval];cases hfw:zQ c.gates[i]with
   |false=>refine vm ?_;simp only[wq.1,seval,hd];exact .inr (Pi hc1 hfw)
   |true =>
    refine vm ?_;simp only[wq.1,↓reduceIte];refine vm ?_;simp only[wq.1,seval,t3,hw];refine .inl ⟨m-1,by omega,i+1,by omega,by omega,?_,t1,rfl,hd,rfl⟩;rw[zrg,zqk hc1];intro x hx;rcases zrf.1 hx with hx|hx
    ·exact hall x hx
    ·obtain rfl:=zrc.1 (by simpa using hx);exact hfw
  ·have hi:i=c.gates.length\/210<i/\i<=c.gates.length:=by rw[Bool.and_eq_false_iff,zqd,zqd]at hc;omega
   simp only[wq.1,seval,t1,hd];exact .inl (F6 hall hi)
theorem LJ[MO](c:Ci):Ev TE 7 [c.v] (.bool (jy c)):=by have e:=Pm c;have q1:decide ((c.gates.length:Int)<=24)=decide (c.gates.length<=24):=decide_eq_decide.2 (by omega);have q2:decide ((c.ins.length:Int)<=24)=decide (c.ins.length<=24):=decide_eq_decide.2 (by omega);have q3:decide ((c.lat.length:Int)<=24)=decide (c.lat.length<=24):=decide_eq_decide.2 (by omega);refine ai Tryz.func7 rfl (by simp[nts]) ?_;refine vn ?_;simp only[wq.1,Nat.reduceLT,Tryz.results7];refine vn ?_;simp only[wq.1,seval];refine ag.ev e (by simp only[V.dats,V.dat,aJ,nP,nO,zre]) ?_;simp only[wq.1,seval];refine vn ?_;simp only[wq.1,seval];refine vm ?_;simp only[wq.1,↓reduceIte,q1,q2,q3];exact aG.dat rfl
open Go.RowKit
open Go.ChangeShapes
open Go.WideShapes
theorem wV{H:Type}{enc:TypeId×Value->H}{P:Program}{w:World}{base:Nat}{sp:Nat->Bool}{held:Bool}{fuel:Nat}{t k e:TypeId}{cs:List Value}{dl:List (Lit×DataW H)}{p:List MemPlace}
 (ht:P.underlying t=some (.map k e)) (h:DataW.trod enc P w base sp held fuel t cs=some (.map dl,p)) :
 ∃b es clk n,cs=[.map (some b)]/\w.heap[b]? =some (.map es clk)/\xg es clk/\(es.toList.map (·.key)).Nodup /\
  (∀x∈es.toList,∃l d q,(l,d)∈dl/\keyOf P k x.key=some l/\DataW.trod enc P w base sp held n e x.val.cells.toList=some (d,q)/\x.val.formed P e=true) /\
  (∀y∈dl,∃x∈es.toList,keyOf P k x.key=some y.1):=by
 rcases WideElems.open_map ht h with⟨_,hx⟩|⟨b,es,clk,n,rfl,hcs,hb,_,F,hx⟩
 ·cases hx
 ·simp only[Prod.mk.injEq,DataW.map.injEq]at hx;obtain⟨hdl,_⟩:=hx;have hperm:=sorted_perm (es.toList.map (WideElems.rg P k (WideElems.elemAt enc P w base sp held n e)));rw[<-hdl]at hperm;obtain⟨s1,s2,s3⟩:=F.stamped;refine⟨b,es,clk,n,hcs,hb,⟨s1,s2⟩,s3,fun x hx=> ?_,fun y hy=> ?_⟩
  ·obtain⟨y,hy⟩:=F.reads x hx;have hk:=WideElems.rd_key hy;obtain⟨z,hz,hyz⟩:=WideElems.rd_val hy;unfold WideElems.elemAt at hz;split at hz
   ·rename_i hf;refine⟨y.1,y.2,z.2,hperm.mem_iff.2 (zrh.2 ⟨x,hx,WideElems.rg_of hy⟩),hk,?_,hf⟩;rw[hz,hyz]
   ·cases hz
  ·obtain⟨x,hx,hxy⟩:=zrh.1 (hperm.mem_iff.1 hy);obtain⟨y',hy'⟩:=F.reads x hx;rw[WideElems.rg_of hy']at hxy;subst hxy;exact⟨x,hx,WideElems.rd_key hy'⟩
def vOf:Value->V
 | .string s=> .str s.data.toList
 | .int k n=> .int k n
 | .func f _ _=> .fn f [] []
 | .agg cs=> .agg (cs.toList.map fun x=>match x with | .int k n=>V.int k n|_=> .any)
 |_=> .any
theorem zU{c:C}{F:MapEntry->Value}{G:MapEntry->V}:∀ {l:List MapEntry},(∀x∈l,VRel c (G x) (F x))->VList c (l.map G) (l.map F)
 |[],_=>by simp only[List.map_nil,VList]
 |a::l,h=>by simp only[zrd,VList];exact⟨_,_,rfl,h a (by simp),zU fun x hx=>h x (by simp[hx])⟩
theorem P8{W:World}{g b:Nat}{ty:TypeId}{fz:Nat×Nat}{es:Array MapEntry}{clk:Nat}(h1:W.heap[g]? =some (.cells #[.map (some b)] ty fz))(h2:W.heap[b]? =some (.map es clk))(h3:xg es clk)
 (hk:∀x∈es.toList,VRel (cw W).data (vOf x.key) x.key) (hv:∀x∈es.toList,VRel (cw W).data (vOf x.val) x.val) :
 VRel (cw W) (.ip (.im (es.toList.map fun x=>vOf x.key) (es.toList.map fun x=>vOf x.val))) (.pointer (some ⟨g,0,none⟩)):=by
 simp only[VRel];refine⟨g,0,.map (some b),rfl,fun j hj=>⟨⟨trivial,fun i hi=>by cases hi⟩,?_⟩,by simp[Value.cells],b,es,clk,rfl,⟨trivial,fun i hi=>by cases hi⟩,h2,zU hk,zU hv,h3⟩;have hj:j=0:=by simp[Value.cells]at hj;omega
 subst hj;show W.cell? ⟨g,0+0,none⟩=_;unfold World.cell?;simp only[h1];rfl
theorem Dj{α:Type}[DecidableEq α]{kd:K}{mk:α->V}(hk:∀a b,keq kd (mk a) (mk b)=some (decide (a=b)))(a:α):∀ks:List α,iO kd (mk a) (ks.map mk)=some (ks.findIdx? fun b=>decide (a=b))
 |[]=>rfl
 |k::ks=>by
  simp only[zrd,iO,hk,List.findIdx?_cons];by_cases h:a=k
  ·simp[h]
  ·rw[decide_eq_false h];simp only[Dj hk a ks];cases ks.findIdx? fun b=>decide (a=b)<;>rfl
theorem LK{α:Type}{mk:α->V}{T:List (α×V)}:∀ {L:List MapEntry},(∀x∈L,∃y∈T,vOf x.key=mk y.1/\vOf x.val=y.2) ->
 ∃T':List (α×V),(L.map fun x=>vOf x.key)=(T'.map (·.1)).map mk/\(L.map fun x=>vOf x.val)=T'.map (·.2)/\(∀y∈T',y∈T)/\∀x∈L,∃y∈T',vOf x.key=mk y.1
 |[],_=>⟨[],rfl,rfl,fun y h=>(by cases h),fun x h=>(by cases h)⟩
 |a::L,h=>by
  obtain⟨y,hy,h1,h2⟩:=h a (by simp);obtain⟨T',t1,t2,t3,t4⟩:=LK (L:=L) (T:=T) (mk:=mk) fun x hx=>h x (List.mem_cons_of_mem _ hx);refine⟨y::T',?_,?_,fun z hz=> ?_,fun x hx=> ?_⟩
  ·rw[zrd,zrd,zrd,t1,h1]
  ·rw[zrd,zrd,t2,h2]
  ·rcases zrj.1 hz with rfl|hz
   ·exact hy
   ·exact t3 z hz
  ·rcases zrj.1 hx with rfl|hx
   ·exact⟨y,by simp,h1⟩
   ·obtain⟨z,hz,e⟩:=t4 x hx;exact⟨z,by simp[hz],e⟩
theorem Dk{α β:Type}:∀ {T:List (α×β)},(T.map (·.1)).Nodup->∀ {x y},x∈T->y∈T->x.1=y.1->x=y
 |[],_,x,y,hx,_,_=>by cases hx
 |a::T,hn,x,y,hx,hy,he=>by
  rw[zrd,List.nodup_cons]at hn;rcases zrj.1 hx with ex|hx2<;>rcases zrj.1 hy with ey|hy2
  ·rw[ex,ey]
  ·exact absurd (show a.1∈T.map (·.1)from zrh.2 ⟨y,hy2,by rw[<-ex,he]⟩) hn.1
  ·exact absurd (show a.1∈T.map (·.1)from zrh.2 ⟨x,hx2,by rw[<-ey,he]⟩) hn.1
  ·exact Dk hn.2 hx2 hy2 he
def Rx(z:V):Option V->V
 |some v=> .tup [v,.bool true]
 |none=> .tup [z,.bool false]
theorem F7{α:Type}[DecidableEq α]{kd:K}{mk:α->V}(hk:∀a b,keq kd (mk a) (mk b)=some (decide (a=b)))(hi:∀a b,mk a=mk b->a=b){L:List MapEntry}{T:List (α×V)}(hT:(T.map (·.1)).Nodup)
 (h1:∀x∈L,∃y∈T,vOf x.key=mk y.1/\vOf x.val=y.2) (h2:∀y∈T,∃x∈L,vOf x.key=mk y.1) (a:α) (z:V) :
 oZ kd (mk a) (L.map fun x=>vOf x.key) (L.map fun x=>vOf x.val) z true=(True,Rx z ((T.find? fun y=>decide (a=y.1)).map (·.2))):=by
 obtain⟨T',t1,t2,t3,t4⟩:=LK h1;rw[t1,t2];unfold oZ;rw[Dj hk];cases hf:(T'.map (·.1)).findIdx? fun b=>decide (a=b)with
 |some n =>
  obtain⟨hn,hp,_⟩:=List.findIdx?_eq_some_iff_getElem.1 hf;have hn':n<T'.length:=by simpa using hn
  have hp:a=T'[n].1:=by simpa using hp
  have hm:=t3 _ (zqu hn');have hff:(T.find? fun y=>decide (a=y.1))=some T'[n]:=by
   cases hq:T.find? fun y=>decide (a=y.1)with
   |none=>have:=List.find?_eq_none.1 hq _ hm;rw[hp]at this;simp at this
   |some y =>
    have e1:=List.find?_some hq;have e2:=List.mem_of_find?_eq_some hq;have e1:a=y.1:=by simpa using e1
    rw[Dk hT e2 hm (by rw[<-e1,<-hp])]
  rw[hff];dsimp only[Rx,zrw];have:(T'.map (·.2)).getD n .any=T'[n].2:=dS hn' _;rw[this];rfl
 |none =>
  have hff:(T.find? fun y=>decide (a=y.1))=none:=by
   rw[List.find?_eq_none];intro y hy e;have e:a=y.1:=by simpa using e
   obtain⟨x,hx,ex⟩:=h2 y hy;obtain⟨y',hy',ey⟩:=t4 x hx;have e3:=hi _ _ (ex.symm.trans ey);have:=List.findIdx?_eq_none_iff.1 hf y'.1 (zrh.2 ⟨y',hy',rfl⟩);rw[e,e3]at this;simp at this
  rw[hff];rfl
theorem Ry(a b:S):keq .str (.str a) (.str b)=some (decide (a=b)):=by
 simp only[keq];by_cases h:a=b
 ·simp[h]
 ·rw[decide_eq_false h,beq_eq_false_iff_ne.2 h]
theorem Rz(a b:Int):keq (.int .i64) (.int .i64 a) (.int .i64 b)=some (decide (a=b)):=by
 simp only[keq,if_true];by_cases h:a=b
 ·simp[h]
 ·rw[decide_eq_false h,beq_eq_false_iff_ne.2 h]
abbrev LL : List (String × DataW Unit) := [("math/bits.deBruijn32tab", Rows.laid_math_bits_deBruijn32tab), ("math/bits.deBruijn64tab", Rows.laid_math_bits_deBruijn64tab), ("internal/strconv.uint64pow10", Rows.laid_internal_strconv_uint64pow10), ("unicode/utf8.acceptRanges", Rows.laid_unicode_utf8_acceptRanges), ("patchbay/spot.start", Rows.laid_patchbay_spot_start), ("patchbay/ident.kept", Rows.laid_patchbay_ident_kept), ("patchbay/net.ins", Rows.laid_patchbay_net_ins), ("patchbay/blif.tells", Rows.laid_patchbay_blif_tells), ("unicode/utf8.first", Rows.laid_unicode_utf8_first)]
theorem Pn {W : World} (h : laidMetH Tryz.prog LL W) : laidMet Tryz.prog [("math/bits.deBruijn32tab", Rows.laid_math_bits_deBruijn32tab), ("math/bits.deBruijn64tab", Rows.laid_math_bits_deBruijn64tab), ("internal/strconv.uint64pow10", Rows.laid_internal_strconv_uint64pow10), ("unicode/utf8.acceptRanges", Rows.laid_unicode_utf8_acceptRanges), ("patchbay/spot.start", Rows.laid_patchbay_spot_start), ("patchbay/ident.kept", Rows.laid_patchbay_ident_kept), ("patchbay/net.ins", Rows.laid_patchbay_net_ins), ("unicode/utf8.first", Rows.laid_unicode_utf8_first)] W ∧ handlesMet Tryz.prog [("patchbay/blif.tells", Rows.laid_patchbay_blif_tells)] W := h
theorem kw{P:Program}{w:World}{n:String}{g:Nat}{cs:Array Value}(hg:P.globalNamed n=some g)(h:w.var? P n=some cs):∃ty fz,w.heap[g]? =some (.cells cs ty fz):=by
 unfold World.var? at h;rw[hg,Option.bind_some]at h;split at h
 ·cases h;exact⟨_,_,by assumption⟩
 ·cases h
theorem Ua{P:Program}{v:Value}{e e':TypeId}{n:Nat}(hu:P.underlying e=some (.array n e'))(hf:v.formed P e=true):∃cs,v= .agg cs:=by cases v<;>simp[Value.formed,hu]at hf;exact⟨_,rfl⟩
theorem Ub{P:Program}{v:Value}{e:TypeId}{ps rs:Array TypeId}{va:Bool}(hu:P.underlying e=some (.func ps rs va))(hf:v.formed P e=true):v.cells.toList=[v]:=by cases v<;>simp[Value.formed,hu]at hf<;>rfl
def wW:List (S×FuncId):=[(xY,195),(eG,210),(gm,212),(dZ,209),(gq,213),(dw,211)]
def LM:List (S×V):=wW.map fun y=>(y.1,.fn (.func y.2) [] [])
theorem Po{W:World}(h:laidMetH Tryz.prog LL W):∃b es clk ty fz,W.heap[0]? =some (.cells #[.map (some b)] ty fz)/\W.heap[b]? =some (.map es clk)/\xg es clk /\
 (∀x∈es.toList,∃s y,y∈wW/\x.key= .string s/\s.data.toList=y.1/\s.size<=maxLen/\x.val= .func (.func y.2) #[] #[])/\∀y∈wW,∃x∈es.toList,∃s:ByteArray,x.key= .string s/\s.data.toList=y.1:=by
 have hm : ("patchbay/blif.tells", DataW.iface "func table" (.map [(.string [46, 101, 110, 100], .iface "func" (.lit (.string [40, 42, 112, 97, 116, 99, 104, 98, 97, 121, 47, 98, 108, 105, 102, 46, 112, 97, 114, 115, 101, 114, 41, 46, 101, 110, 100]))), (.string [46, 105, 110, 112, 117, 116, 115], .iface "func" (.lit (.string [40, 42, 112, 97, 116, 99, 104, 98, 97, 121, 47, 98, 108, 105, 102, 46, 112, 97, 114, 115, 101, 114, 41, 46, 105, 110, 112, 117, 116, 115]))), (.string [46, 108, 97, 116, 99, 104], .iface "func" (.lit (.string [40, 42, 112, 97, 116, 99, 104, 98, 97, 121, 47, 98, 108, 105, 102, 46, 112, 97, 114, 115, 101, 114, 41, 46, 108, 97, 116, 99, 104]))), (.string [46, 109, 111, 100, 101, 108], .iface "func" (.lit (.string [40, 42, 112, 97, 116, 99, 104, 98, 97, 121, 47, 98, 108, 105, 102, 46, 112, 97, 114, 115, 101, 114, 41, 46, 109, 111, 100, 101, 108]))), (.string [46, 110, 97, 109, 101, 115], .iface "func" (.lit (.string [40, 42, 112, 97, 116, 99, 104, 98, 97, 121, 47, 98, 108, 105, 102, 46, 112, 97, 114, 115, 101, 114, 41, 46, 110, 97, 109, 101, 115]))), (.string [46, 111, 117, 116, 112, 117, 116, 115], .iface "func" (.lit (.string [40, 42, 112, 97, 116, 99, 104, 98, 97, 121, 47, 98, 108, 105, 102, 46, 112, 97, 114, 115, 101, 114, 41, 46, 111, 117, 116, 112, 117, 116, 115])))])) ∈ LL := by
  show ("patchbay/blif.tells", Rows.laid_patchbay_blif_tells) ∈ LL
  simp[LL]
 obtain ⟨g, t, cs, fuel, p, hg, ht, hv, hd⟩ := h.funcs hm;have e1 : Tryz.prog.globalNamed "patchbay/blif.tells" = some 0 := by kernel_rfl
 obtain rfl:=Option.some.inj (e1.symm.trans hg);have e2:(Tryz.prog.globals[0]?).map (·.type)=some 141:=by kernel_rfl
 obtain rfl:=Option.some.inj (e2.symm.trans ht);have hd':DataW.trod (funcToken Tryz.prog) Tryz.prog W 0 (fun _=>true) true fuel 141 cs.toList=some (.map [(.string [46,101,110,100],.held [40,42,112,97,116,99,104,98,97,121,47,98,108,105,102,46,112,97,114,115,101,114,41,46,101,110,100]),(.string [46,105,110,112,117,116,115],.held [40,42,112,97,116,99,104,98,97,121,47,98,108,105,102,46,112,97,114,115,101,114,41,46,105,110,112,117,116,115]),(.string [46,108,97,116,99,104],.held [40,42,112,97,116,99,104,98,97,121,47,98,108,105,102,46,112,97,114,115,101,114,41,46,108,97,116,99,104]),(.string [46,109,111,100,101,108],.held [40,42,112,97,116,99,104,98,97,121,47,98,108,105,102,46,112,97,114,115,101,114,41,46,109,111,100,101,108]),(.string [46,110,97,109,101,115],.held [40,42,112,97,116,99,104,98,97,121,47,98,108,105,102,46,112,97,114,115,101,114,41,46,110,97,109,101,115]),(.string [46,111,117,116,112,117,116,115],.held [40,42,112,97,116,99,104,98,97,121,47,98,108,105,102,46,112,97,114,115,101,114,41,46,111,117,116,112,117,116,115])],p):=hd;obtain⟨b,es,clk,n,hcs,hb,hok,hnd,h1,h2⟩:=wV Tryz.underlying141 hd';obtain⟨ty,fz,hh⟩:=kw e1 hv;have hcs':cs=#[.map (some b)]:=Array.toList_inj.1 hcs;rw[hcs']at hh;refine⟨b,es,clk,ty,fz,hh,hb,hok,fun x hx=> ?_,fun y hy=> ?_⟩
 ·obtain⟨l,d,q,hm,hk,hr,hf⟩:=h1 x hx;obtain⟨s,hs1,hs2,hs3⟩:=WideMaps.string_of_keyOf Tryz.underlying9 hk;rw[Ub Tryz.underlying139 hf]at hr;simp only[zrj,zrp,or_false,Prod.mk.injEq]at hm;rcases hm with⟨rfl,rfl⟩|⟨rfl,rfl⟩|⟨rfl,rfl⟩|⟨rfl,rfl⟩|⟨rfl,rfl⟩|⟨rfl,rfl⟩
  ·simp only[Lit.string.injEq]at hs2;exact⟨s,(xY,195),by simp[wW],hs1,hs2.symm,hs3,func_of_trod (f0:=195) Tryz.underlying139 (by kernel_rfl) hr⟩
  ·simp only[Lit.string.injEq]at hs2;exact⟨s,(eG,210),by simp[wW],hs1,hs2.symm,hs3,func_of_trod (f0:=210) Tryz.underlying139 (by kernel_rfl) hr⟩
  ·simp only[Lit.string.injEq]at hs2;exact⟨s,(gm,212),by simp[wW],hs1,hs2.symm,hs3,func_of_trod (f0:=212) Tryz.underlying139 (by kernel_rfl) hr⟩
  ·simp only[Lit.string.injEq]at hs2;exact⟨s,(dZ,209),by simp[wW],hs1,hs2.symm,hs3,func_of_trod (f0:=209) Tryz.underlying139 (by kernel_rfl) hr⟩
  ·simp only[Lit.string.injEq]at hs2;exact⟨s,(gq,213),by simp[wW],hs1,hs2.symm,hs3,func_of_trod (f0:=213) Tryz.underlying139 (by kernel_rfl) hr⟩
  ·simp only[Lit.string.injEq]at hs2;exact⟨s,(dw,211),by simp[wW],hs1,hs2.symm,hs3,func_of_trod (f0:=211) Tryz.underlying139 (by kernel_rfl) hr⟩
 ·have hy':∃y'∈([(.string [46,101,110,100],.held [40,42,112,97,116,99,104,98,97,121,47,98,108,105,102,46,112,97,114,115,101,114,41,46,101,110,100]),(.string [46,105,110,112,117,116,115],.held [40,42,112,97,116,99,104,98,97,121,47,98,108,105,102,46,112,97,114,115,101,114,41,46,105,110,112,117,116,115]),(.string [46,108,97,116,99,104],.held [40,42,112,97,116,99,104,98,97,121,47,98,108,105,102,46,112,97,114,115,101,114,41,46,108,97,116,99,104]),(.string [46,109,111,100,101,108],.held [40,42,112,97,116,99,104,98,97,121,47,98,108,105,102,46,112,97,114,115,101,114,41,46,109,111,100,101,108]),(.string [46,110,97,109,101,115],.held [40,42,112,97,116,99,104,98,97,121,47,98,108,105,102,46,112,97,114,115,101,114,41,46,110,97,109,101,115]),(.string [46,111,117,116,112,117,116,115],.held [40,42,112,97,116,99,104,98,97,121,47,98,108,105,102,46,112,97,114,115,101,114,41,46,111,117,116,112,117,116,115])]:List (Lit×DataW (List UInt8))),y'.1= .string y.1:=by
   simp only[wW,zrj,zrp,or_false]at hy;rcases hy with rfl|rfl|rfl|rfl|rfl|rfl
   ·exact⟨(.string [46,101,110,100],.held [40,42,112,97,116,99,104,98,97,121,47,98,108,105,102,46,112,97,114,115,101,114,41,46,101,110,100]),by simp,rfl⟩
   ·exact⟨(.string [46,105,110,112,117,116,115],.held [40,42,112,97,116,99,104,98,97,121,47,98,108,105,102,46,112,97,114,115,101,114,41,46,105,110,112,117,116,115]),by simp,rfl⟩
   ·exact⟨(.string [46,108,97,116,99,104],.held [40,42,112,97,116,99,104,98,97,121,47,98,108,105,102,46,112,97,114,115,101,114,41,46,108,97,116,99,104]),by simp,rfl⟩
   ·exact⟨(.string [46,109,111,100,101,108],.held [40,42,112,97,116,99,104,98,97,121,47,98,108,105,102,46,112,97,114,115,101,114,41,46,109,111,100,101,108]),by simp,rfl⟩
   ·exact⟨(.string [46,110,97,109,101,115],.held [40,42,112,97,116,99,104,98,97,121,47,98,108,105,102,46,112,97,114,115,101,114,41,46,110,97,109,101,115]),by simp,rfl⟩
   ·exact⟨(.string [46,111,117,116,112,117,116,115],.held [40,42,112,97,116,99,104,98,97,121,47,98,108,105,102,46,112,97,114,115,101,114,41,46,111,117,116,112,117,116,115]),by simp,rfl⟩
  obtain⟨y',hm,he⟩:=hy';obtain⟨x,hx,hk⟩:=h2 y' hm;obtain⟨s,hs1,hs2,_⟩:=WideMaps.string_of_keyOf Tryz.underlying9 hk;rw[he]at hs2;simp only[Lit.string.injEq]at hs2;exact⟨x,hx,s,hs1,hs2.symm⟩
def Dq:List (Int×Int×Int):=[(0,0,0),(1,0,0),(2,1,1),(3,1,1),(4,2,8),(5,2,8),(6,2,8),(7,2,8),(8,2,8),(9,2,8),(10,0,8)]
def Uc:List (Int×V):=Dq.map fun y=>(y.1,.agg [.int .i64 y.2.1,.int .i64 y.2.2])
theorem Ud {W : World} {r : List (String × DataW Unit)} (h : laidMet Tryz.prog (("patchbay/net.ins", Rows.laid_patchbay_net_ins) :: r) W) : ∃ b es clk ty fz, W.heap[1]? = some (.cells #[.map (some b)] ty fz) ∧ W.heap[b]? = some (.map es clk) ∧ xg es clk ∧
 (∀x∈es.toList,∃y∈Dq,x.key= .int .i64 y.1/\x.val= .agg #[.int .i64 y.2.1,.int .i64 y.2.2])/\∀y∈Dq,∃x∈es.toList,x.key= .int .i64 y.1:=by
 obtain ⟨ps, ⟨g', t', cs, fuel, p, q, hg', ht', hvar, hd, _, _⟩, _⟩ := h;have e1 : Tryz.prog.globalNamed "patchbay/net.ins" = some 1 := by kernel_rfl
 obtain rfl:=Option.some.inj (e1.symm.trans hg');have e2:(Tryz.prog.globals[1]?).map (·.type)=some 177:=by kernel_rfl
 obtain rfl:=Option.some.inj (e2.symm.trans ht');have hd':DataW.trod (fun _=>()) Tryz.prog W 0 (fun _=>true) false fuel 177 cs.toList=some (.map [(.int .i64 0,.agg [.lit (.int .i64 0),.lit (.int .i64 0)]),(.int .i64 1,.agg [.lit (.int .i64 0),.lit (.int .i64 0)]),(.int .i64 2,.agg [.lit (.int .i64 1),.lit (.int .i64 1)]),(.int .i64 3,.agg [.lit (.int .i64 1),.lit (.int .i64 1)]),(.int .i64 4,.agg [.lit (.int .i64 2),.lit (.int .i64 8)]),(.int .i64 5,.agg [.lit (.int .i64 2),.lit (.int .i64 8)]),(.int .i64 6,.agg [.lit (.int .i64 2),.lit (.int .i64 8)]),(.int .i64 7,.agg [.lit (.int .i64 2),.lit (.int .i64 8)]),(.int .i64 8,.agg [.lit (.int .i64 2),.lit (.int .i64 8)]),(.int .i64 9,.agg [.lit (.int .i64 2),.lit (.int .i64 8)]),(.int .i64 10,.agg [.lit (.int .i64 0),.lit (.int .i64 8)])],p):=hd;obtain⟨b,es,clk,n,hcs,hb,hok,hnd,h1,h2⟩:=wV Tryz.underlying177 hd';obtain⟨ty,fz,hh⟩:=kw e1 hvar;have hcs':cs=#[.map (some b)]:=Array.toList_inj.1 hcs;rw[hcs']at hh;have c1:Tryz.prog.cellsOf 3=1:=by kernel_rfl
 have c2:Tryz.prog.cellsOf 175=2:=by kernel_rfl
 have ikey:∀ {v:Value} {n:Int},keyOf Tryz.prog 34 v=some (.int .i64 n)->v= .int .i64 n:=fun {v n} hk=>by rw[keyOf_int Tryz.underlying34]at hk;cases v<;>simp[mapKey,Tryz.underlying34]at hk;obtain⟨⟨rfl,_⟩,rfl⟩:=hk;rfl
 have ival:∀ {v:Value} {a b:Int} {q:List MemPlace},v.formed Tryz.prog 175=true->DataW.trod (fun _=>()) Tryz.prog W 0 (fun _=>true) false n 175 v.cells.toList=some (.agg [.lit (.int .i64 a),.lit (.int .i64 b)],q)->v= .agg #[.int .i64 a,.int .i64 b]:=fun {v a b q} hf hr=>by obtain⟨cs,rfl⟩:=Ua Tryz.underlying175 hf;have:=Lib.cells_of_tab (zs:=[a,b]) (k:= .i64) Tryz.underlying175 Tryz.underlying3 c1 c2 hr;have:cs=#[.int .i64 a,.int .i64 b]:=Array.toList_inj.1 this;rw[this]
 refine⟨b,es,clk,ty,fz,hh,hb,hok,fun x hx=> ?_,fun y hy=> ?_⟩
 ·obtain⟨l,d,q,hm,hk,hr,hf⟩:=h1 x hx;simp only[zrj,zrp,or_false,Prod.mk.injEq]at hm;rcases hm with⟨rfl,rfl⟩|⟨rfl,rfl⟩|⟨rfl,rfl⟩|⟨rfl,rfl⟩|⟨rfl,rfl⟩|⟨rfl,rfl⟩|⟨rfl,rfl⟩|⟨rfl,rfl⟩|⟨rfl,rfl⟩|⟨rfl,rfl⟩|⟨rfl,rfl⟩
  ·exact⟨(0,0,0),by simp[Dq],ikey hk,ival hf hr⟩
  ·exact⟨(1,0,0),by simp[Dq],ikey hk,ival hf hr⟩
  ·exact⟨(2,1,1),by simp[Dq],ikey hk,ival hf hr⟩
  ·exact⟨(3,1,1),by simp[Dq],ikey hk,ival hf hr⟩
  ·exact⟨(4,2,8),by simp[Dq],ikey hk,ival hf hr⟩
  ·exact⟨(5,2,8),by simp[Dq],ikey hk,ival hf hr⟩
  ·exact⟨(6,2,8),by simp[Dq],ikey hk,ival hf hr⟩
  ·exact⟨(7,2,8),by simp[Dq],ikey hk,ival hf hr⟩
  ·exact⟨(8,2,8),by simp[Dq],ikey hk,ival hf hr⟩
  ·exact⟨(9,2,8),by simp[Dq],ikey hk,ival hf hr⟩
  ·exact⟨(10,0,8),by simp[Dq],ikey hk,ival hf hr⟩
 ·have hy':∃y'∈([(.int .i64 0,.agg [.lit (.int .i64 0),.lit (.int .i64 0)]),(.int .i64 1,.agg [.lit (.int .i64 0),.lit (.int .i64 0)]),(.int .i64 2,.agg [.lit (.int .i64 1),.lit (.int .i64 1)]),(.int .i64 3,.agg [.lit (.int .i64 1),.lit (.int .i64 1)]),(.int .i64 4,.agg [.lit (.int .i64 2),.lit (.int .i64 8)]),(.int .i64 5,.agg [.lit (.int .i64 2),.lit (.int .i64 8)]),(.int .i64 6,.agg [.lit (.int .i64 2),.lit (.int .i64 8)]),(.int .i64 7,.agg [.lit (.int .i64 2),.lit (.int .i64 8)]),(.int .i64 8,.agg [.lit (.int .i64 2),.lit (.int .i64 8)]),(.int .i64 9,.agg [.lit (.int .i64 2),.lit (.int .i64 8)]),(.int .i64 10,.agg [.lit (.int .i64 0),.lit (.int .i64 8)])]:List (Lit×DataW Unit)),y'.1= .int .i64 y.1:=by
   simp only[Dq,zrj,zrp,or_false]at hy;rcases hy with rfl|rfl|rfl|rfl|rfl|rfl|rfl|rfl|rfl|rfl|rfl
   ·exact⟨(.int .i64 0,.agg [.lit (.int .i64 0),.lit (.int .i64 0)]),by simp,rfl⟩
   ·exact⟨(.int .i64 1,.agg [.lit (.int .i64 0),.lit (.int .i64 0)]),by simp,rfl⟩
   ·exact⟨(.int .i64 2,.agg [.lit (.int .i64 1),.lit (.int .i64 1)]),by simp,rfl⟩
   ·exact⟨(.int .i64 3,.agg [.lit (.int .i64 1),.lit (.int .i64 1)]),by simp,rfl⟩
   ·exact⟨(.int .i64 4,.agg [.lit (.int .i64 2),.lit (.int .i64 8)]),by simp,rfl⟩
   ·exact⟨(.int .i64 5,.agg [.lit (.int .i64 2),.lit (.int .i64 8)]),by simp,rfl⟩
   ·exact⟨(.int .i64 6,.agg [.lit (.int .i64 2),.lit (.int .i64 8)]),by simp,rfl⟩
   ·exact⟨(.int .i64 7,.agg [.lit (.int .i64 2),.lit (.int .i64 8)]),by simp,rfl⟩
   ·exact⟨(.int .i64 8,.agg [.lit (.int .i64 2),.lit (.int .i64 8)]),by simp,rfl⟩
   ·exact⟨(.int .i64 9,.agg [.lit (.int .i64 2),.lit (.int .i64 8)]),by simp,rfl⟩
   ·exact⟨(.int .i64 10,.agg [.lit (.int .i64 0),.lit (.int .i64 8)]),by simp,rfl⟩
  obtain⟨y',hm,he⟩:=hy';obtain⟨x,hx,hk⟩:=h2 y' hm;rw[he]at hk;exact⟨x,hx,ikey hk⟩
theorem own:ownKnob Tryz.prog.godebug=none:=by kernel_rfl
theorem laid:laidOutB Tryz.prog=true:=by kernel_rfl
theorem wX{H:Type}{enc:TypeId×Value->H}{P:Program}{w:World}{base:Nat}{sp:Nat->Bool}{b:Bool}{fuel:Nat}{t:TypeId}{k:IntKind}{n:Int}{cs:List Value}{p:List MemPlace}
 (ht:P.underlying t=some (.int k)) (h:DataW.trod enc P w base sp b fuel t cs=some (.lit (.int k n),p)):cs=[.int k n]:=by
 cases fuel with
 |zero=>simp[DataW.trod]at h
 |succ fuel =>
  simp only [DataW.trod,ht] at h;split at h <;> first
   |(cases h;done)
   |(split at h<;>simp_all;done)
   |simp_all
theorem Pq {W : World} {r : List (String × DataW Unit)} (h : laidMet Tryz.prog (("patchbay/spot.start", Rows.laid_patchbay_spot_start) :: r) W) : ∃ ty fz, W.heap[2]? = some (.cells #[.int .i64 1, .int .i64 1] ty fz) := by
 obtain ⟨ps, ⟨g', t', cs, fuel, p, q, hg', ht', hvar, hd, _, _⟩, _⟩ := h;have e1 : Tryz.prog.globalNamed "patchbay/spot.start" = some 2 := by kernel_rfl
 obtain rfl:=Option.some.inj (e1.symm.trans hg');have e2:(Tryz.prog.globals[2]?).map (·.type)=some 186:=by kernel_rfl
 obtain rfl:=Option.some.inj (e2.symm.trans ht');have c1:Tryz.prog.cellsOf 186=2:=by kernel_rfl
 have c2:Tryz.prog.cellsOf 3=1:=by kernel_rfl
 have u3:Tryz.prog.underlying 3=some (.int .i64):=by kernel_rfl
 obtain⟨ty,fz,hh⟩:=kw e1 hvar;cases fuel with
 |zero=>simp[DataW.trod]at hd
 |succ fuel =>
  simp only[DataW.trod,Tryz.underlying186]at hd;split at hd
  ·rename_i hl;rw[Option.map_eq_some_iff]at hd;obtain⟨xs,hx,he⟩:=hd;rw[c1]at hl;rw[c2,show List.range 2=[0,1]from rfl]at hx;simp only[List.mapM_cons,List.mapM_nil,Option.bind_eq_bind,Option.pure_def,Option.bind_eq_some_iff,Option.some.injEq]at hx;obtain⟨⟨y1,y2⟩,hy,ys,⟨⟨z1,z2⟩,hz,zs,rfl,rfl⟩,rfl⟩:=hx;simp only[zrd,List.map_nil,Prod.mk.injEq,Rows.laid_patchbay_spot_start,DataW.agg.injEq,List.cons.injEq,and_true]at he;obtain⟨⟨rfl,rfl⟩,_⟩:=he;have a1:=wX u3 hy;have a2:=wX u3 hz;have:cs=#[.int .i64 1,.int .i64 1]:=by
    apply Array.toList_inj.1
    match hcs:cs.toList,hl with
    |[a,b],_=>rw[hcs]at a1 a2;simp at a1 a2;rw[a1,a2]
   rw[this]at hh;exact⟨ty,fz,hh⟩
  ·cases hd
theorem UQ {W : World} {r : List (String × DataW Unit)} (h : laidMet Tryz.prog (("math/bits.deBruijn64tab", Rows.laid_math_bits_deBruijn64tab) :: r) W) : ∃ ty fz, W.heap[7]? = some (.cells (D6.map fun z => Value.int .u8 z).toArray ty fz) := by
 have e1 : Tryz.prog.globalNamed "math/bits.deBruijn64tab" = some 7 := by kernel_rfl
 have e2:(Tryz.prog.globals[7]?).map (·.type)=some 243:=by kernel_rfl
 have c1:Tryz.prog.cellsOf 5=1:=by kernel_rfl
 have c2:Tryz.prog.cellsOf 243=64:=by kernel_rfl
 have:=Lib.tabIs_of_head (zs:=D6) (k:= .u8) e1 e2 Tryz.underlying243 Tryz.underlying5 c1 c2 h;exact kw e1 this
theorem UR{W:World}(h:W.ShapedOpen Tryz.prog):∃ty fz m,W.heap[5]? =some (.cells #[.int .i64 m] ty fz):=by
 have h0:((begin Tryz.prog (fun _ _=>0) default).world.heap[5]?).bind Obj.row? =some (#[.int .i64 0],3):=by kernel_rfl
 have hg:5<Tryz.prog.globals.size:=by
  have:Tryz.prog.globals.size=10:=by kernel_rfl
  omega
 have hu:Tryz.prog.underlying 3=some (.int .i64):=Tryz.underlying3;obtain⟨m,hm⟩:=cell_of_shapedOpen_int h hg h0 rfl (by kernel_rfl) (by kernel_rfl) hu;obtain⟨cs,hh,hs,_⟩:=h.1 _ _ _ hg h0;have hs:cs.size=1:=hs;have:cs=#[.int .i64 m]:=by
  unfold World.cell? at hm;simp only[hh]at hm;have hm:cs[0]? =some (.int .i64 m):=hm;obtain⟨l⟩:=cs
  match l,hs with
  |[a],_=>simp at hm;rw[hm]
 rw[this]at hh;exact⟨3,(0,0),m,hh⟩
theorem RD{w:World}{g:Nat}{k:IntKind}{zs:List Int}{ty:TypeId}{fz:Nat×Nat}(hz:zs≠[])(h:w.heap[g]? =some (.cells (zs.map fun z=>Value.int k z).toArray ty fz)):VRel (cw w) (.ip (.agg (zs.map fun n=>V.int k n))) (.pointer (some ⟨g,0,none⟩)):=by
 have hl:∀zs:List Int,VList (cw w).data (zs.map fun n=>V.int k n) (zs.map fun z=>Value.int k z):=fun zs=>by
  induction zs with
  |nil=>simp only[List.map_nil,VList]
  |cons a l ih=>simp only[zrd,VList,VRel];exact⟨_,_,rfl,rfl,ih⟩
 simp only[VRel];refine⟨g,0,.agg (zs.map fun z=>Value.int k z).toArray,rfl,fun j hj=>⟨⟨trivial,fun i hi=>by cases hi⟩,?_⟩,?_,_,rfl,hl zs⟩
 ·show w.cell? ⟨g,0+j,none⟩=_;unfold World.cell?;simp only[h,Nat.zero_add];rfl
 ·have:0<zs.length:=List.length_pos_iff.2 hz;simpa [Value.cells]using this
theorem LQ(s:S)(z:V):Rx z ((LM.find? fun y=>decide (s=y.1)).map (·.2))=if s=xY then .tup [.fn (.func 195) [] [],.bool true]else if s=eG then .tup [.fn (.func 210) [] [],.bool true]else if s=gm then .tup [.fn (.func 212) [] [],.bool true]else if s=dZ then .tup [.fn (.func 209) [] [],.bool true]else if s=gq then .tup [.fn (.func 213) [] [],.bool true]else if s=dw then .tup [.fn (.func 211) [] [],.bool true]else .tup [z,.bool false]:=by
 unfold LM wW;simp only[zrd,List.map_nil];by_cases h0:s=xY
 ·rw[if_pos h0,List.find?_cons_of_pos (by simpa using h0)];rfl
 ·rw[if_neg h0,List.find?_cons_of_neg (by simpa using h0)];by_cases h1:s=eG
  ·rw[if_pos h1,List.find?_cons_of_pos (by simpa using h1)];rfl
  ·rw[if_neg h1,List.find?_cons_of_neg (by simpa using h1)];by_cases h2:s=gm
   ·rw[if_pos h2,List.find?_cons_of_pos (by simpa using h2)];rfl
   ·rw[if_neg h2,List.find?_cons_of_neg (by simpa using h2)];by_cases h3:s=dZ
    ·rw[if_pos h3,List.find?_cons_of_pos (by simpa using h3)];rfl
    ·rw[if_neg h3,List.find?_cons_of_neg (by simpa using h3)];by_cases h4:s=gq
     ·rw[if_pos h4,List.find?_cons_of_pos (by simpa using h4)];rfl
     ·rw[if_neg h4,List.find?_cons_of_neg (by simpa using h4)];by_cases h5:s=dw
      ·rw[if_pos h5,List.find?_cons_of_pos (by simpa using h5)];rfl
      ·rw[if_neg h5,List.find?_cons_of_neg (by simpa using h5)];rfl
/-- What the condition gives the walks. -/
theorem laid_mo{W:World}(h:laidMetH Tryz.prog LL W)(hsh:W.ShapedOpen Tryz.prog):∃mo:MO,(∀g v,(@TE mo).gl g=some v->VRel (cw W) (.ip v) (.pointer (some ⟨g,0,none⟩)))/\∀g p,(@TE mo).gx g=some p->∃cs ty fz,W.heap[g]? =some (.cells cs ty fz)/\p cs:=by
 have h1:=(Pn h).1;have h2:=laidMet.tail h1;have h5:=laidMet.tail (laidMet.tail (laidMet.tail h2));have h7:=laidMet.tail (laidMet.tail h5);obtain⟨b,es,clk,ty,fz,t1,t2,t3,t4,t5⟩:=Po h;obtain⟨b',es',clk',ty',fz',i1,i2,i3,i4,i5⟩:=Ud h7;obtain⟨sty,sfz,s1⟩:=Pq h5;obtain⟨dty,dfz,d1⟩:=UQ h2;obtain⟨mty,mfz,m,m1⟩:=UR hsh;have q1:∀x∈es.toList,∃y∈LM,vOf x.key=V.str y.1/\vOf x.val=y.2:=fun x hx=>by obtain⟨s,y,hy,e1,e2,_,e3⟩:=t4 x hx;exact⟨(y.1,.fn (.func y.2) [] []),zrh.2 ⟨y,hy,rfl⟩,by rw[e1,<-e2];rfl,by rw[e3];rfl⟩
 have q2:∀y∈LM,∃x∈es.toList,vOf x.key=V.str y.1:=fun y hy=>by obtain⟨y',hy',rfl⟩:=zrh.1 hy;obtain⟨x,hx,s,e1,e2⟩:=t5 y' hy';exact⟨x,hx,by rw[e1,<-e2];rfl⟩
 have q3:∀x∈es'.toList,∃y∈Uc,vOf x.key=V.int .i64 y.1/\vOf x.val=y.2:=fun x hx=>by obtain⟨y,hy,e1,e3⟩:=i4 x hx;exact⟨(y.1,.agg [.int .i64 y.2.1,.int .i64 y.2.2]),zrh.2 ⟨y,hy,rfl⟩,by rw[e1];rfl,by rw[e3];rfl⟩
 have q4:∀y∈Uc,∃x∈es'.toList,vOf x.key=V.int .i64 y.1:=fun y hy=>by obtain⟨y',hy',rfl⟩:=zrh.1 hy;obtain⟨x,hx,e1⟩:=i5 y' hy';exact⟨x,hx,by rw[e1];rfl⟩
 have g1:=F7 Ry (fun a b e=>by injection e) (T:=LM) (by decide) q1 q2;have g2:=F7 Rz (fun a b e=>by injection e) (T:=Uc) (by decide) q3 q4;refine⟨{ik:=es'.toList.map fun x=>vOf x.key,iv:=es'.toList.map fun x=>vOf x.val,tk:=es.toList.map fun x=>vOf x.key,tv:=es.toList.map fun x=>vOf x.val,ins:=fun n z=> ?_,tell:=fun s z=> ?_},fun g v hg=> ?_,fun g p hg=> ?_⟩
 ·rw[g2];refine congrArg _ ?_;by_cases hn:0<=n/\n<=10
  ·rw[if_pos hn];have:n=0\/n=1\/n=2\/n=3\/n=4\/n=5\/n=6\/n=7\/n=8\/n=9\/n=10:=by omega
   rcases this with rfl|rfl|rfl|rfl|rfl|rfl|rfl|rfl|rfl|rfl|rfl<;>rfl
  ·rw[if_neg hn];have:(Uc.find? fun y=>decide (n=y.1))=none:=by
    rw[List.find?_eq_none];intro y hy e;have e:n=y.1:=by simpa using e
    simp only[Uc,Dq,zrd,List.map_nil,zrj,zrp,or_false]at hy;rcases hy with rfl|rfl|rfl|rfl|rfl|rfl|rfl|rfl|rfl|rfl|rfl<;>exact hn (by omega)
   rw[this];rfl
 ·rw[g1];refine congrArg _ ?_;exact LQ s z
 ·match g,hg with
  |0,hg =>
   obtain rfl:=Option.some.inj hg;exact P8 t1 t2 t3 (fun x hx=>by
    obtain⟨s,y,_,e1,_,e2,_⟩:=t4 x hx;rw[e1];simp only[vOf,VRel];exact⟨s,rfl,rfl,by simpa using e2⟩) (fun x hx=>by
    obtain⟨s,y,_,_,_,_,e3⟩:=t4 x hx;rw[e3];simp only[vOf,VRel,VList];exact⟨#[],#[],rfl,rfl,rfl⟩)
  |1,hg =>
   obtain rfl:=Option.some.inj hg;exact P8 i1 i2 i3 (fun x hx=>by
    obtain⟨y,_,e1,_⟩:=i4 x hx;rw[e1];simp only[vOf,VRel]) (fun x hx=>by
    obtain⟨y,_,_,e3⟩:=i4 x hx;rw[e3];simp only[vOf,VRel];refine⟨_,rfl,?_⟩;simp only[zrd,List.map_nil,VList,VRel];exact⟨_,_,rfl,rfl,_,_,rfl,rfl,rfl⟩)
  |2,hg=>obtain rfl:=Option.some.inj hg;exact Qw s1
  |7,hg=>obtain rfl:=Option.some.inj hg;exact RD (by decide) d1
 ·match g,hg with
  |2,hg=>have hp:(fun cs=>cs=#[Value.int .i64 1,Value.int .i64 1])=p:=Option.some.inj hg;subst hp;exact⟨_,sty,sfz,s1,rfl⟩
  |5,hg=>have hp:(fun cs=>∃m,cs=#[Value.int .i64 m])=p:=Option.some.inj hg;subst hp;exact⟨_,mty,mfz,m1,m,rfl⟩
theorem reach_of'{H:Type}{P:Program}{fn:Func}{more:List TypeId}{ds gs:List (DataW H)}(h:(DataW.weightsEach P (fn.params.toList++more) (ds++gs)).all (·<=reachBytes)=true) :
 ∀(i:Nat) d t,ds[i]? =some d->fn.params.toList[i]? =some t->(reachM H P).L t d:=by
 intro i d t h1 h2 n hn;have h3:=zrs.1 h n (jI _ _ i d t (by rw[zqj (zqe h1).1];exact h1) (by rw[zqj (zqe h2).1];exact h2) hn);simpa using h3
noncomputable def Ue (os : Os) : World := (World.doorLaid Tryz.prog 1200 os).layVars Tryz.prog [("unicode/utf8.first", Rows.laid_unicode_utf8_first)]
theorem door_met(os:Os)(args:Array Value):laidMetH Tryz.prog LL ((Ue os).forCall (fun _ _=>0) ⟨#[],args,[]⟩).memory :=
 laidMetH_of_parts3 (fuel:=8) (laidMet_of_run' 8 (by kernel_rfl) (by kernel_rfl)) (by kernel_rfl) (by kernel_rfl)
section
variable{H:Type}{enc:TypeId×Value->H}
theorem rih_andS{a:Assume}{C:Checked}{os:Os}{f:FuncId}{fn:Func}{s:ChangeSpec}{conds:List PathCond}{apart fresh handsOn again:Bool}{X:World->Array Value->Prop}
 (hX:∀(w w':World)(args:Array Value),w.heap=w'.heap->X w args->X w' args)
 (own:ownKnob C.prog.godebug=none) (started:os.Started) (noInit:C.prog.inits.idxOf? f=none) (hfn:C.prog.funcs[f]? =some fn)
 (witness:∃(w:World)(tape:Tape)(i:Input),w.os=os/\(w.forCall tape i).Shaped C.prog/\i.vars=[]/\Input.okWide C.prog (w.forCall tape i) .any w.heap.size f i /\
  ((s.pre enc C.prog fn conds apart (w.forCall tape i).memory i.args/\X (w.forCall tape i).memory i.args)/\sizedMet enc C.prog fn (OpenSpec.ofChange s) apart (w.forCall tape i).memory i.args)/\a.holds C.prog (lone (Frame.enter C.prog f i.args .normal) [] (w.forCall tape i)))
 (contract:∀(W:World)(base:Nat)(args:Array Value)(ds gs:List (DataW H))(before:List MemPlace),
  (∀(j:Nat) t v,fn.params[j]? =some t->args[j]? =some v->Value.okWide C.prog W .any base t v) ->
  DataW.Whole enc C.prog fn.params.toList s.vars apart W args.toList ds gs before ->
  (DataW.weightsEach C.prog (fn.params.toList++s.plain.varTypes C.prog) (ds++gs)).all (·<=reachBytes)=true->X W args->W.ShapedOpen C.prog ->
  Calls C.prog f args W fun e W'=>∃v,e= .returned v/\s.post enc C.prog fn apart fresh handsOn again W args v W') :
 ReturnsInHanded a C os f .any (fun w args=>(s.pre enc C.prog fn conds apart w args/\X w args)/\sizedMet enc C.prog fn (OpenSpec.ofChange s) apart w args) (s.post enc C.prog fn apart fresh handsOn again):=by
 refine returnsInHanded_of_calls own started noInit witness ?_;intro w tape i _ hsh _ hok hpre hholds;obtain⟨_,_,_,fn',hfn',_,_,_,_,hval⟩:=hok;have e:fn'=fn:=Option.some.inj (hfn'.symm.trans hfn);subst e;obtain⟨⟨⟨ds,gs,before,hw,hc⟩,hx⟩,hz⟩:=hpre;have hw':=DataW.Whole.of_heap (w':=w.forCall tape i) (by rfl) hw;refine(contract (w.forCall tape i) w.heap.size i.args ds gs before hval hw' (hz.weights hw) (hX _ _ _ (by rfl) hx) hsh).mono fun e W' ⟨v,he,hp⟩=> ?_;subst he;exact ChangeSpec.post_blind hp
end
abbrev tH:Sh:= .slice .str
abbrev UT:Sh:= .struct [.str,.int .i64,tH,tH,.bool]
theorem wY{R:Nat}{e:Sh}{α:Type}{F:α->V}(he:∀v,Sh.Sz R e v->∃a,v=F a):∀es:List V,(∀x∈es,Sh.Sz R e x)->∃l:List α,es=l.map F
 |[],_=>⟨[],rfl⟩
 |x::es,h=>by obtain⟨a,rfl⟩:=he x (h x (by simp));obtain⟨l,rfl⟩:=wY he es fun y hy=>h y (by simp[hy]);exact⟨a::l,rfl⟩
theorem P9{R:Nat}{v:V}(h:Sh.Sz R (.int .i64) v):∃n:Int,v=vi n:=by simp only[Sh.Sz]at h;obtain⟨n,rfl,hw⟩:=h;exact⟨n,rfl⟩
theorem Dl{R:Nat}{v:V}(h:Sh.Sz R .str v):∃s:S,v= .str s:=by simp only[Sh.Sz]at h;obtain⟨s,rfl,_⟩:=h;exact⟨s,rfl⟩
theorem RH{R:Nat}{v:V}(h:Sh.Sz R .bool v):∃b:Bool,v= .bool b:=by simpa only[Sh.Sz]using h
theorem EN{R:Nat}{v:V}(h:Sh.Sz R tH v):∃c:List S,v=aW c:=by unfold tH at h;rw[Sh.Sz]at h;obtain⟨es,rfl,hl,h⟩:=h;obtain⟨l,rfl⟩:=wY (F:=V.str) (fun v hv=>Dl hv) es h;exact⟨l,rfl⟩
theorem UU{R:Nat}{v:V}(h:Sh.Sz R UT v):∃g:Ga,v=g.v:=by unfold UT at h;rw[Sh.Sz]at h;obtain⟨vs,rfl,h⟩:=h;simp only[Sh.Szs]at h;obtain⟨u0,us,rfl,h0,u1,us,rfl,h1,u2,us,rfl,h2,u3,us,rfl,h3,u4,us,rfl,h4,rfl⟩:=h;obtain⟨n,rfl⟩:=Dl h0;obtain⟨o,rfl⟩:=P9 h1;obtain⟨i,rfl⟩:=EN h2;obtain⟨r,rfl⟩:=EN h3;obtain⟨b,rfl⟩:=RH h4;exact⟨⟨n,o,i,r,b⟩,rfl⟩
theorem pf_laid:laidOutB Tryz.pinned.checked.prog=true:=by kernel_rfl
theorem pf_maps:mapsRowed Tryz.pinned.checked.prog=true:=by kernel_rfl
theorem pf_stops:(Tryz.pinned.checked.prog.stops==[])=true:=by kernel_rfl
theorem pf_knobs:(Tryz.pinned.checked.prog.stopKnobs==[])=true:=by kernel_rfl
theorem pf_heard:Tryz.pinned.checked.prog.stopsHeard=true:=by kernel_rfl
theorem pf_enter:Tryz.pinned.checked.prog.mayEnter=true:=by kernel_rfl
theorem pf_lifts:(Rows.blifPlainRow.lifted==Tryz.pinned.checked.prog.liftsFinal)=true:=by kernel_rfl
theorem pf_plain:(Rows.blifPlainRow.plainKeys==Tryz.pinned.checked.prog.plainKeys)=true:=by kernel_rfl
theorem pf_main : Tryz.pinned.checked.prog.mainIs = some (true, "4e0d963d9c82b205ceb97253c8819733dc7bbfead33dbde74c9d0ac28f42e1e6".toList) := by kernel_rfl
theorem pf_looks:true=Tryz.pinned.checked.prog.looks []:=by kernel_rfl
theorem RI(s:S):(spV s).length<=83:=by
 unfold spV;split
 ·rename_i h;have hl:s.length<=40:=by
   unfold aT at h;simp only[zqf,zqb]at h;exact h.2.2
  unfold bf;split
  ·unfold aY;have:∀l:S,(l.flatMap JX).length=2*l.length:=by
    intro l
    induction l with
    |nil=>rfl
    |cons a l ih=>rw[List.flatMap_cons,zqa,ih,zrt];simp[JX];omega
   rw[zqa,this];have:mM.length=3:=rfl;omega
  ·omega
 ·simp
theorem F8{α:Type}{f:α->S}{l:List α}{n:Nat}(h:∀a∈l,(f a).length<=n):(l.flatMap f).length<=l.length*n:=by
 induction l with
 |nil=>simp
 |cons a l ih=>rw[List.flatMap_cons,zqa,zrt,Nat.succ_mul];have h1:=h a (by simp);have h2:=ih fun b hb=>h b (by simp[hb]);omega
theorem lJ(w:S)(l:List S):(dD w l).length<=w.length+l.length*84+1:=by
 unfold dD;rw[zqa,zqa];have:=F8 (f:=fun x=>32::spV x) (l:=l) (n:=84) fun a _=>by
  have:=RI a;simp only[zrt];omega
 simp only[zrt,List.length_nil];omega
theorem Il{g:Ga}(h:gU g=true):(jM g).length<=4000:=by
 have hp:=jA h;obtain⟨b1,b2⟩:=pM hp;obtain⟨g1,_,_⟩:=eF hp;have hn:(az g).ins.length<=8:=by have:=g1.h;unfold vO at this;simp only[zqf]at this;exact Le this.2.2
 have h1:=lJ gq ((az g).ins++[(az g).name]);have h0:gq.length=6:=rfl;rw[zqa,zrk,h0]at h1;have h2:=F8 (f:=Ed (aQ (az g)).2) (l:=(aQ (az g)).1) (n:=11) fun a ha=>by have:=b2 a ha;unfold Ed;split<;>simp<;>omega
 unfold jM;rw[zqa];omega
theorem Io{c:Ci}(h:(oK c).1=0)(hf:jy c=true):(gZ c).length<=800000:=by
 have ok:=vV h;unfold jy uh zT Ir at hf;simp only[zqf,zqb]at hf;obtain⟨⟨⟨⟨f1,f2,f3⟩,f4⟩,f5⟩,f6⟩:=hf;have k1:=lJ dZ [LX];have k2:=lJ eG c.ins;have k3:=lJ dw c.outs;have k4:=F8 (f:=fun q:La=>dD gm [q.next,q.name,kK q.init]) (l:=c.lat) (n:=300) fun a _=>by have:=lJ gm [a.next,a.name,kK a.init];have e:gm.length=6:=rfl;simp only[zrt,List.length_nil,e]at this;omega
 have k5:=F8 (f:=jM) (l:=c.gates) (n:=4000) fun g hg=>Il (ok.gates g hg);have k6:=lJ xY [];have e1:dZ.length=6:=rfl;have e2:eG.length=7:=rfl;have e3:dw.length=8:=rfl;have e4:xY.length=4:=rfl;simp only[zrt,List.length_nil,e1,e2,e3,e4]at k1 k2 k3 k6;have f7:c.outs.length<=210:=by first|exact f3.1.1.2.1|exact f3.1.2.1|omega
 unfold gZ;simp only[zqa];omega
end Go.Proofs.YtokppohljajhjaaGreatDoor
