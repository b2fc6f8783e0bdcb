/- Lemmas for this claim, part F10: each holds under what it names. -/
import Derived.Test.YtmlacppmbfbjgaaGreatDoorF09
import Derived.Test.YtmlacppmbfbjgaaGreatDoorA8
import Derived.Test.YtmlacppmbfbjgaaGreatDoorA9
import Derived.Test.YtmlacppmbfbjgaaGreatDoorA10
set_option linter.unusedVariables false
set_option linter.unusedSimpArgs false
set_option linter.unnecessarySimpa false
set_option maxRecDepth 20000
set_option maxHeartbeats 8000000
namespace Go.Proofs.YtmlacppmbfbjgaaGreatDoor
open Go Go.Proofs Go.Abs
section
variable {n:Nat} {bud:Int} {h:H} {l d Lc:List Cl}
theorem UV (b:Int):uz [vi b,vi 0]=(True,vi (max b 0)):=by
 simp only[uz];split
 ·rw[show max b 0=0 by omega]
 ·rw[show max b 0=b by omega]
theorem Pg (l:List Cl) (vars budget:Int) (hcn:∀c∈l,c.length≤1000) (hB:chk l vars=0→∃B,Big vars.toNat l (max budget 0) B):EvR TE 87 [cls l,vi vars,vi budget] (vW l vars budget):=by
 have hM:maxLen=9223372036854775807:=rfl;refine EvR.of_calls ?_;refine wW rfl Tryz.func87 rfl (by simp[nts]) fun ok pl0 w0=> ?_;simp only[nts];refine y5 (Q:=fun _ _ _=>False) ?_ (fun _ _ _ h=>by obtain⟨_,_,_,_,_,_,h⟩:=h;exact h.elim);refine vm ?_;simp only[wq.1,Nat.reduceLT];refine y5 (Q:=xF P [ResultVar.cell 6 155,ResultVar.cell 7 36] fun ae h _=>match ae with | .ret v=>∃r,vW l vars budget r∧az TE h v r | .pan _=>False) ?_ ?_
 ·refine vm ?_;simp only [wq.1,seval];refine ah.ev (OQ l vars) (by simp [V.dats,V.dat,Fh]) ?_;by_cases hz : chk l vars = 0
  ·have eb : (chk l vars != 0) = false := by simp [hz]
   simp only[wq.1,seval,eb];obtain⟨B,big⟩:=hB hz;obtain⟨v1,v2,v3,v4⟩:=tX hz;obtain⟨n,en⟩:∃n:Nat,vars=n:=⟨vars.toNat,by omega⟩;subst en;have hn:n≤20000:=by omega
   rw[Int.toNat_natCast]at big;have hw1:IntKind.i64.wrap ((n:Int)+1)=((n+1:Nat):Int):=by rw[aX (by omega) (by omega)];omega
   refine y5 (Q:=fun _ _ _=>False) ?_ (fun _ _ _ h=>by obtain⟨_,_,_,_,_,_,h⟩:=h;exact h.elim);refine gB ?_;refine aB rfl rfl ?_;simp only[wq.1,seval];refine aB rfl rfl ?_;simp only[wq.1,↓reduceIte,hw1];refine dW rfl rfl ?_;refine kY (t:=190) rfl (q:={kind:= .slice 200,size:=1,bytes:=24,zero:= .nils}) (by simp only[wq.1]) (el:=200) rfl (re:={kind:=K.struct [(0,3),(1,3),(2,150),(3,3),(4,3)],size:=5,bytes:=56,zero:=V.agg [V.int IntKind.i64 0,V.int IntKind.i64 0,V.nils,V.int IntKind.i64 0,V.int IntKind.i64 0]}) (by simp only[wq.1]) rfl rfl (by decide) (by simp only[wq.1,↓reduceIte]) (by simp only[wq.1,↓reduceIte]) (k:= .i64) (k':= .i64) (m:=((n+1:Nat):Int)) (by simp only[wq.1,↓reduceIte]) (by simp only[wq.1,↓reduceIte]) (by omega) (by omega) (by decide) (by rw[Int.toNat_natCast];show(n+1)*5≤_;omega) ?_;rw[Int.toNat_natCast];simp only[wq.1,Nat.reduceAdd];refine aB rfl rfl ?_;simp only[wq.1,Nat.reduceAdd];refine aB rfl rfl ?_;simp only[wq.1,seval];refine aB rfl rfl ?_;simp only[wq.1,↓reduceIte,UV];refine aB rfl rfl ?_;simp only[wq.1,seval];refine aB rfl rfl ?_;simp only[wq.1,seval];refine aB rfl rfl ?_;simp only[wq.1,Nat.reduceAdd];refine aB rfl rfl ?_;simp only[wq.1,seval];refine fP ?_;show UB _ _ _ _ _ _ _ _ _;refine H8 rfl (fn:=Tryz.f87) (q:=121) (caps:=[.lp 5 0,.lp 0 0,.lp 1 0]) (fx:= .tmp 28) rfl rfl (by simp only[wq.1,seval]) rfl rfl rfl rfl (by simp only[wq.1,seval]) (by simp only[wq.1,seval]) (by simp only[wq.1]) rfl fun dd=> ?_;simp only[nts];obtain⟨ee,hee⟩:∃ee:E,ee={TE with tl:=[dd]}:=⟨_,rfl⟩;have hP:ee.P=P:=by rw[hee];rfl
   have hmix:ee.P.follows .mixedOrders=true:=by rw[hP];exact mixed
   have hT:∀ {g:FuncId} {args:List V} {h:H} {R:AEnd→H→(Nat→Bool)→Prop},ah TE g args h R→ah ee g args h R:=fun hc=>by rw[hee];exact hc.tl _
   rw[←hee];refine jC (jC (jC (jC ?_)));refine uU (h':=UU n (max budget 0)) ?_ ?_
   ·exact HLe.set (i:=4) (o':= .cells (ax n (max budget 0) pU (jV n []))) rfl (OLe.cells (Nat.le_refl _) (gK.cons (VLe.refl _) (gK.cons (VLe.refl _) (gK.cons gz (gK.cons (VLe.refl _) (gK.cons gz (gK.cons gz (gK.cons gz (gK.cons (VLe.refl _) (gK.refl _))))))))))
   obtain⟨QP,eQP⟩:∃QP:V→Fr→H→Prop,QP=fun v f' h'=>f'.d=[]∧V.drops f'.k [V.lp 5 0,V.lp 0 0,V.lp 1 0]=[V.lp 5 0,V.lp 0 0,V.lp 1 0]∧o9 TE 121 [V.lp 5 0,V.lp 0 0,V.lp 1 0] v h' fun h'' p=>sZ TE.P Tryz.f87.results.toList (fun v h k=>∃r,vW l (↑n) budget r∧az TE h v r) (f'.drop p) h'':=⟨_,rfl⟩;have dropL:∀ {p:Nat→Bool},DX pU p→V.drops p [.lp 5 0,.lp 0 0,.lp 1 0]=[.lp 5 0,.lp 0 0,.lp 1 0]:=fun {p} hp=>by have z5:p 5=false:=hp.e (rfl:pU.ro 5=some (.e _));have z0:p 0=false:=hp.e (rfl:pU.ro 0=some (.e _));have z1:p 1=false:=hp.e (rfl:pU.ro 1=some (.e _));simp only[V.drops,V.drop,z5,z0,z1,cond_false,if_false,Bool.false_eq_true]
   have hfin:∀ {L':Lay} {S':St} {h':H} {res:Int} {f':Fr},HS n (max budget 0) L' S' h'→LX 0 pU L'→S'.ln.length≤100000000→pJ l n (max budget 0) res (if res=1 then lg n S' else []) S'.ln→f'.d=[]→f'.t 6= .lp 0 0→f'.t 7= .lp 1 0→DX pU f'.k→QP (.iface 197 (.agg [vi res])) f' h':=fun k x hl hok kd k6 k7 kk=>by rw[eQP];exact⟨kd,dropL kk,LP k x hn hl rfl hz hok kd k6 k7⟩
   refine fO (Q:=fun xe f' h'=>∃v,xe= .pan v∧QP v f' h') (fun xe f' h' ⟨v,e,hq⟩=>⟨v,e,by rw[eQP]at hq;exact hq⟩) ?_;have hbox:∀ {L':Lay} {S':St} {h':H},LX 0 pU L'→HS n (max budget 0) L' S' h'→h'[5]? =some (.cells [.lp 4 0]):=fun x k=>(k.ext 5 _ (x.ro 5 _ rfl)).1;refine ag (fO (Q:=fun xe f' h'=>xe= .normal∧∃nx:List (Int×Int),nx.Perm ((List.range n).map fun i=>(((i+1:Nat):Int),0))∧HS n (max budget 0) pU (nxS (jV n []) nx) h' ∧
    f'.t 0=cls l∧f'.t 6= .lp 0 0∧f'.t 7= .lp 1 0∧f'.t 9= .lp 5 0∧f'.d=[]∧DX pU f'.k) ?_ ?_)
   ·rintro xe f1 h1 ⟨rfl,nx,hperm,hs1,g0,g6,g7,g9,gd,gk⟩;show awp _ _ _ _ _ _ _;have i0:Inv n l [] [] (nxS (jV n []) nx):=by
     refine OY n l (fun i h1 h2=>hperm.mem_iff.2 (List.mem_map.2 ⟨i-1,List.mem_range.2 (by omega),by rw[show i-1+1=i by omega]⟩)) fun t ht=> ?_;obtain⟨i,hi,rfl⟩:=List.mem_map.1 (hperm.mem_iff.1 ht);have:=List.mem_range.1 hi;exact⟨by show(1:Int)≤((i+1:Nat):Int);omega,by show((i+1:Nat):Int)≤n;omega⟩
    have hnl:nx.length=n:=by have:=hperm.length_eq;simpa using this
    have hll:l.length≤100000:=by omega
    have hlr:∀c∈l,∀a∈c,a≠0∧a.natAbs≤n:=fun c hc a ha=>by have:=Rw (v4 c hc a ha);omega
    refine ag (fO (Q:=fun xe f' h'=>(xe= .normal∧∃S' L',Inv n l l [] S'∧S'.nc≤l.length∧S'.nx=nx∧S'.ln=[]∧LX 0 pU L'∧HS n (max budget 0) L' S' h' ∧
     f'.t 6= .lp 0 0∧f'.t 7= .lp 1 0∧f'.t 9= .lp 5 0∧f'.d=[]∧DX pU f'.k)∨(∃v,xe= .pan v∧QP v f' h')) ?_ ?_)
    ·rintro xe f2 h2 (⟨rfl,S',L',i1,hnc,hnx,hln,x1,hs2,k6,k7,k9,kd,kk⟩ | ⟨v,rfl,hq⟩)
     ·show awp _ _ _ _ _ _ _;have es : L'.s = 4 := x1.s;have hh : ∀ R,ah TE 124 [V.lp L'.s 0] h2 R → ah TE 124 [V.lp 4 0] h2 R := fun R h => by rw [es] at h;exact h
      have hb2:=hbox x1 hs2;refine o5 hmix _ _ _ _ ?_;simp only[wq.1,seval,hP,k9,hb2];refine hT (hh _ (BN big hs2 hlr ⟨by rw[hln];exact i1,by rw[hln];have:=big.pos;simpa using this,by rw[hln];simpa using hnc,by rw[hnx,hln,hnl];simp⟩ fun S3 L3 h3 p res i3 hb3 he3 x3 hs3 dx3 hl3=> ?_));have kk3:DX pU (fun i=>f2.k i||p i):=kk.or (dx3.back x1.ro);have dxp:DX pU p:=dx3.back x1.ro;have z0:p 0=false:=dxp.e (rfl:pU.ro 0=some (.e _));have z1:p 1=false:=dxp.e (rfl:pU.ro 1=some (.e _));have hB3:=big.few S3 i3 hb3;have hncb:=big.nc;refine⟨fun i hi=> ?_,_,rfl,hfin hs3 (x1.trans x3) (by omega) ⟨hb3,i3.g.rup,i3.g.lrg,i3.g.few1,?_⟩ kd (by simp only[wq.1,seval,k6,z0]) (by simp only[wq.1,seval,k7,z1]) kk3⟩
      ·have hi:i∈f2.d:=hi;rw[kd]at hi;cases hi
      ·rcases he3 with ⟨rfl,hbad⟩ | ⟨rfl,hsat⟩ | ⟨rfl,he⟩
       ·exact .inl ⟨rfl,rfl,hbad⟩
       ·exact .inr (.inl ⟨rfl,by simp[lg],hsat⟩)
       ·exact .inr (.inr ⟨rfl,rfl,he⟩)
     ·exact⟨v,rfl,hq⟩
    ·refine ag (o5 hmix _ _ _ _ ?_);simp only[wq.1,seval,hP,g0];refine aI ?_;refine aA (fun m f2 h2=>∃(i:Nat) (S':St) (L':Lay),m+i=l.length∧Inv n l (l.take i) [] S'∧S'.lv=[]∧S'.hd=0∧S'.nc≤i∧S'.nx=nx∧S'.ln=[]∧LX 0 pU L'∧HS n (max budget 0) L' S' h2 ∧
      f2.t 6= .lp 0 0∧f2.t 7= .lp 1 0∧f2.t 9= .lp 5 0∧f2.t 42=cls l∧f2.t 43=vi l.length∧f2.t 44=vi i∧f2.d=[]∧DX pU f2.k) l.length
      ⟨0,nxS (jV n []) nx,pU,by omega,i0,rfl,rfl,Nat.le_refl _,rfl,rfl,LX.refl _ _,hs1,by simp only[wq.1,seval,g6],by simp only[wq.1,seval,g7],by simp only[wq.1,seval,g9],by simp only[wq.1,seval],by simp only[wq.1,seval];try rfl,by simp only[wq.1,↓reduceIte];try rfl,by simp only[wq.1,gd],gk⟩ ?_
     rintro m f2 h2 ⟨i,S',L',hm,i1,hlv,hhd,hnc,hnx,hln,x1,hs2,k6,k7,k9,k42,k43,k44,kd,kk⟩;have hb2:=hbox x1 hs2;by_cases hi:i<l.length
     ·have eb : decide ((i : Int) < (l.length : Int)) = true := by rw [decide_eq_true_eq];omega
      have hw2:IntKind.i64.wrap ((i:Int)+1)=((i+1:Nat):Int):=by rw[aX (by omega) (by omega)];omega
      obtain⟨c,ec⟩:∃c,c=l[i]:=⟨_,rfl⟩;have hcm:c∈l:=ec▸List.getElem_mem hi;have hg:(l.map fun c=>aG c).getD i .any=aG c:=by rw[ec];simp[List.getD_eq_getElem?_getD,hi]
      have hlm:(l.map fun c=>aG c).length=l.length:=List.length_map ..;have etk:l.take (i+1)=l.take i++[c]:=by rw[List.take_add_one,List.getElem?_eq_getElem hi,ec];rfl
      refine o5 hmix _ _ _ _ ?_;simp only[wq.1,seval,hP,k9,k42,k43,k44,eb,hb2,hg];have es:L'.s=4:=x1.s;have hh:∀R,ah TE 123 [V.lp L'.s 0,aG c] h2 R→ah TE 123 [V.lp 4 0,aG c] h2 R:=fun R h=>by rw[es]at h;exact h
      have i1':Inv n l (l.take i) [] S':=i1;refine⟨⟨by omega,by omega⟩,hT (hh _ (Lu hs2 hn (by omega) i1 hcm (hlr c hcm) (hcn c hcm) hlv hhd (fun S3 L3 h3 p i3 hlv3 hhd3 hnc3 hnx3 hln3 x3 hs3 hl3 hp3=> ?_) (fun h3 p hbad hs3 hl3 hp3=> ?_)))⟩
      ·have dxp:DX L' p:=fun q r hq hpq=>by
        rcases hp3 q hpq with h | ⟨a,h⟩ | h
        ·rw[h]at hq;cases hq
        ·rw[x3.ro _ _ hq]at h;cases h;exact .inr (.inr (.inr (.inr ⟨a,rfl⟩)))
        ·subst h;rw[hs2.rt]at hq;cases hq;exact .inl rfl
       have dx0:=dxp.back x1.ro;have z0:p 0=false:=dx0.e (rfl:pU.ro 0=some (.e _));have z1:p 1=false:=dx0.e (rfl:pU.ro 1=some (.e _));have z5:p 5=false:=dx0.e (rfl:pU.ro 5=some (.e _));simp only[wq.1,seval,aZ,hP,k44,kd,hw2];have i3':Inv n l (l.take (i+1)) [] S3:=by rw[etk];exact i3
       refine .inl ⟨m-1,by omega,i+1,S3,L3,by omega,i3',hlv3,hhd3,by omega,hnx3.trans hnx,hln3.trans hln,x1.trans (x3.mono (Nat.zero_le _)),hs3,by simp only[wq.1,seval,k6,z0],by simp only[wq.1,seval,k7,z1],by simp only[wq.1,seval,k9,z5],by simp only[wq.1,seval,k42],by simp only[wq.1,seval,k43],by simp only[wq.1,↓reduceIte],by simp only[wq.1,kd],kk.or dx0⟩
      ·have dxp : DX L' p := fun q r hq hpq => by rw [hp3 q hpq] at hq;cases hq
       have dx0:=dxp.back x1.ro;have z0:p 0=false:=dx0.e (rfl:pU.ro 0=some (.e _));have z1:p 1=false:=dx0.e (rfl:pU.ro 1=some (.e _));have e0:S'.ln.length=0:=by rw[hln];rfl
       rw[hln]at hbad;refine⟨fun i hi=> ?_,.inr ⟨_,rfl,hfin hs3 x1 (by omega) ⟨by rw[e0];exact big.pos,fun m hm=>by omega,fun c hc=>by(rw[hln]at hc;cases hc),by rw[e0];exact Nat.pow_pos (by decide),.inl ⟨rfl,rfl,by rw[hln];exact hbad⟩⟩ kd (by simp only[wq.1,seval,k6,z0]) (by simp only[wq.1,seval,k7,z1]) (kk.or dx0)⟩⟩;have hi:i∈f2.d:=hi;rw[kd]at hi;cases hi
     ·have eb : decide ((i : Int) < (l.length : Int)) = false := by rw [decide_eq_false_iff_not];omega
      refine o5 hmix _ _ _ _ ?_;simp only[wq.1,seval,hP,k6,k7,k9,k43,k44,kd,eb];have hin:i=l.length:=by omega
      rw[List.take_of_length_le (by omega)]at i1;exact .inl ⟨S',L',i1,by omega,hnx,hln,x1,hs2,kk⟩
   ·refine ag (o5 hmix _ _ _ _ ?_);simp only[wq.1,seval,hP];refine aI ?_;refine aA (fun m f1 h1=>∃(w:Nat) (nx:List (Int×Int)),m+w=n∧nx.Perm ((List.range w).map fun i=>(((i+1:Nat):Int),0))∧HS n (max budget 0) pU (nxS (jV n []) nx) h1 ∧
     f1.t 0=cls l∧f1.t 1=vi n∧f1.t 6= .lp 0 0∧f1.t 7= .lp 1 0∧f1.t 9= .lp 5 0∧f1.t 10=vi ((w+1:Nat):Int)∧f1.d=[]∧DX pU f1.k) n
     ⟨0,[],by omega,List.Perm.refl _,hs0,by simp only[wq.1,seval],by simp only[wq.1,seval],by simp only[wq.1,seval],by simp only[wq.1,seval],by simp only[wq.1,seval],by simp only[wq.1,↓reduceIte];try rfl,by simp only[wq.1];try rfl,DX.none _⟩ ?_
    rintro m f1 h1 ⟨w,nx,hm,hperm,hs1,g0,g1,g6,g7,g9,g10,gd,gk⟩;have hb1:=hbox (LX.refl _ _) hs1;have hnl:nx.length=w:=by have:=hperm.length_eq;simpa using this
    by_cases hw:w<n
    ·have eb : decide (((w + 1 : Nat) : Int) ≤ (n : Int)) = true := by rw [decide_eq_true_eq];omega
     have hw2:IntKind.i64.wrap (((w+1:Nat):Int)+1)=((w+1+1:Nat):Int):=by rw[aX (by omega) (by omega)];omega
     refine o5 hmix _ _ _ _ ?_;simp only[wq.1,seval,hP,g1,g9,g10,eb,hb1];refine⟨by decide,by decide,hT (rJ hs1 (by show nx.length≤_;omega) ((w+1:Nat):Int) 0 fun nx2 h2 p q1 q2 q3 q4=> ?_)⟩;have pz:∀k,k≠8→p k=false:=fun k hk=>by
      cases e:p k with
      | false=>rfl
      | true=>exact absurd (q4 k e) hk
     have z0:=pz 0 (by decide);have z1:=pz 1 (by decide);have z5:=pz 5 (by decide);simp only[wq.1,seval,aZ,hP,g10,gd,hw2];refine .inl ⟨m-1,by omega,w+1,nx2,by omega,?_,q2,by simp only[wq.1,seval,g0],by simp only[wq.1,seval,g1],by simp only[wq.1,seval,g6,z0],by simp only[wq.1,seval,g7,z1],by simp only[wq.1,seval,g9,z5],by simp only[wq.1,↓reduceIte],by simp only[wq.1,gd],gk.or fun q r hq hpq=> ?_⟩
     ·rw[List.range_succ,List.map_append];exact q1.trans (hperm.append_right _)
     ·have:=q4 q hpq;subst this;cases hq;exact .inr (.inr (.inl rfl))
    ·have eb : decide (((w + 1 : Nat) : Int) ≤ (n : Int)) = false := by rw [decide_eq_false_iff_not];omega
     refine o5 hmix _ _ _ _ ?_;simp only[wq.1,seval,hP,g0,g1,g6,g7,g9,g10,gd,eb];have hwn:w=n:=by omega
     subst hwn;exact⟨nx,hperm,hs1,gk⟩
  ·have eb : (chk l vars != 0) = true := by simp [hz]
   simp only[wq.1,seval,eb];refine⟨_,.inl ⟨hz,rfl⟩,?_⟩;exact az.tup (aj.cons (az.agg (aj.cons (az.dat rfl) (aj.cons az.nils (aj.cons (az.dat rfl) (aj.cons az.nils aj.nil))))) (aj.cons (az.dat rfl) aj.nil))
 ·have h9:=fun R=>KD (e:=TE) rfl (fn:=Tryz.f87) (R:=R) (ok:=ok) (pl:=pl0) (w:=w0);simp only[Tryz.results87,nts]at h9;exact h9 _
end
abbrev S:=List UInt8
abbrev dF (l:List S):V:= .is false 1 (l.map V.str)
theorem qI {l:List S} {r:List V} (hb:V.bnds (dF l::r)):l.length≤maxLen:=by simp only[V.bnds,V.bnd,List.length_map]at hb;exact hb.1.1
theorem Ji {l:List S} {i:Nat} (h:i<l.length) (d:V):(List.map V.str l).getD i d= .str l[i]:=gy h _
def VY (n:Nat) (l:List S):Bool:=decide (l.length≤n)&&l.all fun s=>decide (s.length≤60)
def iR (c:UInt8):Bool:=decide (33≤c.toNat)&&decide (c.toNat≤126)
def bi (s:S):Bool:=s.all iR&&(decide (1≤s.length)&&decide (s.length≤40))
def Ac (l:List S):Bool:=decide l.Nodup
theorem Iz {l:List S} {i:Nat} (h:i<l.length) (hn:(l.take i).Nodup) (hc:¬l[i]∈l.take i):(l.take (i+1)).Nodup:=by rw[List.take_add_one];simp only[h,List.getElem?_eq_getElem,Option.toList_some];rw[List.nodup_append];refine⟨hn,by simp,?_⟩;intro a ha b hb hab;simp only[List.mem_singleton]at hb;subst hb;subst hab;exact hc ha
def UW (n:Int):Bool:=decide (n≤32)||decide (126<n)
theorem UX (n:Int):Ev TE 103 [.int .i32 n] (.bool (UW n)):=by refine ak Tryz.func103 rfl (by simp[nts]) (vm ?_);simp only[wq.1,seval,Tryz.results103];exact aQ rfl rfl
theorem LQ {s:S} {i:Nat} (h:i<s.length) (hb:s[i].toNat<128):ET s i=(s[i].toNat,1):=by
 unfold ET Utf8.decode;have:((ByteArray.mk s.toArray).get! (i+0)).toNat=s[i].toNat:=by
  simp[ByteArray.get!,h]
 simp only[this];rw[if_pos hb]
theorem Ph {s:S} {i:Nat} (h:i<s.length) (hb:¬s[i].toNat<128):128≤(ET s i).1:=by
 unfold ET Utf8.decode;have:((ByteArray.mk s.toArray).get! (i+0)).toNat=s[i].toNat:=by
  simp[ByteArray.get!,h]
 simp only[this];rw[if_neg hb]
 repeat' split
 all_goals first
  | (simp[Utf8.runeError];done)
  | (rename_i hc;simp only[Bool.and_eq_true,decide_eq_true_eq,ge_iff_le]at hc;dsimp only;omega)
  | (rename_i hc;simp only[ge_iff_le]at hc;dsimp only;omega)
theorem Pi {s:S} {i:Nat} (h:i<s.length):UW (ET s i).1= !iR s[i]:=by
 by_cases hb:s[i].toNat<128
 ·rw[LQ h hb];refine Bool.eq_iff_iff.2 ?_;simp only[UW,iR,Bool.or_eq_true,decide_eq_true_eq,Bool.not_eq_true',Bool.and_eq_false_iff,decide_eq_false_iff_not];omega
 ·have := Ph h hb;have h1 : UW (ET s i).1 = true := by simp only [UW,Bool.or_eq_true,decide_eq_true_eq];omega
  have h2:iR s[i]=false:=by simp only[iR,Bool.and_eq_false_iff,decide_eq_false_iff_not];omega
  rw[h1,h2];rfl
def IA (s:S):Option Nat:=s.findIdx? fun c=> !iR c
def QF (s:S):Int:=match IA s with | some i=>i | none=>-1
theorem LU {s:S} {i:Nat} (h:i<s.length) (hn:∀x∈s.take i,iR x=true) (hb:iR s[i]=false):QF s=i:=by
 have:IA s=some i:=by
  unfold IA;rw[List.findIdx?_eq_some_iff_getElem];refine⟨h,by simp[hb],fun j hj=> ?_⟩;have:s[j]∈s.take i:=by
   rw[List.mem_take_iff_getElem];exact⟨j,by omega,rfl⟩
  simp[hn _ this]
 simp[QF,this]
theorem BQ {s:S} (hn:∀x∈s,iR x=true):QF s=-1:=by
 have:IA s=none:=by unfold IA;rw[List.findIdx?_eq_none_iff];simpa using hn
 simp[QF,this]
theorem UY (s:S):Ev TE 133 [.str s,.fn (.func 103) [] [],.bool true] (.int .i64 (QF s)):=by
 refine Ev.bnd fun hb=> ?_;have hlen:s.length≤maxLen:=hb.1;refine ak Tryz.func133 rfl (by simp[nts]) (vm ?_);simp only[wq.1,seval,Tryz.results133];refine aA (fun m f h=>∃i,m+i=s.length∧f.t 1= .fn (.func 103) [] []∧f.t 2= .bool true∧f.t 10= .lp 0 0∧f.d=[]∧h=[.misc (.siter s i)]∧∀x∈s.take i,iR x=true) s.length ⟨0,by simp,rfl,rfl,rfl,rfl,rfl,by simp⟩ ?_;rintro m f h ⟨i,hm,h1,h2,h10,hd,rfl,hall⟩;refine vm ?_;simp only[wq.1,seval,h10];refine nP.mk (fun hc=> ?_) (fun hc=> ?_)
 ·simp only [decide_eq_true_eq] at hc;simp only [wq.1,seval,h1,nP];refine ah.ev (UX _) rfl ?_;rw [Pi hc];simp only [wq.1,seval,h2];refine vcB.mk (fun hc' => ?_) (fun hc' => ?_)
  ·have hb : iR s[i] = false := by simpa using hc'
   simp only[wq.1,seval,hd];rw[LU hc hall hb];exact az.dat rfl
  ·have hb : iR s[i] = true := by simpa using hc'
   have h128:s[i].toNat<128:=by simp only[iR,Bool.and_eq_true,decide_eq_true_eq]at hb;omega
   simp only[wq.1,Int.reduceNeg];exact .inl ⟨m-1,by omega,i+1,by omega,h1,h2,h10,hd,by rw[LQ hc h128],bM hc hall hb⟩
 ·simp only[decide_eq_false_iff_not]at hc;simp only[wq.1,seval,hd,nP];rw[List.take_of_length_le (by omega)]at hall;rw[BQ hall];exact az.dat rfl
theorem UZ (s:S):Ev TE 104 [.str s,.fn (.func 103) [] []] (.int .i64 (QF s)):=by refine ak Tryz.func104 rfl (by simp[nts]) (vm ?_);simp only[wq.1,seval,Tryz.results104];refine ah.ev (UY s) rfl ?_;simp only[wq.1,seval];exact az.dat rfl
theorem Pj (s:S):decide (QF s<0)=s.all iR:=by
 cases h:s.all iR with
 | true=>rw[BQ (by simpa using h)];rfl
 | false =>
  have:∃x∈s,iR x=false:=by simpa using h
  cases hb:IA s with
  | none=>obtain⟨x,hx,hx2⟩:=this;have:=(List.findIdx?_eq_none_iff.1 hb) x hx;simp[hx2]at this
  | some i=>simp[QF,hb]
theorem Pm (s:S):Ev TE 69 [.str s] (.bool (bi s)):=by
 refine ak Tryz.func69 rfl (by simp[nts]) (vm ?_);simp only[wq.1,seval,Tryz.results69];refine Dp.ev (q:=104) (vs:=[.str s,.fn (.func 103) [] []]) (by simp only[wq.1,seval]) (by simp only[wq.1,seval]) rfl (fun _=>UZ s) (fun _=>rfl) ?_;simp only[wq.1,seval];refine aQ rfl ?_;rw[Pj];unfold bi
 congr 1
 have h1:(!s==[])=decide (1≤s.length):=by cases s<;>simp
 have h2:decide ((s.length:Int)≤40)=decide (s.length≤40):=decide_eq_decide.2 (by omega);rw[h1,h2,Bool.and_comm]
theorem uh (s:S):Ev TE 37 [.str s] (.bool (bi s)):=by refine ak Tryz.func37 rfl (by simp[nts]) (vm ?_);simp only[wq.1,seval,Tryz.results37];refine ah.ev (Pm s) rfl ?_;simp only[wq.1,seval];exact az.dat rfl
theorem Sv (s:S):Ev TE 54 [.str s] (.bool (!bi s)):=by refine ak Tryz.func54 rfl (by simp[nts]) (vm ?_);simp only[wq.1,seval,Tryz.results54];refine ah.ev (uh s) rfl ?_;simp only[wq.1,seval];exact az.dat rfl
def Ep (l:List S):Int:=match l.findIdx? fun s=> !bi s with | some i=>i | none=>-1
theorem IB {l:List S} {i:Nat} (h:i<l.length) (hn:∀x∈l.take i,bi x=true) (hb:bi l[i]=false):Ep l=i:=by
 have:l.findIdx? (fun s=> !bi s)=some i:=by
  rw[List.findIdx?_eq_some_iff_getElem];refine⟨h,by simp[hb],fun j hj=> ?_⟩;have:l[j]∈l.take i:=by
   rw[List.mem_take_iff_getElem];exact⟨j,by omega,rfl⟩
  simp[hn _ this]
 simp[Ep,this]
theorem xR {l:List S} (hn:∀x∈l,bi x=true):Ep l=-1:=by
 have:l.findIdx? (fun s=> !bi s)=none:=by rw[List.findIdx?_eq_none_iff];simpa using hn
 simp[Ep,this]
theorem LV (l:List S):decide (0≤Ep l)= !(l.all bi):=by
 cases h:l.all bi with
 | true=>rw[xR (by simpa using h)];rfl
 | false =>
  have:∃x∈l,bi x=false:=by simpa using h
  unfold Ep;cases hb:l.findIdx? (fun s=> !bi s)with
  | none=>obtain⟨x,hx,hx2⟩:=this;have:=(List.findIdx?_eq_none_iff.1 hb) x hx;simp[hx2]at this
  | some i=>simp
theorem SA (l:List S):Ev TE 91 [dF l,.fn (.func 54) [] []] (.int .i64 (Ep l)):=by
 refine Ev.bnd fun hb=> ?_;have hlen:=qI hb;refine ak Tryz.func91 rfl (by simp[nts]) (vm ?_);simp only[wq.1,seval,Tryz.results91];refine aA (fun m f h=>∃i,m+i=l.length∧f.t 0=dF l∧f.t 1= .fn (.func 54) [] []∧f.t 7= .int .i64 (l.length:Int)∧f.t 8= .int .i64 (i:Int)∧f.d=[]∧∀x∈l.take i,bi x=true) l.length ⟨0,by simp,rfl,rfl,rfl,rfl,rfl,by simp⟩ ?_;rintro m f h ⟨i,hm,h0,h1,h7,h8,hd,hall⟩;refine vm ?_;simp only[wq.1,seval,h7,h8];refine vcB.mk (fun hc=> ?_) (fun hc=> ?_)
 ·simp only [decide_eq_true_eq,Int.ofNat_lt] at hc;simp only [wq.1,seval,h0,h1,h8,Ji hc];refine ⟨⟨by omega,by omega⟩,ah.ev (Sv _) rfl ?_⟩;simp only [wq.1,seval];refine vcB.mk (fun hc' => ?_) (fun hc' => ?_)
  ·have hb : bi l[i] = false := by simpa using hc'
   simp only[wq.1,seval,hd];rw[IB hc hall hb];exact az.dat rfl
  ·have hb : bi l[i] = true := by simpa using hc'
   simp only[wq.1,seval,h8,aC (show i<maxLen by omega)];exact .inl ⟨m-1,by omega,i+1,by omega,h0,h1,h7,rfl,hd,bM hc hall hb⟩
 ·simp only[decide_eq_false_iff_not,Int.ofNat_lt]at hc;simp only[wq.1,seval,hd];rw[List.take_of_length_le (by omega)]at hall;rw[xR hall];exact az.dat rfl
theorem FV (l:List S):Ev TE 55 [dF l,.fn (.func 54) [] []] (.bool (!(l.all bi))):=by refine ak Tryz.func55 rfl (by simp[nts]) (vm ?_);simp only[wq.1,seval,Tryz.results55];refine ah.ev (SA l) rfl ?_;simp only[wq.1,seval];exact aQ rfl (by rw[LV])
theorem IC {e:E} {h:H} {id len cap:Nat} {l:List Bool} (hc:h[id]? =some (.cells (l.map V.bool))) (hl:len=l.length):az e h (.ls id 1 0 len cap) (fV l) :=
 az.ls hc (aj.dat (KQ l)) (Rz l) (KR l) (by simpa using hl)
theorem qJ {e:E} {h:H} {id len cap:Nat} {l:Cl} (hc:h[id]? =some (.cells (l.map vi))) (hl:len=l.length):az e h (.ls id 1 0 len cap) (aG l) :=
 az.ls hc (aj.dat (vC l)) (KO l) (Ea l) (by simpa using hl)
abbrev Pq:=Int×Int
abbrev prV (p:Pq):V:= .agg [vi p.1,vi p.2]
abbrev prs (l:List Pq):V:= .is false 2 (l.map prV)
structure Gr where
 ins:Int
 next:Cl
 init:Cl
 ands:List Pq
 outs:Cl
abbrev Gr.v (g:Gr):V:= .agg [vi g.ins,aG g.next,aG g.init,prs g.ands,aG g.outs]
def Gr.first (g:Gr):Int:=1+g.ins+g.next.length
theorem U0 (c:Cl) (q:FuncId) (caps:List V) (p:Int→Bool) (he:ai P q=true) (hd:V.dats caps=true) (hq:∀x∈c,Ev TE q (vi x::caps) (.bool (p x))):Ev TE 157 [aG c,.fn (.func q) [] caps] (vi (idx c p)):=by
 refine Ev.bnd fun hb=> ?_;have hlen:=Ff hb;refine ak Tryz.func157 rfl (by simp[nts]) (vm ?_);simp only[wq.1,seval,Tryz.results157];refine aA (fun m f h=>∃i,m+i=c.length∧f.t 0=aG c∧f.t 1= .fn (.func q) [] caps∧f.t 7= .int .i64 (c.length:Int)∧f.t 8= .int .i64 (i:Int)∧f.d=[]∧∀x∈c.take i,p x=false) c.length ⟨0,by simp,rfl,rfl,rfl,rfl,rfl,by simp⟩ ?_;rintro m f h ⟨i,hm,h0,h1,h7,h8,hdd,hall⟩;refine vm ?_;simp only[wq.1,seval,h7,h8];refine vcB.mk (fun hc=> ?_) (fun hc=> ?_)
 ·simp only [decide_eq_true_eq,Int.ofNat_lt] at hc;simp only [wq.1,seval,h0,h1,h8,KJ hc,he];refine ⟨⟨by omega,by omega⟩,ah.ev (hq _ (List.getElem_mem _)) (by simp [V.dats,V.dat,hd]) ?_⟩;simp only [wq.1,seval];refine vcB.mk (fun hc' => ?_) (fun hc' => ?_)
  ·simp only[wq.1,seval,hdd];rw[kJ hc hall hc'];exact az.dat rfl
  ·simp only[wq.1,seval,h8,aC (show i<maxLen by omega)];exact .inl ⟨m-1,by omega,i+1,by omega,h0,h1,h7,rfl,hdd,bM hc hall hc'⟩
 ·simp only[decide_eq_false_iff_not,Int.ofNat_lt]at hc;simp only[wq.1,seval,hdd];rw[List.take_of_length_le (by omega)]at hall;rw[jE hall];exact az.dat rfl
theorem FW (g:Gr) (h0:-1000000000≤g.ins) (h1:g.ins≤1000000000) (h2:g.next.length≤1000000000):Ev TE 125 [g.v] (vi g.first):=by
 unfold Gr.v Gr.first
 refine ak Tryz.func125 rfl (by simp[nts]) (vm ?_);simp only[wq.1,seval,Tryz.results125];rw[dE (n:=1+g.ins) (by omega) (by omega),dE (by omega) (by omega)];exact az.dat rfl
theorem FX (c:Cl) (q:FuncId) (caps:List V) (p:Int→Bool) (he:ai P q=true) (hd:V.dats caps=true) (hq:∀x∈c,Ev TE q (vi x::caps) (.bool (p x))):Ev TE 128 [aG c,.fn (.func q) [] caps] (.bool (c.any p)):=by refine ak Tryz.func128 rfl (by simp[nts]) (vm ?_);simp only[wq.1,seval,Tryz.results128];refine ah.ev (U0 c q caps p he hd hq) (by simp[V.dats,V.dat,hd]) ?_;simp only[wq.1,seval];exact aQ rfl (by rw[pq])
def QG (all a:Int):Bool:=decide (a<0)||decide (all≤a)
theorem LW (all a:Int):Ev TE 126 [vi a,.ip (vi all)] (.bool (QG all a)):=by refine ak Tryz.func126 rfl (by simp[nts]) (vm ?_);simp only[wq.1,seval,Tryz.results126];exact aQ rfl rfl
def FY (a:Int):Bool:=decide (a<0)||decide (2<a)
theorem SB (a:Int):Ev TE 127 [vi a] (.bool (FY a)):=by refine ak Tryz.func127 rfl (by simp[nts]) (vm ?_);simp only[wq.1,seval,Tryz.results127];exact aQ rfl rfl
def Gr.all (g:Gr):Int:=2*(g.first+g.ands.length)
def Wl (own:Int) (p:Pq):Bool:=decide (p.1<0)||decide (p.2<0)||decide (own≤p.1)||decide (own≤p.2)
def Gr.lim (g:Gr):Bool:=decide (g.ins<0)||decide (4000<g.ins)||decide (4000<g.ins+g.next.length+g.ands.length)||decide (4000<(g.outs.length:Int))
def Gr.oddR (g:Gr):Bool:=(g.init.length != g.next.length)||g.init.any FY||g.next.any (QG g.all)||g.outs.any (QG g.all)
def Gr.oddAs (g:Gr) (n:Nat):Bool:=(List.range n).any fun i=>Wl (2*(g.first+i)) (g.ands.getD i (0,0))
def Gr.chk (g:Gr):Int:=if g.lim then 8 else if g.oddR then 1 else if g.oddAs g.ands.length then 1 else 0
structure Gr.Sm (g : Gr) : Prop where
 next:g.next.length≤200000000000000
 ands:g.ands.length≤200000000000000
def U1:Plan:= .take 2<| .alt 0 (.alt 1 (.alt 3 (.alt 4 (.alt 5 (.alt 6 (.one 7<| .one 8<| .fin) (.one 7 (.one 6<| .one 8<| .fin))) (.one 7 (.one 5<| .one 6<| .one 8<| .fin))) (.one 7 (.one 4<| .one 5<| .one 6<| .one 8<| .fin))) (.one 7 (.one 3<| .one 4<| .one 5<| .one 6<| .one 8<| .fin))) (.alt 3 (.alt 1 (.alt 4 (.alt 5 (.alt 6 (.one 7<| .one 8<| .fin) (.one 7 (.one 6<| .one 8<| .fin))) (.one 7 (.one 5<| .one 6<| .one 8<| .fin))) (.one 7 (.one 4<| .one 5<| .one 6<| .one 8<| .fin))) (.alt 4 (.alt 1 (.alt 5 (.alt 6 (.one 7<| .one 8<| .fin) (.one 7 (.one 6<| .one 8<| .fin))) (.one 7 (.one 5<| .one 6<| .one 8<| .fin))) (.one 7 (.one 1<| .one 5<| .one 6<| .one 8<| .fin))) (.one 7 (.alt 1 (.one 4<| .one 5<| .one 6<| .one 8<| .fin) (.one 4 (.one 1<| .one 5<| .one 6<| .one 8<| .fin)))))) (.one 7 (.alt 1 (.one 3<| .one 4<| .one 5<| .one 6<| .one 8<| .fin) (.one 3 (.alt 1 (.one 4<| .one 5<| .one 6<| .one 8<| .fin) (.one 4 (.one 1<| .one 5<| .one 6<| .one 8<| .fin)))))))) (.alt 3 (.alt 0 (.alt 1 (.alt 4 (.alt 5 (.alt 6 (.one 7<| .one 8<| .fin) (.one 7 (.one 6<| .one 8<| .fin))) (.one 7 (.one 5<| .one 6<| .one 8<| .fin))) (.one 7 (.one 4<| .one 5<| .one 6<| .one 8<| .fin))) (.alt 4 (.alt 1 (.alt 5 (.alt 6 (.one 7<| .one 8<| .fin) (.one 7 (.one 6<| .one 8<| .fin))) (.one 7 (.one 5<| .one 6<| .one 8<| .fin))) (.one 7 (.one 1<| .one 5<| .one 6<| .one 8<| .fin))) (.one 7 (.alt 1 (.one 4<| .one 5<| .one 6<| .one 8<| .fin) (.one 4 (.one 1<| .one 5<| .one 6<| .one 8<| .fin)))))) (.alt 4 (.alt 0 (.alt 1 (.alt 5 (.alt 6 (.one 7<| .one 8<| .fin) (.one 7 (.one 6<| .one 8<| .fin))) (.one 7 (.one 5<| .one 6<| .one 8<| .fin))) (.one 7 (.one 1<| .one 5<| .one 6<| .one 8<| .fin))) (.one 7 (.one 0<| .one 1<| .one 5<| .one 6<| .one 8<| .fin))) (.one 7 (.alt 0 (.alt 1 (.one 4<| .one 5<| .one 6<| .one 8<| .fin) (.one 4 (.one 1<| .one 5<| .one 6<| .one 8<| .fin))) (.one 4 (.one 0<| .one 1<| .one 5<| .one 6<| .one 8<| .fin)))))) (.one 7 (.alt 0 (.alt 1 (.one 3<| .one 4<| .one 5<| .one 6<| .one 8<| .fin) (.one 3 (.alt 1 (.one 4<| .one 5<| .one 6<| .one 8<| .fin) (.one 4 (.one 1<| .one 5<| .one 6<| .one 8<| .fin))))) (.one 3 (.alt 0 (.alt 1 (.one 4<| .one 5<| .one 6<| .one 8<| .fin) (.one 4 (.one 1<| .one 5<| .one 6<| .one 8<| .fin))) (.one 4 (.one 0<| .one 1<| .one 5<| .one 6<| .one 8<| .fin)))))))
theorem xU (g:Gr) (hs:g.Sm):Ev TE 89 [g.v] (vi g.chk):=by
 obtain⟨hs1,hs2⟩:=hs;unfold Gr.v;refine ak Tryz.func89 rfl (by simp[nts]) (vm ?_);simp only[wq.1,seval,Tryz.results89];have hins:g.lim=false→0≤g.ins∧g.ins≤4000∧g.ins+g.next.length+g.ands.length≤4000∧(g.outs.length:Int)≤4000:=by intro h;simp only[Gr.lim,Bool.or_eq_false_iff,decide_eq_false_iff_not]at h;omega
 have hl:(decide (g.ins<0)||decide (4000<g.ins)||decide (4000<IntKind.i64.wrap (IntKind.i64.wrap (g.ins+(g.next.length:Int))+(g.ands.length:Int)))||decide (4000<(g.outs.length:Int)))=g.lim:=by
  unfold Gr.lim;by_cases a1:g.ins<0
  ·simp[a1]
  by_cases a2:4000<g.ins
  ·simp[a2]
  rw[dE (n:=g.ins+(g.next.length:Int)) (by omega) (by omega),dE (by omega) (by omega)]
 rw[hl];refine vcB.mk (fun hc=> ?_) (fun hc=> ?_)
 ·simp only[wq.1,seval];exact aQ rfl (by unfold Gr.chk;rw[if_pos hc])
 ·obtain ⟨i0,i1,i2,i3⟩ := hins hc;simp only [wq.1];refine bY mixed U1 (fun f' h' => f'.t 1 = .lp 0 0 ∧ f'.t 3 = .lp 1 0 ∧ f'.d = [] ∧ h' = [.cells [vi g.ins,aG g.next,aG g.init,prs g.ands,aG g.outs],.cells [vi g.all]]) (by decide +kernel) (by decide +kernel) ?_ ?_
  ·simp only [wq.1,seval,U1];have wf : g.first = 1 + g.ins + g.next.length := rfl
   have w1:IntKind.i64.wrap (g.first+(g.ands.length:Int))=g.first+g.ands.length:=dE (by omega) (by omega)
   have w2:IntKind.i64.wrap (2*(g.first+(g.ands.length:Int)))=g.all:=dE (by omega) (by omega);have hfi:=FW g (by omega) (by omega) (by omega);unfold Gr.v at hfi;have dg:V.dats [.agg [vi g.ins,aG g.next,aG g.init,prs g.ands,aG g.outs]]=true:=by simp only[V.dats,V.dat,Bool.and_self]
   repeat' apply And.intro
   all_goals (refine ah.ev hfi dg ?_)
   all_goals (simp only[wq.1,seval,w1,w2])
   all_goals (first | exact⟨rfl,rfl,rfl,rfl⟩ | trace_state)
  ·rintro f h ⟨h1,h3,hd,rfl⟩;have hlim : g.lim = false := hc;have fin1 : g.oddR = true → az TE [.cells [vi g.ins,aG g.next,aG g.init,prs g.ands,aG g.outs],.cells [vi g.all]] (vi 1) (vi g.chk) := fun h => aQ rfl (by unfold Gr.chk;rw [hlim,h];rfl);by_cases e : g.init.length = g.next.length
   ·have e1 : ((g.init.length : Int) != (g.next.length : Int)) = false := by simp [e]
    simp only[wq.1,seval,h1,h3,e1];refine ah.ev (FX g.init 127 [] FY rfl rfl fun x _=>SB x) rfl ?_;cases hA:g.init.any FY with
    | true=>simp only[wq.1,seval,h1];refine⟨.bool true,?_⟩;simp only[wq.1,seval];refine⟨.bool true,?_⟩;simp only[wq.1,seval,hd];exact fin1 (by simp[Gr.oddR,hA])
    | false =>
     simp only[wq.1,seval,h1];have rf:aj TE [.cells [vi g.ins,aG g.next,aG g.init,prs g.ands,aG g.outs],.cells [vi g.all]] [.fn (.func 126) [] [.lp 1 0]] [.fn (.func 126) [] [.ip (vi g.all)]] :=
      aj.cons (az.fn aj.nil (aj.cons (az.lp rfl (aj.dat rfl) rfl rfl (by simp[V.vc]) rfl) aj.nil)) aj.nil
     refine ah.lend (FX g.next 126 [.ip (vi g.all)] (QG g.all) rfl rfl fun x _=>LW g.all x) (aj.cons (az.dat rfl) rf) rfl ?_;cases hB:g.next.any (QG g.all)with
     | true=>simp only[wq.1,seval,h1];refine⟨.bool true,?_⟩;simp only[wq.1,seval,hd];exact fin1 (by simp[Gr.oddR,hB])
     | false =>
      simp only[wq.1,seval,h1];refine ah.lend (FX g.outs 126 [.ip (vi g.all)] (QG g.all) rfl rfl fun x _=>LW g.all x) (aj.cons (az.dat rfl) rf) rfl ?_;cases hC:g.outs.any (QG g.all)with
      | true=>simp only[wq.1,seval,hd];exact fin1 (by simp[Gr.oddR,hC])
      | false =>
       simp only[wq.1,seval,h1];refine aA (fun m f h=>∃i G,m+i=g.ands.length∧f.t 1= .lp 0 0∧f.t 70=prs g.ands∧f.t 71=vi g.ands.length∧f.t 72=vi i∧f.d=[]∧h=[.cells [vi g.ins,aG g.next,aG g.init,prs g.ands,aG g.outs],.cells [vi g.all]]++G∧g.oddAs i=false) g.ands.length ⟨0,[],by simp,by simp only[wq.1,seval,h1],by simp only[wq.1,seval],by simp only[wq.1,seval],rfl,by simp only[wq.1,hd],by simp,rfl⟩ ?_;rintro m f h ⟨i,G,hm,h1,h70,h71,h72,hd,rfl,hno⟩;refine vm ?_;simp only[wq.1,seval,h71,h72];refine vcB.mk (fun hlt=> ?_) (fun hlt=> ?_)
       ·simp only [decide_eq_true_eq,Int.ofNat_lt] at hlt;have hg : (g.ands.map prV).getD i .any = prV g.ands[i] := gy hlt _;have hM : maxLen = 9223372036854775807 := rfl;have hgE : ∀ x : O,(G ++ [x])[G.length]? = some x := fun x => by simp
        have hgS:∀x y:O,(G++[x]).set G.length y=G++[y]:=fun x y=>by simp
        have dg:V.dats [.agg [vi g.ins,aG g.next,aG g.init,prs g.ands,aG g.outs]]=true:=by simp only[V.dats,V.dat,Bool.and_self]
        have wf:g.first=1+g.ins+g.next.length:=rfl
        have w1:IntKind.i64.wrap (g.first+(i:Int))=g.first+i:=dE (by omega) (by omega)
        have w2:IntKind.i64.wrap (2*(g.first+(i:Int)))=2*(g.first+i):=dE (by omega) (by omega);have hfi:=FW g (by omega) (by omega) (by omega);unfold Gr.v at hfi;simp only[wq.1,seval,-Int.reduceNatCast,-Int.reduceNatCast',ay,Tryz.results89,h1,h70,h71,h72,hd,hg,Int.toNat_natCast,hgE,hgS,List.drop_nil];refine⟨⟨by omega,by omega⟩,ah.ev hfi dg ?_⟩;simp only[wq.1,seval,-Int.reduceNatCast,-Int.reduceNatCast',ay,Tryz.results89,aZ,h1,h70,h71,h72,hd,w1,w2,hgE,hgS,aC (show i<maxLen by omega)];refine⟨by decide,fun _=>by decide,fun _=>by decide,fun _=>by decide,vcB.mk (fun hb=> ?_) (fun hb=> ?_)⟩
        ·simp only[wq.1,↓reduceIte,Nat.reduceLT,hd];refine aQ rfl ?_;unfold Gr.chk;rw[hlim,if_neg (by simp),if_neg (by simp[Gr.oddR,e,hA,hB,hC]),if_pos];simp only[Gr.oddAs,List.any_eq_true,List.mem_range];refine⟨i,hlt,?_⟩;rw[jl hlt];exact hb
        ·simp only[wq.1,seval,h72,aC (show i<maxLen by omega)];refine .inl ⟨m-1,by omega,i+1,G++[.cells [vi g.ands[i].1,vi g.ands[i].2]],by omega,h1,h70,h71,rfl,hd,rfl,?_⟩;simp only[Gr.oddAs,List.range_succ,List.any_append,List.any_cons,List.any_nil,Bool.or_false,Bool.or_eq_false_iff];refine⟨hno,?_⟩;rw[jl hlt];exact hb
       ·simp only [decide_eq_false_iff_not,Int.ofNat_lt] at hlt;simp only [wq.1,seval,hd];have hi : i = g.ands.length := by omega
        refine aQ rfl ?_;unfold Gr.chk;rw[hlim,if_neg (by simp),if_neg (by simp[Gr.oddR,e,hA,hB,hC]),←hi,hno];rfl
   ·have e1 : ((g.init.length : Int) != (g.next.length : Int)) = true := by simpa [Int.natCast_inj] using e
    simp only[wq.1,seval,h1,h3,e1];refine⟨.bool true,?_⟩;simp only[wq.1,seval,h1];refine⟨.bool true,?_⟩;simp only[wq.1,seval];refine⟨.bool true,?_⟩;simp only[wq.1,seval,hd];exact fin1 (by simp[Gr.oddR,e])
theorem IE (n : Nat) (hn : n ≤ 1000000000) (h : H) (R : AEnd → H → (Nat → Bool) → Prop) (hr0 : n = 0 → R (.ret .nils) h (fun _ => false))
 (hr:0<n→R (.ret (.ls h.length 1 0 0 n)) (h++[.cells (List.replicate n (.str []))]) (fun _=>false)):ah TE 131 [.nils,vi n] h R:=by
 refine au Tryz.func131 rfl (by simp[nts]) ?_;refine ag (vm ?_);simp only[wq.1,Nat.reduceLT,Tryz.results131];refine ag ?_;refine vm ?_;simp only[wq.1,seval];refine vcB.mk (fun hc=> ?_) (fun hc=> ?_)
 ·simp only[decide_eq_true_eq]at hc;omega
 simp only[wq.1];refine ag (ag (gB ?_));refine aB rfl rfl ?_;simp only[wq.1,seval];refine aB rfl rfl ?_;simp only[wq.1,seval];refine dW rfl rfl ?_;have hq:ti TE.P 26=some ⟨.slice 9,1,24,.nils⟩:=by simp only[wq.1]
 have hqe:ti TE.P 9=some ⟨.str,1,16,.str []⟩:=by simp only[wq.1]
 have hqi:ti TE.P 3=some ⟨.int .i64,1,8,.int .i64 0⟩:=by simp only[wq.1]
 refine kG (t:=26) rfl rfl hq rfl trivial rfl ?_;refine aB rfl rfl ?_;simp only[wq.1,seval];refine aB rfl rfl ?_;simp only[wq.1,↓reduceIte];refine aB rfl rfl ?_;simp only[wq.1,seval];refine aB rfl rfl ?_;simp only[wq.1,seval];refine aB rfl rfl ?_;simp only[wq.1,↓reduceIte];have w0:IntKind.i64.wrap 0=0:=by decide
 have w1:IntKind.i64.wrap ((n:Int)-0)=n:=by rw[Int.sub_zero];exact dE (by omega) (by omega)
 refine fP ?_;simp only[wq.1,w0,w1];refine ag ?_;refine vm ?_;simp only[wq.1,seval];refine bu (b:=decide ((0:Int)<n)) (by simp only[wq.1,↓reduceIte]) (by simp only[wq.1,↓reduceIte]) (fun hb=> ?_) (fun hb=> ?_)
 ·have hpos : 0 < n := by simp only [decide_eq_true_eq] at hb;omega
  refine gB ?_;refine aB rfl rfl ?_;simp only[wq.1,seval];refine aB rfl rfl ?_;simp only[wq.1,seval];refine dW rfl rfl ?_;refine kG (t:=26) rfl rfl hq rfl trivial rfl ?_;refine dW rfl rfl ?_;refine oP rfl hq rfl hqe (by simp only[wq.1,seval]) (by simp only[wq.1,seval]) (by simp only[wq.1,↓reduceIte]) (k:= .i64) (by simp only[wq.1,↓reduceIte]) ?_;refine aB rfl rfl ?_;simp only[wq.1,seval];refine dW rfl rfl ?_;refine nU (x:= .tmp 20) (y:= .tmp 21) (t:=26) (xt:=3) (el:=9) ⟨⟨_,rfl,rfl,rfl⟩,hq,rfl,hqe,rfl,rfl,Nat.zero_lt_one⟩ (by simp only[wq.1,seval]) (by simp only[wq.1,↓reduceIte]) (by simp only[wq.1,seval]) (by simp only[wq.1,↓reduceIte]) hqi rfl hpos (by omega) ?_ rfl (zv:= .str []) rfl ?_
  ·show n*16≤_;omega
  refine aB rfl rfl ?_;simp only[wq.1,seval];refine aB rfl rfl ?_;simp only[wq.1,↓reduceIte];refine aB rfl rfl ?_;simp only[wq.1,seval];refine⟨by omega,?_⟩;refine aB rfl rfl ?_;simp only[wq.1,↓reduceIte];refine fP ?_;simp only[wq.1];refine vm ?_;simp only[wq.1,seval];exact hr hpos
 ·have : n = 0 := by simp only [decide_eq_false_iff_not] at hb;omega
  refine vm ?_;simp only[wq.1];refine vm ?_;simp only[wq.1,seval];exact hr0 this
theorem IG {α:Type} (ls:List (List α)) (i:Nat):ls.flatten=(ls.take i).flatten++(ls.drop i).flatten:=by rw[←List.flatten_append,List.take_append_drop]
theorem iQ {α:Type} {ls:List (List α)} {i:Nat} (h:i<ls.length):(ls.take (i+1)).flatten=(ls.take i).flatten++ls[i]:=by rw[List.take_add_one,List.flatten_append];simp[h]
theorem ui {α:Type} {ls:List (List α)} {i:Nat} (h:i<ls.length):(ls.take i).flatten.length+ls[i].length≤ls.flatten.length:=by have h1:=congrArg List.length (IG ls (i+1));rw[iQ h]at h1;simp only[List.length_append]at h1;omega
def Wn (n:Nat) (c:List S) (v:V) (h:H):Prop :=
 (c=[]∧v= .nils∧h=[]∧n=0)∨(c.length≤n∧v= .ls 0 1 0 c.length n∧h=[.cells (c.map V.str++List.replicate (n-c.length) (.str []))])
theorem Pn (n:Nat) (hn:n≤1000000000) (R:AEnd→H→(Nat→Bool)→Prop) (hr:∀v h,Wn n [] v h→R (.ret v) h (fun _=>false)):ah TE 131 [.nils,vi n] [] R :=
 IE n hn [] R (fun hz=>hr _ _ (.inl ⟨rfl,rfl,rfl,hz⟩)) (fun hz=>hr _ _ (.inr ⟨Nat.zero_le _,rfl,rfl⟩))
theorem FZ : ∀ l : List S,bF (l.map V.str) = true
 | []=>rfl
 | a::l=>by simp only[List.map_cons,bF,FZ l,V.one,V.vc,List.length_singleton];rfl
theorem Es (c l:List S) (n:Nat) (h:c.length+l.length≤n):bT (c.map V.str++List.replicate (n-c.length) (.str [])) c.length (l.map V.str)=(c++l).map V.str++List.replicate (n-(c++l).length) (.str []):=by
 unfold bT;have e1:(c.map V.str++List.replicate (n-c.length) (V.str [])).take c.length=c.map V.str:=by
  simp
 have e2:(c.map V.str++List.replicate (n-c.length) (V.str [])).drop (c.length+(l.map V.str).length)=List.replicate (n-(c++l).length) (V.str []):=by
  rw[List.drop_append];have:(c.map V.str).drop (c.length+(l.map V.str).length)=[]:=List.drop_of_length_le (by simp);rw[this,List.nil_append,List.drop_replicate]
  congr 1
  simp only[List.length_map,List.length_append];omega
 rw[e1,e2,List.map_append]
theorem Et (ls:List (List S)) (hn:ls.flatten.length≤1000000000) (hls:ls.length≤1000000000):EvF TE 99 [.is true 1 (ls.map dF)] 1 ls.flatten.length (ls.flatten.map V.str):=by
 have hM:maxLen=9223372036854775807:=rfl;have hget:∀ {i:Nat} (h:i<ls.length) (d:V),(ls.map dF).getD i d=dF ls[i]:=fun h d=>gy h d;unfold EvF;refine au Tryz.func99 rfl (by simp[nts]) (vm ?_);simp only[wq.1,seval,Tryz.results99];refine aA (fun m f h=>∃i,m+i=ls.length∧f.t 0= .is true 1 (ls.map dF)∧f.t 3=vi (ls.take i).flatten.length∧f.t 9= .is true 1 (ls.map dF)∧f.t 10=vi ls.length∧f.t 11=vi i∧f.d=[]∧h=[]) ls.length ⟨0,by simp,rfl,rfl,rfl,by simp only[wq.1,seval],rfl,rfl,rfl⟩ ?_;rintro m f h ⟨i,hm,h0,h3,h9,h10,h11,hd,rfl⟩;refine vm ?_;simp only[wq.1,seval,h10,h11];refine vcB.mk (fun hc=> ?_) (fun hc=> ?_)
 ·simp only[decide_eq_true_eq,Int.ofNat_lt]at hc;have hfl:=ui hc;have hw:IntKind.i64.wrap (((ls.take i).flatten.length:Int)+(ls[i].length:Int))=((ls.take (i+1)).flatten.length:Int):=by
   rw[iQ hc,List.length_append,aX (by omega) (by omega)];omega
  simp only[wq.1,seval,h3,h9,h11,hget hc,hw];refine⟨⟨by omega,by omega⟩,vcB.mk (fun hc'=> ?_) (fun hc'=> ?_)⟩
  ·simp only[decide_eq_true_eq]at hc';omega
  ·simp only[wq.1,seval,h11,aC (show i<maxLen by omega)];exact .inl ⟨m-1,by omega,i+1,by omega,h0,rfl,h9,h10,rfl,hd,rfl⟩
 ·simp only [decide_eq_false_iff_not,Int.ofNat_lt] at hc;have hi : ls.take i = ls := List.take_of_length_le (by omega);rw [hi] at h3;simp only [wq.1,seval,h3];refine Pn ls.flatten.length hn _ (fun v0 h0' hcat => ?_);simp only [wq.1,seval,h0];refine aA (fun m f h => ∃ i v,m + i = ls.length ∧ f.t 25 = .is true 1 (ls.map dF) ∧ f.t 26 = vi ls.length ∧ f.t 27 = vi i ∧ f.t 6 = v ∧ f.d = [] ∧ Wn ls.flatten.length (ls.take i).flatten v h) ls.length ⟨0,v0,by simp,by simp only [wq.1,seval],by simp only [wq.1,seval],rfl,rfl,by simp only [wq.1,hd],by simpa using hcat⟩ ?_;rintro m f h ⟨i,v,hm,h25,h26,h27,h6,hd,hcat⟩;refine vm ?_;simp only [wq.1,seval,h26,h27];refine vcB.mk (fun hc => ?_) (fun hc => ?_)
  ·simp only [decide_eq_true_eq,Int.ofNat_lt] at hc;have hfl := ui hc;have hnext : f.t 27 = vi i → IntKind.i64.wrap ((i : Int) + 1) = ((i + 1 : Nat) : Int) := fun _ => aC (by omega);rcases hcat with ⟨hc0,rfl,rfl,hn0⟩ | ⟨hcl,rfl,rfl⟩
   ·have hl0:ls[i]=[]:=List.eq_nil_of_length_eq_zero (by omega);simp only[wq.1,seval,h25,h27,h6,hget hc,hl0,aC (show i<maxLen by omega)];refine⟨⟨by omega,by omega⟩,by omega,.inl ⟨m-1,by omega,i+1,_,by omega,h25,h26,rfl,rfl,hd,?_⟩⟩;right;rw[iQ hc,hl0,hc0,hn0];exact⟨Nat.le_refl _,rfl,rfl⟩
   ·by_cases hlt : (ls.take i).flatten.length < ls.flatten.length
    ·have hdt : decide ((ls.take i).flatten.length < ls.flatten.length) = true := by simpa using hlt
     simp only[wq.1,seval,h25,h27,h6,hget hc,aC (show i<maxLen by omega),FZ,hdt];refine⟨⟨by omega,by omega⟩,⟨by omega,by omega,by rw[List.length_replicate];omega⟩,.inl ⟨m-1,by omega,i+1,_,by omega,h25,h26,rfl,rfl,hd,?_⟩⟩;right;rw[iQ hc];refine⟨by rw[List.length_append];omega,by simp only[wq.1,seval],?_⟩;have hsp:=Es (ls.take i).flatten ls[i] ls.flatten.length hfl;unfold bT at hsp;rw[List.length_map]at hsp;rw[Nat.mul_one,hsp]
    ·have hdt : decide ((ls.take i).flatten.length < ls.flatten.length) = false := by simpa using hlt
     have hl0:ls[i]=[]:=List.eq_nil_of_length_eq_zero (by omega);have hne:(ls.take i).flatten.length=ls.flatten.length:=by omega
     simp only[wq.1,seval,h25,h27,h6,hd,hget hc,aC (show i<maxLen by omega),hdt,hl0];refine⟨⟨by omega,by omega⟩,⟨by rw[List.length_replicate];omega,by omega,by omega⟩,.inl ⟨m-1,by omega,i+1,_,by omega,by simp only[wq.1,seval,h25],by simp only[wq.1,seval,h26],rfl,rfl,hd,?_⟩⟩;right;rw[iQ hc,hl0,List.append_nil,hne,Nat.sub_self];refine⟨Nat.le_refl _,by simp only[wq.1,seval],?_⟩;simp only[List.replicate_zero,V.drops]
  ·simp only [decide_eq_false_iff_not,Int.ofNat_lt] at hc;have hi : ls.take i = ls := List.take_of_length_le (by omega);rw [hi] at hcat;simp only [wq.1,seval,h6,hd];rcases hcat with ⟨hc0,rfl,rfl,hn0⟩ | ⟨hcl,rfl,rfl⟩
   ·exact .inl ⟨rfl,hn0,by rw[hc0];rfl⟩
   ·rw[Nat.sub_self,List.replicate_zero,List.append_nil];exact .inr ⟨0,_,rfl,Nat.le_refl _,rfl⟩
theorem xW (ls:List (List S)) (hn:ls.flatten.length≤1000000000) (hls:ls.length≤1000000000):Ev TE 99 [.is true 1 (ls.map dF)] (dF ls.flatten):=by
 refine(Et ls hn hls).ev (fun _ hc=> ?_) (fun h' id cap _ hid=>kF hid rfl) (fun _ hc h'=> ?_)
 ·rw[List.map_eq_nil_iff.1 hc];exact iV
 ·rw[List.map_eq_nil_iff.1 hc];exact az.nils
theorem qK {p : Nat → Bool} : ∀ l : List Bool,V.drops p (l.map V.bool) = l.map V.bool
 | []=>rfl
 | a::l=>by simp only[List.map_cons,V.drops,V.drop,qK l]
theorem U2 (c:List S) (q:FuncId) (caps:List V) (p:S→Bool) (he:ai P q=true) (hd:V.dats caps=true) (hq:∀x∈c,Ev TE q (.str x::caps) (.bool (p x))):Ev TE 91 [dF c,.fn (.func q) [] caps] (vi (idx c p)):=by
 refine Ev.bnd fun hb=> ?_;have hlen:=qI hb;refine ak Tryz.func91 rfl (by simp[nts]) (vm ?_);simp only[wq.1,seval,Tryz.results91];refine aA (fun m f h=>∃i,m+i=c.length∧f.t 0=dF c∧f.t 1= .fn (.func q) [] caps∧f.t 7= .int .i64 (c.length:Int)∧f.t 8= .int .i64 (i:Int)∧f.d=[]∧∀x∈c.take i,p x=false) c.length ⟨0,by simp,rfl,rfl,rfl,rfl,rfl,by simp⟩ ?_;rintro m f h ⟨i,hm,h0,h1,h7,h8,hdd,hall⟩;refine vm ?_;simp only[wq.1,seval,h7,h8];refine vcB.mk (fun hc=> ?_) (fun hc=> ?_)
 ·simp only [decide_eq_true_eq,Int.ofNat_lt] at hc;simp only [wq.1,seval,h0,h1,h8,Ji hc,he];refine ⟨⟨by omega,by omega⟩,ah.ev (hq _ (List.getElem_mem _)) (by simp [V.dats,V.dat,hd]) ?_⟩;simp only [wq.1,seval];refine vcB.mk (fun hc' => ?_) (fun hc' => ?_)
  ·simp only[wq.1,seval,hdd];rw[kJ hc hall hc'];exact az.dat rfl
  ·simp only[wq.1,seval,h8,aC (show i<maxLen by omega)];exact .inl ⟨m-1,by omega,i+1,by omega,h0,h1,h7,rfl,hdd,bM hc hall hc'⟩
 ·simp only[decide_eq_false_iff_not,Int.ofNat_lt]at hc;simp only[wq.1,seval,hdd];rw[List.take_of_length_le (by omega)]at hall;rw[jE hall];exact az.dat rfl
theorem U3 (c:List S) (q:FuncId) (caps:List V) (p:S→Bool) (he:ai P q=true) (hd:V.dats caps=true) (hq:∀x∈c,Ev TE q (.str x::caps) (.bool (p x))):Ev TE 55 [dF c,.fn (.func q) [] caps] (.bool (c.any p)):=by refine ak Tryz.func55 rfl (by simp[nts]) (vm ?_);simp only[wq.1,seval,Tryz.results55];refine ah.ev (U2 c q caps p he hd hq) (by simp[V.dats,V.dat,hd]) ?_;simp only[wq.1,seval];exact aQ rfl (by rw[pq])
def qL (s:S):Bool:= !bi s
theorem Po (s:S):Ev TE 130 [.str s] (.bool (qL s)):=by refine ak Tryz.func130 rfl (by simp[nts]) (vm ?_);simp only[wq.1,seval,Tryz.results130];refine ah.ev (uh s) rfl ?_;simp only[wq.1,seval];exact az.dat rfl
theorem Eu (l:List S):Ev TE 97 [dF l] (.bool (l.any qL)):=by refine ak Tryz.func97 rfl (by simp[nts]) (vm ?_);simp only[wq.1,seval,Tryz.results97];refine ah.ev (U3 l 130 [] qL rfl rfl fun x _=>Po x) rfl ?_;simp only[wq.1,seval];exact az.dat rfl
def at? : List S → S → Option Nat
 | [],_=>none
 | x::l,s=>if x=s then some 0 else(at? l s).map (·+1)
theorem ja (s : S) : ∀ (ks : List S),ji .str (.str s) (ks.map V.str) = some (at? ks s)
 | []=>rfl
 | k::ks=>by
  simp only[List.map_cons,ji,keq,at?];by_cases h:k=s
  ·subst h;simp
  ·have : (s == k) = false := by simpa using fun h' => h h'.symm
   rw[this,ja s ks,if_neg h];cases at? ks s<;>rfl
theorem nY : ∀ {l : List S} {s : S} {n : Nat},at? l s = some n → ∃ h : n < l.length,l[n] = s
 | [],s,n,h=>by cases h
 | x::l,s,n,h=>by
  simp only[at?]at h;split at h
  ·rename_i he;cases h;exact⟨by simp,he⟩
  ·cases hl:at? l s with
   | none=>rw[hl]at h;cases h
   | some k=>rw[hl]at h;cases h;obtain⟨h1,h2⟩:=nY hl;exact⟨by simpa using h1,by simpa using h2⟩
theorem zD : ∀ {l : List S} {s : S},s ∈ l → ∃ n,at? l s = some n
 | x::l,s,h=>by
  by_cases hx:x=s
  ·exact⟨0,by simp[at?,hx]⟩
  ·have:s∈l:=by
    rcases List.mem_cons.1 h with h | h
    ·exact absurd h.symm hx
    ·exact h
   obtain⟨n,hn⟩:=zD this;exact⟨n+1,by simp[at?,hx,hn]⟩
theorem Pv {l:List S} {s:S} (h:s∉l):at? l s=none:=by
 cases hh:at? l s with
 | none=>rfl
 | some n=>obtain⟨h1,h2⟩:=nY hh;exact absurd (h2▸List.getElem_mem h1) h
def xk (l:List S):Bool:= !decide l.Nodup
theorem BR (l:List S):Ev TE 98 [dF l] (.bool (xk l)):=by
 refine Ev.bnd fun hb=> ?_;have hlen:=qI hb;refine ak Tryz.func98 rfl (by simp[nts]) (vm ?_);simp only[wq.1,seval,Tryz.results98];refine aA (fun m f h=>∃i,m+i=l.length∧f.t 3= .lm 0∧f.t 7=dF l∧f.t 8= .int .i64 (l.length:Int)∧f.t 9= .int .i64 (i:Int)∧f.d=[]∧h=[.map ((l.take i).map V.str) (List.replicate i (.bool true))]∧(l.take i).Nodup) l.length ⟨0,by simp,rfl,rfl,rfl,rfl,rfl,rfl,by simp⟩ ?_;rintro m f h ⟨i,hm,h3,h7,h8,h9,hd,rfl,hnd⟩;refine vm ?_;simp only[wq.1,seval,h8,h9];refine vcB.mk (fun hc=> ?_) (fun hc=> ?_)
 ·simp only [decide_eq_true_eq,Int.ofNat_lt] at hc;have hsucc : l.take (i + 1) = l.take i ++ [l[i]] := by rw [List.take_add_one];simp [hc]
  cases hat:at? (l.take i) l[i]with
  | some n =>
   obtain⟨g1,g2⟩:=nY hat;have hn:n<i:=by simpa using(Nat.lt_of_lt_of_le g1 (by simp;omega))
   have hg:(List.replicate i (V.bool true)).getD n .any= .bool true:=by simp[List.getD_eq_getElem?_getD,hn]
   simp only[wq.1,seval,h3,h7,h9,hd,Ji hc,tJ,ja,K.keyOk,hat,hg];refine⟨⟨by omega,by omega⟩,?_⟩;have:¬l.Nodup:=by
    intro h;rw[←List.take_append_drop (i+1) l,hsucc]at h;have h2:=(List.nodup_append.1 (List.nodup_append.1 h).1).2.2;exact h2 l[i] (g2▸List.getElem_mem g1) l[i] (by simp) rfl
   exact aQ rfl (by simp[xk,this])
  | none =>
   have hnm:l[i]∉l.take i:=fun h=>by obtain⟨n,hn⟩:=zD h;rw[hn]at hat;cases hat
   simp only[wq.1,seval,h3,h7,h9,Ji hc,tJ,Jd,ja,K.keyOk,hat];refine⟨⟨by omega,by omega⟩,.inl ⟨m-1,by omega,i+1,by omega,h3,h7,h8,by rw[aC (by omega)];rfl,hd,?_,?_⟩⟩
   ·rw[hsucc,List.map_append,List.replicate_succ'];rfl
   ·rw[hsucc];refine List.nodup_append.2 ⟨hnd,by simp,fun a ha b hb h=> ?_⟩;simp only[List.mem_singleton]at hb;exact hnm (by rw[←hb,←h];exact ha)
 ·simp only[decide_eq_false_iff_not,Int.ofNat_lt]at hc;simp only[wq.1,seval,hd];rw[List.take_of_length_le (by omega)]at hnd;exact aQ rfl (by simp[xk,hnd])
theorem LY (c:List S) (s:S):Ev TE 132 [dF c,.str s] (vi (idx c (·==s))):=by
 refine Ev.bnd fun hb=> ?_;have hlen:=qI hb;refine ak Tryz.func132 rfl (by simp[nts]) (vm ?_);simp only[wq.1,seval,Tryz.results132];refine aA (fun m f h=>∃i,m+i=c.length∧f.t 0=dF c∧f.t 1= .str s∧f.t 7= .int .i64 (c.length:Int)∧f.t 8= .int .i64 (i:Int)∧f.d=[]∧∀x∈c.take i,(x==s)=false) c.length ⟨0,by simp,rfl,rfl,rfl,rfl,rfl,by simp⟩ ?_;rintro m f h ⟨i,hm,h0,h1,h7,h8,hdd,hall⟩;refine vm ?_;simp only[wq.1,seval,h7,h8];refine vcB.mk (fun hc=> ?_) (fun hc=> ?_)
 ·simp only [decide_eq_true_eq,Int.ofNat_lt] at hc;simp only [wq.1,seval,h0,h1,h8,Ji hc];refine ⟨⟨by omega,by omega⟩,vcB.mk (fun hc' => ?_) (fun hc' => ?_)⟩
  ·simp only[wq.1,seval,hdd];rw[kJ hc hall (by rw[beq_iff_eq]at hc' ⊢;exact hc'.symm)];exact az.dat rfl
  ·simp only[wq.1,seval,h8,aC (show i<maxLen by omega)];exact .inl ⟨m-1,by omega,i+1,by omega,h0,h1,h7,rfl,hdd,bM hc hall (by rw[beq_eq_false_iff_ne]at hc' ⊢;exact hc'.symm)⟩
 ·simp only[decide_eq_false_iff_not,Int.ofNat_lt]at hc;simp only[wq.1,↓reduceIte,Nat.reduceLT,Int.reduceNeg,hdd];rw[List.take_of_length_le (by omega)]at hall;rw[jE hall];exact az.dat rfl
structure Mo where
 g:Gr
 ins:List S
 lat:List S
 out:List S
abbrev Mo.v (m:Mo):V:= .agg [vi m.g.ins,aG m.g.next,aG m.g.init,prs m.g.ands,aG m.g.outs,dF m.ins,dF m.lat,dF m.out]
def Mo.place (m:Mo) (s:S):Int:=if idx (m.ins++m.lat) (·==s)<0 then -1 else idx (m.ins++m.lat) (·==s)+1
theorem QH {α:Type} (l:List α) (p:α→Bool):-1≤idx l p∧idx l p<l.length:=by
 unfold idx;cases h:l.findIdx? p with
 | none=>exact⟨Int.le_refl _,by show(-1:Int)<_;omega⟩
 | some i=>have:=(List.findIdx?_eq_some_iff_getElem.1 h).1;exact⟨by show(-1:Int)≤(i:Int);omega,by show(i:Int)<_;omega⟩
theorem LZ (m:Mo) (s:S) (h1:m.ins.length+m.lat.length≤1000000):Ev TE 100 [m.v,.str s] (vi (m.place s)):=by
 have hcat:=xW [m.ins,m.lat] (by simp;omega) (by simp);have hfl:[m.ins,m.lat].flatten=m.ins++m.lat:=by simp
 rw[hfl]at hcat;have hi:=QH (m.ins++m.lat) (·==s);rw[List.length_append]at hi;unfold Mo.v;refine ak Tryz.func100 rfl (by simp[nts]) (vm ?_);simp only[wq.1,↓reduceIte,Nat.reduceEqDiff,Nat.reduceLT,Nat.reduceLeDiff,Nat.reduceAdd,Int.reduceNeg,reduceCtorEq,Nat.reduceMul,Tryz.results100];refine⟨⟨rfl,by decide⟩,ah.ev hcat rfl ?_⟩;simp only[wq.1,seval];refine ah.ev (LY _ _) rfl ?_;unfold Mo.place;simp only[wq.1,seval];refine vcB.mk (fun hc=> ?_) (fun hc=> ?_)
 ·simp only[wq.1,seval];simp only[decide_eq_true_eq]at hc;exact aQ rfl (by rw[if_pos hc])
 ·simp only[wq.1,seval];simp only[decide_eq_false_iff_not]at hc;rw[dE (n:=idx (m.ins++m.lat) (fun x=>x==s)+1) (by omega) (by omega)];exact aQ rfl (by rw[if_neg hc])
end Go.Proofs.YtmlacppmbfbjgaaGreatDoor
