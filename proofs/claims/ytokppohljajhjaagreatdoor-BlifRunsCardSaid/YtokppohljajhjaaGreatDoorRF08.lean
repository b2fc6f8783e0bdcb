/- Lemmas for this claim, part F08: each holds under what it names. -/
import Derived.Test.YtokppohljajhjaaGreatDoorRF07
import Derived.Test.YtokppohljajhjaaGreatDoorRA9
set_option linter.all false
set_option maxRecDepth 20000
set_option maxHeartbeats 4000000
namespace Go.Proofs.YtokppohljajhjaaGreatDoor
open Go Go.Proofs Go.Abs
theorem mF(g:Ga):V.dats [g.v]=true:=by simp only[Ga.v,V.dats,V.dat,aG,zre]
theorem G7[MO](g:Ga)(hl:g.ins.length<=1000000):Ev TE 10 [g.v] ((aK g).v):=by
 have hC:=ve g;have hM:=mLx;unfold aK;have hci:(aU g).ins.length=g.ins.length:=by
  have ho:(gY g).ins=g.ins:=by
   unfold gY
   repeat' split
   all_goals rfl
  unfold aU
  repeat' split
  all_goals first|rw[ho]|rfl
 obtain⟨q,hq⟩:∃q,q=aU g:=⟨_,rfl⟩;rw[<-hq]at hC hci ⊢;refine ah Tryz.func10 rfl (by simp[nts]) ?_;refine vn ?_;simp only[wq.1,Nat.reduceLT,Tryz.results10];refine vn ?_;simp only[wq.1,seval];refine ag.ev hC (mF g) ?_;simp only[wq.1,seval];refine aj ?_;refine vn ?_;simp only[wq.1,seval];by_cases hc:q.op=10/\q.rows=[]/\q.off=true
 ·have hC2:=ve {q with rows:=[List.replicate q.ins.length 45],off:=false};have hRp:=lC [45] q.ins.length (by decide) (by omega);rw[Fz]at hRp;rw[if_pos hc];have e1:(q.op==10&&((q.rows.length:Nat):Int)==0&&q.off)=true:=by rw[hc.1,hc.2.1,hc.2.2];rfl
  refine vm ?_;simp only[wq.1,↓reduceIte,Nat.reduceEqDiff,Nat.reduceLT,Nat.reduceLeDiff,Nat.reduceAdd,e1];refine ag.ev hRp rfl ?_;simp only[wq.1,↓reduceIte,Nat.reduceEqDiff,Nat.reduceLT,Nat.reduceLeDiff,Nat.reduceAdd,reduceCtorEq,Nat.reduceMul];refine⟨⟨rfl,by decide⟩,?_⟩;obtain⟨q2,hq2⟩:∃q2:Ga,q2={q with rows:=[List.replicate q.ins.length 45],off:=false}:=⟨_,rfl⟩;rw[<-hq2]at hC2 ⊢;refine jG (h':=[.cells [.str q2.name,vi q2.op,aV q2.ins,aV q2.rows,.bool q2.off],.cells [.str [],.int .i64 0,.nils,.nils,.bool false]]) (by
   have:=HLe.set (h:=[O.cells [V.str q.name,vi q.op,aV q.ins,V.is true 1 [V.str (List.replicate q.ins.length 45)],V.bool false],O.cells [V.str [],V.int IntKind.i64 0,V.nils,V.nils,V.bool false]]) (i:=0) (o':= .cells [.str q2.name,vi q2.op,aV q2.ins,aV q2.rows,.bool q2.off]) rfl (OLe.cells (zrb _) (by rw[hq2];exact gX.cons (VLe.refl _) (gX.cons (VLe.refl _) (gX.cons (VLe.refl _) (gX.cons pW (gX.cons (VLe.refl _) gX.nil))))));exact this) ?_
  refine vn ?_;simp only[wq.1,seval];refine ag.ev hC2 (mF q2) ?_;simp only[wq.1,seval];refine vm ?_;simp only[wq.1,seval];exact aA.dat (by have:=mF (aU q2);simpa only[Ga.v,V.dats,Bool.and_true]using this)
 ·have hC2:=ve q;rw[if_neg hc];have e1:(q.op==10&&((q.rows.length:Nat):Int)==0&&q.off)=false:=by rw[Bool.eq_false_iff];intro h;simp only[zqf,beq_iff_eq]at h;exact hc ⟨h.1.1,List.eq_nil_of_length_eq_zero (by omega),h.2⟩
  refine vm ?_;simp only[wq.1,↓reduceIte,e1];refine vn ?_;simp only[wq.1,seval];refine ag.ev hC2 (mF q) ?_;simp only[wq.1,seval];refine vm ?_;simp only[wq.1,seval];exact aA.dat (by have:=mF (aU q);simpa only[Ga.v,V.dats,Bool.and_true]using this)
theorem Qx[MO](g:Ga)(h:uX g.op g.ins.length=true)(hl:g.ins.length<=1000000):Ev TE 22 [g.v] (.tup [aV (aQ g).1,.bool (aQ g).2]):=by
 have hM:=mLx;unfold uX at h;simp only[zqf,zqb]at h;obtain⟨h0,h10,hh⟩:=h;have hR1:=lC [49] g.ins.length (by decide) hl;have hR0:=lC [48] g.ins.length (by decide) hl;rw[Fz]at hR1 hR0;obtain⟨k,hk⟩:∃k:Nat,g.op=k:=⟨g.op.toNat,by omega⟩;rw[hk,zsg]at hh;have hkk:k=0\/k=1\/k=2\/k=3\/k=4\/k=5\/k=6\/k=7\/k=8\/k=9\/k=10:=by omega
 rcases hkk with rfl|rfl|rfl|rfl|rfl|rfl|rfl|rfl|rfl|rfl|rfl
 ·have hv:aQ g=([],false):=by unfold aQ;rw[hk];rfl
  have hk:g.op=0:=hk;rw[hv];refine ah Tryz.func22 rfl (by simp[nts]) (vm ?_);simp only[wq.1,seval,Tryz.results22,hk];refine ag.ev hR1 rfl ?_;simp only[wq.1,seval];refine ag.ev hR0 rfl ?_;simp only[wq.1,seval];exact aA.tup (au.cons aA.nils (au.cons (aA.dat rfl) au.nil))
 ·have hv:aQ g=([List.replicate g.ins.length 49],false):=by unfold aQ;rw[hk];rfl
  have hk:g.op=1:=hk;rw[hv];refine ah Tryz.func22 rfl (by simp[nts]) (vm ?_);simp only[wq.1,seval,Tryz.results22,hk];refine ag.ev hR1 rfl ?_;simp only[wq.1,↓reduceIte,Nat.reduceEqDiff,Nat.reduceLT,Nat.reduceLeDiff];refine ag.ev hR0 rfl ?_;simp only[wq.1,↓reduceIte,Nat.reduceEqDiff,Nat.reduceLT,Nat.reduceLeDiff,Nat.reduceAdd,Int.reduceBEq,reduceCtorEq,Nat.reduceMul];exact⟨by decide +kernel,⟨rfl,by decide⟩,aA.tup (au.cons (aA.ex rfl) (au.cons (aA.dat rfl) au.nil))⟩
 ·have hv:aQ g=([List.replicate g.ins.length 49],false):=by unfold aQ;rw[hk];rfl
  have hk:g.op=2:=hk;rw[hv];refine ah Tryz.func22 rfl (by simp[nts]) (vm ?_);simp only[wq.1,seval,Tryz.results22,hk];refine ag.ev hR1 rfl ?_;simp only[wq.1,↓reduceIte,Nat.reduceEqDiff,Nat.reduceLT,Nat.reduceLeDiff];refine ag.ev hR0 rfl ?_;simp only[wq.1,↓reduceIte,Nat.reduceEqDiff,Nat.reduceLT,Nat.reduceLeDiff,Nat.reduceAdd,Int.reduceBEq,reduceCtorEq,Nat.reduceMul];exact⟨by decide +kernel,⟨rfl,by decide⟩,aA.tup (au.cons (aA.ex rfl) (au.cons (aA.dat rfl) au.nil))⟩
 ·have hv:aQ g=([List.replicate g.ins.length 48],false):=by unfold aQ;rw[hk];rfl
  have hk:g.op=3:=hk;rw[hv];refine ah Tryz.func22 rfl (by simp[nts]) (vm ?_);simp only[wq.1,seval,Tryz.results22,hk];refine ag.ev hR1 rfl ?_;simp only[wq.1,↓reduceIte,Nat.reduceEqDiff,Nat.reduceLT,Nat.reduceLeDiff];refine ag.ev hR0 rfl ?_;simp only[wq.1,↓reduceIte,Nat.reduceEqDiff,Nat.reduceLT,Nat.reduceLeDiff,Nat.reduceAdd,Int.reduceBEq,reduceCtorEq,Nat.reduceMul];exact⟨⟨rfl,by decide⟩,aA.tup (au.cons (aA.ex rfl) (au.cons (aA.dat rfl) au.nil))⟩
 ·have hv:aQ g=([List.replicate g.ins.length 49],false):=by unfold aQ;rw[hk];rfl
  have hk:g.op=4:=hk;rw[hv];refine ah Tryz.func22 rfl (by simp[nts]) (vm ?_);simp only[wq.1,seval,Tryz.results22,hk];refine ag.ev hR1 rfl ?_;simp only[wq.1,↓reduceIte,Nat.reduceEqDiff,Nat.reduceLT,Nat.reduceLeDiff];refine ag.ev hR0 rfl ?_;simp only[wq.1,↓reduceIte,Nat.reduceEqDiff,Nat.reduceLT,Nat.reduceLeDiff,Nat.reduceAdd,Int.reduceBEq,reduceCtorEq,Nat.reduceMul];exact⟨by decide +kernel,⟨rfl,by decide⟩,aA.tup (au.cons (aA.ex rfl) (au.cons (aA.dat rfl) au.nil))⟩
 ·have hv:aQ g=([List.replicate g.ins.length 49],true):=by unfold aQ;rw[hk];rfl
  have hk:g.op=5:=hk;rw[hv];refine ah Tryz.func22 rfl (by simp[nts]) (vm ?_);simp only[wq.1,seval,Tryz.results22,hk];refine ag.ev hR1 rfl ?_;simp only[wq.1,↓reduceIte,Nat.reduceEqDiff,Nat.reduceLT,Nat.reduceLeDiff];refine ag.ev hR0 rfl ?_;simp only[wq.1,↓reduceIte,Nat.reduceEqDiff,Nat.reduceLT,Nat.reduceLeDiff,Nat.reduceAdd,Int.reduceBEq,reduceCtorEq,Nat.reduceMul];exact⟨by decide +kernel,⟨rfl,by decide⟩,aA.tup (au.cons (aA.ex rfl) (au.cons (aA.dat rfl) au.nil))⟩
 ·have hv:aQ g=([List.replicate g.ins.length 48],true):=by unfold aQ;rw[hk];rfl
  have hk:g.op=6:=hk;rw[hv];refine ah Tryz.func22 rfl (by simp[nts]) (vm ?_);simp only[wq.1,seval,Tryz.results22,hk];refine ag.ev hR1 rfl ?_;simp only[wq.1,↓reduceIte,Nat.reduceEqDiff,Nat.reduceLT,Nat.reduceLeDiff];refine ag.ev hR0 rfl ?_;simp only[wq.1,↓reduceIte,Nat.reduceEqDiff,Nat.reduceLT,Nat.reduceLeDiff,Nat.reduceAdd,Int.reduceBEq,reduceCtorEq,Nat.reduceMul];exact⟨⟨rfl,by decide⟩,aA.tup (au.cons (aA.ex rfl) (au.cons (aA.dat rfl) au.nil))⟩
 ·have hv:aQ g=([List.replicate g.ins.length 48],false):=by unfold aQ;rw[hk];rfl
  have hk:g.op=7:=hk;rw[hv];refine ah Tryz.func22 rfl (by simp[nts]) (vm ?_);simp only[wq.1,seval,Tryz.results22,hk];refine ag.ev hR1 rfl ?_;simp only[wq.1,↓reduceIte,Nat.reduceEqDiff,Nat.reduceLT,Nat.reduceLeDiff];refine ag.ev hR0 rfl ?_;simp only[wq.1,↓reduceIte,Nat.reduceEqDiff,Nat.reduceLT,Nat.reduceLeDiff,Nat.reduceAdd,Int.reduceBEq,reduceCtorEq,Nat.reduceMul];exact⟨⟨rfl,by decide⟩,aA.tup (au.cons (aA.ex rfl) (au.cons (aA.dat rfl) au.nil))⟩
 ·have hv:aQ g=(Jw g.ins.length true,false):=by unfold aQ;rw[hk];rfl
  have hk:g.op=8:=hk;rw[hv];refine ah Tryz.func22 rfl (by simp[nts]) (vm ?_);simp only[wq.1,seval,Tryz.results22,hk];refine ag.ev hR1 rfl ?_;simp only[wq.1,seval];refine ag.ev hR0 rfl ?_;simp only[wq.1,seval];simp only[Ce,zqf,zqb]at hh;refine ag.ev (yT g.ins.length true (by omega) (by omega)) rfl ?_;simp only[wq.1,seval];exact aA.tup (au.cons (aA.dat (by simp only[V.dat,aG])) (au.cons (aA.dat rfl) au.nil))
 ·have hv:aQ g=(Jw g.ins.length false,false):=by unfold aQ;rw[hk];rfl
  have hk:g.op=9:=hk;rw[hv];refine ah Tryz.func22 rfl (by simp[nts]) (vm ?_);simp only[wq.1,seval,Tryz.results22,hk];refine ag.ev hR1 rfl ?_;simp only[wq.1,seval];refine ag.ev hR0 rfl ?_;simp only[wq.1,seval];simp only[Ce,zqf,zqb]at hh;refine ag.ev (yT g.ins.length false (by omega) (by omega)) rfl ?_;simp only[wq.1,seval];exact aA.tup (au.cons (aA.dat (by simp only[V.dat,aG])) (au.cons (aA.dat rfl) au.nil))
 ·have hv:aQ g=(g.rows,g.off):=by unfold aQ;rw[hk];rfl
  have hk:g.op=10:=hk;rw[hv];refine ah Tryz.func22 rfl (by simp[nts]) (vm ?_);simp only[wq.1,seval,Tryz.results22,hk];exact⟨by decide +kernel,aA.dat (by simp only[V.dat,V.dats,aG,zre])⟩
theorem DK:BT 62:=⟨by kernel_rfl,fun k=>by kernel_rfl⟩
def Wr(id b:Nat)(out:S)(h:H):Prop :=
 (out=[]/\h[id]? =some (.typed 62 [.nilp,.nils])/\h.length=b) \/
 (out≠[]/\h[id]? =some (.typed 62 [.lp id 0,.ls b 1 0 out.length out.length])/\h[b]? =some (.typed 5 (out.map vb)))
def DL(id b:Nat)(h h':H):Prop:=∀j,j≠id->j≠b->j<h.length->h'[j]? =h[j]? \/h'[j]? =(h[j]?).map (O.drop (·==b))
theorem gJ[MO]{id b:Nat}{out s:S}{h:H}{R:AEnd->H->(Nat->Bool)->Prop}(hne:id≠b)(hw:Wr id b out h)(hs:s≠[])(hl:out.length+s.length<=20000000000000)
 (hr:∀v h' p,(∀j,p j=true->j=b)->Wr id b (out++s) h'->DL id b h h'->R (.ret v) h' p):ag TE 23 [.lp id 0,.str s] h R:=by
 rcases hw with⟨rfl,h1,h2⟩|⟨ho,h1,h2⟩
 ·have hlt:=(zqe h1).1;refine LH DK s (.inl rfl) h1 hs (by simpa using hl) ?_;refine hr _ _ _ (fun j hj=>by cases hj) (.inr ⟨by simpa using hs,?_,?_⟩) (fun j hj hjb hjl=> .inl ?_)
  ·rw[zqt (by simp;omega),h2];rfl
  ·rw[zqn hne,zsb (by omega),show b-h.length=0 by omega];rfl
  ·rw[zqn (Ne.symm hj),zqj hjl]
 ·have hlt:=(zqe h1).1;have hlb:=(zqe h2).1;refine Pg DK out s (.inr rfl) hne h1 h2 hl ?_;refine hr _ _ _ (fun j hj=>by simpa using hj) (.inr ⟨by simp[ho],?_,?_⟩) (fun j hj hjb hjl=> .inr ?_)
  ·rw[zqt (by simp;omega)]
  ·rw[zqn hne,zqt (by simp;omega)]
  ·rw[zqn (Ne.symm hj),zqn (Ne.symm hjb),zqo]
theorem DL.refl{id b:Nat}{h:H}:DL id b h h:=fun j _ _ _=> .inl rfl
mutual
theorem V.drop_same(p:Nat->Bool):∀v:V,(v.drop p).drop p=v.drop p
 | .lp id off=>by
  simp only[V.drop];split
  ·rfl
  ·rename_i h;simp only[V.drop,h,if_false,zrm]
 | .ls id k off len cap=>by
  simp only[V.drop];split
  ·rfl
  ·rename_i h;simp only[V.drop,h,if_false,zrm]
 | .lm id=>by
  simp only[V.drop];split
  ·rfl
  ·rename_i h;simp only[V.drop,h,if_false,zrm]
 | .yd id=>by
  simp only[V.drop];split
  ·rfl
  ·rename_i h;simp only[V.drop,h,if_false,zrm]
 | .fn f x y=>by simp only[V.drop,V.drops_same p x,V.drops_same p y]
 | .iface t e=>by simp only[V.drop,V.drop_same p e]
 | .agg vs=>by simp only[V.drop,V.drops_same p vs]
 | .tup vs=>by simp only[V.drop,V.drops_same p vs]
 | .grd g e=>by simp only[V.drop,V.drop_same p e]
 | .row k es=>by simp only[V.drop,V.drops_same p es]
 | .any | .bool _ | .int _ _ | .str _ | .nilp | .ip _ | .nils | .is _ _ _ | .nilm | .im _ _ | .nilf | .nili=>by simp only[V.drop]
theorem V.drops_same(p:Nat->Bool):∀vs:List V,V.drops p (V.drops p vs)=V.drops p vs
 |[]=>rfl
 |v::vs=>by simp only[V.drops,V.drop_same p v,V.drops_same p vs]
end
theorem FB(p:Nat->Bool)(o:O):(o.drop p).drop p=o.drop p:=by cases o<;>simp only[O.drop,V.drops_same,V.drop_same]
theorem DL.trans{id b:Nat}{h h1 h2:H}(k1:DL id b h h1)(k2:DL id b h1 h2):DL id b h h2:=fun j a c d=>by
 have hj:=k1 j a c d;have hl:j<h1.length:=by
  have hs:h[j]? =some h[j]:=zqk d;rcases hj with hj|hj
  ·rw[hs]at hj;exact(zqe hj).1
  ·rw[hs]at hj;exact(zqe hj).1
 rcases hj with e1|e1<;>rcases k2 j a c hl with e2|e2
 ·exact .inl (e2.trans e1)
 ·exact .inr (by rw[e2,e1])
 ·exact .inr (e2.trans e1)
 ·refine .inr ?_;rw[e2,e1];cases h[j]? with
  |none=>rfl
  |some o=>simp only[zrw,FB]
theorem DL.cells{id b j:Nat}{h h':H}{cs:List V}(k:DL id b h h')(hj:h[j]? =some (.cells cs))(h1:j≠id)(h2:j≠b)(hd:∀p,V.drops p cs=cs):h'[j]? =some (.cells cs):=by
 rcases k j h1 h2 (zqe hj).1 with h3|h3
 ·rw[h3,hj]
 ·rw[h3,hj];show some (O.cells (V.drops _ cs))=_;rw[hd]
theorem yU[MO]{id b:Nat}{out w:S}{l:List S}{h:H}{R:AEnd->H->(Nat->Bool)->Prop}(hne:id≠b)(hw:Wr id b out h)(hww:w≠[])(hl:out.length+(dY w l).length<=20000000000000)(hll:l.length<=1000000)
 (hr:∀v h' p,(∀j,p j=true->j=b)->Wr id b (out++dY w l) h'->DL id b h h'->R (.ret v) h' p):ag TE 20 [.lp id 0,.str w,aV l] h R:=by
 have hM:=mLx;refine ax Tryz.func20 rfl (by simp[nts]) ?_;refine vn ?_;simp only[wq.1,seval,Tryz.results20];refine gJ hne hw hww (by unfold dY at hl;simp at hl;omega) ?_;intro v h1 p hp hw1 hk1;have hpi:p id=false:=by
  cases hc:p id with
  |false=>rfl
  |true=>exact absurd (hp id hc) hne
 simp only [wq.1,bn];refine aj ?_;refine vn ?_;simp only [wq.1,seval];refine aB ?_;refine aF (fun m f h' => ∃ i : Nat,m + i = l.length /\ i <= l.length /\ Wr id b (out ++ w ++ (l.take i).flatMap (fun x => 32 :: spV x)) h' /\ DL id b h h' /\ f.t 0 = .lp id 0 /\ f.t 15 = aV l /\ f.t 16 = vi l.length /\ f.t 17 = vi i /\ f.d = [] /\ (∀ j,f.k j = true -> j = b)) l.length
  ⟨0,by omega,by omega,by simpa using hw1,hk1,by simp only[wq.1,seval,hpi],by simp only[wq.1,seval],by simp only[wq.1,seval],by simp only[wq.1,↓reduceIte];rfl,by simp only[wq.1],fun j hj=>hp j hj⟩ ?_
 clear hw1 hk1 hp hpi h1 v;rintro m f h1 ⟨i,hm,hil,hw1,hk1,t0,t15,t16,t17,hd,hk⟩;have hwi:=az (show i<maxLen by omega);refine vn ?_;simp only[wq.1,Nat.reduceLT,t16,t17];refine vn ?_;simp only[wq.1,↓reduceIte];refine vcB.mk (fun hlt=> ?_) (fun hlt=> ?_)
 ·have hlt:i<l.length:=by have:=zqs hlt;omega
  obtain⟨s,hs⟩:∃s,s=l[i]:=⟨_,rfl⟩;have hgs:(l.map V.str).getD i .any= .str s:=by rw[dL hlt,hs]
  have hS:=Ae s;have hfl:(l.take (i+1)).flatMap (fun x=>32::spV x)=(l.take i).flatMap (fun x=>32::spV x)++(32::spV s):=by rw[List.take_succ_eq_append_getElem hlt,List.flatMap_append,hs];simp
  have hlen2:((l.take (i+1)).flatMap (fun x=>32::spV x)).length<=(l.flatMap (fun x=>32::spV x)).length:=by
   have:l.flatMap (fun x=>32::spV x)=(l.take (i+1)).flatMap (fun x=>32::spV x)++(l.drop (i+1)).flatMap (fun x=>32::spV x):=by rw[<-List.flatMap_append,List.take_append_drop]
   rw[this];simp
  simp only[wq.1];refine aj ?_;refine aB ?_;refine vn ?_;simp only[wq.1,seval,t15,t17,hgs];refine⟨⟨by omega,by omega⟩,?_⟩;refine vn ?_;simp only[wq.1,seval];refine ag.ev hS rfl ?_;simp only[wq.1,seval];have hol:out.length+w.length+(l.flatMap (fun x=>32::spV x)).length<=20000000000000:=by
   unfold dY at hl;simp only[zqa,zrt,List.length_nil]at hl;omega
  rw[hfl]at hlen2;simp only[zqa,zrt]at hlen2;refine vm ?_;simp only[wq.1,seval,t0];refine⟨by omega,?_⟩;refine gJ hne hw1 (by simp) (by simp only[zqa,zrt];omega) ?_;intro v h2 p hp hw2 hk2;have hpi:p id=false:=by
   cases hc:p id with
   |false=>rfl
   |true=>exact absurd (hp id hc) hne
  simp only[wq.1,bn,hd];refine vm ?_;simp only[wq.1,seval,t17,hwi];refine .inl ⟨m-1,by omega,i+1,by omega,by omega,?_,hk1.trans hk2,by simp only[wq.1,seval,t0,hpi],by simp only[wq.1,seval,t15],by simp only[wq.1,seval,t16],by simp only[wq.1,↓reduceIte],by simp only[wq.1,hd],fun j hj=> ?_⟩
  ·rw[hfl,<-zqc];exact hw2
  ·have hj:(f.k j||p j)=true:=hj;rw[Bool.or_eq_true]at hj;exact hj.elim (hk j) (hp j)
 ·have hi:i=l.length:=by have:=of_decide_eq_false hlt;omega
  rw[hi,zrx]at hw1;have hol:out.length+w.length+(l.flatMap (fun x=>32::spV x)).length+1<=20000000000000:=by
   unfold dY at hl;simp only[zqa,zrt,List.length_nil]at hl;omega
  simp only[wq.1];refine vm ?_;simp only[wq.1,seval,t0];refine gJ hne hw1 (by simp) (by simp only[zqa,zrt,List.length_nil];omega) ?_;intro v h2 p hp hw2 hk2;have hpi:p id=false:=by
   cases hc:p id with
   |false=>rfl
   |true=>exact absurd (hp id hc) hne
  simp only[wq.1,bn,hd];refine hr _ _ _ (fun j hj=> ?_) ?_ (hk1.trans hk2)
  ·have hj:(f.k j||p j)=true:=hj;rw[Bool.or_eq_true]at hj;exact hj.elim (hk j) (hp j)
  ·unfold dY;rw[<-zqc,<-zqc];exact hw2
theorem FC[MO]{id b NR:Nat}{out w:S}{l:List S}{h:H}{R:AEnd->H->(Nat->Bool)->Prop}(hne:id≠b)(hw:Wr id b out h)(hN:h[NR]? =some (.cells (l.map V.str)))(hNi:NR≠id)(hNb:NR≠b)(hww:w≠[])(hl:out.length+(dY w l).length<=20000000000000)(hll:l.length<=1000000)
 (hr:∀v h' p,(∀j,p j=true->j=b)->Wr id b (out++dY w l) h'->DL id b h h'->R (.ret v) h' p):ag TE 20 [.lp id 0,.str w,.ls NR 1 0 l.length l.length] h R:=by
 have hM:=mLx;refine ax Tryz.func20 rfl (by simp[nts]) ?_;refine vn ?_;simp only[wq.1,seval,Tryz.results20];refine gJ hne hw hww (by unfold dY at hl;simp at hl;omega) ?_;intro v h1 p hp hw1 hk1;have hpN:p NR=false:=by
  cases hc:p NR with
  |false=>rfl
  |true=>exact absurd (hp NR hc) hNb
 have hpi:p id=false:=by
  cases hc:p id with
  |false=>rfl
  |true=>exact absurd (hp id hc) hne
 simp only [wq.1,bn];refine aj ?_;refine vn ?_;simp only [wq.1,seval,hpN];refine aB ?_;refine aF (fun m f h' => ∃ i : Nat,m + i = l.length /\ i <= l.length /\ Wr id b (out ++ w ++ (l.take i).flatMap (fun x => 32 :: spV x)) h' /\ DL id b h h' /\ f.t 0 = .lp id 0 /\ f.t 15 = .ls NR 1 0 l.length l.length /\ f.t 16 = vi l.length /\ f.t 17 = vi i /\ f.d = [] /\ (∀ j,f.k j = true -> j = b)) l.length
  ⟨0,by omega,by omega,by simpa using hw1,hk1,by simp only[wq.1,seval,hpi],by simp only[wq.1,seval],by simp only[wq.1,seval],by simp only[wq.1,↓reduceIte];rfl,by simp only[wq.1],fun j hj=>hp j hj⟩ ?_
 clear hw1 hk1 hp hpi hpN h1 v;rintro m f h1 ⟨i,hm,hil,hw1,hk1,t0,t15,t16,t17,hd,hk⟩;have hN1:=hk1.cells hN hNi hNb (fun p=>aC);have hwi:=az (show i<maxLen by omega);refine vn ?_;simp only[wq.1,Nat.reduceLT,t16,t17];refine vn ?_;simp only[wq.1,↓reduceIte];refine vcB.mk (fun hlt=> ?_) (fun hlt=> ?_)
 ·have hlt:i<l.length:=by have:=zqs hlt;omega
  obtain⟨s,hs⟩:∃s,s=l[i]:=⟨_,rfl⟩;have hgs:(l.map V.str).getD i .any= .str s:=by rw[dL hlt,hs]
  have hgs':(l.map V.str).getD (i*1) .any= .str s:=by rw[Nat.mul_one];exact hgs
  have hS:=Ae s;have hfl:(l.take (i+1)).flatMap (fun x=>32::spV x)=(l.take i).flatMap (fun x=>32::spV x)++(32::spV s):=by rw[List.take_succ_eq_append_getElem hlt,List.flatMap_append,hs];simp
  have hlen2:((l.take (i+1)).flatMap (fun x=>32::spV x)).length<=(l.flatMap (fun x=>32::spV x)).length:=by
   have:l.flatMap (fun x=>32::spV x)=(l.take (i+1)).flatMap (fun x=>32::spV x)++(l.drop (i+1)).flatMap (fun x=>32::spV x):=by rw[<-List.flatMap_append,List.take_append_drop]
   rw[this];simp
  simp only[wq.1];refine aj ?_;refine aB ?_;refine vn ?_;simp only[wq.1,seval,t15,t17,hgs',hN1];refine⟨⟨by omega,by omega⟩,by omega,?_⟩;refine vn ?_;simp only[wq.1,seval];refine ag.ev hS rfl ?_;simp only[wq.1,seval];have hol:out.length+w.length+(l.flatMap (fun x=>32::spV x)).length<=20000000000000:=by
   unfold dY at hl;simp only[zqa,zrt,List.length_nil]at hl;omega
  rw[hfl]at hlen2;simp only[zqa,zrt]at hlen2;refine vm ?_;simp only[wq.1,seval,t0];refine⟨by omega,?_⟩;refine gJ hne hw1 (by simp) (by simp only[zqa,zrt];omega) ?_;intro v h2 p hp hw2 hk2;have hpN:p NR=false:=by
   cases hc:p NR with
   |false=>rfl
   |true=>exact absurd (hp NR hc) hNb
  have hpi:p id=false:=by
   cases hc:p id with
   |false=>rfl
   |true=>exact absurd (hp id hc) hne
  simp only[wq.1,bn,hd];refine vm ?_;simp only[wq.1,seval,t17,hwi];refine .inl ⟨m-1,by omega,i+1,by omega,by omega,?_,hk1.trans hk2,by simp only[wq.1,seval,t0,hpi],by simp only[wq.1,seval,t15,hpN],by simp only[wq.1,seval,t16],by simp only[wq.1,↓reduceIte],by simp only[wq.1,hd],fun j hj=> ?_⟩
  ·rw[hfl,<-zqc];exact hw2
  ·have hj:(f.k j||p j)=true:=hj;rw[Bool.or_eq_true]at hj;exact hj.elim (hk j) (hp j)
 ·have hi:i=l.length:=by have:=of_decide_eq_false hlt;omega
  rw[hi,zrx]at hw1;have hol:out.length+w.length+(l.flatMap (fun x=>32::spV x)).length+1<=20000000000000:=by
   unfold dY at hl;simp only[zqa,zrt,List.length_nil]at hl;omega
  simp only[wq.1];refine vm ?_;simp only[wq.1,seval,t0];refine gJ hne hw1 (by simp) (by simp only[zqa,zrt,List.length_nil];omega) ?_;intro v h2 p hp hw2 hk2;have hpi:p id=false:=by
   cases hc:p id with
   |false=>rfl
   |true=>exact absurd (hp id hc) hne
  simp only[wq.1,bn,hd];refine hr _ _ _ (fun j hj=> ?_) ?_ (hk1.trans hk2)
  ·have hj:(f.k j||p j)=true:=hj;rw[Bool.or_eq_true]at hj;exact hj.elim (hk j) (hp j)
  ·unfold dY;rw[<-zqc,<-zqc];exact hw2
theorem Qy[MO](k:Nat)(hk:k<10):Ev TE 118 [vi k] (.str [UInt8.ofNat (48+k)]):=by
 have hM:=mLx;have h:k=0\/k=1\/k=2\/k=3\/k=4\/k=5\/k=6\/k=7\/k=8\/k=9:=by omega
 have h10:decide ((k:Int)<10)=true:=by rw[zqb];omega
 have hw:=az (show k<maxLen by omega);have ht:([48,49,50,51,52,53,54,55,56,57,97,98,99,100,101,102,103,104,105,106,107,108,109,110,111,112,113,114,115,116,117,118,119,120,121,122]:List UInt8).drop k |>.take (k+1-k) |> (·=[UInt8.ofNat (48+k)]):=by rcases h with rfl|rfl|rfl|rfl|rfl|rfl|rfl|rfl|rfl|rfl<;>rfl
 refine ah Tryz.func118 rfl (by simp[nts]) (vm ?_);simp only[wq.1,seval,Tryz.results118,h10,hw];refine⟨⟨by omega,by omega,by omega⟩,?_⟩;have ht':=ht;dsimp only at ht';rw[ht'];exact aA.dat rfl
theorem Nr[MO](k:Nat)(hk:k<10):Ev TE 92 [vi k,vi 10] (.str [UInt8.ofNat (48+k)]):=by
 have hS:=Qy k hk;have h1:decide ((0:Int)<=(k:Int))=true:=by rw[zqb];omega
 have h2:decide ((k:Int)<100)=true:=by rw[zqb];omega
 refine ah Tryz.func92 rfl (by simp[nts]) (vm ?_);simp only[wq.1,seval,Tryz.results92,h1,h2];refine ag.ev hS rfl ?_;simp only[wq.1,seval];exact aA.dat rfl
theorem Qz[MO](k:Nat)(hk:k<10):Ev TE 50 [vi k] (.str [UInt8.ofNat (48+k)]):=by have hS:=Nr k hk;refine ah Tryz.func50 rfl (by simp[nts]) (vm ?_);simp only[wq.1,seval,Tryz.results50];refine ag.ev hS rfl ?_;simp only[wq.1,seval];exact aA.dat rfl
theorem Aj[MO](k:Nat)(hk:k<10):Ev TE 21 [vi k] (.str [UInt8.ofNat (48+k)]):=by have hS:=Qz k hk;refine ah Tryz.func21 rfl (by simp[nts]) (vm ?_);simp only[wq.1,seval,Tryz.results21];refine ag.ev hS rfl ?_;simp only[wq.1,seval];exact aA.dat rfl
theorem QA[MO](i:Int)(h0:0<=i)(h2:i<=2):Ev TE 21 [.int .i64 (IntKind.i64.wrap (i+IntKind.i64.wrap (i.tdiv 2)))] (.str (lu i)):=by
 have h:i=0\/i=1\/i=2:=by omega
 rcases h with rfl|rfl|rfl
 ·exact Aj 0 (by decide)
 ·exact Aj 1 (by decide)
 ·exact Aj 3 (by decide)
theorem Vd(s:S):(spV s).length<=500:=by
 unfold spV;by_cases h:aT s=true
 ·rw[if_pos h];have hl:=Ad h;have hx:∀l:S,(l.flatMap LJ).length=2*l.length:=by
   intro l
   induction l with
   |nil=>rfl
   |cons a l ih=>rw[List.flatMap_cons,zqa,ih,zrt];unfold LJ;simp;omega
  unfold bf;split
  ·unfold aY mX;rw[zqa,hx];simp;omega
  ·omega
 ·rw[if_neg h];simp
theorem jb{w:S}{l:List S}(hw:w.length<=10)(hl:l.length<=1000):(dY w l).length<=600000:=by
 have h:∀l:List S,(l.flatMap (fun x=>32::spV x)).length<=l.length*501:=by
  intro l
  induction l with
  |nil=>simp
  |cons a l ih=>rw[List.flatMap_cons,zqa,zrt,zrt];have:=Vd a;omega
 unfold dY;have:=h l;simp only[zqa,zrt,List.length_nil];omega
theorem G8(c:Ci)(p:Nat->Bool):O.drop p (ciO c)=ciO c:=rfl
structure PW(c:Ci)(out:S)(h:H):Prop where
 w:Wr 1 2 out h
 c0:h[0]? =some (.cells [aV c.ins,aV c.outs,oK c.lat,iZ c.gates])
theorem DL.c0{c:Ci}{out out':S}{h h':H}(k:DL 1 2 h h')(pw:PW c out h)(w:Wr 1 2 out' h'):PW c out' h':=⟨w,k.cells pw.c0 (by decide) (by decide) (fun p=>by
 have:=G8 c p;exact O.cells.inj this)⟩
theorem PW.more{c:Ci}{out:S}{h:H}(pw:PW c out h)(ho:out≠[])(o:O):PW c out (h++[o]):=by
 have old:∀j x,h[j]? =some x->(h++[o])[j]? =some x:=fun j x hx=>by rw[zqj (zqe hx).1];exact hx
 refine⟨.inr ?_,old _ _ pw.c0⟩;rcases pw.w with⟨h1,_⟩|⟨_,h2,h3⟩
 ·exact absurd h1 ho
 ·exact⟨ho,old _ _ h2,old _ _ h3⟩
theorem tu{p:Nat->Bool}(hp:∀j,p j=true->j=2){j:Nat}(hj:j≠2):p j=false:=by
 cases h:p j with
 |false=>rfl
 |true=>exact absurd (hp j h) hj
theorem QC[MO]{c:Ci}{out w:S}{l:List S}{x:Bool}{h:H}{R:AEnd->H->(Nat->Bool)->Prop}(pw:PW c out h)(hw:w≠[])(hw2:w.length<=10)(hl:l.length<=1000)(ho:out.length<=10000000000000)
 (hr:∀v h' p,p 0=false->p 1=false->(∀j,p j=true->j=2)->PW c (out++dY w l) h'->DL 1 2 h h'->R (.ret v) h' p):ag TE 20 [.lp 1 0,.str w,.is x 1 (l.map V.str)] h R:=by
 have hll:=jb hw2 hl;exact jZ (gX.cons (VLe.refl _) (gX.cons (VLe.refl _) (gX.cons pW gX.nil))) (HLe.refl _) (yU (l:=l) (by decide) pw.w hw (by omega) (by omega) fun v h' p hp hw' hk=>hr v h' p (tu hp (by decide)) (tu hp (by decide)) hp (hk.c0 pw hw') hk)
theorem Ve[MO]{c:Ci}{out w:S}{h:H}{R:AEnd->H->(Nat->Bool)->Prop}(pw:PW c out h)(hw:w≠[])(hw2:w.length<=10)(ho:out.length<=10000000000000)
 (hr:∀v h' p,p 0=false->p 1=false->(∀j,p j=true->j=2)->PW c (out++dY w []) h'->DL 1 2 h h'->R (.ret v) h' p):ag TE 20 [.lp 1 0,.str w,.nils] h R:=by
 have hll:=jb (l:=[]) hw2 (by decide);exact jZ (gX.cons (VLe.refl _) (gX.cons (VLe.refl _) (gX.cons VLe.nils gX.nil))) (HLe.refl _) (yU (l:=[]) (by decide) pw.w hw (by omega) (by decide) fun v h' p hp hw' hk=>hr v h' p (tu hp (by decide)) (tu hp (by decide)) hp (hk.c0 pw hw') hk)
theorem Jd[MO](c:Ci)(hs:Sum c)(h:(mO c).1≠0):Ev TE 8 [c.v] (.tup [.str [],vi 1]):=by
 have hO:=rq c hs;have e:((mO c).1 != 0)=true:=by simpa using h
 refine ah Tryz.func8 rfl (by simp[nts]) (vm ?_);simp only[wq.1,seval,Tryz.results8];refine ag.ev hO (ja c) ?_;simp only[wq.1,seval,e];exact aA.tup (au.cons (aA.dat rfl) (au.cons (aA.dat rfl) au.nil))
def rG(q:Ga)(C:Nat):List (Nat×Nat×V):=[(0,67,.lp 1 0),(1,68,.is true 1 []),(2,69,.lp C 2),(3,70,aV q.ins),(5,72,.lp C 0),(6,73,.str q.name),(7,74,.is true 1 [.str q.name])]
abbrev gaO(q:Ga):O:= .cells [.str q.name,vi q.op,aV q.ins,aV q.rows,.bool q.off]
structure G17(C:Nat)(f f0:Fr):Prop where
 t1:f.t 1= .lp 0 0
 t6:f.t 6= .lp 1 0
 t10:f.t 10= .lp C 0
 t59:f.t 59=f0.t 59
 t60:f.t 60=f0.t 60
 t61:f.t 61=f0.t 61
 d:f.d=[]
theorem G17.put{C:Nat}{f f0:Fr}(g:G17 C f f0){d:Nat}{v:V}(hd:d∉[1,6,10,59,60,61]):G17 C (f.put (some d) v) f0:=by simp only[zrj,zrp,or_false,not_or]at hd;obtain⟨h0,h2,h3,h4,h5,h6⟩:=hd;exact⟨by simpa [Fr.put,Ne.symm h0]using g.t1,by simpa [Fr.put,Ne.symm h2]using g.t6,by simpa [Fr.put,Ne.symm h3]using g.t10,by simpa [Fr.put,Ne.symm h4]using g.t59,by simpa [Fr.put,Ne.symm h5]using g.t60,by simpa [Fr.put,Ne.symm h6]using g.t61,g.d⟩
theorem G17.drop{C:Nat}{f f0:Fr}(g:G17 C f f0){p:Nat->Bool}(h0:p 0=false)(h1:p 1=false)(hC:p C=false)(e59:∀p,(f0.t 59).drop p=f0.t 59)(e60:∀p,(f0.t 60).drop p=f0.t 60)(e61:∀p,(f0.t 61).drop p=f0.t 61):G17 C (f.drop p) f0:=by
 refine⟨?_,?_,?_,?_,?_,?_,g.d⟩
 ·show(f.t 1).drop p=_;rw[g.t1,V.drop,h0];rfl
 ·show(f.t 6).drop p=_;rw[g.t6,V.drop,h1];rfl
 ·show(f.t 10).drop p=_;rw[g.t10,V.drop,hC];rfl
 ·show(f.t 59).drop p=_;rw[g.t59,e59]
 ·show(f.t 60).drop p=_;rw[g.t60,e60]
 ·show(f.t 61).drop p=_;rw[g.t61,e61]
def H17(c:Ci)(q:Ga)(out:S)(C NR:Nat)(h0:H)(L:Array Bool)(h:H):Prop :=
 if L.getD 9 false=true then PW c (out++dY gI (q.ins++[q.name])) h/\h[C]? =some (gaO q)
 else if L.getD 8 false=true then h=h0.map (O.drop (·==NR))++[.cells ((q.ins++[q.name]).map V.str)]
 else if L.getD 4 false=true then h=h0++[.cells (q.ins.map V.str)]
 else h=h0
theorem uq:∀l:List S,dm (l.map V.str)=true
 |[]=>rfl
 |a::l=>by show(_&&dm (l.map V.str))=true;rw[uq l];rfl
theorem PW.dropped{c:Ci}{out:S}{h:H}(pw:PW c out h)(ho:out≠[]){p:Nat->Bool}(h1:p 1=false)(h2:p 2=false):PW c out (h.map (O.drop p)):=by
 refine⟨.inr ?_,?_⟩
 ·rcases pw.w with⟨e,_⟩|⟨_,a,b⟩
  ·exact absurd e ho
  ·refine⟨ho,?_,?_⟩
   ·rw[zqo,a];show some (O.typed _ [V.drop p _,V.drop p _])=_;rw[V.drop,h1,V.drop,h2];rfl
   ·rw[zqo,b];show some (O.typed _ (V.drops p _))=_;rw[oI]
 ·rw[zqo,pw.c0];exact congrArg some (G8 c p)
theorem TM[MO]{c:Ci}{q:Ga}{out:S}{C:Nat}{h0:H}{r:Option Nat}{Q:XE->Fr->H->Prop}{f0:Fr}(pw:PW c out h0)(hc:h0[C]? =some (gaO q))(hC1:C≠1)(hC2:C≠2)(hC0:0<C)(hNR:2<h0.length)(hne:out≠[])(ho:out.length<=1000000000000)(hi:q.ins.length<=900)
 (g0:G17 C f0 f0) (e59:∀p,(f0.t 59).drop p=f0.t 59) (e60:∀p,(f0.t 60).drop p=f0.t 60) (e61:∀p,(f0.t 61).drop p=f0.t 61)
 (hk:∀f h,PW c (out++dY gI (q.ins++[q.name])) h->h[C]? =some (gaO q)->G17 C f f0->Q .normal f h) :
 awp TE 108 r (.region 17 (xY Tryz.f8 17) true) Q f0 h0:=by
 simp only[xY,Tryz.f8,uG,List.nil_append,zqp,List.headD_cons,Nat.reduceBEq,zrm,if_false,if_true,List.cons_append];have hM:=mLx;obtain⟨NR,hNRe⟩:∃NR,NR=h0.length:=⟨_,rfl⟩;have hCl:C<NR:=by rw[hNRe];exact(zqe hc).1
 refine qM mixed (fun L f h=>H17 c q out C NR h0 L h/\FA L f (rG q C)/\G17 C f f0/\(L.getD 4 false=true->L.getD 8 false=false->f.t 71= .ls NR 1 0 q.ins.length q.ins.length)/\(L.getD 8 false=true->L.getD 9 false=false->f.t 75= .ls NR 1 0 (q.ins.length+1) (q.ins.length+1))) (by decide +kernel) ?_ ?_ ?_
 ·refine⟨?_,FA.none,g0,fun h=> ?_,fun h=> ?_⟩
  ·unfold H17;rw[if_neg (by decide),if_neg (by decide),if_neg (by decide)]
  ·exfalso;revert h;decide +kernel
  ·exfalso;revert h;decide +kernel
 ·rintro L f h i hcl ⟨hh,hfa,hg,h4,h8⟩ hi;have hlt:i<10:=qL hi;have no:=nM hi;have sz:=lg hi;have t6:=hg.t6;have t10:=hg.t10;have pu:∀(d:Nat)(v:V),(∀x∈rG q C,x.1=i->x.2.1=d/\x.2.2=v)->(∀x∈rG q C,x.2.1=d->x.1=i)->(decide (d∉([1,6,10,59,60,61,71,75]:List Nat))&&decide (i∉([4,8,9]:List Nat)))=true ->
   (H17 c q out C NR h0 (L.setIfInBounds i true) h/\FA (L.setIfInBounds i true) (f.put (some d) v) (rG q C)/\G17 C (f.put (some d) v) f0/\((L.setIfInBounds i true).getD 4 false=true->(L.setIfInBounds i true).getD 8 false=false->(f.put (some d) v).t 71= .ls NR 1 0 q.ins.length q.ins.length)/\((L.setIfInBounds i true).getD 8 false=true->(L.setIfInBounds i true).getD 9 false=false->(f.put (some d) v).t 75= .ls NR 1 0 (q.ins.length+1) (q.ins.length+1))):=by
   intro d v h1 h2 h3;rw[zqf,zqb,zqb]at h3;simp only[zrj,zrp,or_false,not_or]at h3;obtain⟨⟨d1,d6,d10,d59,d60,d61,d71,d75⟩,i4,i8,i9⟩:=h3;have g:∀j,j≠i->(L.setIfInBounds i true).getD j false=L.getD j false:=fun j hj=>getD_set_ne false (Ne.symm hj);have p:∀j,j≠d->(f.put (some d) v).t j=f.t j:=fun j hj=>by simp[Fr.put,hj]
   refine⟨?_,hfa.put h1 h2,hg.put (by simp[d1,d6,d10,d59,d60,d61]),?_,?_⟩
   ·unfold H17;rw[g 9 (Ne.symm i9),g 8 (Ne.symm i8),g 4 (Ne.symm i4)];exact hh
   ·rw[g 4 (Ne.symm i4),g 8 (Ne.symm i8),p 71 (Ne.symm d71)];exact h4
   ·rw[g 8 (Ne.symm i8),g 9 (Ne.symm i9),p 75 (Ne.symm d75)];exact h8
  have hcell:L.getD 9 false=false->h[C]? =some (gaO q):=fun h9=>by
   unfold H17 at hh;rw[h9,if_neg (by decide)]at hh;split at hh
   ·rw[hh,zqj (by rw[zra,<-hNRe];exact hCl),zqo,hc];have:O.drop (fun x=>x==NR) (gaO q)=gaO q:=rfl;rw[zrw,this]
   ·split at hh
    ·rw[hh,zqj (by rw[<-hNRe];exact hCl),hc]
    ·rw[hh,hc]
  match i,hlt with
  |0,_=>have pu:=pu 67 (.lp 1 0) (by simp[rG]) (by simp[rG]) (by decide);simp only[wq.1,↓reduceIte,Nat.reduceEqDiff,Nat.reduceLT,t6];exact pu
  |1,_=>have pu:=pu 68 (.is true 1 []) (by simp[rG]) (by simp[rG]) (by decide);simp only[wq.1,↓reduceIte,Nat.reduceEqDiff,Nat.reduceLT,Nat.reduceMul];exact⟨⟨rfl,by decide⟩,pu⟩
  |2,_=>have pu:=pu 69 (.lp C 2) (by simp[rG]) (by simp[rG]) (by decide);simp only[wq.1,seval,t10];exact pu
  |3,_=>have dp:=aN hi (l:=[2]) (by decide +kernel);have e:=hfa (2,69,.lp C 2) (by simp[rG]) (dp 2 (by simp));have n4:L.getD 4 false=false:=aZ hcl no (by decide +kernel);have n8:L.getD 8 false=false:=aZ hcl n4 (by decide +kernel);have n9:L.getD 9 false=false:=aZ hcl n8 (by decide +kernel);have hcc:=hcell n9;have pu:=pu 70 (aV q.ins) (by simp[rG]) (by simp[rG]) (by decide);simp only[wq.1,seval,e,hcc];exact pu
  |4,_ =>
   have dp:=aN hi (l:=[1,3]) (by decide +kernel);have e68:=hfa (1,68,.is true 1 []) (by simp[rG]) (dp 1 (by simp));have e70:=hfa (3,70,aV q.ins) (by simp[rG]) (dp 3 (by simp));have n8:L.getD 8 false=false:=aZ hcl no (by decide +kernel);have n9:L.getD 9 false=false:=aZ hcl n8 (by decide +kernel);have g:∀j,j≠4->(L.setIfInBounds 4 true).getD j false=L.getD j false:=fun j hj=>getD_set_ne false (Ne.symm hj);have sf:(L.setIfInBounds 4 true).getD 4 false=true:=by simp[Array.getD,sz]
   have hh':h=h0:=by unfold H17 at hh;rw[n9,if_neg (by decide),n8,if_neg (by decide),no,if_neg (by decide)]at hh;exact hh
   subst hh';simp only[wq.1,seval,e68,e70];rw[<-hNRe];refine⟨uq _,⟨by omega,by omega⟩,?_,hfa.put' rfl,hg.put (by simp),fun _ _=>rfl,fun h8t=> ?_⟩
   ·unfold H17;rw[g 9 (by decide),n9,if_neg (by decide),g 8 (by decide),n8,if_neg (by decide),sf,if_pos rfl]
   ·rw[g 8 (by decide),n8]at h8t;cases h8t
  |5,_=>have pu:=pu 72 (.lp C 0) (by simp[rG]) (by simp[rG]) (by decide);simp only[wq.1,seval,t10];exact pu
  |6,_=>have dp:=aN hi (l:=[5]) (by decide +kernel);have e:=hfa (5,72,.lp C 0) (by simp[rG]) (dp 5 (by simp));have n7:L.getD 7 false=false:=aZ hcl no (by decide +kernel);have n8:L.getD 8 false=false:=aZ hcl n7 (by decide +kernel);have n9:L.getD 9 false=false:=aZ hcl n8 (by decide +kernel);have hcc:=hcell n9;have pu:=pu 73 (.str q.name) (by simp[rG]) (by simp[rG]) (by decide);simp only[wq.1,↓reduceIte,Nat.reduceEqDiff,Nat.reduceLT,Nat.reduceLeDiff,Nat.reduceAdd,e,hcc];exact pu
  |7,_=>have dp:=aN hi (l:=[6]) (by decide +kernel);have e:=hfa (6,73,.str q.name) (by simp[rG]) (dp 6 (by simp));have pu:=pu 74 (.is true 1 [.str q.name]) (by simp[rG]) (by simp[rG]) (by decide);simp only[wq.1,↓reduceIte,Nat.reduceEqDiff,Nat.reduceLT,reduceCtorEq,Nat.reduceMul,e];exact⟨⟨rfl,by decide⟩,pu⟩
  |8,_ =>
   have dp:=aN hi (l:=[4,7]) (by decide +kernel);have e71:=h4 (dp 4 (by simp)) no;have e74:=hfa (7,74,.is true 1 [.str q.name]) (by simp[rG]) (dp 7 (by simp));have n9:L.getD 9 false=false:=aZ hcl no (by decide +kernel);have g:∀j,j≠8->(L.setIfInBounds 8 true).getD j false=L.getD j false:=fun j hj=>getD_set_ne false (Ne.symm hj);have sf:(L.setIfInBounds 8 true).getD 8 false=true:=by simp[Array.getD,sz]
   have hh':h=h0++[.cells (q.ins.map V.str)]:=by unfold H17 at hh;rw[n9,if_neg (by decide),no,if_neg (by decide),if_pos (dp 4 (by simp))]at hh;exact hh
   subst hh';have hgN:(h0++[O.cells (q.ins.map V.str)])[NR]? =some (.cells (q.ins.map V.str)):=by rw[hNRe];simp
   have hd6:=hg.d;obtain⟨X3,hX3⟩:∃X3,X3=(q.ins++[q.name]).map V.str:=⟨_,rfl⟩;have hnx:q.ins.map V.str++[.str q.name]=X3:=by rw[hX3,zql];rfl
   have hd3:V.drops (fun x=>x==NR) X3=X3:=by rw[hX3,aC]
   simp only[wq.1,seval,e71,e74,hgN,hnx,hd3,hd6];have bN:∀j,j<NR->(j==NR)=false:=fun j hj=>by rw[beq_eq_false_iff_ne];omega
   refine⟨⟨by omega,by omega,by omega⟩,?_,(hfa.drop ?_).put' rfl,(hg.drop (bN 0 (by omega)) (bN 1 (by omega)) (bN C hCl) e59 e60 e61).put (by simp),fun _ h8f=> ?_⟩
   ·unfold H17;rw[g 9 (by decide),n9,if_neg (by decide),sf,if_pos rfl,hX3];have hl:NR=(h0.map (O.drop fun x=>x==NR)).length:=by rw[zra];exact hNRe
    rw[List.set_append_right _ _ (by omega),show NR-(h0.map (O.drop fun x=>x==NR)).length=0 by omega];rfl
   ·intro x hx;simp only[rG,zrj,zrp,or_false]at hx;rcases hx with rfl|rfl|rfl|rfl|rfl|rfl|rfl<;>first|rfl|(simp only[V.drop];rw[if_neg (by simp;omega)])
   ·rw[sf]at h8f;cases h8f
  |9,_ =>
   have dp:=aN hi (l:=[0,8]) (by decide +kernel);have e67:=hfa (0,67,.lp 1 0) (by simp[rG]) (dp 0 (by simp));have e75:=h8 (dp 8 (by simp)) no;have g:∀j,j≠9->(L.setIfInBounds 9 true).getD j false=L.getD j false:=fun j hj=>getD_set_ne false (Ne.symm hj);have sf:(L.setIfInBounds 9 true).getD 9 false=true:=by simp[Array.getD,sz]
   have hh':h=h0.map (O.drop (·==NR))++[.cells ((q.ins++[q.name]).map V.str)]:=by unfold H17 at hh;rw[no,if_neg (by decide),if_pos (dp 8 (by simp))]at hh;exact hh
   simp only[wq.1,seval,e67,e75];have bN:∀j,j<NR->(j==NR)=false:=fun j hj=>by rw[beq_eq_false_iff_ne];omega
   have pw2:=(pw.dropped (p:=fun x=>x==NR) hne (bN 1 (by omega)) (bN 2 (by omega))).more hne (.cells ((q.ins++[q.name]).map V.str));rw[<-hh']at pw2;have hnN:h[NR]? =some (.cells ((q.ins++[q.name]).map V.str)):=by rw[hh',zsb (by rw[zra];omega),zra,show NR-h0.length=0 by omega];rfl
   have hln:(q.ins++[q.name]).length=q.ins.length+1:=by simp
   have hll:=jb (w:=gI) (l:=q.ins++[q.name]) (by decide) (by rw[hln];omega);have hcc:=hcell no;have hlc:=FC (id:=1) (b:=2) (NR:=NR) (w:=gI) (l:=q.ins++[q.name]) (out:=out) (h:=h) (R:=dW (some 76) (fun f' h'=>H17 c q out C NR h0 (L.setIfInBounds 9 true) h'/\FA (L.setIfInBounds 9 true) f' (rG q C)/\G17 C f' f0/\((L.setIfInBounds 9 true).getD 4 false=true->(L.setIfInBounds 9 true).getD 8 false=false->f'.t 71=V.ls NR 1 0 q.ins.length q.ins.length)/\((L.setIfInBounds 9 true).getD 8 false=true->(L.setIfInBounds 9 true).getD 9 false=false->f'.t 75=V.ls NR 1 0 (q.ins.length+1) (q.ins.length+1))) Q f) (by decide) pw2.w hnN (by omega) (by omega) (by decide) (by omega) (by rw[hln];omega);rw[hln]at hlc;refine hlc ?_;intro v h' p hp hw' hk';have pw3:=hk'.c0 pw2 hw';have hgC:=hk'.cells hcc hC1 hC2 (fun p=>by
    have:O.drop p (gaO q)=gaO q:=rfl;exact O.cells.inj this)
   simp only[wq.1,seval,bn];refine⟨fun j hj=>(by rw[hg.d]at hj;cases hj),?_,(hfa.drop ?_).put' rfl,(hg.drop (tu hp (by decide)) (tu hp (by decide)) (tu hp hC2) e59 e60 e61).put (by simp),fun _ h8f=> ?_,fun _ h9f=> ?_⟩
   ·unfold H17;rw[sf,if_pos rfl];exact⟨pw3,hgC⟩
   ·intro x hx;simp only[rG,zrj,zrp,or_false]at hx;rcases hx with rfl|rfl|rfl|rfl|rfl|rfl|rfl<;>first|rfl|(simp only[V.drop];rw[if_neg (by(first|rw[tu hp hC2]|rw[tu hp (by decide)]);decide)])
   ·rw[g 8 (by decide),dp 8 (by simp)]at h8f;cases h8f
   ·rw[sf]at h9f;cases h9f
 ·rintro L f h hall ⟨hh,hfa,hg,h4,h8⟩;have hs:∀i,i<10->L.getD i false=true:=fun i hi=>hall i hi;unfold H17 at hh;rw[if_pos (hs 9 (by omega))]at hh;exact hk f h hh.1 hh.2 hg
end Go.Proofs.YtokppohljajhjaaGreatDoor
