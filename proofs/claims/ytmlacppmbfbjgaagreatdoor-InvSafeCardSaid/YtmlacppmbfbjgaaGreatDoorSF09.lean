/- Lemmas for this claim, part F09: each holds under what it names. -/
import Derived.Test.YtmlacppmbfbjgaaGreatDoorSF08
import Derived.Test.YtmlacppmbfbjgaaGreatDoorSA9
set_option linter.unusedVariables false
set_option linter.unusedSimpArgs false
set_option linter.unnecessarySimpa false
set_option maxRecDepth 20000
set_option maxHeartbeats 4000000
namespace Go.Proofs.YtmlacppmbfbjgaaGreatDoor
open Go Go.Proofs Go.Abs
def lv (v:List Bool) (a:Int):Bool:=v.getD (a/2).toNat false != (a%2==1)
theorem WR {a:Int} (h0:0≤a) (h1:a≤1000000000):IntKind.i64.wrap ((BitVec.ofInt IntKind.i64.bits a &&& BitVec.ofInt IntKind.i64.bits 1).toNat:Int)=a%2:=by
 obtain⟨n,rfl⟩:∃n:Nat,a=n:=⟨a.toNat,by omega⟩;have e1:(BitVec.ofInt IntKind.i64.bits (n:Int) &&& BitVec.ofInt IntKind.i64.bits 1).toNat=n%2:=by
  show(BitVec.ofInt 64 (n:Int) &&& BitVec.ofInt 64 1).toNat=n%2;rw[BitVec.toNat_and];have:(BitVec.ofInt 64 (n:Int)).toNat=n:=by simp;omega
  rw[this];show n &&& 1=n%2;exact Nat.and_one_is_mod n
 rw[e1,dN (by omega) (by omega)];omega
theorem WC (a:Int):a.fdiv (2^(min 1 IntKind.i64.bits))=a/2:=by show a.fdiv 2=a/2;rw[Int.fdiv_eq_ediv_of_nonneg _ (by decide)]
theorem wJ (v:List Bool) (a:Int) (h0:0≤a) (h1:a/2<v.length) (h2:a≤1000000000):Ev TE 52 [aY v,vi a] (.bool (lv v a)):=by
 obtain⟨k,hk⟩:∃k:Nat,a/2=k:=⟨(a/2).toNat,by omega⟩;have hkl:k<v.length:=by omega
 have hg:(v.map V.bool).getD k .any= .bool v[k]:=Vd hkl _;refine ak Tryz.func52 rfl (by simp[nts]) (vm ?_);simp only[wq.1,seval,Tryz.results52,WC,WR h0 h2,hk,hg];refine⟨⟨by omega,by omega⟩,?_⟩;refine aQ rfl ?_;unfold lv;rw[hk,Int.toNat_natCast,iU hkl];rfl
def iE (g:Gr) (st ins:List Bool) (n:Nat):List Bool:=(g.ands.take n).foldl (fun v p=>v++[lv v p.1&&lv v p.2]) ([false]++ins++st)
def Gr.vals (g:Gr) (st ins:List Bool):List Bool:=iE g st ins g.ands.length
def Gr.valE (g:Gr) (st ins:List Bool):Int:=if g.chk≠0 then g.chk else if((st.length:Int) != (g.next.length:Int))||((ins.length:Int) != g.ins)then 11 else 0
def Gr.valV (g:Gr) (st ins:List Bool):List Bool:=if g.valE st ins=0 then g.vals st ins else []
theorem oO {g:Gr} {st ins:List Bool} {i:Nat} (h:i<g.ands.length):iE g st ins (i+1)=iE g st ins i++[lv (iE g st ins i) g.ands[i].1&&lv (iE g st ins i) g.ands[i].2]:=by unfold iE;rw[zrg,List.foldl_append];simp[h]
theorem wK {g : Gr} {st ins : List Bool} : ∀ {i : Nat},i ≤ g.ands.length → (iE g st ins i).length = 1 + ins.length + st.length + i
 | 0,_=>by simp[iE];omega
 | i+1,h=>by rw[oO (by omega),zqa,wK (by omega)];simp;omega
theorem uD {g:Gr} (h:g.oddAs g.ands.length=false) {i:Nat} (hi:i<g.ands.length):0≤g.ands[i].1∧0≤g.ands[i].2∧g.ands[i].1<2*(g.first+i)∧g.ands[i].2<2*(g.first+i):=by unfold Gr.oddAs at h;rw[List.any_eq_false]at h;have:=h i (List.mem_range.2 hi);rw[iU hi]at this;simp only[Xe,Bool.or_eq_true,zqb,not_or]at this;omega
theorem I9 (g:Gr) (st ins:List Bool) (hs:g.Sm):Ev TE 50 [g.v,aY st,aY ins] (.tup [aY (g.valV st ins),vi (g.valE st ins)]):=by
 have hgc:=sK g hs;have dg:V.dats [.agg [vi g.ins,aF g.next,aF g.init,prs g.ands,aF g.outs]]=true:=by simp only[V.dats,V.dat,zre]
 unfold Gr.v at hgc ⊢;refine Ev.bnd fun hb=> ?_;have hl1:st.length≤maxLen:=La (r:=[aY ins]) (by simp only[V.bnds]at hb ⊢;exact hb.2);refine ak Tryz.func50 rfl (by simp[nts]) (vm ?_);simp only[wq.1,seval,Tryz.results50];refine ah.ev hgc dg ?_;simp only[wq.1,seval];refine vcB.mk (fun hc=> ?_) (fun hc=> ?_)
 ·simp only [wq.1,seval];have h1 : g.valE st ins = g.chk := by unfold Gr.valE;rw [if_pos (by simpa using hc)]
  have h2:g.valV st ins=[]:=by unfold Gr.valV;rw[if_neg (by rw[h1];simpa using hc)]
  rw[h1,h2];exact az.tup (aj.cons az.nils (aj.dat rfl))
 ·have hg : g.chk = 0 := by simpa using hc
  have go:=fE hg;obtain⟨_,i0,i1,i2,i3,i4,i5⟩:=go;have fin:((st.length:Int) != (g.next.length:Int))||((ins.length:Int) != g.ins)→az TE [.cells [vi g.ins,aF g.next,aF g.init,prs g.ands,aF g.outs]] (.tup [.nils,vi 11]) (.tup [aY (g.valV st ins),vi (g.valE st ins)]):=fun h=>by
   have h1:g.valE st ins=11:=by unfold Gr.valE;rw[if_neg (by simp[hg]),if_pos h]
   have h2:g.valV st ins=[]:=by unfold Gr.valV;rw[if_neg (by rw[h1];decide)]
   rw[h1,h2];exact az.tup (aj.cons az.nils (aj.dat rfl))
  cases e1:(st.length:Int) != (g.next.length:Int)with
  | true=>simp only[wq.1,seval,e1];exact fin (by simp[e1])
  | false =>
   cases e2:(ins.length:Int) != g.ins with
   | true=>simp only[wq.1,seval,-Int.reduceNatCast,-Int.reduceNatCast',au,Tryz.results50,e1,e2];exact fin (by simp[e1,e2])
   | false =>
    simp only[bne_eq_false_iff_eq]at e1 e2;have hcat:EvF TE 90 [.is true 1 [.is true 1 [V.bool false],aY ins,aY st]] 1 ([[false],ins,st].flatten).length (([[false],ins,st].flatten).map V.bool) :=
     (CB [[false],ins,st] (by simp;omega) (by simp)).les (gU.cons (VLe.is rfl (fun i v v' h1 h2=>by
      rcases i with _ | _ | _ | i
      ·cases h1;cases h2;exact bW
      ·cases h1;cases h2;exact VLe.refl _
      ·cases h1;cases h2;exact VLe.refl _
      ·cases h1)) (gU.refl _))
    have hfl:[[false],ins,st].flatten=iE g st ins 0:=by simp[iE]
    rw[hfl]at hcat;simp only[wq.1,↓reduceIte,Nat.reduceEqDiff,Nat.reduceLT,Nat.reduceLeDiff,Nat.reduceAdd,Nat.reduceSub,Int.reduceToNat,Nat.reduceDiv,Int.reduceLT,Int.reduceLE,Int.reduceNeg,Int.reduceBEq,Int.reduceBNe,Int.reduceAdd,Int.reduceSub,Nat.reduceBEq,reduceCtorEq,Nat.reduceMul,au,Tryz.results50,e1,e2,bne_self_eq_false];refine⟨⟨rfl,by decide⟩,⟨rfl,by decide⟩,yc hcat rfl (FX _) ?_⟩;simp only[wq.1,seval];refine aC (fun m f h=>∃i G,m+i=g.ands.length∧f.t 3= .lp 0 0∧f.t 36=prs g.ands∧f.t 37=vi g.ands.length∧f.t 38=vi i∧f.t 9= .ls 1 1 0 (iE g st ins i).length (iE g st ins i).length∧f.d=[]∧h=[.cells [vi g.ins,aF g.next,aF g.init,prs g.ands,aF g.outs],.cells ((iE g st ins i).map V.bool)]++G) g.ands.length ⟨0,[],by simp,by simp only[wq.1,seval],by simp only[wq.1,seval],by simp only[wq.1,seval],by(simp only[wq.1,↓reduceIte]);rfl,by simp only[wq.1,seval],by simp only[wq.1],by simp⟩ ?_;rintro m f h ⟨i,G,hm,h3,h36,h37,h38,h9,hd,rfl⟩;refine vm ?_;simp only[wq.1,seval,-Int.reduceNatCast,-Int.reduceNatCast',au,Tryz.results50,h3,h36,h37,h38,h9,hd];refine vcB.mk (fun hlt=> ?_) (fun hlt=> ?_)
    ·simp only [zqb,zqi] at hlt;have hgp : (g.ands.map prV).getD i .any = prV g.ands[i] := fO hlt _;have hM : maxLen = 9223372036854775807 := rfl;have hgE : ∀ x : O,(G ++ [x])[G.length]? = some x := fun x => by simp
     have hgS:∀x y:O,(G++[x]).set G.length y=G++[y]:=fun x y=>by simp
     have hln:=wK (g:=g) (st:=st) (ins:=ins) (i:=i) (by omega);obtain⟨o1,o2,o3,o4⟩:=uD i5 hlt;have wf:g.first=1+g.ins+g.next.length:=rfl
     simp only[wq.1,seval,-Int.reduceNatCast,-Int.reduceNatCast',au,Tryz.results50,h3,h36,h37,h38,h9,hd,hgp,hgE,hgS,List.drop_nil];have key:∀b,(lv (iE g st ins i) g.ands[i].1&&lv (iE g st ins i) g.ands[i].2)=b→iE g st ins (i+1)=iE g st ins i++[b]:=fun b hb=>by rw[oO hlt,hb]
     have rv:∀G':H,∀b:Int,aj TE (O.cells [vi g.ins,aF g.next,aF g.init,prs g.ands,aF g.outs]::O.cells (List.map V.bool (iE g st ins i))::G') [.ls 1 1 0 (iE g st ins i).length (iE g st ins i).length,vi b] [aY (iE g st ins i),vi b]:=fun G' b=>aj.cons (lZ rfl rfl) (aj.cons (az.dat rfl) aj.nil);refine⟨⟨by omega,by omega⟩,by decide,ah.lend (wJ (iE g st ins i) g.ands[i].1 o1 (by omega) (by omega)) (rv _ _) rfl ?_⟩;cases hv1:lv (iE g st ins i) g.ands[i].1 with
     | true =>
      simp only[wq.1,seval,-Int.reduceNatCast,-Int.reduceNatCast',au,Tryz.results50,aW,h3,h36,h37,h38,h9,hd,hgp,hgE,hgS];refine⟨by decide,ah.lend (wJ (iE g st ins i) g.ands[i].2 o2 (by omega) (by omega)) (rv _ _) rfl ?_⟩;simp only[wq.1,↓reduceIte,Nat.reduceEqDiff,Nat.reduceLT,reduceCtorEq,Nat.reduceMul,h38,hd,pV,aA (show i<maxLen by omega)];refine⟨⟨rfl,by decide⟩,⟨by omega,by omega,by omega⟩,.inl ⟨m-1,by omega,i+1,List.map (O.drop fun x=>x==1) G++[O.cells [vi g.ands[i].1,vi g.ands[i].2]],by omega,by simp only[wq.1,seval,h3],by simp only[wq.1,seval,h36],by simp only[wq.1,seval,h37],rfl,?_,by simp only[wq.1,hd],?_⟩⟩
      ·rw[key _ rfl,hv1,zqa];rfl
      ·rw[key _ rfl,hv1,zql];rfl
     | false =>
      simp only[wq.1,↓reduceIte,Nat.reduceEqDiff,Nat.reduceLT,Nat.reduceAdd,Int.reduceToNat,Int.reduceLE,reduceCtorEq,Nat.reduceMul,h38,h9,hd,hgE,pV,aA (show i<maxLen by omega)];refine⟨.bool false,?_⟩;simp only[wq.1,↓reduceIte,Nat.reduceEqDiff,Nat.reduceLT,Nat.reduceLeDiff,Nat.reduceAdd,Nat.reduceSub,Int.reduceToNat,Nat.reduceDiv,Int.reduceLT,Int.reduceLE,Int.reduceNeg,Int.reduceBEq,Int.reduceBNe,Int.reduceAdd,Int.reduceSub,Nat.reduceBEq,reduceCtorEq,Nat.reduceMul,au,Tryz.results50,aW,h3,h36,h37,h38,h9,hd,hgp,hgE,hgS,FW,pV,aA (show i<maxLen by omega)];refine⟨⟨rfl,by decide⟩,⟨by omega,by omega,by omega⟩,.inl ⟨m-1,by omega,i+1,List.map (O.drop fun x=>x==1) G++[O.cells [vi g.ands[i].1,vi g.ands[i].2]],by omega,by simp only[wq.1,↓reduceIte,Nat.reduceEqDiff,Nat.reduceLT,Nat.reduceLeDiff,Nat.reduceAdd,Nat.reduceSub,Int.reduceToNat,Nat.reduceDiv,Int.reduceLT,Int.reduceLE,Int.reduceNeg,Int.reduceBEq,Int.reduceBNe,Int.reduceAdd,Int.reduceSub,Nat.reduceBEq,reduceCtorEq,Nat.reduceMul,au,Tryz.results50,h3],by simp only[wq.1,↓reduceIte,Nat.reduceEqDiff,Nat.reduceLT,Nat.reduceLeDiff,Nat.reduceAdd,Nat.reduceSub,Int.reduceToNat,Nat.reduceDiv,Int.reduceLT,Int.reduceLE,Int.reduceNeg,Int.reduceBEq,Int.reduceBNe,Int.reduceAdd,Int.reduceSub,Nat.reduceBEq,reduceCtorEq,Nat.reduceMul,au,Tryz.results50,h36],by simp only[wq.1,↓reduceIte,Nat.reduceEqDiff,Nat.reduceLT,Nat.reduceLeDiff,Nat.reduceAdd,Nat.reduceSub,Int.reduceToNat,Nat.reduceDiv,Int.reduceLT,Int.reduceLE,Int.reduceNeg,Int.reduceBEq,Int.reduceBNe,Int.reduceAdd,Int.reduceSub,Nat.reduceBEq,reduceCtorEq,Nat.reduceMul,au,Tryz.results50,h37],rfl,?_,by simp only[wq.1,↓reduceIte,Nat.reduceEqDiff,Nat.reduceLT,Nat.reduceLeDiff,Nat.reduceAdd,Nat.reduceSub,Int.reduceToNat,Nat.reduceDiv,Int.reduceLT,Int.reduceLE,Int.reduceNeg,Int.reduceBEq,Int.reduceBNe,Int.reduceAdd,Int.reduceSub,Nat.reduceBEq,reduceCtorEq,Nat.reduceMul,au,Tryz.results50,hd],?_⟩⟩
      ·rw[key _ rfl,hv1,zqa];rfl
      ·rw[key _ rfl,hv1,zql];rfl
    ·simp only [zqd,zqi] at hlt;have hi : i = g.ands.length := by omega
     simp only[wq.1,seval,h9,hd];have hE:g.valE st ins=0:=by unfold Gr.valE;rw[if_neg (by simp[hg]),if_neg (by simp;omega)]
     have hV:g.valV st ins=iE g st ins i:=by unfold Gr.valV Gr.vals;rw[if_pos hE,hi]
     rw[hE,hV];exact az.tup (aj.cons (lZ rfl rfl) (aj.dat rfl))
theorem CG (v:List Bool) (l:Cl) (hll:l.length≤1000000) (hl:∀a∈l,0≤a∧a/2<v.length∧a≤1000000000):Ev TE 51 [aF l,.ip (aY v)] (aY (l.map (lv v))):=by
 refine Ev.bnd fun hb=> ?_;have hlen:=zK hb;have hM:maxLen=9223372036854775807:=rfl;refine ak Tryz.func51 rfl (by simp[nts]) (vm ?_);simp only[wq.1,seval,Tryz.results51];refine aC (fun m f h=>∃i,m+i=l.length∧f.t 1= .ip (aY v)∧f.t 7=aF l∧f.t 8=vi l.length∧f.t 9=vi i∧f.d=[]∧((i=0∧f.t 4= .nils∧h=[])∨(f.t 4= .ls 0 1 0 i i∧h=[.cells (((l.take i).map (lv v)).map V.bool)]))) l.length ⟨0,by simp,rfl,rfl,rfl,rfl,rfl,.inl ⟨rfl,rfl,rfl⟩⟩ ?_;rintro m f h ⟨i,hm,h1,h7,h8,h9,hd,hh⟩;refine vm ?_;simp only[wq.1,seval,h8,h9];refine vcB.mk (fun hlt=> ?_) (fun hlt=> ?_)
 ·simp only [zqb,zqi] at hlt;obtain ⟨o1,o2,o3⟩ := hl _ (zqu hlt);have hsucc : (l.take (i + 1)).map (lv v) = (l.take i).map (lv v) ++ [lv v l[i]] := by rw [zrg,zql];simp [hlt]
  have hg:(l.map vi).getD i .any=vi l[i]:=IC hlt _;simp only[wq.1,seval,h1,h7,h9,hg];refine⟨⟨by omega,by omega⟩,ah.ev (wJ v l[i] o1 o2 o3) rfl ?_⟩;have hw:=aA (show i<maxLen by omega);rcases hh with⟨rfl,h4,rfl⟩ | ⟨h4,rfl⟩
  ·simp only[wq.1,↓reduceIte,Nat.reduceEqDiff,Nat.reduceLT,Nat.reduceLeDiff,reduceCtorEq,Nat.reduceMul,h4,h9,hw];exact⟨⟨rfl,by decide⟩,by omega,.inl ⟨m-1,by omega,0+1,by omega,by simp only[wq.1,↓reduceIte,Nat.reduceEqDiff,Nat.reduceLT,Nat.reduceLeDiff,Nat.reduceAdd,Nat.reduceSub,Int.reduceToNat,Nat.reduceDiv,Int.reduceLT,Int.reduceLE,Int.reduceNeg,Int.reduceBEq,Int.reduceBNe,Int.reduceAdd,Int.reduceSub,Nat.reduceBEq,reduceCtorEq,Nat.reduceMul,au,Tryz.results51,h1],by simp only[wq.1,↓reduceIte,Nat.reduceEqDiff,Nat.reduceLT,Nat.reduceLeDiff,Nat.reduceAdd,Nat.reduceSub,Int.reduceToNat,Nat.reduceDiv,Int.reduceLT,Int.reduceLE,Int.reduceNeg,Int.reduceBEq,Int.reduceBNe,Int.reduceAdd,Int.reduceSub,Nat.reduceBEq,reduceCtorEq,Nat.reduceMul,au,Tryz.results51,h7],by simp only[wq.1,↓reduceIte,Nat.reduceEqDiff,Nat.reduceLT,Nat.reduceLeDiff,Nat.reduceAdd,Nat.reduceSub,Int.reduceToNat,Nat.reduceDiv,Int.reduceLT,Int.reduceLE,Int.reduceNeg,Int.reduceBEq,Int.reduceBNe,Int.reduceAdd,Int.reduceSub,Nat.reduceBEq,reduceCtorEq,Nat.reduceMul,au,Tryz.results51,h8],rfl,by simp only[wq.1,↓reduceIte,Nat.reduceEqDiff,Nat.reduceLT,Nat.reduceLeDiff,Nat.reduceAdd,Nat.reduceSub,Int.reduceToNat,Nat.reduceDiv,Int.reduceLT,Int.reduceLE,Int.reduceNeg,Int.reduceBEq,Int.reduceBNe,Int.reduceAdd,Int.reduceSub,Nat.reduceBEq,reduceCtorEq,Nat.reduceMul,au,Tryz.results51,hd],.inr ⟨rfl,by rw[hsucc];rfl⟩⟩⟩
  ·simp only[wq.1,↓reduceIte,Nat.reduceEqDiff,Nat.reduceLT,reduceCtorEq,Nat.reduceMul,h4,h9,hd,pV,hw];exact⟨⟨rfl,by decide⟩,⟨by rw[zrl];omega,by omega,by omega⟩,.inl ⟨m-1,by omega,i+1,by omega,by simp only[wq.1,↓reduceIte,Nat.reduceEqDiff,Nat.reduceLT,Nat.reduceLeDiff,Nat.reduceAdd,Nat.reduceSub,Int.reduceToNat,Nat.reduceDiv,Int.reduceLT,Int.reduceLE,Int.reduceNeg,Int.reduceBEq,Int.reduceBNe,Int.reduceAdd,Int.reduceSub,Nat.reduceBEq,reduceCtorEq,Nat.reduceMul,au,Tryz.results51,h1],by simp only[wq.1,↓reduceIte,Nat.reduceEqDiff,Nat.reduceLT,Nat.reduceLeDiff,Nat.reduceAdd,Nat.reduceSub,Int.reduceToNat,Nat.reduceDiv,Int.reduceLT,Int.reduceLE,Int.reduceNeg,Int.reduceBEq,Int.reduceBNe,Int.reduceAdd,Int.reduceSub,Nat.reduceBEq,reduceCtorEq,Nat.reduceMul,au,Tryz.results51,h7],by simp only[wq.1,↓reduceIte,Nat.reduceEqDiff,Nat.reduceLT,Nat.reduceLeDiff,Nat.reduceAdd,Nat.reduceSub,Int.reduceToNat,Nat.reduceDiv,Int.reduceLT,Int.reduceLE,Int.reduceNeg,Int.reduceBEq,Int.reduceBNe,Int.reduceAdd,Int.reduceSub,Nat.reduceBEq,reduceCtorEq,Nat.reduceMul,au,Tryz.results51,h8],rfl,by simp only[wq.1,↓reduceIte,Nat.reduceEqDiff,Nat.reduceLT,Nat.reduceLeDiff,Nat.reduceAdd,Nat.reduceSub,Int.reduceToNat,Nat.reduceDiv,Int.reduceLT,Int.reduceLE,Int.reduceNeg,Int.reduceBEq,Int.reduceBNe,Int.reduceAdd,Int.reduceSub,Nat.reduceBEq,reduceCtorEq,Nat.reduceMul,au,Tryz.results51,hd],.inr ⟨rfl,by rw[hsucc,zql];rfl⟩⟩⟩
 ·simp only [zqd,zqi] at hlt;have hi : i = l.length := by omega
  subst hi;simp only[wq.1,seval,hd];rcases hh with⟨h0,h4,rfl⟩ | ⟨h4,rfl⟩
  ·simp only[wq.1,h4];rw[List.length_eq_zero_iff.1 h0];exact az.nils
  ·simp only[wq.1,h4];refine lZ (by simp) (by simp)
def Gr.out (g:Gr) (st ins:List Bool):List Bool:=if g.valE st ins=0 then g.outs.map (lv (g.vals st ins))else []
def Gr.nxt (g:Gr) (st ins:List Bool):List Bool:=if g.valE st ins=0 then g.next.map (lv (g.vals st ins))else []
theorem Tq {g:Gr} {st ins:List Bool} (hE:g.valE st ins=0):(∀a∈g.outs,0≤a∧a/2<(g.vals st ins).length∧a≤1000000000)∧(∀a∈g.next,0≤a∧a/2<(g.vals st ins).length∧a≤1000000000)∧g.outs.length≤4000∧g.next.length≤4000∧g.chk=0∧st.length=g.next.length∧(ins.length:Int)=g.ins∧(g.vals st ins).length=1+ins.length+st.length+g.ands.length:=by
 unfold Gr.valE at hE;split at hE
 ·rename_i h1;exact absurd hE h1
 ·rename_i h1;have hg : g.chk = 0 := by simpa using h1
  split at hE
  ·cases hE
  ·rename_i h2;simp only [Bool.or_eq_true,bne_iff_ne,ne_eq,not_or,Decidable.not_not] at h2;obtain ⟨_,i0,i1,i2,i3,i4,i5⟩ := fE hg;obtain ⟨r1,r2,r3,r4⟩ := fM i4;have hln := wK (g := g) (st := st) (ins := ins) (zrb g.ands.length);have wf : g.all = 2 * (1 + g.ins + g.next.length + g.ands.length) := rfl;have hln : (g.vals st ins).length = 1 + ins.length + st.length + g.ands.length := hln;refine ⟨fun a ha => ?_,fun a ha => ?_,by omega,by omega,hg,by omega,h2.2,hln⟩
   ·have:=r4 a ha;omega
   ·have:=r3 a ha;omega
theorem PW (g:Gr) (st ins:List Bool) (hs:g.Sm):Ev TE 21 [g.v,aY st,aY ins] (.tup [aY (g.out st ins),aY (g.nxt st ins),vi (g.valE st ins)]):=by
 have hgv:=I9 g st ins hs;unfold Gr.v at hgv ⊢;have dg:V.dats [.agg [vi g.ins,aF g.next,aF g.init,prs g.ands,aF g.outs],aY st,aY ins]=true:=by simp only[V.dats,V.dat,zre]
 refine ak Tryz.func21 rfl (by simp[nts]) ?_;refine ag (vm ?_);simp only[wq.1,Nat.reduceLT,Tryz.results21];refine ag (vm ?_);simp only[wq.1,seval];refine ah.ev hgv dg ?_;simp only[wq.1,seval];refine ag (vm ?_);simp only[wq.1,seval];refine vcB.mk (fun hc=> ?_) (fun hc=> ?_)
 ·have hc : g.valE st ins ≠ 0 := by simpa using hc
  simp only[wq.1,seval];unfold Gr.out Gr.nxt;rw[if_neg hc,if_neg hc];exact az.tup (aj.cons az.nils (aj.cons az.nils (aj.dat rfl)))
 ·have hc : g.valE st ins = 0 := by simpa using hc
  have hV:g.valV st ins=g.vals st ins:=by unfold Gr.valV;rw[if_pos hc]
  obtain⟨l1,l2,l3,l4,l5,_⟩:=Tq hc;have c1:=CG (g.vals st ins) g.outs (by omega) l1;have c2:=CG (g.vals st ins) g.next (by omega) l2
  simp only[wq.1,hV];refine ag (vm ?_);simp only[wq.1,seval];refine KT (h0:=[.cells [vi g.ins,aF g.next,aF g.init,prs g.ands,aF g.outs]]) (o:= .cells [aY (g.vals st ins)]) 11 (.fn (.func 51) [] [.ip (aY (g.vals st ins))]) (by simp only[wq.1]) (by simp only[wq.1,↓reduceIte,aS]) ?_ ?_
  ·simp only[wq.1,↓reduceIte];exact az.fn aj.nil (aj.cons (az.lp (h:=oU (aS 1) 0 _) rfl (aj.dat rfl) rfl rfl (by simp[V.vc]) rfl) aj.nil)
  ·refine vm ?_;simp only [wq.1,seval,aS];refine ⟨by decide +kernel,Ef.mk c1 rfl rfl ?_⟩;simp only [wq.1,seval,aS];refine Ef.mk c2 rfl rfl ?_;simp only [wq.1,seval];have eo : g.out st ins = g.outs.map (lv (g.vals st ins)) := by unfold Gr.out;rw [if_pos hc]
   have en:g.nxt st ins=g.next.map (lv (g.vals st ins)):=by unfold Gr.nxt;rw[if_pos hc]
   rw[eo,en,hc];exact az.dat (by simp only[V.dat,V.dats,zre])
def sN (row:Cl) (a:Int):Int:=if a%2=1 then -(row.getD (a/2).toNat 0)else row.getD (a/2).toNat 0
structure UA where
 n:Nat
 cl:List Cl
 row:Cl
def UD (s:UA) (p:Pq):UA :=
 ⟨s.n+1,s.cl++[[-((s.n:Int)+1),sN s.row p.1],[-((s.n:Int)+1),sN s.row p.2],[(s.n:Int)+1,-sN s.row p.1,-sN s.row p.2]],s.row++[(s.n:Int)+1]⟩
def CJ (n k:Nat):Cl:=(List.range k).map fun i:Nat=>(n:Int)+(i:Int)+1
def WE (g:Gr) (n:Nat) (lat:Cl):Cl:=-1::(CJ n g.ins.toNat++lat)
structure US where
 n:Nat
 cl:List Cl
 rows:List Cl
 lat:Cl
def US.ands (g:Gr) (u:US) (i:Nat):UA:=(g.ands.take i).foldl UD ⟨u.n+g.ins.toNat,u.cl,WE g u.n u.lat⟩
def US.step (g:Gr) (u:US):US:=⟨(u.ands g g.ands.length).n,(u.ands g g.ands.length).cl,u.rows++[(u.ands g g.ands.length).row],g.next.map (sN (u.ands g g.ands.length).row)⟩
def qX (s:Nat×Cl) (b:Int):Nat×Cl:=if b=2 then(s.1+1,s.2++[(s.1:Int)+1])else(s.1,s.2++[2*b-1])
def zW (l:Cl):Nat×Cl:=l.foldl qX (1,[])
def bV (g : Gr) (b : Cl) : Nat → US
 | 0=>⟨(zW b).1,[[1]],[],(zW b).2⟩
 | k+1=>(bV g b k).step g
theorem dh {g:Gr} {u:US} {i:Nat} (h:i<g.ands.length):u.ands g (i+1)=UD (u.ands g i) g.ands[i]:=by unfold US.ands;rw[zrg,zqk h,List.foldl_append];rfl
theorem l7 {g : Gr} {u : US} : ∀ {i : Nat},i ≤ g.ands.length → (u.ands g i).n = u.n + g.ins.toNat + i
 | 0,_=>rfl
 | i+1,h=>by rw[dh (by omega)];show(u.ands g i).n+1=_;rw[l7 (by omega)];omega
theorem dR {g : Gr} {u : US} : ∀ {i : Nat},i ≤ g.ands.length → (u.ands g i).row.length = 1 + g.ins.toNat + u.lat.length + i
 | 0,_=>by simp[US.ands,WE,CJ];omega
 | i+1,h=>by rw[dh (by omega)];show((u.ands g i).row++[_]).length=_;rw[zqa,dR (by omega),zrk];omega
def inU (n:Nat) (a:Int):Prop:=a≠0∧-(n:Int)≤a∧a≤n
theorem inU.mono {n k:Nat} {a:Int} (h:inU n a) (hk:n≤k):inU k a:=⟨h.1,by have:=h.2;omega,by have:=h.2;omega⟩
theorem inU.neg {n:Nat} {a:Int} (h:inU n a):inU n (-a):=⟨by have:=h.1;omega,by have:=h.2;omega,by have:=h.2;omega⟩
theorem sO {vs w:List Bool} {a:Int} (h:inU vs.length a):hol (vs++w) a=hol vs a:=by
 obtain⟨h0,h1,h2⟩:=h;unfold hol;split
 ·rw[zqg,zqj (by omega),←zqg]
 ·rw[zqg,zqj (by omega),←zqg]
theorem Q5 {vs w:List Bool} {b:Bool}:hol (vs++b::w) ((vs.length:Int)+1)=b:=by unfold hol;rw[if_neg (by omega),show((vs.length:Int)+1-1).toNat=vs.length by omega];simp
def xH (n:Nat) (row:Cl):Prop:=∀a∈row,inU n a
def Tt (n:Nat) (l:List Cl):Prop:=∀c∈l,∀a∈c,inU n a
theorem Tu {l:List Cl} {vs w:List Bool} (h:Tt vs.length l):sat l (vs++w)=sat l vs:=by unfold sat;rw[Bool.eq_iff_iff,zrs,zrs];refine forall_congr' fun c=>forall_congr' fun hc=> ?_;rw[List.any_eq_true,List.any_eq_true];refine exists_congr fun a=>and_congr_right fun ha=> ?_;rw[sO (h c hc a ha)]
theorem wL {row:Cl} {vs w:List Bool} (h:xH vs.length row):row.map (hol (vs++w))=row.map (hol vs) :=
 List.map_congr_left fun a ha=>sO (h a ha)
theorem qY {row:Cl} {k:Nat} (h:k<row.length):row.getD k 0∈row:=by rw[iU h];exact zqu h
theorem qf {n:Nat} {row:Cl} (h:xH n row) {a:Int} (h0:0≤a) (ha:a/2<row.length):inU n (sN row a):=by
 have:=h _ (qY (k:=(a/2).toNat) (by omega));unfold sN;split
 ·exact this.neg
 ·exact this
theorem uF {n:Nat} {row:Cl} {vs:List Bool} (h:xH n row) {a:Int} (h0:0≤a) (ha:a/2<row.length):hol vs (sN row a)=lv (row.map (hol vs)) a:=by
 have hk:(a/2).toNat<row.length:=by omega
 have:=h _ (qY hk);have e:(row.map (hol vs)).getD (a/2).toNat false=hol vs (row.getD (a/2).toNat 0):=by rw[zqg,zqo,zqk hk,iU hk];rfl
 unfold sN lv;rw[e];rcases Int.emod_two_eq a with hm | hm
 ·rw[if_neg (by omega),hm];simp
 ·rw[if_pos hm,iV this.1,hm];simp
theorem Tv {cl:List Cl} {vs:List Bool} {v x y:Int} (hv:v≠0) (hx:x≠0) (hy:y≠0) :
 sat (cl++[[-v,x],[-v,y],[v,-x,-y]]) vs=true↔sat cl vs=true∧hol vs v=(hol vs x&&hol vs y):=by
 unfold sat;rw[List.all_append,zqf];refine and_congr_right fun _=> ?_;simp only[List.all_cons,List.all_nil,List.any_cons,List.any_nil,iV hv,iV hx,iV hy];cases hol vs v<;>cases hol vs x<;>cases hol vs y<;>decide
def Tz (v:List Bool) (p:Pq):List Bool:=v++[lv v p.1&&lv v p.2]
theorem Ja {g:Gr} {st ins:List Bool} {i:Nat}:iE g st ins i=(g.ands.take i).foldl Tz ([false]++ins++st):=rfl
structure UAok (s : UA) : Prop where
 r:xH s.n s.row
 c:Tt s.n s.cl
theorem TA {s:UA} (h:UAok s) {p:Pq} (h1:0≤p.1) (h2:0≤p.2) (h3:p.1/2<s.row.length) (h4:p.2/2<s.row.length):UAok (UD s p):=by
 have hv:inU (s.n+1) ((s.n:Int)+1):=⟨by omega,by omega,by omega⟩;have a1:=(qf h.r h1 h3).mono (Nat.le_succ s.n);have a2:=(qf h.r h2 h4).mono (Nat.le_succ s.n);refine⟨fun a ha=> ?_,fun c hc a ha=> ?_⟩
 ·rcases zrf.1 ha with ha | ha
  ·exact(h.r a ha).mono (Nat.le_succ _)
  ·rw[zrc.1 ha];exact hv
 ·rcases zrf.1 hc with hc | hc
  ·exact(h.c c hc a ha).mono (Nat.le_succ _)
  ·simp only [zrj,zrp,or_false] at hc;rcases hc with rfl | rfl | rfl
   ·simp only [zrj,zrp,or_false] at ha;rcases ha with rfl | rfl
    ·exact hv.neg
    ·exact a1
   ·simp only [zrj,zrp,or_false] at ha;rcases ha with rfl | rfl
    ·exact hv.neg
    ·exact a2
   ·simp only [zrj,zrp,or_false] at ha;rcases ha with rfl | rfl | rfl
    ·exact hv
    ·exact a1.neg
    ·exact a2.neg
theorem PX {s:UA} (h:UAok s) {p:Pq} (h1:0≤p.1) (h2:0≤p.2) (h3:p.1/2<s.row.length) (h4:p.2/2<s.row.length) {vs:List Bool} :
 sat (UD s p).cl vs=true↔sat s.cl vs=true∧(UD s p).row.map (hol vs)=Tz (s.row.map (hol vs)) p:=by
 show sat (s.cl++_) vs=true↔_;rw[Tv (by omega) (qf h.r h1 h3).1 (qf h.r h2 h4).1,uF h.r h1 h3,uF h.r h2 h4];refine and_congr_right fun _=> ?_;show _↔(s.row++[(s.n:Int)+1]).map (hol vs)=s.row.map (hol vs)++[_];rw[zql];constructor
 ·intro e;rw[List.map_singleton,e]
 ·intro e;exact List.head_eq_of_cons_eq (List.append_cancel_left e)
def stM : Cl → List Bool → Prop
 | [],[]=>True
 | b::l,s::st=>(b=2∨s=decide (b=1))∧stM l st
 | _,_=>False
theorem zX:∀(l:Cl) (s:Nat×Cl) (vs:List Bool) (st0:List Bool),(∀b∈l,0≤b∧b≤2)→vs.length=s.1→1≤s.1→hol vs 1=true→xH s.1 s.2→s.2.map (hol vs)=st0→∀st,stM l st →
 ∃w,(vs++w).length=(l.foldl qX s).1∧(l.foldl qX s).2.map (hol (vs++w))=st0++st
 | [],s,vs,st0,_,h1,_,_,_,h2,st,hm=>by
  cases st with
  | nil=>exact⟨[],by simpa using h1,by simpa using h2⟩
  | cons a t=>exact hm.elim
 | b::l,s,vs,st0,hl,h1,hp,ho,hr,h2,st,hm=>by
  cases st with
  | nil=>exact hm.elim
  | cons x t =>
   obtain⟨hx,hm⟩:=hm;have hb:=hl b (by simp);have hl':∀b∈l,0≤b∧b≤2:=fun b h=>hl b (by simp[h]);rw[List.foldl_cons];by_cases h:b=2
   ·have e : qX s b = (s.1 + 1,s.2 ++ [(s.1 : Int) + 1]) := by unfold qX;rw [if_pos h]
    rw[e];have hho:hol (vs++[x]) 1=true:=by rw[sO ⟨by omega,by omega,by omega⟩];exact ho
    obtain ⟨w,w1,w2⟩ := zX l (s.1 + 1,s.2 ++ [(s.1 : Int) + 1]) (vs ++ [x]) (st0 ++ [x]) hl' (by simp [h1]) (by simp) hho
     (fun a ha=>by
      rcases zrf.1 ha with ha | ha
      ·exact(hr a ha).mono (Nat.le_succ _)
      ·rw[zrc.1 ha];exact⟨by omega,by omega,by simp⟩)
     (by
      rw[zql,wL (by rw[h1];exact hr),h2,List.map_singleton];have:=Q5 (vs:=vs) (w:=[]) (b:=x);rw[h1]at this;rw[this]) t hm
    exact⟨x::w,by simpa using w1,by simpa using w2⟩
   ·have e : qX s b = (s.1,s.2 ++ [2 * b - 1]) := by unfold qX;rw [if_neg h]
    rw[e];have hq:hol vs (2*b-1)=x:=by
     rw[hx.resolve_left h];have:b=0∨b=1:=by omega
     rcases this with rfl | rfl
     ·show hol vs (-1)=false;rw[iV (by decide),ho];rfl
     ·exact ho
    obtain ⟨w,w1,w2⟩ := zX l (s.1,s.2 ++ [2 * b - 1]) vs (st0 ++ [x]) hl' h1 hp ho
     (fun a ha=>by
      rcases zrf.1 ha with ha | ha
      ·exact hr a ha
      ·rw[zrc.1 ha];exact⟨by omega,by omega,by omega⟩)
     (by rw[zql,h2,List.map_singleton,hq]) t hm
    exact⟨w,w1,by simpa using w2⟩
theorem wM : ∀ (l : Cl) (s : Nat × Cl),(∀ b ∈ l,0 ≤ b ∧ b ≤ 2) → 1 ≤ s.1 → xH s.1 s.2 → s.1 ≤ (l.foldl qX s).1 ∧ (l.foldl qX s).1 ≤ s.1 + l.length ∧ xH (l.foldl qX s).1 (l.foldl qX s).2 ∧ (l.foldl qX s).2.length = s.2.length + l.length
 | [],s,_,_,hr=>⟨zrb _,zrb _,hr,rfl⟩
 | b::l,s,hl,hp,hr=>by
  have hb:=hl b (by simp);have hl':∀b∈l,0≤b∧b≤2:=fun b h=>hl b (by simp[h]);rw[List.foldl_cons];by_cases h:b=2
  ·have e : qX s b = (s.1 + 1,s.2 ++ [(s.1 : Int) + 1]) := by unfold qX;rw [if_pos h]
   rw[e];obtain⟨a1,a2,a3,a4⟩:=wM l (s.1+1,s.2++[(s.1:Int)+1]) hl' (by simp) (fun a ha=>by
    rcases zrf.1 ha with ha | ha
    ·exact(hr a ha).mono (Nat.le_succ _)
    ·rw[zrc.1 ha];exact⟨by omega,by omega,by simp⟩)
   simp only[zqa,zrk]at a1 a2 a4;exact⟨by omega,by rw[zrt];omega,a3,by rw[zrt];omega⟩
  ·have e : qX s b = (s.1,s.2 ++ [2 * b - 1]) := by unfold qX;rw [if_neg h]
   rw[e];obtain⟨a1,a2,a3,a4⟩:=wM l (s.1,s.2++[2*b-1]) hl' hp (fun a ha=>by
    rcases zrf.1 ha with ha | ha
    ·exact hr a ha
    ·rw[zrc.1 ha];exact⟨by omega,by omega,by omega⟩)
   simp only[zqa,zrk]at a1 a2 a4;exact⟨a1,by rw[zrt];omega,a3,by rw[zrt];omega⟩
def nx (g:Gr) (st x:List Bool):List Bool:=g.next.map (lv (g.vals st x))
def VC (g : Gr) : List Bool → List (List Bool) → List (List Bool)
 | _,[]=>[]
 | st,x::l=>g.vals st x::VC g (nx g st x) l
def UE (g : Gr) : List Bool → List (List Bool) → List Bool
 | st,[]=>st
 | st,x::l=>UE g (nx g st x) l
theorem CO {g : Gr} : ∀ {st : List Bool} {l : List (List Bool)} {x : List Bool},UE g st (l ++ [x]) = nx g (UE g st l) x
 | _,[],_=>rfl
 | _,_::l,_=>CO (l:=l)
theorem CP {g : Gr} : ∀ {st : List Bool} {l : List (List Bool)} {x : List Bool},VC g st (l ++ [x]) = VC g st l ++ [g.vals (UE g st l) x]
 | _,[],_=>rfl
 | _,_::l,_=>by show _::VC g _ (l++_)=_;rw[CP (l:=l)];rfl
def VD (g:Gr):Nat:=1+g.ins.toNat+g.next.length+g.ands.length
structure USok (g : Gr) (u : US) : Prop where
 l:u.lat.length=g.next.length
 lo:xH u.n u.lat
 c:Tt u.n u.cl
 r:∀r∈u.rows,xH u.n r∧r.length=VD g
 one:1≤u.n
theorem iK {g : Gr} (hg : g.chk = 0) {u : US} (h : USok g u) : ∀ {i : Nat},i ≤ g.ands.length → UAok (u.ands g i)
 | 0,_=>by
  refine⟨fun a ha=> ?_,fun c hc a ha=>(h.c c hc a ha).mono (Nat.le_add_right _ _)⟩;have ha:a∈-1::(CJ u.n g.ins.toNat++u.lat):=ha;show inU (u.n+g.ins.toNat) a;have h1:=h.one;rcases zrj.1 ha with rfl | ha
  ·exact⟨by omega,by omega,by omega⟩
  ·rcases zrf.1 ha with ha | ha
   ·obtain⟨i,hi,rfl⟩:=zrh.1 ha;have:=List.mem_range.1 hi;exact⟨by omega,by omega,by omega⟩
   ·exact(h.lo a ha).mono (Nat.le_add_right _ _)
 | i+1,hi=>by
  obtain⟨_,i0,i1,i2,i3,i4,i5⟩:=fE hg;have hl:=dR (u:=u) (g:=g) (i:=i) (by omega);obtain⟨o1,o2,o3,o4⟩:=uD i5 (show i<g.ands.length by omega);have wf:g.first=1+g.ins+g.next.length:=rfl
  have hll:=h.l;rw[dh (by omega)];exact TA (iK hg h (by omega)) o1 o2 (by omega) (by omega)
theorem wO {g:Gr} (hg:g.chk=0) {u:US} (h:USok g u) {vs:List Bool}:∀ {i:Nat},i≤g.ands.length →
 (sat (u.ands g i).cl vs=true↔sat u.cl vs=true∧(u.ands g i).row.map (hol vs)=(g.ands.take i).foldl Tz ((u.ands g 0).row.map (hol vs)))
 | 0,_=>by show sat u.cl vs=true↔sat u.cl vs=true∧_=_;exact⟨fun h=>⟨h,rfl⟩,fun h=>h.1⟩
 | i+1,hi=>by
  obtain⟨_,i0,i1,i2,i3,i4,i5⟩:=fE hg;have hl:=dR (u:=u) (g:=g) (i:=i) (by omega);obtain⟨o1,o2,o3,o4⟩:=uD i5 (show i<g.ands.length by omega);have wf:g.first=1+g.ins+g.next.length:=rfl
  have hll:=h.l;have ih:=wO hg h (vs:=vs) (i:=i) (by omega);rw[dh (by omega),PX (iK hg h (by omega)) o1 o2 (by omega) (by omega),ih];have e:(g.ands.take (i+1)).foldl Tz ((u.ands g 0).row.map (hol vs))=Tz ((g.ands.take i).foldl Tz ((u.ands g 0).row.map (hol vs))) g.ands[i]:=by rw[zrg,zqk (show i<g.ands.length by omega),List.foldl_append];rfl
  rw[e];constructor
  ·rintro⟨⟨a1,a2⟩,a3⟩;exact⟨a1,by rw[a3,a2]⟩
  ·rintro⟨a1,a2⟩;have a3:((u.ands g i).row++[((u.ands g i).n:Int)+1]).map (hol vs)=(g.ands.take i).foldl Tz ((u.ands g 0).row.map (hol vs))++[_]:=a2;rw[zql,List.map_singleton]at a3;have a4:=List.append_inj_left' a3 rfl;exact⟨⟨a1,a4⟩,by rw[a2,a4]⟩
theorem Jb {g:Gr} (hg:g.chk=0) {u:US} (h:USok g u):USok g (u.step g):=by
 obtain⟨_,i0,i1,i2,i3,i4,i5⟩:=fE hg;obtain⟨r1,r2,r3,r4⟩:=fM i4;have ok:=iK hg h (zrb g.ands.length);have hl:=dR (u:=u) (g:=g) (zrb g.ands.length);have hn:=l7 (u:=u) (g:=g) (zrb g.ands.length);have wf:g.first=1+g.ins+g.next.length:=rfl
 have wa:g.all=2*(g.first+g.ands.length):=rfl;have wv:VD g=1+g.ins.toNat+g.next.length+g.ands.length:=rfl
 have hll:=h.l;have h1:=h.one;refine⟨by simp[US.step],fun a ha=> ?_,ok.c,fun r hr=> ?_,?_⟩
 ·obtain⟨b,hb,rfl⟩:=zrh.1 ha;have:=r3 b hb;exact qf ok.r this.1 (by omega)
 ·rcases zrf.1 hr with hr | hr
  ·obtain⟨a1,a2⟩:=h.r r hr;exact⟨fun a ha=>(a1 a ha).mono (by show u.n≤(u.ands g g.ands.length).n;omega),a2⟩
  ·rw[zrc.1 hr];exact⟨ok.r,by omega⟩
 ·show 1≤(u.ands g g.ands.length).n;omega
theorem qZ {g : Gr} (hg : g.chk = 0) {b : Cl} (hb : b.length = g.next.length) (hb2 : ∀ x ∈ b,0 ≤ x ∧ x ≤ 2) : ∀ k,USok g (bV g b k)
 | 0=>by obtain⟨a1,a2,a3,a4⟩:=wM b (1,[]) hb2 (zrb _) (fun a ha=>by cases ha);refine⟨by show(zW b).2.length=_;unfold zW;rw[a4];simpa using hb,a3,fun c hc a ha=> ?_,fun r hr=>(by cases hr),a1⟩;have hc:c=[1]:=zrc.1 hc;subst hc;rw[zrc.1 ha];have:1≤(bV g b 0).n:=a1;exact⟨by decide,by omega,by omega⟩
 | k+1=>Jb hg (qZ hg hb hb2 k)
theorem PY {g:Gr} {u:US} {vs:List Bool} (ho:hol vs 1=true):(u.ands g 0).row.map (hol vs)=[false]++(CJ u.n g.ins.toNat).map (hol vs)++u.lat.map (hol vs):=by show(-1::(CJ u.n g.ins.toNat++u.lat)).map (hol vs)=_;rw[zrd,show hol vs (-1)=false by rw[iV (by decide),ho];rfl,zql];rfl
theorem TB {vs x:List Bool}:(CJ vs.length x.length).map (hol (vs++x))=x:=by refine List.ext_getElem (by simp[CJ]) fun i h1 h2=> ?_;simp only[CJ,List.map_map,List.getElem_map,List.getElem_range,Function.comp];unfold hol;rw[if_neg (by omega),show((vs.length:Int)+(i:Int)+1-1).toNat=vs.length+i by omega,zqg,List.getElem?_append_right (by omega),show vs.length+i-vs.length=i by omega,zqk h2];rfl
theorem oz {g:Gr} (hg:g.chk=0) {b:Cl} (hb:b.length=g.next.length) (hb2:∀x∈b,0≤x∧x≤2) {st:List Bool} (hst:stM b st) {seq:List (List Bool)} (hq:∀x∈seq,x.length=g.ins.toNat):∀k,k≤seq.length →
 ∃vs,vs.length=(bV g b k).n∧hol vs 1=true∧sat (bV g b k).cl vs=true∧(zW b).2.map (hol vs)=st∧(bV g b k).rows.map (fun r=>r.map (hol vs))=VC g st (seq.take k)∧(bV g b k).lat.map (hol vs)=UE g st (seq.take k)
 | 0,_=>by
  obtain⟨w,w1,w2⟩:=zX b (1,[]) [true] [] hb2 rfl (zrb _) rfl (fun a ha=>by cases ha) rfl st hst;refine⟨[true]++w,w1,?_,?_,w2,rfl,w2⟩
  ·rw[sO ⟨by decide,by decide,by decide⟩];rfl
  ·show sat [[1]] _=true;simp[sat,hol]
 | k+1,hk=>by
  obtain⟨vs,v1,v2,v3,v4,v5,v6⟩:=oz hg hb hb2 hst hq k (by omega);have ok:=qZ hg hb hb2 k;obtain⟨x,hx⟩:∃x,x=seq[k]:=⟨_,rfl⟩;have hxl:x.length=g.ins.toNat:=by rw[hx];exact hq _ (zqu _)
  have htk:seq.take (k+1)=seq.take k++[x]:=by rw[zrg,zqk (by omega),hx];rfl
  obtain⟨s,hs⟩:∃s,s=UE g st (seq.take k):=⟨_,rfl⟩;rw[←hs]at v6;have key:∀i,i≤g.ands.length→∃w,(vs++w).length=((bV g b k).ands g i).n∧((bV g b k).ands g i).row.map (hol (vs++w))=iE g s x i:=by
   intro i
   induction i with
   | zero =>
    intro _;refine⟨x,by show _=(bV g b k).n+g.ins.toNat;rw[zqa,v1,hxl],?_⟩;have ho:hol (vs++x) 1=true:=by rw[sO ⟨by decide,by omega,by have:=ok.one;omega⟩];exact v2
    rw[PY ho,wL (row:=(bV g b k).lat) (by rw[v1];exact ok.lo),v6,←v1,←hxl,TB];rfl
   | succ i ih =>
    intro hi;obtain⟨w,w1,w2⟩:=ih (by omega);have uok:=iK hg ok (i:=i) (by omega);obtain⟨c,hc⟩:∃c,c=(lv (iE g s x i) g.ands[i].1&&lv (iE g s x i) g.ands[i].2):=⟨_,rfl⟩;refine⟨w++[c],?_,?_⟩
    ·rw[dh (by omega),←zqc,zqa,w1];rfl
    ·rw[dh (by omega),←zqc];show(((bV g b k).ands g i).row++[_]).map _=_;rw[zql,wL (by rw[w1];exact uok.r),w2,oO (by omega),←hc,List.map_singleton];have:=Q5 (vs:=vs++w) (w:=[]) (b:=c);rw[w1]at this;rw[this]
  obtain⟨w,w1,w2⟩:=key g.ands.length (zrb _);have ho:hol (vs++w) 1=true:=by rw[sO ⟨by decide,by omega,by have:=ok.one;omega⟩];exact v2
  have hb0:xH vs.length (zW b).2:=by
   obtain⟨a1,a2,a3,a4⟩:=wM b (1,[]) hb2 (zrb _) (fun a ha=>by cases ha);have hm:∀j,(bV g b 0).n≤(bV g b j).n:=fun j=>by
    induction j with
    | zero=>exact zrb _
    | succ j ih=>have:=l7 (u:=bV g b j) (g:=g) (zrb g.ands.length);show _≤((bV g b j).ands g g.ands.length).n;omega
   intro a ha;rw[v1];exact(a3 a ha).mono (hm k)
  have hrow:((bV g b k).ands g 0).row.map (hol (vs++w))=[false]++x++s:=by
   have hfold:=w2;have e1:=dR (u:=bV g b k) (g:=g) (Nat.zero_le g.ands.length);have hpre:∀i,i≤g.ands.length→∃r,((bV g b k).ands g i).row=((bV g b k).ands g 0).row++r:=by
    intro i
    induction i with
    | zero=>intro _;exact⟨[],by simp⟩
    | succ i ih=>intro hi;obtain⟨r,hr⟩:=ih (by omega);refine⟨r++[(((bV g b k).ands g i).n:Int)+1],?_⟩;rw[dh (by omega)];show((bV g b k).ands g i).row++[_]=_;rw[hr,zqc]
   have hpv:∀i,i≤g.ands.length→∃r,iE g s x i=([false]++x++s)++r:=by
    intro i
    induction i with
    | zero=>intro _;exact⟨[],by simp[iE]⟩
    | succ i ih =>
     intro hi;obtain ⟨r, hr⟩ := ih (by omega);exact ⟨r ++ [_], by rw [oO (by omega)]; (conv => lhs; lhs; rw [hr]); rw [zqc]⟩
   obtain⟨r,hr⟩:=hpre _ (zrb _);obtain⟨r',hr'⟩:=hpv _ (zrb _);rw[hr,hr',zql]at hfold;refine List.append_inj_left hfold ?_;rw[zra,e1];have hsl:s.length=g.next.length:=by rw[←v6,zra];exact ok.l
   have:=ok.l;simp only[zqa,zrk];omega
  have hsat:sat (bV g b (k+1)).cl (vs++w)=true:=by
   refine(wO hg ok (zrb _)).2 ⟨?_,?_⟩
   ·rw[Tu (by rw[v1];exact ok.c)];exact v3
   ·rw[w2,hrow,Ja]
  refine⟨vs++w,w1,ho,hsat,by rw[wL hb0];exact v4,?_,?_⟩
  ·rw [htk,CP,← hs];show ((bV g b k).rows ++ [_]).map _ = _;rw [zql,List.map_singleton,w2]
   congr 1
   rw[←v5];refine List.map_congr_left fun r hr=>wL (by rw[v1];exact(ok.r r hr).1)
  ·rw [htk,CO,← hs];obtain ⟨_,i0,i1,i2,i3,i4,i5⟩ := fE hg;obtain ⟨r1,r2,r3,r4⟩ := fM i4;have uok := iK hg ok (zrb g.ands.length);have hl := dR (u := bV g b k) (g := g) (zrb g.ands.length);have wf : g.first = 1 + g.ins + g.next.length := rfl
   have wa:g.all=2*(g.first+g.ands.length):=rfl;have hll:=ok.l;show(g.next.map (sN ((bV g b k).ands g g.ands.length).row)).map (hol (vs++w))=nx g _ _;rw[List.map_map];refine List.map_congr_left fun a ha=> ?_;have:=r3 a ha;show hol (vs++w) (sN _ a)=_;rw[uF uok.r this.1 (by omega),w2];rfl
abbrev bU (g:Gr) (n:Nat) (cv lv rv:V):O:= .cells [vi n,cv,lv,vi g.ins,aF g.next,aF g.init,prs g.ands,aF g.outs,rv]
abbrev xC (c:Cl):V:= .is true 1 (c.map vi)
theorem nD {b n : Nat} {g : Gr} {cv lv rv : V} {h : H} {R : AEnd → H → (Nat → Bool) → Prop} (hh : h[b]? = some (bU g n cv lv rv)) (hn : n ≤ 1000000)
 (hr:R (.ret (vi ((n:Int)+1))) (h.set b (bU g (n+1) cv lv rv)) (fun _=>false)):ah TE 117 [.lp b 0] h R:=by
 have hM:maxLen=9223372036854775807:=rfl;have w1:=aA (show n<maxLen by omega);have hl:=(zqe hh).1;have hs:∀o:O,(h.set b o)[b]? =some o:=fun o=>zqt hl;refine ax Tryz.func117 rfl (by simp[nts]) (vm ?_);simp only[wq.1,seval,Tryz.results117,hh,hs,w1];exact hr
theorem Gy {row:Cl} {a:Int} (h:a%2=1):sN row a=-(row.getD (a/2).toNat 0):=if_pos h
theorem CQ {row:Cl} {a:Int} (h:a%2=0):sN row a=row.getD (a/2).toNat 0:=if_neg (by omega)
theorem sQ {b n r cap : Nat} {g : Gr} {cv lv : V} {row : Cl} {a : Int} {h : H} {R : AEnd → H → (Nat → Bool) → Prop} (hh : h[b]? = some (bU g n cv lv (.ls r 1 0 row.length cap))) (hr0 : h[r]? = some (.cells (row.map vi)))
 (hb:∀x∈row,-1000000≤x∧x≤1000000) (a0:0≤a) (a1:a/2<row.length) (a2:a≤1000000)
 (hr:R (.ret (vi (sN row a))) h (fun _=>false)):ah TE 114 [.lp b 0,vi a] h R:=by
 have hM:maxLen=9223372036854775807:=rfl;obtain⟨k,hk⟩:∃k:Nat,a/2=k:=⟨(a/2).toNat,by omega⟩;have hkl:k<row.length:=by omega
 have hg:(row.map vi).getD k .any=vi row[k]:=IC hkl _;have hx:=hb _ (zqu hkl);have q1:=WC a;have q2:=WR a0 (show a≤1000000000 by omega);have hgd:row.getD (a/2).toNat 0=row[k]:=by rw[hk,Int.toNat_natCast,iU hkl]
 have wn:IntKind.i64.wrap (0-row[k])=-row[k]:=by rw[dN (by omega) (by omega)];omega
 have wn':IntKind.i64.wrap (-row[k])=-row[k]:=dN (by omega) (by omega);refine ax Tryz.func114 rfl (by simp[nts]) (vm ?_);rcases Int.emod_two_eq a with hm | hm
 ·rw[CQ hm,hgd]at hr;simp only[wq.1,seval,Tryz.results114,q1,q2,hm,hk,hh,hr0,hg,Nat.mul_one];exact⟨⟨by omega,by omega⟩,by omega,hr⟩
 ·rw[Gy hm,hgd]at hr;simp only[wq.1,seval,-Int.reduceNatCast,-Int.reduceNatCast',Tryz.results114,q1,q2,hm,hk,hh,hr0,hg,wn,Nat.mul_one];exact⟨⟨by omega,by omega⟩,by omega,hr⟩
theorem nG {p : Nat → Bool} : ∀ l : List Cl,V.drops p (l.map xC) = l.map xC
 | []=>rfl
 | c::l=>by show V.drop p (xC c)::V.drops p (l.map xC)=_;rw[nG l];rfl
theorem zY {h:H} {D:Nat→Bool} {b:Nat} {x:O} (hd:∀i o,h[i]? =some o→i≠b→o.drop D=o):(h.map (O.drop D)).set b x=h.set b x:=by
 refine List.ext_getElem? fun i=> ?_;by_cases hi:b=i
 ·subst hi;by_cases hl : b < h.length
  ·rw[zqt (by simpa using hl),zqt hl]
  ·rw[List.getElem?_eq_none (by simp;omega),List.getElem?_eq_none (by simp;omega)]
 ·rw[zqn hi,zqn hi,zqo];cases ho:h[i]? with
  | none=>rfl
  | some o=>simp[hd i o ho (Ne.symm hi)]
theorem oP {b C n : Nat} {g : Gr} {cl : List Cl} {lv rv : V} {c : Cl} {h : H} {R : AEnd → H → (Nat → Bool) → Prop} (hbC : b ≠ C) (hh : h[b]? = some (bU g n (.ls C 1 0 cl.length cl.length) lv rv)) (hc : h[C]? = some (.cells (cl.map xC)))
 (hd:∀j o,h[j]? =some o→j≠b→o.drop (·==C)=o) (hlv:lv.drop (·==C)=lv) (hrv:rv.drop (·==C)=rv) (hcl:cl.length≤1000000)
 (hr:R (.ret (.tup [])) ((h.set C (.cells ((cl++[c]).map xC))).set b (bU g n (.ls C 1 0 (cl++[c]).length (cl++[c]).length) lv rv)) (·==C)):ah TE 116 [.lp b 0,xC c] h R:=by
 have hM:maxLen=9223372036854775807:=rfl;refine ax Tryz.func116 rfl (by simp[nts]) (vm ?_);have hbc:(b==C)=false:=by simpa using hbC
 have hl:=(zqe hh).1;have hlC:=(zqe hc).1;have dX:V.drops (fun j=>j==C) (cl.map xC)=cl.map xC:=nG _;simp only[wq.1,↓reduceIte,Nat.reduceEqDiff,Nat.reduceLT,Nat.reduceLeDiff,Nat.reduceAdd,reduceCtorEq,Nat.reduceMul,Tryz.results116,hh,hc,hbc,dX];have hbo:((List.map (O.drop fun x=>x==C) h).set C (O.cells (List.map xC cl++[xC c])))[b]? =some (.cells [vi n,.any,lv,vi g.ins,aF g.next,aF g.init,prs g.ands,aF g.outs,rv]):=by rw[zqn (Ne.symm hbC),zqo,hh];simp only[zrw,O.drop,V.drops,V.drop,hlv,hrv,beq_self_eq_true,if_true]
 refine⟨⟨rfl,by decide⟩,⟨by omega,by omega,by omega⟩,?_⟩;rw[hbo];refine⟨by simp,?_⟩;rw[List.set_comm _ _ (Ne.symm hbC),zY hd,List.set_comm _ _ hbC];rw[zql,zqa,zrk]at hr;exact hr
def qg (g:Gr) (lat:Cl):Cl:=-1::(List.replicate g.ins.toNat 0++lat)
theorem uf {b q cap n : Nat} {g : Gr} {cv lv rv : V} {lat : Cl} {h : H} {R : AEnd → H → (Nat → Bool) → Prop} (hh : h[b]? = some (bU g n cv lv rv)) (hq : h[q]? = some (.cells (lat.map vi)))
 (hd:∀(j:Nat) (o:O),h[j]? =some o→o.drop (·==h.length)=o) (i0:0≤g.ins) (i1:g.ins≤4000) (hl:lat.length≤4000) (hqb:q≠b)
 (hr:R (.ret (.tup [])) (h.set b (bU g n cv lv (.ls h.length 1 0 (qg g lat).length (qg g lat).length))++[.cells ((qg g lat).map vi)]) (·==h.length)):ah TE 118 [.lp b 0,.ls q 1 0 lat.length cap] h R:=by
 have hM:maxLen=9223372036854775807:=rfl;have hbl:=(zqe hh).1;have hql:=(zqe hq).1;have hti:ti TE.P 22=some ⟨.slice 3,1,24,.nils⟩:=by simp only[wq.1]
 have htn:ti TE.P 3=some ⟨.int .i64,1,8,.int .i64 0⟩:=by simp only[wq.1]
 have hx0:(h++[O.cells [vi (-1)]])[b]? =some (bU g n cv lv rv):=by rw[zqj hbl];exact hh
 have hx1:(h++[O.cells [vi (-1)]])[h.length]? =some (.cells [vi (-1)]):=by rw[List.getElem?_append_right (zrb _)];simp
 obtain⟨m,hm⟩:∃m:Nat,g.ins=m:=⟨g.ins.toNat,by omega⟩;refine ah.kp (·==h.length) ?_;refine ax Tryz.func118 rfl (by simp[nts]) ?_;refine ag (fP ?_);refine aB rfl rfl ?_;simp only[wq.1,Int.reduceNeg,Tryz.results118];refine dG rfl rfl ?_;refine xW rfl hti rfl htn rfl trivial rfl ?_;refine aB rfl rfl ?_;simp only[wq.1,seval];refine aB rfl rfl ?_;simp only[wq.1,seval];refine aB rfl rfl ?_;simp only[wq.1,seval];refine aB rfl rfl ?_;simp only[wq.1,seval];refine aB rfl rfl ?_;simp only[wq.1,seval,hx0];refine dG rfl rfl ?_;refine nM (x:= .tmp 5) (y:= .tmp 10) (t:=22) (xt:=3) (el:=3) ⟨⟨_,rfl,rfl,rfl⟩,hti,rfl,htn,rfl,rfl,Nat.zero_lt_one⟩ (by simp only[wq.1,seval]) (by simp only[wq.1,↓reduceIte]) (id:=h.length) (len:=1) (cap:=1) (by simp only[wq.1,seval]) hx1 rfl (m:=m) (by simp only[wq.1,↓reduceIte,hm]) htn rfl (by omega) rfl (zv:=vi 0) rfl (cs:=List.replicate m (vi 0)) rfl (by rw[←List.map_replicate (f:=vi)];exact lN _) (by omega) (by show(1+m)*8≤_;omega) (by simp only[wq.1]) ?_;have hmap:h.map (O.drop fun x=>x==h.length)=h:=by
  refine List.ext_getElem? fun j=> ?_;rw[zqo];cases ho:h[j]? with
  | none=>rfl
  | some o=>rw[zrw,hd j o ho]
 have hcs:V.drops (fun x=>x==h.length) ([vi (-1)]++List.replicate m (vi 0))=(-1::List.replicate m 0).map vi:=by rw[show [vi (-1)]++List.replicate m (vi 0)=(-1::List.replicate m (0:Int)).map vi by simp];exact bu _
 have hH:(List.map (O.drop fun x=>x==h.length) (h++[O.cells [V.int IntKind.i64 (-1)]])).set h.length (O.cells (V.drops (fun x=>x==h.length) ([vi (-1)]++List.replicate m (vi 0))))=h++[.cells (vi (-1)::(List.replicate m 0).map vi)]:=by rw[hcs,zql,hmap,List.set_append_right _ _ (zrb _)];simp
 rw[hH];have nb:(b==h.length)=false:=by simpa using Nat.ne_of_lt hbl
 have nq:(q==h.length)=false:=by simpa using Nat.ne_of_lt hql
 have hx2:(h++[O.cells (vi (-1)::(List.replicate m 0).map vi)])[b]? =some (bU g n cv lv rv):=by rw[zqj hbl];exact hh
 refine aB rfl rfl ?_;simp only[wq.1,seval,nb];refine aB rfl rfl ?_;simp only[wq.1,seval];refine aB rfl rfl ?_;simp only[wq.1,seval,hx2];refine fA ?_;simp only[wq.1,Int.reduceNeg];have hx3:((h++[O.cells (vi (-1)::(List.replicate m 0).map vi)]).set b (bU g n cv lv (.ls h.length 1 0 (1+m) (1+m))))[b]? =some (bU g n cv lv (.ls h.length 1 0 (1+m) (1+m))):=zqt (by simp;omega);have hx4:((h++[O.cells (vi (-1)::(List.replicate m 0).map vi)]).set b (bU g n cv lv (.ls h.length 1 0 (1+m) (1+m))))[q]? =some (.cells (lat.map vi)):=by
  rw[zqn (Ne.symm hqb),zqj hql];exact hq
 have hx5:((h++[O.cells (vi (-1)::(List.replicate m 0).map vi)]).set b (bU g n cv lv (.ls h.length 1 0 (1+m) (1+m))))[h.length]? =some (.cells (vi (-1)::(List.replicate m 0).map vi)):=by rw[zqn (Nat.ne_of_lt hbl),List.getElem?_append_right (zrb _)];simp
 refine vm ?_;simp only[wq.1,seval,nb,nq,hx3,hx4,hx5];have e1:(if lat.length*1≤lat.length then some (lat.length,List.take (lat.length*1) (List.map vi lat))else none)=some (lat.length,lat.map vi):=by
  rw[Nat.mul_one,if_pos (zrb _),zqh (by simp)]
 rw[e1];have dL:∀l:Cl,V.drops (fun x=>x==h.length) (l.map vi)=l.map vi:=fun l=>bu l;obtain⟨B1,hB1⟩:∃B1:O,B1=O.cells [vi n,cv,lv,vi g.ins,aF g.next,aF g.init,prs g.ands,aF g.outs,V.ls h.length 1 0 (1+m) (1+m)]:=⟨_,rfl⟩;have hmm:∀X2:O,((List.map (O.drop fun x=>x==h.length) ((h++[O.cells (vi (-1)::List.map vi (List.replicate m 0))]).set b B1)).set h.length X2)=h.set b (B1.drop fun x=>x==h.length)++[X2]:=fun X2=>by
  rw[List.map_set,zql,hmap,List.set_append_left _ _ hbl,List.set_append_right _ _ (by simp)];simp
 have hbb:∀X2:O,(h.set b (B1.drop fun x=>x==h.length)++[X2])[b]? =some (B1.drop fun x=>x==h.length):=fun X2=>by rw[zqj (by simpa using hbl),zqt hbl]
 have hdB:(B1.drop fun x=>x==h.length)=O.cells [vi n,cv.drop fun x=>x==h.length,lv.drop fun x=>x==h.length,vi g.ins,aF g.next,aF g.init,prs g.ands,aF g.outs,.any]:=by rw[hB1];simp only[O.drop,V.drops,V.drop,beq_self_eq_true,if_true]
 have hob:=hd b _ hh;have hcl:cv.drop (fun x=>x==h.length)=cv∧lv.drop (fun x=>x==h.length)=lv:=by have:=hob;simp only[bU,O.drop,V.drops,V.drop,O.cells.injEq,List.cons.injEq]at this;exact⟨this.2.1,this.2.2.1⟩
 refine⟨⟨by simp;omega,lN _,by omega,by omega⟩,?_⟩;rw[←hB1,hmm,hbb,hdB,hcl.1,hcl.2];refine⟨by simp,?_⟩;refine⟨fun j hj=> ?_,?_⟩
 ·simpa using hj
 rw[List.set_append_left _ _ (by simpa using hbl),List.set_set,dL,dL];have hlen:(qg g lat).length=1+m+lat.length:=by unfold qg;rw[hm];simp;omega
 rw[hlen]at hr;have bM:vi (-1)::(List.map vi (List.replicate m 0)++List.map vi lat)=(qg g lat).map vi:=by unfold qg;rw[hm];simp
 rw[bM];exact hr
structure BH (g : Gr) (k0 : Nat) (h0 : H) (b C L n : Nat) (cl : List Cl) (rs : List (Nat × Cl)) (r : Nat) (row : Cl) (h : H) : Prop where
 hb:h[b]? =some (bU g n (.ls C 1 0 cl.length cl.length) (.ls L 1 0 rs.length rs.length) (.ls r 1 0 row.length row.length))
 hC:h[C]? =some (.cells (cl.map xC))
 hL:h[L]? =some (.cells (rs.map fun p=> .ls p.1 1 0 p.2.length p.2.length))
 hr:h[r]? =some (.cells (row.map vi))
 hrs:∀p∈rs,h[p.1]? =some (.cells (p.2.map vi))∧k0≤p.1∧p.1≠r
 n1:b≠C
 n2:b≠L
 n3:C≠L
 bk:b<k0
 Ck:C<k0
 Lk:L<k0
 rk:k0≤r
 pl:∀(j:Nat) (o:O),h[j]? =some o→j≠b→j≠L→∀D,o.drop D=o
 bs:∀j,j<k0→j≠b→j≠C→j≠L→h[j]? =h0[j]?
def HU (g:Gr) (b C r:Nat) (lv:V) (h:H) (n:Nat) (cl:List Cl) (row:Cl):H :=
 ((h.set b (bU g n (.ls C 1 0 cl.length cl.length) lv (.ls r 1 0 row.length row.length))).set C (.cells (cl.map xC))).set r (.cells (row.map vi))
section
variable {g:Gr} {b C r:Nat} {lv:V} {h:H} {n:Nat} {cl:List Cl} {row:Cl} {X:H}
theorem jE:(HU g b C r lv h n cl row).length=h.length:=by simp[HU]
theorem WF (h1:b≠C) (h2:b≠r) (hl:b<h.length):(HU g b C r lv h n cl row++X)[b]? =some (bU g n (.ls C 1 0 cl.length cl.length) lv (.ls r 1 0 row.length row.length)):=by rw[zqj (by rw[jE];exact hl),HU,zqn (Ne.symm h2),zqn (Ne.symm h1),zqt hl]
theorem WS (h2:C≠r) (hl:C<h.length):(HU g b C r lv h n cl row++X)[C]? =some (.cells (cl.map xC)):=by rw[zqj (by rw[jE];exact hl),HU,zqn (Ne.symm h2),zqt (by simpa using hl)]
theorem WT (hl:r<h.length):(HU g b C r lv h n cl row++X)[r]? =some (.cells (row.map vi)):=by rw[zqj (by rw[jE];exact hl),HU,zqt (by simpa using hl)]
theorem WG {j:Nat} (h1:j≠b) (h2:j≠C) (h3:j≠r) (hl:j<h.length):(HU g b C r lv h n cl row++X)[j]? =h[j]? :=by rw[zqj (by rw[jE];exact hl),HU,zqn (Ne.symm h3),zqn (Ne.symm h2),zqn (Ne.symm h1)]
theorem WU {j:Nat} (hl:h.length≤j):(HU g b C r lv h n cl row++X)[j]? =X[j-h.length]? :=by rw[List.getElem?_append_right (by rw[jE];exact hl),jE]
theorem MM {n':Nat} (h1:b≠C) (h2:b≠r) (hl:b<h.length):(HU g b C r lv h n cl row++X).set b (bU g n' (.ls C 1 0 cl.length cl.length) lv (.ls r 1 0 row.length row.length))=HU g b C r lv h n' cl row++X:=by rw[List.set_append_left _ _ (by rw[jE];exact hl),HU,HU,List.set_comm _ _ (Ne.symm h2),List.set_comm _ _ (Ne.symm h1),List.set_set]
theorem MN {cl':List Cl} (h1:b≠C) (h2:b≠r) (h3:C≠r) (hl:b<h.length) (hlC:C<h.length) :
 ((HU g b C r lv h n cl row++X).set C (.cells (cl'.map xC))).set b (bU g n (.ls C 1 0 cl'.length cl'.length) lv (.ls r 1 0 row.length row.length))=HU g b C r lv h n cl' row++X:=by
 rw[List.set_append_left _ _ (by rw[jE];exact hlC),List.set_append_left _ _ (by rw[zrn,jE];exact hl),HU,HU,List.set_comm _ _ (Ne.symm h3),List.set_set,
  List.set_comm _ _ (Ne.symm h2),List.set_comm _ _ (Ne.symm h1),List.set_set]
theorem VE {row':Cl} (h1:b≠C) (h2:b≠r) (hl:b<h.length) (hlr:r<h.length) :
 ((HU g b C r lv h n cl row++X).set r (.cells (row'.map vi))).set b (bU g n (.ls C 1 0 cl.length cl.length) lv (.ls r 1 0 row'.length row'.length))=HU g b C r lv h n cl row'++X:=by
 rw[List.set_append_left _ _ (by rw[jE];exact hlr),List.set_append_left _ _ (by rw[zrn,jE];exact hl),HU,HU,List.set_set,
  List.set_comm _ _ (Ne.symm h2),List.set_comm _ _ (Ne.symm h1),List.set_set]
end
theorem BH.lens {g:Gr} {k0:Nat} {h0:H} {b C L n:Nat} {cl:List Cl} {rs:List (Nat×Cl)} {r:Nat} {row:Cl} {h:H} (k:BH g k0 h0 b C L n cl rs r row h):b<h.length∧C<h.length∧L<h.length∧r<h.length∧b≠r∧C≠r∧L≠r :=
 ⟨(zqe k.hb).1,(zqe k.hC).1,(zqe k.hL).1,(zqe k.hr).1,by have:=k.bk;have:=k.rk;omega,by have:=k.Ck;have:=k.rk;omega,by have:=k.Lk;have:=k.rk;omega⟩
theorem BH.hs {g:Gr} {k0:Nat} {h0:H} {b C L n:Nat} {cl:List Cl} {rs:List (Nat×Cl)} {r:Nat} {row:Cl} {h:H} (k:BH g k0 h0 b C L n cl rs r row h):h=HU g b C r (.ls L 1 0 rs.length rs.length) h n cl row++[]:=by
 have e:∀ {j:Nat} {o:O},h[j]? =some o→h.set j o=h:=fun hj=>by obtain⟨hl,rfl⟩:=zqe hj;exact List.set_getElem_self hl
 rw[zqp,HU,e k.hb,e k.hC,e k.hr]
theorem sS {D : Nat → Bool} : ∀ {rs : List (Nat × Cl)},(∀ p ∈ rs,D p.1 = false) → V.drops D (rs.map fun p => V.ls p.1 1 0 p.2.length p.2.length) = rs.map fun p => V.ls p.1 1 0 p.2.length p.2.length
 | [],_=>rfl
 | p::rs,h=>by rw[zrd,V.drops,sS (rs:=rs) fun q hq=>h q (by simp[hq])];have:=h p (by simp);simp only[V.drop,this,zrm,if_false]
theorem BH.dropO {g:Gr} {k0:Nat} {h0:H} {b C L n:Nat} {cl:List Cl} {rs:List (Nat×Cl)} {r:Nat} {row:Cl} {h:H} (k:BH g k0 h0 b C L n cl rs r row h) {D:Nat→Bool} (hD:∀p∈rs,D p.1=false) :
 ∀(j:Nat) (o:O),h[j]? =some o→j≠b→o.drop D=o:=fun j o ho hj=>by
 by_cases hL:j=L
 ·subst hL;rw[k.hL]at ho;cases ho;show O.cells (V.drops D _)=_;rw[sS hD]
 ·exact k.pl j o ho hj hL D
end Go.Proofs.YtmlacppmbfbjgaaGreatDoor
