/- Lemmas for this claim, part F18: each holds under what it names. -/
import Derived.Test.YthdidjjecjhenaaGreatAF17
set_option linter.all false
set_option maxRecDepth 20000
set_option maxHeartbeats 8000000
namespace Go.Proofs.YthdidjjecjhenaaGreat
open Go Go.Proofs Go.Abs
open List renaming length → aa, replicate → aD
open Bool renaming true → ab, false → am
open Option renaming some → ar, none → aL
open Decidable renaming decide → aM
open Go.IntKind renaming wrap → a5
open Go.Result renaming andThen → a8
open Go.Abs.O renaming cells → aw
open Go.Abs.V renaming drops → aE, dat → a6, dats → a7
theorem wB(v:List Bool)(a:Int)(h0:0<=a)(h1:a/2<aa v)(h2:a<=1000000000):Ev TE 75 [aI v,vi a] (.bool (lv v a)):=by
 obtain⟨k,hk⟩:∃k:Nat,a/2=k:=⟨(a/2).toNat,by omega⟩;have hkl:k<aa v:=by omega
 have hg:(v.map V.bool).getD k .any= .bool v[k]:=GZ hkl _;have q1:a5 .i64 (a.tdiv 2)=k:=by rw[Int.tdiv_eq_ediv_of_nonneg h0,aV (by omega) (by omega)];exact hk
 have q2:a.tmod 2=a%2:=Int.tmod_eq_emod_of_nonneg h0;have n2:((2:Int)≠0):=by decide
 refine aC Tryz.func75 rfl (by simp[nts]) (vm ?_);simp only[wq.1,↓reduceIte,Nat.reduceEqDiff,Nat.reduceLT,Tryz.results75,q1,q2,hk,hg];refine⟨n2,⟨by omega,by omega⟩,n2,?_⟩;refine aH.eq rfl ?_;unfold lv;rw[hk,zsg,aP hkl];rfl
theorem aH.ex{e:E}{h:H}{k:Nat}{es:List V}(hd:a6 (.is ab k es)=ab):aH e h (.is ab k es) (.is am k es):=λok pl w x hs hv=>dJ _ _ (aH.dat hd ok pl w x hs hv)
theorem Um(g:Gr)(st ins:List Bool)(bn:aa g.next<=4000)(bi:aa g.init<=4000)(ba:aa g.ands<=4000)(bo:aa g.outs<=4000):Ev TE 74 [g.v,aI st,aI ins] (.tup [aI (g.valV st ins),vi (g.valE st ins)]):=by
 have hM:=mLx;have hgc:=Np g bn bi ba bo;have dg:a7 [.agg [vi g.ins,az g.next,az g.init,prs g.ands,az g.outs]]=ab:=by simp only[a7,a6,zre]
 unfold Gr.v at hgc ⊢;refine aC Tryz.func74 rfl (by simp[nts]) ?_;refine vn ?_;simp only[wq.1,Nat.reduceLT,Tryz.results74];refine vn ?_;simp only[wq.1,seval];refine ag.ev hgc dg ?_;simp only[wq.1,seval];refine vn ?_;simp only[wq.1,seval];refine vcB.mk (λhc=> ?_) (λhc=> ?_)
 ·simp only[wq.1,seval];have h1:g.valE st ins=g.chk:=by unfold Gr.valE;rw[if_pos (by simpa using hc)]
  have h2:g.valV st ins=[]:=by unfold Gr.valV;rw[if_neg (by rw[h1];simpa using hc)]
  rw[h1,h2];exact aH.tup (aj.cons aH.nils (aj.dat rfl))
 have hg:g.chk=0:=by simpa using hc
 obtain⟨_,i0,i1,i2,i3,i4,i5⟩:=aU hg;have fin:((aa st:Int) != (aa g.next:Int))||((aa ins:Int) != g.ins)->aH TE [aw [vi g.ins,az g.next,az g.init,prs g.ands,az g.outs]] (.tup [.nils,vi 11]) (.tup [aI (g.valV st ins),vi (g.valE st ins)]):=λh=>by
  have h1:g.valE st ins=11:=by unfold Gr.valE;rw[if_neg (by simp[hg]),if_pos h]
  have h2:g.valV st ins=[]:=by unfold Gr.valV;rw[if_neg (by rw[h1];decide)]
  rw[h1,h2];exact aH.tup (aj.cons aH.nils (aj.dat rfl))
 cases e1:(aa st:Int) != (aa g.next:Int)with
 |true =>
  simp only[wq.1];refine vn ?_;simp only[wq.1,seval,e1]
  repeat(refine⟨.bool ab,?_⟩;simp only[wq.1,seval,aG,Tryz.results74,e1])
  exact fin (by simp[e1])
 |false =>
 cases e2:(aa ins:Int) != g.ins with
 |true=>simp only[wq.1];refine vn ?_;simp only[wq.1,seval,e1,e2];exact fin (by simp[e1,e2])
 |false =>
 simp only[bne_eq_false_iff_eq]at e1 e2;have hE:g.valE st ins=0:=by unfold Gr.valE;rw[if_neg (by simp[hg]),if_neg (by simp;omega)]
 have hV:g.valV st ins=dw g st ins (aa g.ands):=by unfold Gr.valV Gr.vals;rw[if_pos hE]
 have hfl:dw g st ins 0=am::(ins++st):=by simp[dw]
 rw[hE,hV];simp only[wq.1];refine vn ?_;simp only[wq.1,seval,e1,e2,bne_self_eq_false];refine vn ?_;simp only[wq.1,↓reduceIte,Nat.reduceLT,reduceCtorEq,Nat.reduceMul];have hq:ti TE.P 31=ar ⟨.slice 4,1,24,.nils⟩:=by simp only[wq.1,seval,aG,Tryz.results74]
 have hqe:ti TE.P 4=ar ⟨.bool,1,1,.bool am⟩:=by simp only[wq.1,seval,aG,Tryz.results74]
 obtain⟨G,hG⟩:∃G:O,G=aw [vi g.ins,az g.next,az g.init,prs g.ands,az g.outs]:=⟨_,rfl⟩;rw[<-hG];refine⟨⟨rfl,by decide⟩,?_⟩;refine ak (dh (Q:=λxe f h=>xe= .normal/\f.t 1=aI st/\f.t 3= .lp 0 0/\f.d=[]/\((ins=[]/\f.t 9= .is ab 1 [V.bool am]/\h=[G])\/(f.t 9= .ls 1 1 0 (1+aa ins) (1+aa ins)/\h=[G,aw (V.bool am::ins.map V.bool)]))) ?_ ?_)
 ·rintro xe f h ⟨rfl,h1,h3,hd,hh⟩;show awp _ _ _ _ _ _ _;refine ak (dh (Q:=λxe f h=>xe= .normal/\f.t 3= .lp 0 0/\f.d=[]/\((dw g st ins 0=[am]/\f.t 9= .is ab 1 [V.bool am]/\h=[G])\/(f.t 9= .ls 1 1 0 (aa (dw g st ins 0)) (aa (dw g st ins 0))/\h=[G,aw ((dw g st ins 0).map V.bool)]))) ?_ ?_)
  ·rintro xe f h ⟨rfl,h3,hd,hh⟩;show awp _ _ _ _ _ _ _;refine vm ?_;simp only[wq.1,Nat.reduceLT];refine aA (λm f h=>∃i,m+i=aa g.ands/\f.t 3= .lp 0 0/\f.t 10=vi i/\f.d=[]/\((i=0/\dw g st ins 0=[am]/\f.t 9= .is ab 1 [V.bool am]/\h=[G])\/(f.t 9= .ls 1 1 0 (aa (dw g st ins i)) (aa (dw g st ins i))/\h=[G,aw ((dw g st ins i).map V.bool)]))) (aa g.ands) ⟨0,by simp,h3,rfl,hd,?_⟩ ?_
   ·rcases hh with⟨q1,q2,q3⟩|⟨q2,q3⟩
    ·exact .inl ⟨rfl,q1,q2,q3⟩
    ·exact .inr ⟨q2,q3⟩
   rintro m f h ⟨i,hm,h3,h10,hd,hh⟩;have hgp:=λhlt=>Yk (l:=g.ands) (i:=i) hlt V.any;have hln:=λhi=>iY (g:=g) (st:=st) (ins:=ins) (i:=i) hi;have hw:=λhi=>ax (show i<maxLen from hi);have wf:g.first=1+g.ins+aa g.next:=rfl
   rcases hh with⟨rfl,q1,h9,rfl⟩|⟨h9,rfl⟩
   ·subst hG;refine vm ?_;simp only[wq.1,seval,aG,Tryz.results74,h3,h10,h9,hd];refine vcB.mk (λhlt=> ?_) (λhlt=> ?_)
    ·have hlt:0<aa g.ands:=by simpa using hlt
     have hgp:=hgp hlt;have hln:=hln (by omega);have hw:=hw (by omega);obtain⟨o1,o2,o3,o4⟩:=iq i5 hlt;have key:∀b,(lv (dw g st ins 0) g.ands[0].1&&lv (dw g st ins 0) g.ands[0].2)=b->dw g st ins (0+1)=dw g st ins 0++[b]:=λb hb=>by rw[jT hlt,hb]
     have l1:=(wB (dw g st ins 0) g.ands[0].1 o1 (by omega) (by omega)).les (fD.cons (dJ (x:=ab)) (fD.refl _));have l2:=(wB (dw g st ins 0) g.ands[0].2 o2 (by omega) (by omega)).les (fD.cons (dJ (x:=ab)) (fD.refl _));rw[q1]at l1 l2 key;have hgp:(List.map prV g.ands).getD 0 V.any=prV g.ands[0]:=hgp;simp only[wq.1,seval,-Int.reduceNatCast,-Int.reduceNatCast',aG,Tryz.results74,h3,h10,h9,hd,hgp];refine⟨⟨by decide,by omega⟩,by decide,ag.ev l1 rfl ?_⟩;cases hv1:lv [am] g.ands[0].1 with
     |true =>
      simp only[wq.1,seval,-Int.reduceNatCast,-Int.reduceNatCast',aG,Tryz.results74,bC,h3,h10,h9,hd,hgp];refine⟨⟨by decide,by omega⟩,by decide,ag.ev l2 rfl ?_⟩;simp only[wq.1,↓reduceIte,Nat.reduceEqDiff,Nat.reduceLT,Nat.reduceLeDiff,Nat.reduceAdd,reduceCtorEq,Nat.reduceMul,h10];refine⟨⟨rfl,by decide⟩,by omega,.inl ⟨m-1,by omega,0+1,by omega,h3,rfl,hd,.inr ⟨?_,?_⟩⟩⟩
      ·rw[key _ rfl,hv1];simp only[wq.1,seval]
      ·rw[key _ rfl,hv1];rfl
     |false =>
      simp only[wq.1,↓reduceIte,Nat.reduceEqDiff,Nat.reduceLT,Nat.reduceLeDiff,Nat.reduceAdd,Int.reduceToNat,Int.reduceLE,reduceCtorEq,Nat.reduceMul,h3,h10,h9,hgp]
      repeat(refine⟨.bool am,?_⟩;simp only[wq.1,bC,h3,h10,h9,hd,hgp])
      refine⟨⟨rfl,by decide⟩,by omega,.inl ⟨m-1,by omega,0+1,by omega,h3,rfl,hd,.inr ⟨?_,?_⟩⟩⟩
      ·rw[key _ rfl,hv1];simp only[wq.1,seval]
      ·rw[key _ rfl,hv1];rfl
    ·have hlt:aa g.ands=0:=by simpa using hlt
     simp only[wq.1,seval,h9,hd];rw[hlt,q1];exact aH.tup (aj.cons (aH.ex rfl) (aj.dat rfl))
   ·subst hG;refine vm ?_;simp only[wq.1,seval,aG,Tryz.results74,h3,h10,h9,hd];refine vcB.mk (λhlt=> ?_) (λhlt=> ?_)
    ·simp only[zqb,zqi]at hlt;have hgp:=hgp hlt;have hln:=hln (by omega);have hw:=hw (by omega);obtain⟨o1,o2,o3,o4⟩:=iq i5 hlt;have key:∀b,(lv (dw g st ins i) g.ands[i].1&&lv (dw g st ins i) g.ands[i].2)=b->dw g st ins (i+1)=dw g st ins i++[b]:=λb hb=>by rw[jT hlt,hb]
     have rv:∀b:Int,aj TE [aw [vi g.ins,az g.next,az g.init,prs g.ands,az g.outs],aw (List.map V.bool (dw g st ins i))] [.ls 1 1 0 (aa (dw g st ins i)) (aa (dw g st ins i)),vi b] [aI (dw g st ins i),vi b]:=λb=>aj.cons (fG rfl rfl) (aj.cons (aH.dat rfl) aj.nil);simp only[wq.1,seval,-Int.reduceNatCast,-Int.reduceNatCast',aG,Tryz.results74,h3,h10,h9,hd,hgp];refine⟨⟨by omega,by omega⟩,by decide,ag.lend (wB (dw g st ins i) g.ands[i].1 o1 (by omega) (by omega)) (rv _) rfl ?_⟩;cases hv1:lv (dw g st ins i) g.ands[i].1 with
     |true =>
      simp only[wq.1,seval,-Int.reduceNatCast,-Int.reduceNatCast',aG,Tryz.results74,bC,h3,h10,h9,hd,hgp];refine⟨⟨by omega,by omega⟩,by decide,ag.lend (wB (dw g st ins i) g.ands[i].2 o2 (by omega) (by omega)) (rv _) rfl ?_⟩;simp only[wq.1,↓reduceIte,Nat.reduceEqDiff,Nat.reduceLT,reduceCtorEq,Nat.reduceMul,h10,hd,eU,hw];refine⟨⟨rfl,by decide⟩,⟨by omega,by omega,by omega⟩,.inl ⟨m-1,by omega,i+1,by omega,by simp only[wq.1,seval,h3],rfl,hd,.inr ⟨?_,?_⟩⟩⟩
      ·rw[key _ rfl,hv1,zqa];simp only[wq.1,seval]
      ·rw[key _ rfl,hv1,zql];rfl
     |false =>
      simp only[wq.1,↓reduceIte,Nat.reduceEqDiff,Nat.reduceLT,Nat.reduceLeDiff,Nat.reduceAdd,Int.reduceToNat,Int.reduceLE,reduceCtorEq,Nat.reduceMul,h3,h10,h9,hd,hgp,eU,hw]
      repeat(refine⟨.bool am,?_⟩;simp only[wq.1,↓reduceIte,bC,h3,h10,h9,hd,hgp,qJ,eU,hw])
      refine⟨⟨rfl,by decide⟩,⟨by omega,by omega,by omega⟩,.inl ⟨m-1,by omega,i+1,by omega,by simp only[wq.1,seval,aG,Tryz.results74,h3],rfl,hd,.inr ⟨?_,?_⟩⟩⟩
      ·rw[key _ rfl,hv1,zqa];simp only[wq.1,seval]
      ·rw[key _ rfl,hv1,zql];rfl
    ·simp only[zqd,zqi]at hlt;have hi:i=aa g.ands:=by omega
     simp only[wq.1,seval,h9,hd];rw[<-hi];exact aH.tup (aj.cons (fG rfl rfl) (aj.dat rfl))
  ·have hv0:(dw g st ins 0).map V.bool=V.bool am::(ins.map V.bool++st.map V.bool):=by rw[hfl,zrd,zql]
   have hvl:aa (dw g st ins 0)=1+aa ins+aa st:=by rw[hfl,zrt,zqa];omega
   rcases hh with⟨rfl,h9,rfl⟩|⟨h9,rfl⟩
   ·by_cases hst:st=[]
    ·refine jF ?_;refine aK rfl rfl ?_;simp only[wq.1,h9];refine aK rfl rfl ?_;simp only[wq.1,seval,h1];refine gX rfl rfl ?_;refine pY (x:= .tmp 33) (y:= .tmp 34) (t:=31) (xt:=31) (el:=4) (cs:=[]) ⟨⟨_,rfl,rfl,rfl⟩,hq,rfl,hqe,rfl,rfl,Nat.zero_lt_one⟩ (by simp only[wq.1,seval]) (by simp only[wq.1,↓reduceIte]) (ex:=ab) (k:=1) (es:=[V.bool am]) (by simp only[wq.1,seval]) (by simp only[wq.1,↓reduceIte]) (by simp only[wq.1,↓reduceIte,hst]) (by simp only[wq.1,↓reduceIte,hst]) ?_;refine aK rfl rfl ?_;simp only[wq.1,↓reduceIte];refine iZ ?_;refine⟨rfl,h3,hd,.inl ⟨by rw[hfl,hst];rfl,rfl,rfl⟩⟩
    ·have hpos:0<aa st:=List.length_pos_iff.2 hst;refine vm ?_;simp only[wq.1,seval,h1,h3,h9,hd,qJ];refine⟨⟨.inr hpos,by omega,by show _<=_;omega⟩,.inr ⟨?_,?_⟩⟩
     ·simp only[wq.1,hvl]
      try simp
     ·rw[hv0];rfl
   ·subst hG;refine vm ?_;simp only[wq.1,seval,h1,h3,h9,hd,qJ,eU];refine⟨⟨by simp[Nat.add_comm],by omega,by show _<=_;omega⟩,.inr ⟨?_,?_⟩⟩
    ·rw[hvl]
    ·rw[hv0]
 ·by_cases hin:ins=[]
  ·rw[hG];refine jF ?_;refine aK rfl rfl ?_;simp only[wq.1,↓reduceIte];refine aK rfl rfl ?_;simp only[wq.1,seval];refine gX rfl rfl ?_;refine pY (x:= .tmp 30) (y:= .tmp 31) (t:=31) (xt:=31) (el:=4) (cs:=[]) ⟨⟨_,rfl,rfl,rfl⟩,hq,rfl,hqe,rfl,rfl,Nat.zero_lt_one⟩ (by simp only[wq.1,seval]) (by simp only[wq.1,↓reduceIte]) (ex:=ab) (k:=1) (es:=[V.bool am]) (by simp only[wq.1,seval] ) (by simp only[wq.1,↓reduceIte]) (by simp only[wq.1,↓reduceIte,hin]) (by simp only[wq.1,↓reduceIte,hin]) ?_;refine aK rfl rfl ?_;simp only[wq.1,↓reduceIte];refine iZ ?_;refine⟨rfl,rfl,rfl,rfl,.inl ⟨hin,rfl,rfl⟩⟩
  ·have hpos:0<aa ins:=List.length_pos_iff.2 hin;rw[hG];refine vm ?_;simp only[wq.1,seval,qJ];exact⟨.inr hpos,by omega,by show _<=_;omega⟩
theorem Un(g:Gr)(st ins:List Bool)(bn:aa g.next<=4000)(bi:aa g.init<=4000)(ba:aa g.ands<=4000)(bo:aa g.outs<=4000):Ev TE 46 [g.v,aI st,aI ins] (.tup [aI (g.out st ins),aI (g.nxt st ins),vi (g.valE st ins)]):=by
 have hM:=mLx;have hgv:=Um g st ins bn bi ba bo;unfold Gr.v at hgv ⊢;have dg:a7 [.agg [vi g.ins,az g.next,az g.init,prs g.ands,az g.outs],aI st,aI ins]=ab:=by simp only[a7,a6,zre]
 refine aC Tryz.func46 rfl (by simp[nts]) (vm ?_);simp only[wq.1,seval,Tryz.results46];refine ag.ev hgv dg ?_;simp only[wq.1,seval];refine vcB.mk (λhc=> ?_) (λhc=> ?_)
 ·have hc:g.valE st ins≠0:=by simpa using hc
  simp only[wq.1,seval];unfold Gr.out Gr.nxt;rw[if_neg hc,if_neg hc];exact aH.tup (aj.cons aH.nils (aj.cons aH.nils (aj.dat rfl)))
 ·have hc:g.valE st ins=0:=by simpa using hc
  have hV:g.valV st ins=g.vals st ins:=by unfold Gr.valV;rw[if_pos hc]
  obtain⟨l1,l2,l3,l4,l5,_⟩:=PU hc;obtain⟨v,hv⟩:∃v,v=g.vals st ins:=⟨_,rfl⟩;rw[<-hv]at l1 l2;simp only[wq.1,Nat.reduceLT,hV];rw[<-hv];refine iF 11 1 (rfl) ?_;simp only[wq.1];refine aA (λm f h=>∃(i:Nat)(cs:List V),m+i=aa g.outs/\f.t 3= .lp 0 0/\f.t 9=aI v/\f.t 11= .ls 1 1 0 i i/\f.t 12= .nils/\f.t 13=vi i/\f.d=[]/\cs=((g.outs.take i).map (lv v)).map V.bool/\h=[aw [vi g.ins,az g.next,az g.init,prs g.ands,az g.outs],aw cs]) (aa g.outs) ⟨0,[],by simp,rfl,rfl,rfl,rfl,rfl,rfl,rfl,rfl⟩ ?_;rintro m f h ⟨i,cs,hm,h3,h9,h11,h12,h13,hd,hcs,rfl⟩;have hcl:i<=aa g.outs->aa cs=i:=λhi=>by rw[hcs,zra,zra,zrl];omega
  have hdc:∀p,aE p cs=cs:=λp=>by rw[hcs];exact eU _
  refine vm ?_;simp only[wq.1,seval,h3,h13];refine vcB.mk (λhlt=> ?_) (λhlt=> ?_)
  ·simp only[zqb,zqi]at hlt;obtain⟨o1,o2,o3⟩:=l1 _ (zqu hlt);have gi:=sU hlt V.any;have hw:=ax (show i<maxLen by omega);have hcl':=hcl (by omega);simp only[wq.1,seval,h3,h9,h11,h13,gi];refine⟨⟨by omega,by omega⟩,ag.ev (wB v g.outs[i] o1 o2 o3) rfl ?_⟩;simp only[wq.1,↓reduceIte,Nat.reduceEqDiff,Nat.reduceLT,reduceCtorEq,Nat.reduceMul,h13,hd,hdc,hw];refine⟨⟨rfl,by decide⟩,⟨by omega,by omega,by omega⟩,.inl ⟨m-1,by omega,i+1,_,by omega,by simp only[wq.1,seval,aG,Tryz.results46,h3],by simp only[wq.1,seval,aG,Tryz.results46,h9],rfl,by simp only[wq.1,seval,aG,Tryz.results46,h12],rfl,hd,?_,rfl⟩⟩;rw[hcs,show g.outs.take (i+1)=g.outs.take i++[g.outs[i]] by rw[zrg,zqk hlt];rfl,zql,zql];rfl
  ·simp only[zqd,zqi]at hlt;have hi:i=aa g.outs:=by omega
   have hcl':=hcl (by omega);rw[hi,zrx]at hcs;simp only[wq.1,Nat.reduceLT];refine iF 12 1 (h12) ?_;simp only[wq.1,Nat.reduceAdd,hd];refine aA (λm f h=>∃(j:Nat)(ds:List V),m+j=aa g.next/\f.t 3= .lp 0 0/\f.t 9=aI v/\f.t 11= .ls 1 1 0 i i/\f.t 12= .ls 2 1 0 j j/\f.t 14=vi j/\f.d=[]/\ds=((g.next.take j).map (lv v)).map V.bool/\h=[aw [vi g.ins,az g.next,az g.init,prs g.ands,az g.outs],aw cs,aw ds]) (aa g.next) ⟨0,[],by simp,h3,h9,h11,rfl,rfl,rfl,rfl,rfl⟩ ?_
   rintro m f h ⟨j,ds,hm,h3,h9,h11,h12,h14,hd,hds,rfl⟩;have hdl:j<=aa g.next->aa ds=j:=λhi=>by rw[hds,zra,zra,zrl];omega
   have hdd:∀p,aE p ds=ds:=λp=>by rw[hds];exact eU _
   refine vm ?_;simp only[wq.1,seval,h3,h14];refine vcB.mk (λhlt=> ?_) (λhlt=> ?_)
   ·simp only[zqb,zqi]at hlt;obtain⟨o1,o2,o3⟩:=l2 _ (zqu hlt);have gi:=sU hlt V.any;have hw:=ax (show j<maxLen by omega);have hdl':=hdl (by omega);simp only[wq.1,seval,h3,h9,h12,h14,gi];refine⟨⟨by omega,by omega⟩,ag.ev (wB v g.next[j] o1 o2 o3) rfl ?_⟩;simp only[wq.1,↓reduceIte,Nat.reduceEqDiff,Nat.reduceLT,reduceCtorEq,Nat.reduceMul,h14,hd,hdd,hdc,hw];refine⟨⟨rfl,by decide⟩,⟨by omega,by omega,by omega⟩,.inl ⟨m-1,by omega,j+1,_,by omega,by simp only[wq.1,seval,aG,Tryz.results46,h3],by simp only[wq.1,seval,aG,Tryz.results46,h9],by simp only[wq.1,seval,aG,Tryz.results46,h11],rfl,rfl,hd,?_,rfl⟩⟩;rw[hds,show g.next.take (j+1)=g.next.take j++[g.next[j]] by rw[zrg,zqk hlt];rfl,zql,zql];rfl
   ·simp only[zqd,zqi]at hlt;have hj:j=aa g.next:=by omega
    rw[hj,zrx]at hds;simp only[wq.1,seval,h11,h12,hd];unfold Gr.out Gr.nxt;rw[if_pos hc,if_pos hc,hc,<-hv];exact aH.tup (aj.cons (fG (by rw[hcs];rfl) (by rw[hi,zra])) (aj.cons (fG (by rw[hds];rfl) (by rw[hj,zra])) (aj.dat rfl)))
theorem sS(c:List S)(s:S):Ev TE 23 [ig c,.str s] (vi (idx c (·==s))):=by
 refine Ev.bnd λhb=> ?_;have hlen:=qL hb;refine aC Tryz.func23 rfl (by simp[nts]) (vm ?_);simp only[wq.1,seval,Tryz.results23];refine aA (λm f h=>∃i,m+i=aa c/\f.t 0=ig c/\f.t 1= .str s/\f.t 5= .int .i64 (i:Int)/\f.d=[]/\∀x∈c.take i,(x==s)=am) (aa c) ⟨0,by simp,rfl,rfl,rfl,rfl,by simp⟩ ?_;rintro m f h ⟨i,hm,h0,h1,h5,hd,hall⟩;refine vm ?_;simp only[wq.1,seval,h0,h5];refine vcB.mk (λhc=> ?_) (λhc=> ?_)
 ·simp only[zqb,zqi]at hc;simp only[wq.1,seval,h0,h1,h5,BA hc];refine⟨⟨by omega,by omega⟩,?_⟩;cases hv:c[i]==s with
  |true=>simp only[wq.1,seval,h5,hd];rw[oL hc hall hv];exact aH.dat rfl
  |false=>simp only[wq.1,seval,h5,ax (show i<maxLen by omega)];exact .inl ⟨m-1,by omega,i+1,by omega,h0,h1,rfl,hd,dF hc hall hv⟩
 ·simp only[zqd,zqi]at hc;simp only[wq.1,seval,hd];rw[zqh (by omega)]at hall;rw[mi hall];exact aH.dat rfl
theorem KD:∀ {l:List S} {s:S},at? l s=l.findIdx? (·==s)
 |[],s=>rfl
 |x::l,s=>by
  rw[List.findIdx?_cons,at?,KD (l:=l)];by_cases h:x=s
  ·rw[if_pos h,if_pos (by simpa using h)]
  ·rw[if_neg h,if_neg (by simpa using h)]
variable{l:List S}{s:S}
theorem IM:idx l (·==s)=match at? l s with|some k=>(k:Int)|none=>-1:=by rw[KD];rfl
theorem Uo{n:Int}{v:Bool}(h:0<=n/\n<=2):(n==0&&v||n==1&& !v)=(n != 2&&((n==1) != v)):=by
 obtain rfl|rfl|rfl:n=0\/n=1\/n=2:=by omega
 all_goals cases v<;>rfl
theorem Ai(m:Mo)(st:List Bool)(h1:aa st<=aa m.g.init)(h2:aa st<=1000000)(hr:∀x∈m.g.init,0<=x/\x<=2):Ev TE 22 [m.v,aI st] (.bool (!Ec m.g.init st (aa st))):=by
 have hM:=mLx;unfold Mo.v;refine aC Tryz.func22 rfl (by simp[nts]) (vm ?_);simp only[wq.1,Nat.reduceLT,Tryz.results22];refine aA (λq f h=>∃i,q+i=aa st/\f.t 2= .lp 0 0/\f.t 1=aI st/\f.t 5=vi i/\f.d=[]/\h=[aw (cCM m)]/\Ec m.g.init st i=am) (aa st) ⟨0,by simp,rfl,rfl,rfl,rfl,rfl,rfl⟩ ?_;rintro q f h ⟨i,hq,t2,t1,t5,hd,rfl,hno⟩;refine vm ?_;simp only[wq.1,seval,t1,t5];refine vcB.mk (λhc=> ?_) (λhc=> ?_)
 ·simp only[zqb,zqi]at hc;have hw:=ax (show i<maxLen by omega);have hgi:(m.g.init.map vi).getD i .any=vi (m.g.init.getD i 0):=by rw[aP (show i<aa m.g.init by omega)];exact sU _ _
  have hgb:(st.map V.bool).getD i .any= .bool (st.getD i am):=by rw[aP hc];exact GZ hc _
  have hsu:=Gv (init:=m.g.init) (st:=st) (n:=i);rw[hno,Bool.false_or]at hsu;have hn:=xX hr i;generalize m.g.init.getD i 0=n at hgi hsu hn;generalize st.getD i am=v at hgb hsu;simp only[wq.1,seval,t2,t1,t5,hgi,hgb];refine⟨⟨by omega,by omega⟩,λh=>⟨h,by omega,by omega⟩,λh=>⟨h,by omega,by omega⟩,λh=>⟨h,by omega,by omega⟩,λh=>⟨h,λh'=>by rw[h,h'];rfl⟩,?_⟩;rw[Uo hn];refine vcB.mk (λe2=> ?_) (λe2=> ?_)
  ·rw[e2]at hsu;simp only[wq.1,seval,hd];exact aH.eq rfl (by rw[Gw hc hsu];rfl)
  ·rw[e2]at hsu;simp only[wq.1,seval,t5,hw];exact .inl ⟨q-1,by omega,i+1,by omega,t2,t1,rfl,hd,rfl,hsu⟩
 ·simp only[zqd,zqi]at hc;have:i=aa st:=by omega
  subst this;simp only[wq.1,seval,hd];exact aH.eq rfl (by rw[hno];rfl)
def QY(a b:Mo)(p q:List Bool):Bool:=aM (aa p=aa a.lat)&&(aM (aa q=aa b.lat)&&Uf a b p q)
theorem QZ(a b:Mo)(p q:List Bool)(ha:a.chk=0)(hb:b.chk=0)(h1:aa a.lat<=4000)(h2:aa b.lat<=4000):Ev TE 10 [a.v,b.v,aI p,aI q] (.bool (QY a b p q)):=by
 have hM:=mLx;refine Ev.bnd λhbd=> ?_;have hp:aa p<=maxLen:=by simp only[V.bnds,V.bnd,zra]at hbd;exact hbd.2.2.1.1
 have hq:aa q<=maxLen:=by simp only[V.bnds,V.bnd,zra]at hbd;exact hbd.2.2.2.1.1
 obtain⟨ga,_,la,_⟩:=cu ha;obtain⟨gb,_,lb,_⟩:=cu hb;obtain⟨_,ia2,ia3,_⟩:=aJ (aU ga).row;obtain⟨_,ib2,ib3,_⟩:=aJ (aU gb).row;have e1:=Ai a p;have e2:=Ai b q;unfold QY Mo.v;unfold Mo.v at e1 e2;refine aC Tryz.func10 rfl (by simp[nts]) (vm ?_);simp only[wq.1,seval,Tryz.results10];cases d1:((aa p:Int) != (aa a.lat:Int))with
 |true =>
  have h:aM (aa p=aa a.lat)=am:=by rw[zqd];intro h;rw[h]at d1;simp at d1
  rw[h];simp only[wq.1,seval]
  repeat(refine⟨.bool ab,?_⟩;simp only[wq.1,seval])
  exact aH.dat rfl
 |false =>
  have hpl:aa p=aa a.lat:=by simp only[bne_eq_false_iff_eq]at d1;omega
  cases d2:((aa q:Int) != (aa b.lat:Int))with
  |true =>
   have h:aM (aa q=aa b.lat)=am:=by rw[zqd];intro h;rw[h]at d2;simp at d2
   rw[h];simp only[wq.1,seval]
   repeat(refine⟨.bool ab,?_⟩;simp only[wq.1,seval])
   exact aH.dat rfl
  |false =>
   have hql:aa q=aa b.lat:=by simp only[bne_eq_false_iff_eq]at d2;omega
   rw[decide_eq_true hpl,decide_eq_true hql];simp only[wq.1,seval];refine ag.ev (e1 (by omega) (by omega) ia2) (by simp only[a7,a6,zre]) ?_;unfold Uf;cases Ec a.g.init p (aa p)with
   |true =>
    simp only[wq.1,seval]
    repeat(refine⟨.bool ab,?_⟩;simp only[wq.1,seval])
    exact aH.dat rfl
   |false =>
    simp only[wq.1,seval];refine ag.ev (e2 (by omega) (by omega) ib2) (by simp only[a7,a6,zre]) ?_;cases Ec b.g.init q (aa q)with
    |true =>
     simp only[wq.1,seval]
     repeat(refine⟨.bool ab,?_⟩;simp only[wq.1,seval,aG,Tryz.results10])
     exact aH.dat rfl
    |false =>
     simp only[wq.1,seval];refine aA (λm f h=>∃i,m+i=aa p/\f.t 2=aI p/\f.t 3=aI q/\f.t 4= .lp 0 0/\f.t 5= .lp 1 0/\f.t 9=vi i/\f.d=[]/\h=[aw (cCM a),aw (cCM b)]/\nY a b p q i=am) (aa p) ⟨0,by simp,rfl,rfl,rfl,rfl,rfl,rfl,rfl,rfl⟩ ?_;rintro m f h ⟨i,hm,t2,t3,t4,t5,t9,hd,rfl,hno⟩;refine vn ?_;simp only[wq.1,seval,t2,t9];refine vcB.mk (λhc=> ?_) (λhc=> ?_)
     ·simp only[zqb,zqi]at hc;have hw:=ax (show i<maxLen by omega);have hgs:(a.lat.map V.str).getD i .any= .str (a.lat.getD i []):=by rw[aP (show i<aa a.lat by omega)];exact BA _ _
      have hgb:(p.map V.bool).getD i .any= .bool (p.getD i am):=by rw[aP hc];exact GZ hc _
      have hsu:=Ad (a:=a) (b:=b) (p:=p) (q:=q) (n:=i);rw[hno,Bool.false_or]at hsu;simp only[wq.1];refine ak (aB ?_);refine vn ?_;simp only[wq.1,seval,t4,t5,t9,hgs];refine⟨by decide +kernel,⟨by omega,by omega⟩,Aq.mk (sS b.lat _) rfl (by simp only[a7,a6,iK,zre]) ?_⟩;rw[IM];cases ek:at? b.lat (a.lat.getD i [])with
      |none =>
       rw[ek]at hsu;have hgq:(q.map V.bool).getD 0 .any= .any\/∃v,(q.map V.bool).getD 0 .any= .bool v:=by
        cases q with
        |nil=>exact .inl rfl
        |cons v _=>exact .inr ⟨v,rfl⟩
       have hn:∀x:Bool,(V.bool x).nil? =aL:=λ_=>rfl;rcases hgq with hgq|⟨v,hgq⟩
       all_goals
        simp only[wq.1,seval];refine vm ?_;simp only[wq.1,seval,t2,t3,t9,hgb,hgq,hn];refine⟨by decide +kernel,?_⟩;refine vm ?_;simp only[wq.1,seval,t9,hw];exact .inl ⟨m-1,by omega,i+1,by omega,t2,t3,t4,t5,rfl,hd,rfl,hsu⟩
      |some k =>
       rw[ek]at hsu;dsimp only at hsu;obtain⟨hk,_⟩:=kD ek;have hgk:(q.map V.bool).getD k .any= .bool (q.getD k am):=by rw[aP (show k<aa q by omega)];exact GZ _ _
       have hk0:aM (0<=(k:Int))=ab:=by rw[zqb];omega
       simp only[wq.1,seval];refine vm ?_;simp only[wq.1,seval,t2,t3,t9,hgb,hgk];refine⟨by decide +kernel,λh=>⟨h,by omega,by omega⟩,λh=>⟨h,by omega,by omega⟩,?_⟩;rw[hk0,Bool.true_and];refine vcB.mk (λe2=> ?_) (λe2=> ?_)
       ·rw[show(p.getD i am != q.getD k am)=ab from e2]at hsu;simp only[wq.1,seval,hd];exact aH.eq rfl (by rw[Ae (show i+1<=aa a.lat by omega) hsu];rfl)
       ·rw[show(p.getD i am != q.getD k am)=am from e2]at hsu;simp only[wq.1];refine vm ?_;simp only[wq.1,seval,t9,hw];exact .inl ⟨m-1,by omega,i+1,by omega,t2,t3,t4,t5,rfl,hd,rfl,hsu⟩
     ·simp only[zqd,zqi]at hc;have:i=aa p:=by omega
      subst this;rw[<-hpl,hno];simp only[wq.1,seval,hd];exact aH.dat rfl
theorem Ur(h:s∈l):∃i:Nat,idx l (·==s)=i/\∃hi:i<aa l,l[i]=s:=by
 unfold idx;cases hf:l.findIdx? (·==s)with
 |none=>rw[List.findIdx?_eq_none_iff]at hf;have:=hf s h;simp at this
 |some i=>rw[List.findIdx?_eq_some_iff_getElem]at hf;obtain⟨hi,hb,_⟩:=hf;exact⟨i,rfl,hi,by simpa using hb⟩
def IP:Plan:=tkZ [0,1,2,3,5,6,8]<| .alt 4 (.one 7<| .take 9<| .one 10<| .one 11<| .take 12<|onZ [13,14,15]<| .take 16<| .fin) (.one 7 (.take 9<| .alt 4 (.one 10<| .one 11<| .take 12<|onZ [13,14,15]<| .take 16<| .fin) (.one 10 (.alt 4 (.one 11<| .take 12<|onZ [13,14,15]<| .take 16<| .fin) (.one 11 (.one 4<| .take 12<|onZ [13,14,15]<| .take 16<| .fin))))))
def Ea:Plan:=tkZ [0,1,2,4,5,6]<| .alt 3 (.one 7<| .one 8<| .take 9<|onZ [10,11,12]<| .take 13<| .fin) (.one 7 (.one 3<| .one 8<| .take 9<|onZ [10,11,12]<| .take 13<| .fin))
def kT(m:Mo)(st:List Bool)(ins outs:List S)(sq:List (List Bool)):List Bool:=outs.map λs=>uQ m st ins sq s
theorem KE(m:Mo)(hm:m.chk=0)(st:List Bool)(ins outs:List S)(sq:List (List Bool))(hin:∀s∈m.ins,(at? ins s).isSome=ab)(hout:∀s∈outs,s∈m.out)(h1:aa st=aa m.lat)(h2:∀l∈sq,aa l=aa ins)(h3:aa sq<=1000)(h5:0<aa sq)(hol:aa outs<=1000000) :
 Ev TE 24 [m.v,aI st,ig ins,ig outs,rwB sq] (aI (kT m st ins outs sq)):=by
 have hM:=mLx;obtain⟨g1,g2,g3,g4⟩:=cu hm;obtain⟨_,i0,i1,i2,i3,i4,i5⟩:=aU g1;obtain⟨r1,r2,r3,r4⟩:=aJ i4;unfold Mo.v;refine aC Tryz.func24 rfl (by simp[nts]) ?_;refine vn ?_;simp only[wq.1,Nat.reduceLT,Tryz.results24];refine vn ?_;simp only[wq.1,Nat.reduceLT];refine wL (FLe.one 11 (v:=aI []) (by simp only[wq.1,↓reduceIte];exact lH)) (HLe.refl _) ?_;refine ak ?_;refine vn ?_;simp only[wq.1,Nat.reduceLT];refine aB ?_;refine aA (λq f h=>∃(i:Nat)(X:H),q+i=aa sq/\f.t 1=aI (m.g.run st ((sq.map (bT ins m)).take i)).2/\f.t 2=ig ins/\f.t 3=ig outs/\f.t 4=rwB sq/\f.t 5= .lp 0 0/\f.t 11=aI (m.g.run st ((sq.map (bT ins m)).take i)).1/\f.t 12=vi i/\f.d=[]/\h=[aw (cCM m)]++X) (aa sq) ⟨0,[],by omega,rfl,rfl,rfl,rfl,rfl,rfl,rfl,rfl,rfl⟩ ?_;rintro q f h ⟨i,X,hq,t1,t2,t3,t4,t5,t11,t12,hd,rfl⟩;refine fU (by rw[hd];simp) ?_;have hcl:([aw (cCM m)]:H).map (O.drop (aQ (aa ([aw (cCM m)]:H))))=[aw (cCM m)]:=rfl;rw[hcl];refine iL (λf=>f.t 1=aI (m.g.run st ((sq.map (bT ins m)).take i)).2/\f.t 2=ig ins/\f.t 3=ig outs/\f.t 4=rwB sq/\f.t 5= .lp 0 0/\f.t 11=aI (m.g.run st ((sq.map (bT ins m)).take i)).1/\f.t 12=vi i/\f.d=[]) [aw (cCM m)] (λhk=>hk _ ⟨by simp only[wq.1,t1],by simp only[wq.1,t2],by simp only[wq.1,t3],by simp only[wq.1,t4],by simp only[wq.1,seval,t5,aQ],by simp only[wq.1,t11],by simp only[wq.1,t12],hd⟩) ?_;clear t1 t2 t3 t4 t5 t11 t12 hd f X hcl;rintro f ⟨t1,t2,t3,t4,t5,t11,t12,hd⟩;refine vn ?_;simp only[wq.1,seval,t4,t12];refine vcB.mk (λhlt=> ?_) (λhlt=> ?_)
 ·simp only[zqb,zqi]at hlt;have hw:=ax (show i<maxLen by omega);have hgl:=II hlt .any;have hll:=h2 _ (zqu hlt);obtain⟨l,hl⟩:∃l,l=sq[i]:=⟨_,rfl⟩;rw[<-hl]at hgl hll;simp only[wq.1];refine ak (aB ?_);refine vn ?_;simp only[wq.1,Nat.reduceLT];refine ak ?_;refine vn ?_;simp only[wq.1,Nat.reduceLT];refine aB ?_;refine iF 13 1 (rfl) ?_;refine aA (λz f h=>∃(j:Nat)(X:H),z+j=aa m.ins/\f.t 1=aI (m.g.run st ((sq.map (bT ins m)).take i)).2/\f.t 2=ig ins/\f.t 3=ig outs/\f.t 4=rwB sq/\f.t 5= .lp 0 0/\f.t 11=aI (m.g.run st ((sq.map (bT ins m)).take i)).1/\f.t 12=vi i/\f.t 13= .ls 1 1 0 j j/\f.t 14=vi j/\f.d=[]/\h=[aw (cCM m),aw (((bT ins m l).take j).map V.bool)]++X) (aa m.ins) ⟨0,[],by omega,t1,t2,t3,t4,t5,t11,t12,rfl,rfl,hd,rfl⟩ ?_;clear t1 t2 t3 t4 t5 t11 t12 hd f;rintro z f h ⟨j,X,hz,t1,t2,t3,t4,t5,t11,t12,t13,t14,hd,rfl⟩;have hml:aa (bT ins m l)=aa m.ins:=by unfold bT;rw[zra]
  have htl:j<=aa m.ins->aa (((bT ins m l).take j).map V.bool)=j*1:=λh=>by simp;omega
  have dmr:∀p,aE p (((bT ins m l).take j).map V.bool)=((bT ins m l).take j).map V.bool:=λp=>eU _;refine fU (by rw[hd];simp) ?_;have hcl:([aw (cCM m),aw (((bT ins m l).take j).map V.bool)]:H).map (O.drop (aQ (aa ([aw (cCM m),aw (((bT ins m l).take j).map V.bool)]:H))))=[aw (cCM m),aw (((bT ins m l).take j).map V.bool)]:=by show [aw (cCM m),aw (aE _ _)]=_;rw[dmr]
  rw[hcl];refine iL (λf=>f.t 1=aI (m.g.run st ((sq.map (bT ins m)).take i)).2/\f.t 2=ig ins/\f.t 3=ig outs/\f.t 4=rwB sq/\f.t 5= .lp 0 0/\f.t 11=aI (m.g.run st ((sq.map (bT ins m)).take i)).1/\f.t 12=vi i/\f.t 13= .ls 1 1 0 j j/\f.t 14=vi j/\f.d=[]) [aw (cCM m),aw (((bT ins m l).take j).map V.bool)] (λhk=>hk _ ⟨by simp only[wq.1,Nat.reduceAdd,t1],by simp only[wq.1,Nat.reduceAdd,t2],by simp only[wq.1,Nat.reduceAdd,t3],by simp only[wq.1,Nat.reduceAdd,t4],by simp only[wq.1,seval,t5,aQ],by simp only[wq.1,Nat.reduceAdd,t11],by simp only[wq.1,Nat.reduceAdd,t12],by simp only[wq.1,seval,t13,aQ],by simp only[wq.1,Nat.reduceAdd,t14],hd⟩) ?_;clear t1 t2 t3 t4 t5 t11 t12 t13 t14 hd f X hcl;rintro f ⟨t1,t2,t3,t4,t5,t11,t12,t13,t14,hd⟩;refine vn ?_;simp only[wq.1,seval,t5,t14];refine vcB.mk (λhlt2=> ?_) (λhlt2=> ?_)
  ·simp only[zqb,zqi]at hlt2;have hw2:=ax (show j<maxLen by omega);have htl:=htl (by omega);obtain⟨k,hat⟩:=Option.isSome_iff_exists.1 (hin _ (zqu hlt2));have hkl:=(kD hat).1;have hgb:(l.map V.bool).getD k .any= .bool (l.getD k am):=by rw[aP (show k<aa l by omega)];exact GZ _ _
   have hix:idx ins (·==m.ins[j])=k:=by rw[IM,hat]
   have hpl:=sS ins m.ins[j];rw[hix]at hpl;have hsu:(bT ins m l).take (j+1)=(bT ins m l).take j++[l.getD k am]:=by
    rw[zrg,zqk (by omega)];have:(bT ins m l)[j]'(by omega)=l.getD k am:=by
     unfold bT;rw[List.getElem_map];unfold atI;rw[hat];rfl
    rw[this];rfl
   generalize l.getD k am=vb at hgb hsu;simp only[wq.1];refine ak (aB ?_);refine bK dV IP (λf h=>f.t 1=aI (m.g.run st ((sq.map (bT ins m)).take i)).2/\f.t 2=ig ins/\f.t 3=ig outs/\f.t 4=rwB sq/\f.t 5= .lp 0 0/\f.t 11=aI (m.g.run st ((sq.map (bT ins m)).take i)).1/\f.t 12=vi i/\f.t 13= .ls 1 1 0 (j+1) (j+1)/\f.t 14=vi j/\f.d=[]/\∃Y,h=[aw (cCM m),aw (((bT ins m l).take (j+1)).map V.bool)]++Y) (by decide +kernel) (by decide +kernel) ?_ ?_
   ·simp only[wq.1,seval,aG,Tryz.results24,IP,t1,t2,t3,t4,t5,t11,t12,t13,t14,hd,hgl,BA hlt2]
    repeat' apply zsa
    all_goals try omega
    all_goals
     refine ag.ev hpl rfl ?_;simp only[wq.1,↓reduceIte,Nat.reduceEqDiff,Nat.reduceLT,Nat.reduceBEq,IP,bC,t1,t2,t3,t4,t5,t11,t12,t13,t14,hd,hgl,hgb,dmr,htl]
    all_goals
     refine⟨⟨by omega,by omega⟩,⟨rfl,by decide⟩,⟨by simp;omega,by omega,by omega⟩,[],?_⟩;rw[hsu,zql];rfl
   ·clear t1 t2 t3 t4 t5 t11 t12 t13 t14 hd f;rintro f h ⟨t1,t2,t3,t4,t5,t11,t12,t13,t14,hd,Y,rfl⟩;show awp _ _ _ _ _ _ _;refine vm ?_;simp only[wq.1,seval,t14,hw2];exact .inl ⟨z-1,by omega,j+1,Y,by omega,t1,t2,t3,t4,t5,t11,t12,t13,rfl,hd,rfl⟩
  ·simp only[zqd,zqi]at hlt2;have:j=aa m.ins:=by omega
   subst this;rw[zqh (show aa (bT ins m l)<=aa m.ins by omega)];simp only[wq.1];show awp _ _ _ _ _ _ _;refine uf 1 13 (aI (bT ins m l)) (by simp only[wq.1,seval,t13]) ?_ (by simp only[wq.1,hd]) ?_
   ·simp only[wq.1,seval,t13];refine fG ?_ hml.symm;show ar (aw (aE _ _))=_;rw[eU]
   have hst:=Un m.g (m.g.run st ((sq.map (bT ins m)).take i)).2 (bT ins m l) (by omega) (by omega) (by omega) (by omega);unfold Gr.v at hst;have hrs:=sO (g:=m.g) (st:=st) (sq:=sq.map (bT ins m)) (i:=i) (by simpa using hlt);rw[List.getElem_map,<-hl]at hrs;refine iL (λf=>f.t 1=aI (m.g.run st ((sq.map (bT ins m)).take i)).2/\f.t 2=ig ins/\f.t 3=ig outs/\f.t 4=rwB sq/\f.t 5= .lp 0 0/\f.t 11=aI (m.g.run st ((sq.map (bT ins m)).take i)).1/\f.t 12=vi i/\f.t 13=aI (bT ins m l)/\f.d=[]) [aw (cCM m),.dead] (λhk=>hk _ ⟨by simp only[wq.1,seval,t1],by simp only[wq.1,seval,t2],by simp only[wq.1,seval,t3],by simp only[wq.1,seval,t4],by simp only[wq.1,seval,t5],by simp only[wq.1,seval,t11],by simp only[wq.1,seval,t12],rfl,hd⟩) ?_;clear t1 t2 t3 t4 t5 t11 t12 t13 t14 hd f;rintro f ⟨t1,t2,t3,t4,t5,t11,t12,t13,hd⟩;show awp _ _ _ _ _ _ _;refine vm ?_;simp only[wq.1,seval,t1,t5,t13];refine ag.ev hst (by simp only[a7,a6,zre]) ?_;simp only[wq.1,seval];refine vm ?_;simp only[wq.1,seval,t12,hw];exact .inl ⟨q-1,by omega,i+1,[.dead],by omega,by simp only[wq.1,seval];rw[hrs],t2,t3,t4,t5,by simp only[wq.1,seval];rw[hrs],rfl,hd,rfl⟩
 ·simp only[zqd,zqi]at hlt;have:i=aa sq:=by omega
  subst this;rw[zqh (by simp)]at t1 t11;have hmi:∀x∈sq.map (bT ins m),(aa x:Int)=m.g.ins:=λx hx=>by
   obtain⟨l,_,rfl⟩:=zrh.1 hx;unfold bT;rw[zra];omega
  have hrl:(m.g.run st (sq.map (bT ins m))).1.length=aa m.out:=by rw[x8 g1 (by omega) hmi (by simpa using h5),Gp];omega
  have hlR:aa (kT m st ins outs sq)=aa outs:=by unfold kT;rw[zra]
  simp only[wq.1];show awp _ _ _ _ _ _ _;refine vn ?_;simp only[wq.1,Nat.reduceLT];refine ak ?_;refine vn ?_;simp only[wq.1,Nat.reduceLT];refine aB ?_;refine iF 18 1 (rfl) ?_;refine aA (λz f h=>∃(j:Nat)(X:H),z+j=aa outs/\f.t 3=ig outs/\f.t 5= .lp 0 0/\f.t 11=aI (m.g.run st (sq.map (bT ins m))).1/\f.t 18= .ls 1 1 0 j j/\f.t 19=vi j/\f.d=[]/\h=[aw (cCM m),aw (((kT m st ins outs sq).take j).map V.bool)]++X) (aa outs) ⟨0,[],by omega,t3,t5,t11,rfl,rfl,hd,rfl⟩ ?_;clear t1 t2 t3 t4 t5 t11 t12 hd f;rintro z f h ⟨j,X,hz,t3,t5,t11,t18,t19,hd,rfl⟩;have htl:j<=aa outs->aa (((kT m st ins outs sq).take j).map V.bool)=j*1:=λh=>by simp;omega
  have dmr:∀p,aE p (((kT m st ins outs sq).take j).map V.bool)=((kT m st ins outs sq).take j).map V.bool:=λp=>eU _;refine fU (by rw[hd];simp) ?_;have hcl:([aw (cCM m),aw (((kT m st ins outs sq).take j).map V.bool)]:H).map (O.drop (aQ (aa ([aw (cCM m),aw (((kT m st ins outs sq).take j).map V.bool)]:H))))=[aw (cCM m),aw (((kT m st ins outs sq).take j).map V.bool)]:=by show [aw (cCM m),aw (aE _ _)]=_;rw[dmr]
  rw[hcl];refine iL (λf=>f.t 3=ig outs/\f.t 5= .lp 0 0/\f.t 11=aI (m.g.run st (sq.map (bT ins m))).1/\f.t 18= .ls 1 1 0 j j/\f.t 19=vi j/\f.d=[]) [aw (cCM m),aw (((kT m st ins outs sq).take j).map V.bool)] (λhk=>hk _ ⟨by simp only[wq.1,Nat.reduceAdd,t3],by simp only[wq.1,seval,t5,aQ],by simp only[wq.1,Nat.reduceAdd,t11],by simp only[wq.1,seval,t18,aQ],by simp only[wq.1,Nat.reduceAdd,t19],hd⟩) ?_;clear t3 t5 t11 t18 t19 hd f X hcl;rintro f ⟨t3,t5,t11,t18,t19,hd⟩;refine vn ?_;simp only[wq.1,seval,t3,t19];refine vcB.mk (λhlt2=> ?_) (λhlt2=> ?_)
  ·simp only[zqb,zqi]at hlt2;have hw2:=ax (show j<maxLen by omega);have htl:=htl (by omega);obtain⟨k,hk,hkl,hks⟩:=Ur (hout _ (zqu hlt2));have hgb:((m.g.run st (sq.map (bT ins m))).1.map V.bool).getD k .any= .bool ((m.g.run st (sq.map (bT ins m))).1.getD k am):=by rw[aP (show k<(m.g.run st (sq.map (bT ins m))).1.length by omega)];exact GZ _ _
   have hpl:=sS m.out outs[j];rw[hk]at hpl;have hsu:(kT m st ins outs sq).take (j+1)=(kT m st ins outs sq).take j++[(m.g.run st (sq.map (bT ins m))).1.getD k am]:=by
    rw[zrg,zqk (by omega)];have:(kT m st ins outs sq)[j]'(by omega)=(m.g.run st (sq.map (bT ins m))).1.getD k am:=by
     unfold kT;rw[List.getElem_map];unfold uQ;rw[hk];rfl
    rw[this];rfl
   generalize (m.g.run st (sq.map (bT ins m))).1.getD k am=vb at hgb hsu;simp only[wq.1];refine ak (aB ?_);refine bK dV Ea (λf h=>f.t 3=ig outs/\f.t 5= .lp 0 0/\f.t 11=aI (m.g.run st (sq.map (bT ins m))).1/\f.t 18= .ls 1 1 0 (j+1) (j+1)/\f.t 19=vi j/\f.d=[]/\∃Y,h=[aw (cCM m),aw (((kT m st ins outs sq).take (j+1)).map V.bool)]++Y) (by decide +kernel) (by decide +kernel) ?_ ?_
   ·simp only[wq.1,seval,aG,Tryz.results24,Ea,t3,t5,t11,t18,t19,hd,BA hlt2]
    repeat' apply zsa
    all_goals try omega
    all_goals
     refine ag.ev hpl rfl ?_;simp only[wq.1,↓reduceIte,Nat.reduceEqDiff,Nat.reduceLT,Nat.reduceBEq,Ea,bC,t3,t5,t11,t18,t19,hd,hgb,dmr,htl]
    all_goals
     refine⟨⟨by omega,by omega⟩,⟨rfl,by decide⟩,⟨by simp;omega,by omega,by omega⟩,[],?_⟩;rw[hsu,zql];rfl
   ·clear t3 t5 t11 t18 t19 hd f;rintro f h ⟨t3,t5,t11,t18,t19,hd,Y,rfl⟩;show awp _ _ _ _ _ _ _;refine vm ?_;simp only[wq.1,seval,t19,hw2];exact .inl ⟨z-1,by omega,j+1,Y,by omega,t3,t5,t11,t18,rfl,hd,rfl⟩
  ·simp only[zqd,zqi]at hlt2;have:j=aa outs:=by omega
   subst this;rw[zqh (by omega)];simp only[wq.1];show awp _ _ _ _ _ _ _;refine vm ?_;simp only[wq.1,seval,t18,hd];exact fG rfl (by omega)
theorem Nq(a b:Mo)(c:CanOk a b)(p q:List Bool)(sq:List (List Bool))(h1:aa p=aa a.lat)(h2:aa q=aa b.lat)(h3:∀l∈sq,aa l=aa a.ins)(h4:aa sq<=1000)(h5:0<aa sq)
 (he:kT b q a.ins a.out sq=kT a p a.ins a.out sq):Ev TE 11 [a.v,b.v,aI p,aI q,rwB sq] (vi (-1)):=by
 have hM:=mLx;obtain⟨_,_,_,ho⟩:=cu c.ca;obtain⟨_,i0,i1,i2,i3,i4,i5⟩:=aU (cu c.ca).1;have na:=(jZ c.ca).1;have e1:=KE a c.ca p a.ins a.out sq (λs hs=>uM.2 hs) (λs hs=>hs) h1 h3 h4 h5 (by omega);have e2:=KE b c.cb q a.ins a.out sq (qR c.ins na) (λs hs=>uM.1 (c.out.2 s hs)) h2 h3 h4 h5 (by omega);rw[he]at e2;have hl:aa (kT a p a.ins a.out sq)=aa a.out:=by unfold kT;rw[zra]
 generalize kT a p a.ins a.out sq=x at e1 e2 hl;unfold Mo.v at e1 e2 ⊢;have d1:∀(m:Mo)(l:List Bool),a7 [.agg (cCM m),aI l,ig a.ins,ig a.out,rwB sq]=ab:=λm l=>by simp only[a7,a6,iK,rM,zre]
 refine aC Tryz.func11 rfl (by simp[nts]) ?_;refine vn ?_;simp only[wq.1,seval,Tryz.results11];refine vn ?_;simp only[wq.1,seval];refine ag.ev e1 (d1 _ _) ?_;simp only[wq.1,seval];refine vn ?_;simp only[wq.1,seval];refine ag.ev e2 (d1 _ _) ?_;simp only[wq.1,seval];refine ak ?_;refine vn ?_;simp only[wq.1,seval];refine aB ?_;refine aA (λz f h=>∃i,z+i=aa x/\f.t 11=aI x/\f.t 12=aI x/\f.t 13=vi i/\f.d=[]) (aa x) ⟨0,by omega,rfl,rfl,rfl,rfl⟩ ?_;rintro z f h ⟨i,hz,t11,t12,t13,hd⟩;refine vn ?_;simp only[wq.1,seval,t11,t13];refine vcB.mk (λhc=> ?_) (λhc=> ?_)
 ·simp only[zqb,zqi]at hc;have hw:=ax (show i<maxLen by omega);have hgb:=GZ hc V.any;generalize x[i]=v at hgb;simp only[wq.1,Int.reduceNeg];refine ak (aB ?_);refine vm ?_;simp only[wq.1,seval,t11,t12,t13,hgb];refine⟨by decide +kernel,⟨by omega,by omega⟩,⟨by omega,by omega⟩,?_⟩;refine vm ?_;simp only[wq.1,seval,t13,hw];exact .inl ⟨z-1,by omega,i+1,by omega,t11,t12,rfl,hd⟩
 ·simp only[wq.1,Int.reduceNeg];show awp _ _ _ _ _ _ _;refine vm ?_;simp only[wq.1,seval,hd];exact aH.dat rfl
variable{n:Nat}
theorem BN{init:Cl}{st:List Bool}:Ec init st n=am↔∀i,i<n->init.getD i 0=2\/st.getD i am=aM (init.getD i 0=1):=by
 unfold Ec;rw[List.any_eq_false];constructor
 ·intro h i hi;have:=h i (List.mem_range.2 hi);by_cases h2:init.getD i 0=2
  ·exact .inl h2
  ·right;have e:(init.getD i 0 != 2)=ab:=by simpa using h2
   rw[e,Bool.true_and]at this;generalize st.getD i am=v at this ⊢;by_cases h1:init.getD i 0=1
   ·rw[h1]at this ⊢;cases v<;>simp_all
   ·have e1:(init.getD i 0==1)=am:=by simpa using h1
    rw[e1]at this;rw[decide_eq_false h1];cases v<;>simp_all
 ·intro h i hi;rcases h i (List.mem_range.1 hi)with h2|h2
  ·rw[h2];simp
  ·rw[h2];by_cases h1:init.getD i 0=1
   ·rw[h1];simp
   ·rw[decide_eq_false h1];have e1:(init.getD i 0==1)=am:=by simpa using h1
    rw[e1];simp
variable{a b:Mo}{p q:List Bool}
theorem Gy:nY a b p q (aa a.lat)=am↔MV a b p q:=by
 unfold nY MV;rw[List.any_eq_false];constructor
 ·intro h i k hi hk;have:=h i (List.mem_range.2 hi);rw[hk]at this;simpa using this
 ·intro h i hi;cases hk:at? b.lat (a.lat.getD i [])with
  |none=>simp
  |some k=>have:=h i k (List.mem_range.1 hi) hk;simpa using this
theorem KF{m:Mo}(h:m.chk=0):aa m.g.init=aa m.lat:=by obtain⟨h1,_,h3,_⟩:=cu h;have:=(aJ (aU h1).row).1;omega
theorem KG(c:CanOk a b){p q:List Bool}(hp:aa p=aa a.lat)(hq:aa q=aa b.lat):Uf a b p q=ab↔rH a b p q:=by
 have ia:=KF c.ca;have ib:=KF c.cb;unfold Uf rH;rw[zqf,zqf,Bool.not_eq_true',Bool.not_eq_true',Bool.not_eq_true',BN,BN,Gy,jU,jU];constructor
 ·rintro⟨⟨h1,h2⟩,h3⟩;exact⟨⟨by omega,λi hi=>h1 i (by omega)⟩,⟨by omega,λi hi=>h2 i (by omega)⟩,h3⟩
 ·rintro⟨⟨_,h1⟩,⟨_,h2⟩,h3⟩;exact⟨⟨λi hi=>h1 i (by omega),λi hi=>h2 i (by omega)⟩,h3⟩
theorem Gz(h:l.Nodup){i:Nat}(hi:i<aa l):atI l (l.getD i [])=i:=by unfold atI;rw[aP hi,Gf h hi];rfl
theorem Q3(h:(at? l s).isSome=ab):(idx l (·==s)).toNat=atI l s:=by obtain⟨k,hk⟩:=Option.isSome_iff_exists.1 h;unfold atI;rw[IM,hk];simp
theorem Yl(h:a.chk=0){l:List Bool}(hl:aa l=aa a.ins):bT a.ins a l=l:=X8 (jZ h).1 hl
theorem WG(h:a.chk=0){st:List Bool}{sq:List (List Bool)}(hs:aa st=aa a.lat)(hx:∀x∈sq,aa x=aa a.ins)(h0:0<aa sq){j:Nat}(hj:j<aa a.out) :
 uQ a st a.ins sq (a.out.getD j [])=(wz a.g st sq).getD j am:=by
 obtain⟨g1,g2,g3,g4⟩:=cu h;unfold uQ;have e:sq.map (bT a.ins a)=sq:=by
  conv=>rhs;rw[<-List.map_id sq]
  exact zsd λx hx'=>Yl h (hx x hx')
 rw[e,x8 g1 (by omega) (λx hx'=>by have:=hx x hx';omega) h0,Q3 (uM.2 (by rw[aP hj];exact zqu hj)),Gz (jZ h).2.2 hj]
theorem WH(c:CanOk a b){st:List Bool}{sq:List (List Bool)}(hs:aa st=aa b.lat)(h0:0<aa sq){j:Nat}(hj:j<aa a.out) :
 uQ b st a.ins sq (a.out.getD j [])=(wz b.g st (sq.map (xB a b))).getD (atI b.out (a.out.getD j [])) am:=by
 obtain⟨g1,g2,g3,g4⟩:=cu c.cb;unfold uQ;have e:sq.map (bT a.ins b)=sq.map (xB a b):=rfl;rw[e,x8 g1 (by omega) (λx hx'=>by obtain⟨l,_,rfl⟩:=zrh.1 hx';rw[Ya];omega) (by simpa using h0),Q3 (c.out.2 _ (by rw[aP hj];exact zqu hj))]
theorem KH(c:CanOk a b){p q:List Bool}{sq:List (List Bool)}{k:Nat}(hk:0<k)(hr:Runs a b k p q sq){j:Nat}(hj:j<aa a.out) :
 (uQ a p a.ins sq (a.out.getD j []) != uQ b q a.ins sq (a.out.getD j []))=Aa a b p q sq j:=by
 have:=hr.lk;rw[WG c.ca hr.la hr.lx (by omega) hj,WH c hr.lb (by omega) hj];rfl
def Aj(a b:Mo)(t:Nat):Prop:=∀vs,sat (A7 (aF a b) (mV a b).b (mV a b).p t) vs=am
theorem wC(c:CanOk a b)(big:JBig a b){t:Nat}(ht:0<t)(h:Aj a b t){p q:List Bool}{sq:List (List Bool)}(hr:Runs a b t p q sq)(hm:rH a b p q){j:Nat}(hj:j<aa a.out):Aa a b p q sq j=am:=by
 cases hd:Aa a b p q sq j with
 |false=>rfl
 |true =>
  exfalso;have hl:=DW c ht hr;have hmem:ab∈(aF a b).outs.map (lv ((aF a b).vals (qm (aF a b) (p++q) (sq.take (t-1))) (sq.getD (t-1) []))):=by
   rw[hl];exact zrh.2 ⟨j,List.mem_range.2 hj,hd⟩
  obtain⟨l,hl1,hl2⟩:=zrh.1 hmem;obtain⟨vs,hvs⟩:=Ub c big ht hr hm ⟨l,hl1,hl2⟩;rw[h vs]at hvs;cases hvs
variable{bud res nn:Int}{vals:List Bool}{ln:List Cl}
theorem GG{l:List Cl}(h:QN l n bud res vals nn ln 0):vP l n (max bud 0) res vals ln/\chk l n=0:=by
 rcases h with⟨h1,h2,_⟩|⟨h1,_,_,ok⟩
 ·exact absurd h2.symm h1
 ·rw[zsg]at ok;exact⟨ok,h1⟩
theorem KI{l:List Cl}(h:QN l n bud res vals nn ln 0)(h1:res≠1)(h2:res≠2)(vs:List Bool):sat l vs=am:=by
 obtain⟨ok,hc⟩:=GG h;have hn:=(uj hc).2.1;refine QS ok ?_ (Ky hc) (by omega) vs;rcases ok.2.2.2.2 with⟨h,_⟩|⟨h,_⟩|⟨h,_⟩
 ·exact h
 ·exact absurd h h1
 ·exact absurd h h2
theorem GH{a b:Mo}{bud:Int}:∀ {m s:Nat} {left:Int} {r:An×Int},A8 a b bud m s left r->r.2=0->r.1.res=0->∀t,s<=t->t<s+m->Aj a b t
 |0,s,left,r,_,_,_,t,h1,h2=>by omega
 |m+1,s,left,r,h,he,hr,t,h1,h2=>by
  rcases h with⟨e,e0,_,rfl⟩|⟨hc,res,vals,nn,ln,hA,⟨_,rfl⟩|⟨_,rfl⟩|⟨n2,n1,hX⟩⟩
  ·exact absurd he e0
  ·cases hr
  ·cases hr
  ·by_cases hts:t=s
   ·subst hts;exact λvs=>KI hA n1 n2 vs
   ·exact GH hX he hr t (by omega) (by omega)
theorem GK {a b : Mo} {bud : Int} : ∀ {m s : Nat} {left : Int} {r : An × Int},A8 a b bud m s left r -> r.2 = 0 -> r.1.res = 1 -> ∃ t vals conf,s <= t /\ t < s + m /\ (∀ t',s <= t' -> t' < t -> Aj a b t') /\ sat (A7 (aF a b) (mV a b).b (mV a b).p t) vals = ab /\ r.1 = { qC a b (aF a b) (iy (aF a b) (mV a b).b t) vals t with conf := conf }
 |0,s,left,r,h,_,hr=>by have h:r=_:=h;subst h;cases hr
 |m+1,s,left,r,h,he,hr=>by
  rcases h with⟨e,e0,_,rfl⟩|⟨hc,res,vals,nn,ln,hA,⟨_,rfl⟩|⟨h1,rfl⟩|⟨n2,n1,hX⟩⟩
  ·exact absurd he e0
  ·cases hr
  ·refine⟨s,vals,_,zrb _,by omega,λt' h1 h2=>by omega,?_,rfl⟩;obtain⟨ok,_⟩:=GG hA;rcases ok.2.2.2.2 with⟨h,_⟩|⟨_,_,h⟩|⟨h,_⟩
   ·omega
   ·exact h
   ·omega
  ·obtain⟨t,vs,conf,x1,x2,x3,x4,x5⟩:=GK hX he hr;refine⟨t,vs,conf,by omega,by omega,λt' h1 h2=> ?_,x4,x5⟩;by_cases hts:t'=s
   ·subst hts;exact λvs=>KI hA n1 n2 vs
   ·exact x3 t' (by omega) h2
theorem WI{α:Type}{l:List α}{p:α->Bool}(h:∃x∈l,p x=ab):∃i:Nat,idx l p=i/\∃hi:i<aa l,p l[i]=ab:=by
 unfold idx;cases hf:l.findIdx? p with
 |none=>rw[List.findIdx?_eq_none_iff]at hf;obtain⟨x,hx,hp⟩:=h;have:=hf x hx;rw[hp]at this;cases this
 |some i=>rw[List.findIdx?_eq_some_iff_getElem]at hf;obtain⟨hi,hb,_⟩:=hf;exact⟨i,rfl,hi,by simpa using hb⟩
theorem GL(hz:pg a b=0){k:Nat}(hk:0<k)(hk40:k<=40){x:An}(hr:Runs a b k x.A x.B x.seq)(hm:rH a b x.A x.B){j:Nat}(hj:j<aa a.out)(ho:x.out=j) :
 lW a b x=(Aa a b x.A x.B x.seq j,0):=by
 have c:=o9 hz;have hlk:=hr.lk;have hla:=hr.la;have hlb:=hr.lb;have hb:BM a b x=am:=by
  unfold BM;have h1:(x.seq.any λl=>(aa l:Int) != (aa a.ins:Int))=am:=by
   rw[List.any_eq_false];intro l hl;rw[hr.lx l hl];simp
  rw[h1,hla,hlb,ho,hlk];simp only[zsf,zqd,bne_self_eq_false];refine⟨⟨⟨⟨⟨⟨?_,?_⟩,?_⟩,?_⟩,trivial⟩,trivial⟩,trivial⟩<;>omega
 unfold lW;rw[if_neg (by rw[hz];decide),if_neg (by rw[hb];decide)];unfold QI;rw[(KG c hla hlb).2 hm,Bool.true_and,ho,zsg,KH c hk hr hj]
variable{k:Int}{r:An×Int}
theorem qY(h:iQ a b k bud r)(he:r.2=0):pg a b=0/\0<=k/\k<=40/\(((mV a b).ok=am/\r=(An.z,0))\/A8 a b (max bud 0) k.toNat 1 (max bud 0) r):=by
 unfold iQ at h;split at h
 ·rename_i h1;subst h;exact absurd he h1
 ·rename_i h1;split at h
  ·subst h;cases he
  ·rename_i h2;refine⟨Decidable.not_not.1 h1,by omega,by omega,?_⟩;split at h
   ·rename_i h3;exact .inl ⟨h3,h⟩
   ·exact .inr h
theorem Nr(hbig:pg a b=0->JBig a b){k bud:Int}{r:An×Int}(h:iQ a b k bud r)(he:r.2=0)(hr:r.1.res=1) :
 lW a b r.1=(ab,0)/\1<=aa r.1.seq/\(aa r.1.seq:Int)<=k/\∀n o:Nat,1<=n->n<aa r.1.seq->o<aa a.out->lW a b {r.1 with out:=o,seq:=r.1.seq.take n}=(am,0):=by
 obtain⟨hz,k0,k1,h⟩:=qY h he;have c:=o9 hz;have big:=hbig hz;rcases h with⟨_,rfl⟩|h
 ·cases hr
 obtain⟨t,vals,conf,t1,t2,hno,hsat,hx⟩:=GK h he hr;obtain⟨pa,pb,seq,R,hm,e1,e2,e3,hl,hex⟩:=Gs c big (by omega) hsat;have hld:=DW c (by omega) R;have htk:t<=k.toNat:=by omega
 rw[hx];have hA:(qC a b (aF a b) (iy (aF a b) (mV a b).b t) vals t).A=pa:=e1;have hB:(qC a b (aF a b) (iy (aF a b) (mV a b).b t) vals t).B=pb:=e2;have hS:(qC a b (aF a b) (iy (aF a b) (mV a b).b t) vals t).seq=seq:=e3;obtain⟨j,hj,hjl,hjp⟩:=WI (l:=(aF a b).outs) (p:=λl=>hol vals (lY (iy (aF a b) (mV a b).b t) ((t:Int)-1) l)) (by
  obtain⟨l,h1,h2⟩:=hex;exact⟨l,h1,by rw[hl l h1];exact h2⟩)
 have hO:(qC a b (aF a b) (iy (aF a b) (mV a b).b t) vals t).out=j:=hj;have hol:(aF a b).outs.length=aa a.out:=(YY c big).ol;have hdj:Aa a b pa pb seq j=ab:=by
  generalize (aF a b).vals (qm (aF a b) (pa++pb) (seq.take (t-1))) (seq.getD (t-1) [])=V0 at hld hl hex;have h1:((aF a b).outs.map (lv V0)).getD j am=((List.range (aa a.out)).map (Aa a b pa pb seq)).getD j am:=by rw[hld]
  rw[aP (by simpa using hjl),aP (by simp;omega),List.getElem_map,List.getElem_map,List.getElem_range]at h1;rw[<-h1,<-hl _ (zqu hjl)];exact hjp
 generalize qC a b (aF a b) (iy (aF a b) (mV a b).b t) vals t=y at hA hB hS hO;obtain⟨y1,y2,y3,y4,y5,y6⟩:=y;dsimp only at hA hB hS hO ⊢;subst hA hB hS hO;have hlk:=R.lk;refine⟨?_,by omega,by omega,λn o n1 n2 ho=> ?_⟩
 ·rw[GL hz (by omega) (by omega) (x:=⟨y1,j,y3,y4,y5,conf⟩) R hm (by omega) rfl,hdj]
 ·have Rn:Runs a b n y3 y4 (y5.take n):=⟨R.la,R.lb,by rw[zrl];omega,λx hx=>R.lx x (zsh hx)⟩;rw[GL hz (by omega) (by omega) (x:=⟨y1,o,y3,y4,y5.take n,conf⟩) Rn hm ho rfl,wC c big (by omega) (hno n n1 (by omega)) Rn hm ho]
theorem Q4(hbig:pg a b=0->JBig a b){k bud:Int}{r:An×Int}(h:iQ a b k bud r)(he:r.2=0)(hr:r.1.res=0){p q:List Bool}(hpq:QY a b p q=ab){seq:List (List Bool)}(hk:(aa seq:Int)=k)(hx:∀x∈seq,aa x=aa a.ins) :
 pg a b=0/\aa p=aa a.lat/\aa q=aa b.lat/\∀t,1<=t->t<=aa seq->kT b q a.ins a.out (seq.take t)=kT a p a.ins a.out (seq.take t):=by
 obtain⟨hz,k0,k1,h⟩:=qY h he;have c:=o9 hz;have big:=hbig hz;unfold QY at hpq;rw[zqf,zqf,zqb,zqb]at hpq;obtain⟨hp,hq,hm⟩:=hpq;have hm:=(KG c hp hq).1 hm;refine⟨hz,hp,hq,λt t1 t2=> ?_⟩;rcases h with⟨h,_⟩|h
 ·have:=((zY c hp hq).1 hm).1;rw[h]at this;cases this
 have hno:=GH h he hr t (by omega) (by omega);have R:Runs a b t p q (seq.take t):=⟨hp,hq,by rw[zrl];omega,λx hx'=>hx x (zsh hx')⟩;unfold kT;refine List.ext_getElem (by simp) λj h1 h2=> ?_;rw[List.getElem_map,List.getElem_map];have hj:j<aa a.out:=by simpa using h1
 have hd:=wC c big (by omega) hno R hm hj;rw[<-KH c (by omega) R hj,aP hj]at hd;have hd:=bne_eq_false_iff_eq.1 hd;exact hd.symm
def m24:Mo:=⟨⟨1,[2],[0],[],[4]⟩,[[97]],[[113]],[[122]]⟩
def n24:Mo:=⟨⟨1,[3],[0],[],[4]⟩,[[97]],[[113]],[[122]]⟩
def o24:Mo:=⟨⟨1,[2],[0],[],[4]⟩,[[97]],[[113]],[[121]]⟩
theorem Q5:pg m24 m24=0:=by decide +kernel
theorem GM:pg m24 n24=0:=by decide +kernel
theorem GN:pg m24 o24=12:=by decide +kernel
theorem YQ:(mV m24 m24).ok=ab:=by decide +kernel
theorem Us:(mV m24 n24).ok=ab/\(mV m24 n24).p.length=1:=by decide +kernel
theorem Q7:JBig m24 m24:=⟨by decide⟩
theorem Ak:JBig m24 n24:=⟨by decide⟩
def Ba(a b:Mo)(s:Nat):Bool:=aM (zH (aF a b) (mV a b).b s=0)&&aM (chk (A7 (aF a b) (mV a b).b (mV a b).p s) (cO (aF a b) (mV a b).b s).n=0)&&aM ((cO (aF a b) (mV a b).b s).n<=21)
theorem WJ:∀s,1<=s->s<=5->Ba m24 m24 s=ab:=λs h1 h2=>by
 obtain rfl|rfl|rfl|rfl|rfl:s=1\/s=2\/s=3\/s=4\/s=5:=by omega
 all_goals decide +kernel
theorem IQ:∀s,1<=s->s<=5->Ba m24 n24 s=ab:=λs h1 h2=>by
 obtain rfl|rfl|rfl|rfl|rfl:s=1\/s=2\/s=3\/s=4\/s=5:=by omega
 all_goals decide +kernel
variable{left:Int}
theorem uT{s:Nat}(h:Ba a b s=ab)(hl:10460353203<=left){e:Int}(hA:QN (A7 (aF a b) (mV a b).b (mV a b).p s) (cO (aF a b) (mV a b).b s).n left res vals nn ln e) :
 zH (aF a b) (mV a b).b s=0/\e=0/\0<=nn/\nn<=10460353203/\((res=0/\Aj a b s)\/(res=1/\sat (A7 (aF a b) (mV a b).b (mV a b).p s) vals=ab)):=by
 unfold Ba at h;rw[zqf,zqf,zqb,zqb,zqb]at h;obtain⟨⟨h1,h2⟩,h3⟩:=h;rcases hA with⟨n1,_⟩|⟨_,rfl,rfl,ok⟩
 ·exact absurd h2 n1
 ·rw[zsg]at ok;have hp:(3:Nat)^(cO (aF a b) (mV a b).b s).n<=3^21:=Nat.pow_le_pow_right (by decide) h3;have h4:=ok.2.2.2.1;refine⟨h1,rfl,by omega,by omega,?_⟩;rcases ok.2.2.2.2 with⟨h,_⟩|⟨h,_,hs⟩|⟨h,_,hb⟩
  ·exact .inl ⟨h,λvs=>QS ok h (Ky h2) (by omega) vs⟩
  ·exact .inr ⟨h,hs⟩
  ·omega
theorem IR {a b : Mo} {bud K : Int} (hK : K = 10460353203) : ∀ {m s : Nat} {left : Int} {r : An × Int},(∀ t,s <= t -> t < s + m -> Ba a b t = ab /\ Aj a b t) -> (m : Int) * K <= left -> A8 a b bud m s left r -> ∃ c,r = ({ An.z with conf := c },0)
 |0,s,left,r,_,_,h=>⟨_,h⟩
 |m+1,s,left,r,hn,hl,h=>by
  obtain⟨he,hno⟩:=hn s (zrb _) (by omega);have hl0:(m:Int)*K+K<=left:=by
   have:((m+1:Nat):Int)*K=(m:Int)*K+K:=by rw[Int.natCast_add,Int.add_mul];omega
   omega
  have hm0:0<=(m:Int)*K:=Int.mul_nonneg (by omega) (by omega);have hl1:10460353203<=left:=by omega
  rcases h with⟨e,e0,hx,rfl⟩|⟨hc,res,vals,nn,ln,hA,hr⟩
  ·rcases hx with⟨c0,_⟩|⟨_,res,vals,nn,ln,hA⟩
   ·unfold Ba at he;rw[zqf,zqf,zqb,zqb,zqb]at he;exact absurd he.1.1 c0
   ·exact absurd (uT he hl1 hA).2.1 e0
  ·obtain⟨_,_,nn0,nn1,h|⟨_,hs⟩⟩:=uT he hl1 hA
   ·rcases hr with⟨h2,_⟩|⟨h2,_⟩|⟨_,_,hX⟩
    ·omega
    ·omega
    ·exact IR hK (λt h1 h2=>hn t (by omega) (by omega)) (by omega) hX
   ·rw[hno vals]at hs;cases hs
theorem Ut{m:Nat}(e1:Ba a b 1=ab)(e2:Ba a b 2=ab)(n1:Aj a b 1)(n2:¬Aj a b 2)(hl:30000000000<=left)(h:A8 a b bud (m+2) 1 left r):r.2=0/\r.1.res=1/\aa r.1.seq=2:=by
 have hE:∀ {s:Nat} {left e:Int},Ba a b s=ab->10460353203<=left->e≠0->¬YB (aF a b) (mV a b).b (mV a b).p s left e:=λ{s left e} he hl e0 hx=>by
  rcases hx with⟨c0,_⟩|⟨_,res,vals,nn,ln,hA⟩
  ·unfold Ba at he;rw[zqf,zqf,zqb,zqb,zqb]at he;exact absurd he.1.1 c0
  ·exact absurd (uT he hl hA).2.1 e0
 rcases h with⟨e,e0,hx,rfl⟩|⟨hc,res,vals,nn,ln,hA,hr⟩
 ·exact absurd hx (hE e1 (by omega) e0)
 ·obtain⟨_,_,nn0,nn1,h|⟨_,hs⟩⟩:=uT e1 (by omega) hA
  ·rcases hr with⟨h2,_⟩|⟨h2,_⟩|⟨_,_,hX⟩
   ·omega
   ·omega
   ·rcases hX with⟨e,e0,hx,rfl⟩|⟨hc,res,vals,nn,ln,hA,hr⟩
    ·exact absurd hx (hE e2 (by omega) e0)
    ·obtain⟨_,_,_,_,⟨_,h⟩|⟨h,_⟩⟩:=uT e2 (by omega) hA
     ·exact absurd h n2
     ·rcases hr with⟨h2,_⟩|⟨_,rfl⟩|⟨_,h2,_⟩
      ·omega
      ·exact⟨rfl,rfl,Ku⟩
      ·exact absurd h h2
  ·rw[n1 vals]at hs;cases hs
theorem WX{l:List Bool}(h:aa l=1):∃x,l=[x]:=List.length_eq_one_iff.1 h
theorem Q8(hp:aa p=aa m24.lat)(hq:aa q=aa m24.lat)(hm:MV m24 m24 p q):p=q:=by obtain⟨x,rfl⟩:=WX hp;obtain⟨y,rfl⟩:=WX hq;have:=hm 0 0 (by decide) (by decide +kernel);have:x=y:=this;rw[this]
theorem Za(hb:b.ins=m24.ins){sq:List (List Bool)}(h:∀x∈sq,aa x=aa m24.ins):sq.map (xB m24 b)=sq:=by
 have:∀x∈sq,xB m24 b x=id x:=λx hx=>by obtain⟨v,rfl⟩:=WX (h x hx);unfold xB;rw[hb];rfl
 rw[zsd this,List.map_id]
theorem KJ(c:CanOk a b)(big:JBig a b){t:Nat}(ht:0<t)(h:∀p q sq,Runs a b t p q sq->rH a b p q->∀j,j<aa a.out->Aa a b p q sq j=am):Aj a b t:=λvs=>by
 cases hs:sat (A7 (aF a b) (mV a b).b (mV a b).p t) vs with
 |false=>rfl
 |true =>
  exfalso;obtain⟨p,q,sq,R,hm,_,_,_,_,l,hl1,hl2⟩:=Gs c big ht hs;have hld:=DW c ht R;have:ab∈(List.range (aa a.out)).map (Aa a b p q sq):=by
   rw[<-hld];exact zrh.2 ⟨l,hl1,hl2⟩
  obtain⟨j,hj,hd⟩:=zrh.1 this;rw[h p q sq R hm j (List.mem_range.1 hj)]at hd;cases hd
theorem Uu{t:Nat}(ht:0<t):Aj m24 m24 t:=KJ (o9 Q5) Q7 ht λp q sq R hm j hj=>by have e:=Q8 R.la R.lb hm.2.2;subst e;unfold Aa;rw[Za rfl R.lx,Gz (by decide) hj];simp
theorem KL:Aj m24 n24 1:=KJ (o9 GM) Ak (by decide) λp q sq R hm j hj=>by
 obtain⟨x,hx⟩:=WX R.la;obtain⟨y,hy⟩:=WX R.lb;obtain⟨z,hz⟩:=List.length_eq_one_iff.1 R.lk;subst hx hy hz;obtain⟨v,rfl⟩:=WX (R.lx z (by simp));obtain⟨h1,h2,_⟩:=hm;have hx:x=am:=by
  rcases h1.1 with h|h
  ·cases h
  ·exact h
 have hy:y=am:=by
  rcases h2.1 with h|h
  ·cases h
  ·exact h
 subst hx hy;have:j=0:=by have:j<1:=hj;omega
 subst this;cases v<;>decide +kernel
theorem Ym:¬Aj m24 n24 2:=λh=>by
 have R:Runs m24 n24 2 [am] [am] [[ab],[ab]]:=⟨rfl,rfl,rfl,λx hx=>by simp at hx;subst hx;rfl⟩;have hm:rH m24 n24 [am] [am]:=⟨⟨.inr (by decide),trivial⟩,⟨.inr (by decide),trivial⟩,λi k hi hk=>by
  have:i=0:=by have:i<1:=hi;omega
  subst this;have hk:ar 0=ar k:=hk;cases hk;rfl⟩
 have:=wC (o9 GM) Ak (by decide) h R hm (j:=0) (by decide)
 revert this
 decide +kernel
theorem Uw(h:iQ m24 m24 5 1099511627776 r):∃c,r=({An.z with conf:=c},0):=by unfold iQ at h;rw[if_neg (by rw[Q5];decide),if_neg (by decide),if_neg (by rw[YQ];decide)]at h;exact IR rfl (λt h1 h2=>⟨WJ t h1 (by have:t<1+5:=h2;omega),Uu (by omega)⟩) (by decide) h
theorem Q9(h:iQ m24 n24 1 1099511627776 r):∃c,r=({An.z with conf:=c},0):=by
 unfold iQ at h;rw[if_neg (by rw[GM];decide),if_neg (by decide),if_neg (by rw[Us.1];decide)]at h;exact IR rfl (λt h1 h2=>by
  have:t=1:=by have:t<1+1:=h2;omega
  subst this;exact⟨IQ 1 (by omega) (by omega),KL⟩) (by decide) h
theorem Rf(h:iQ m24 n24 5 1099511627776 r):r.2=0/\r.1.res=1/\aa r.1.seq=2/\lW m24 n24 r.1=(ab,0):=by have h0:=h;unfold iQ at h;rw[if_neg (by rw[GM];decide),if_neg (by decide),if_neg (by rw[Us.1];decide)]at h;obtain⟨a1,a2,a3⟩:=Ut (m:=3) (IQ 1 (by omega) (by omega)) (IQ 2 (by omega) (by omega)) KL Ym (by decide) h;exact⟨a1,a2,a3,(Nr (λ_=>Ak) h0 a1 a2).1⟩
theorem Ux(h:iQ m24 o24 1 100 r):r=(An.z,12):=by unfold iQ at h;rw[if_pos (by rw[GN];decide),GN]at h;exact h
theorem Rh(h:iQ m24 m24 41 100 r):r=(An.z,8):=by unfold iQ at h;rw[if_neg (by rw[Q5];decide),if_pos (by decide)]at h;exact h
theorem GR(h:bud<=2000):YP a b k bud:=λs cl left hs h0 h1 hz=>by obtain⟨v1,v2,v3,v4⟩:=uj hz;refine⟨2000,by omega,λS _ h=>by omega,?_,by omega,by omega⟩;have:((cO (aF a b) (mV a b).b s).n+1)*(2*2000+4)<=20001*(2*2000+4):=Nat.mul_le_mul_right _ (by omega);omega
theorem Am(h:∀s:Nat,(s:Int)<=k->(cO (aF a b) (mV a b).b s).n<=21):YP a b k bud:=λs cl left hs h0 h1 hz=>by
 obtain⟨v1,v2,v3,v4⟩:=uj hz;have hn:=h s hs;have hp:(3:Nat)^(cO (aF a b) (mV a b).b s).n<=3^21:=Nat.pow_le_pow_right (by decide) hn;have hp3:(3:Nat)^21=10460353203:=by decide +kernel
 refine⟨10460353203,h0,λS i _=>by have:=i.g.few;omega,?_,by omega,by omega⟩;have:((cO (aF a b) (mV a b).b s).n+1)*(2*10460353203+4)<=22*(2*10460353203+4):=Nat.mul_le_mul_right _ (by omega);omega
end Go.Proofs.YthdidjjecjhenaaGreat
