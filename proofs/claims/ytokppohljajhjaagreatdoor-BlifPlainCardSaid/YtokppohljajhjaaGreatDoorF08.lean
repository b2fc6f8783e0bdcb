/- Lemmas for this claim, part F08: each holds under what it names. -/
import Derived.Test.YtokppohljajhjaaGreatDoorF07
import Derived.Test.YtokppohljajhjaaGreatDoorA9
set_option linter.all false
set_option maxRecDepth 20000
set_option maxHeartbeats 4000000
namespace Go.Proofs.YtokppohljajhjaaGreatDoor
open Go Go.Proofs Go.Abs
def pW(q:Ga)(C:Nat):List (Nat×Nat×V):=[(0,67,.lp 1 0),(1,68,.is true 1 []),(2,69,.lp C 2),(3,70,aW q.ins),(5,72,.lp C 0),(6,73,.str q.name),(7,74,.is true 1 [.str q.name])]
abbrev gaO(q:Ga):O:= .cells [.str q.name,vi q.op,aW q.ins,aW q.rows,.bool q.off]
structure G17(C:Nat)(f f0:Fr):Prop where
 t1:f.t 1= .lp 0 0
 t6:f.t 6= .lp 1 0
 t10:f.t 10= .lp C 0
 t59:f.t 59=f0.t 59
 t60:f.t 60=f0.t 60
 t61:f.t 61=f0.t 61
 d:f.d=[]
theorem G17.put{C:Nat}{f f0:Fr}(g:G17 C f f0){d:Nat}{v:V}(hd:d∉[1,6,10,59,60,61]):G17 C (f.put (some d) v) f0:=by simp only[zrj,zrp,or_false,not_or]at hd;obtain⟨h0,h2,h3,h4,h5,h6⟩:=hd;exact⟨by simpa [Fr.put,Ne.symm h0]using g.t1,by simpa [Fr.put,Ne.symm h2]using g.t6,by simpa [Fr.put,Ne.symm h3]using g.t10,by simpa [Fr.put,Ne.symm h4]using g.t59,by simpa [Fr.put,Ne.symm h5]using g.t60,by simpa [Fr.put,Ne.symm h6]using g.t61,g.d⟩
theorem G17.drop{C:Nat}{f f0:Fr}(g:G17 C f f0){p:Nat->Bool}(h0:p 0=false)(h1:p 1=false)(hC:p C=false)(e59:∀p,(f0.t 59).drop p=f0.t 59)(e60:∀p,(f0.t 60).drop p=f0.t 60)(e61:∀p,(f0.t 61).drop p=f0.t 61):G17 C (f.drop p) f0:=by
 refine⟨?_,?_,?_,?_,?_,?_,g.d⟩
 ·show(f.t 1).drop p=_;rw[g.t1,V.drop,h0];rfl
 ·show(f.t 6).drop p=_;rw[g.t6,V.drop,h1];rfl
 ·show(f.t 10).drop p=_;rw[g.t10,V.drop,hC];rfl
 ·show(f.t 59).drop p=_;rw[g.t59,e59]
 ·show(f.t 60).drop p=_;rw[g.t60,e60]
 ·show(f.t 61).drop p=_;rw[g.t61,e61]
def H17(c:Ci)(q:Ga)(out:S)(C NR:Nat)(h0:H)(L:Array Bool)(h:H):Prop :=
 if L.getD 9 false=true then PW c (out++fG ig (q.ins++[q.name])) h/\h[C]? =some (gaO q)
 else if L.getD 8 false=true then h=h0.map (O.drop (·==NR))++[.cells ((q.ins++[q.name]).map V.str)]
 else if L.getD 4 false=true then h=h0++[.cells (q.ins.map V.str)]
 else h=h0
theorem rE:∀l:List S,cZ (l.map V.str)=true
 |[]=>rfl
 |a::l=>by show(_&&cZ (l.map V.str))=true;rw[rE l];rfl
theorem PW.dropped{c:Ci}{out:S}{h:H}(pw:PW c out h)(ho:out≠[]){p:Nat->Bool}(h1:p 1=false)(h2:p 2=false):PW c out (h.map (O.drop p)):=by
 refine⟨.inr ?_,?_⟩
 ·rcases pw.w with⟨e,_⟩|⟨_,a,b⟩
  ·exact absurd e ho
  ·refine⟨ho,?_,?_⟩
   ·rw[zqo,a];show some (O.typed _ [V.drop p _,V.drop p _])=_;rw[V.drop,h1,V.drop,h2];rfl
   ·rw[zqo,b];show some (O.typed _ (V.drops p _))=_;rw[ni]
 ·rw[zqo,pw.c0];exact congrArg some (Ez c p)
theorem Qb[MO]{c:Ci}{q:Ga}{out:S}{C:Nat}{h0:H}{r:Option Nat}{Q:XE->Fr->H->Prop}{f0:Fr}(pw:PW c out h0)(hc:h0[C]? =some (gaO q))(hC1:C≠1)(hC2:C≠2)(hC0:0<C)(hNR:2<h0.length)(hne:out≠[])(ho:out.length<=1000000000000)(hi:q.ins.length<=900)
 (g0:G17 C f0 f0) (e59:∀p,(f0.t 59).drop p=f0.t 59) (e60:∀p,(f0.t 60).drop p=f0.t 60) (e61:∀p,(f0.t 61).drop p=f0.t 61)
 (hk:∀f h,PW c (out++fG ig (q.ins++[q.name])) h->h[C]? =some (gaO q)->G17 C f f0->Q .normal f h) :
 awp TE 108 r (.region 17 (vY Tryz.f8 17) true) Q f0 h0:=by
 simp only[vY,Tryz.f8,rQ,List.nil_append,zqp,List.headD_cons,Nat.reduceBEq,zrm,if_false,if_true,List.cons_append];have hM:=mLx;obtain⟨NR,hNRe⟩:∃NR,NR=h0.length:=⟨_,rfl⟩;have hCl:C<NR:=by rw[hNRe];exact(zqe hc).1
 refine o6 mixed (fun L f h=>H17 c q out C NR h0 L h/\FA L f (pW q C)/\G17 C f f0/\(L.getD 4 false=true->L.getD 8 false=false->f.t 71= .ls NR 1 0 q.ins.length q.ins.length)/\(L.getD 8 false=true->L.getD 9 false=false->f.t 75= .ls NR 1 0 (q.ins.length+1) (q.ins.length+1))) (by decide +kernel) ?_ ?_ ?_
 ·refine⟨?_,FA.none,g0,fun h=> ?_,fun h=> ?_⟩
  ·unfold H17;rw[if_neg (by decide),if_neg (by decide),if_neg (by decide)]
  ·exfalso;revert h;decide +kernel
  ·exfalso;revert h;decide +kernel
 ·rintro L f h i hcl ⟨hh,hfa,hg,h4,h8⟩ hi;have hlt:i<10:=o5 hi;have no:=l7 hi;have sz:=jX hi;have t6:=hg.t6;have t10:=hg.t10;have pu:∀(d:Nat)(v:V),(∀x∈pW q C,x.1=i->x.2.1=d/\x.2.2=v)->(∀x∈pW q C,x.2.1=d->x.1=i)->(decide (d∉([1,6,10,59,60,61,71,75]:List Nat))&&decide (i∉([4,8,9]:List Nat)))=true ->
   (H17 c q out C NR h0 (L.setIfInBounds i true) h/\FA (L.setIfInBounds i true) (f.put (some d) v) (pW q C)/\G17 C (f.put (some d) v) f0/\((L.setIfInBounds i true).getD 4 false=true->(L.setIfInBounds i true).getD 8 false=false->(f.put (some d) v).t 71= .ls NR 1 0 q.ins.length q.ins.length)/\((L.setIfInBounds i true).getD 8 false=true->(L.setIfInBounds i true).getD 9 false=false->(f.put (some d) v).t 75= .ls NR 1 0 (q.ins.length+1) (q.ins.length+1))):=by
   intro d v h1 h2 h3;rw[zqf,zqb,zqb]at h3;simp only[zrj,zrp,or_false,not_or]at h3;obtain⟨⟨d1,d6,d10,d59,d60,d61,d71,d75⟩,i4,i8,i9⟩:=h3;have g:∀j,j≠i->(L.setIfInBounds i true).getD j false=L.getD j false:=fun j hj=>getD_set_ne false (Ne.symm hj);have p:∀j,j≠d->(f.put (some d) v).t j=f.t j:=fun j hj=>by simp[Fr.put,hj]
   refine⟨?_,hfa.put h1 h2,hg.put (by simp[d1,d6,d10,d59,d60,d61]),?_,?_⟩
   ·unfold H17;rw[g 9 (Ne.symm i9),g 8 (Ne.symm i8),g 4 (Ne.symm i4)];exact hh
   ·rw[g 4 (Ne.symm i4),g 8 (Ne.symm i8),p 71 (Ne.symm d71)];exact h4
   ·rw[g 8 (Ne.symm i8),g 9 (Ne.symm i9),p 75 (Ne.symm d75)];exact h8
  have hcell:L.getD 9 false=false->h[C]? =some (gaO q):=fun h9=>by
   unfold H17 at hh;rw[h9,if_neg (by decide)]at hh;split at hh
   ·rw[hh,zqj (by rw[zra,<-hNRe];exact hCl),zqo,hc];have:O.drop (fun x=>x==NR) (gaO q)=gaO q:=rfl;rw[zrw,this]
   ·split at hh
    ·rw[hh,zqj (by rw[<-hNRe];exact hCl),hc]
    ·rw[hh,hc]
  match i,hlt with
  |0,_=>have pu:=pu 67 (.lp 1 0) (by simp[pW]) (by simp[pW]) (by decide);simp only[wq.1,↓reduceIte,Nat.reduceEqDiff,Nat.reduceLT,t6];exact pu
  |1,_=>have pu:=pu 68 (.is true 1 []) (by simp[pW]) (by simp[pW]) (by decide);simp only[wq.1,↓reduceIte,Nat.reduceEqDiff,Nat.reduceLT,Nat.reduceMul];exact⟨⟨rfl,by decide⟩,pu⟩
  |2,_=>have pu:=pu 69 (.lp C 2) (by simp[pW]) (by simp[pW]) (by decide);simp only[wq.1,seval,t10];exact pu
  |3,_=>have dp:=aG hi (l:=[2]) (by decide +kernel);have e:=hfa (2,69,.lp C 2) (by simp[pW]) (dp 2 (by simp));have n4:L.getD 4 false=false:=aU hcl no (by decide +kernel);have n8:L.getD 8 false=false:=aU hcl n4 (by decide +kernel);have n9:L.getD 9 false=false:=aU hcl n8 (by decide +kernel);have hcc:=hcell n9;have pu:=pu 70 (aW q.ins) (by simp[pW]) (by simp[pW]) (by decide);simp only[wq.1,seval,e,hcc];exact pu
  |4,_ =>
   have dp:=aG hi (l:=[1,3]) (by decide +kernel);have e68:=hfa (1,68,.is true 1 []) (by simp[pW]) (dp 1 (by simp));have e70:=hfa (3,70,aW q.ins) (by simp[pW]) (dp 3 (by simp));have n8:L.getD 8 false=false:=aU hcl no (by decide +kernel);have n9:L.getD 9 false=false:=aU hcl n8 (by decide +kernel);have g:∀j,j≠4->(L.setIfInBounds 4 true).getD j false=L.getD j false:=fun j hj=>getD_set_ne false (Ne.symm hj);have sf:(L.setIfInBounds 4 true).getD 4 false=true:=by simp[Array.getD,sz]
   have hh':h=h0:=by unfold H17 at hh;rw[n9,if_neg (by decide),n8,if_neg (by decide),no,if_neg (by decide)]at hh;exact hh
   subst hh';simp only[wq.1,seval,e68,e70];rw[<-hNRe];refine⟨rE _,⟨by omega,by omega⟩,?_,hfa.put' rfl,hg.put (by simp),fun _ _=>rfl,fun h8t=> ?_⟩
   ·unfold H17;rw[g 9 (by decide),n9,if_neg (by decide),g 8 (by decide),n8,if_neg (by decide),sf,if_pos rfl]
   ·rw[g 8 (by decide),n8]at h8t;cases h8t
  |5,_=>have pu:=pu 72 (.lp C 0) (by simp[pW]) (by simp[pW]) (by decide);simp only[wq.1,seval,t10];exact pu
  |6,_=>have dp:=aG hi (l:=[5]) (by decide +kernel);have e:=hfa (5,72,.lp C 0) (by simp[pW]) (dp 5 (by simp));have n7:L.getD 7 false=false:=aU hcl no (by decide +kernel);have n8:L.getD 8 false=false:=aU hcl n7 (by decide +kernel);have n9:L.getD 9 false=false:=aU hcl n8 (by decide +kernel);have hcc:=hcell n9;have pu:=pu 73 (.str q.name) (by simp[pW]) (by simp[pW]) (by decide);simp only[wq.1,↓reduceIte,Nat.reduceEqDiff,Nat.reduceLT,Nat.reduceLeDiff,Nat.reduceAdd,e,hcc];exact pu
  |7,_=>have dp:=aG hi (l:=[6]) (by decide +kernel);have e:=hfa (6,73,.str q.name) (by simp[pW]) (dp 6 (by simp));have pu:=pu 74 (.is true 1 [.str q.name]) (by simp[pW]) (by simp[pW]) (by decide);simp only[wq.1,↓reduceIte,Nat.reduceEqDiff,Nat.reduceLT,reduceCtorEq,Nat.reduceMul,e];exact⟨⟨rfl,by decide⟩,pu⟩
  |8,_ =>
   have dp:=aG hi (l:=[4,7]) (by decide +kernel);have e71:=h4 (dp 4 (by simp)) no;have e74:=hfa (7,74,.is true 1 [.str q.name]) (by simp[pW]) (dp 7 (by simp));have n9:L.getD 9 false=false:=aU hcl no (by decide +kernel);have g:∀j,j≠8->(L.setIfInBounds 8 true).getD j false=L.getD j false:=fun j hj=>getD_set_ne false (Ne.symm hj);have sf:(L.setIfInBounds 8 true).getD 8 false=true:=by simp[Array.getD,sz]
   have hh':h=h0++[.cells (q.ins.map V.str)]:=by unfold H17 at hh;rw[n9,if_neg (by decide),no,if_neg (by decide),if_pos (dp 4 (by simp))]at hh;exact hh
   subst hh';have hgN:(h0++[O.cells (q.ins.map V.str)])[NR]? =some (.cells (q.ins.map V.str)):=by rw[hNRe];simp
   have hd6:=hg.d;obtain⟨X3,hX3⟩:∃X3,X3=(q.ins++[q.name]).map V.str:=⟨_,rfl⟩;have hnx:q.ins.map V.str++[.str q.name]=X3:=by rw[hX3,zql];rfl
   have hd3:V.drops (fun x=>x==NR) X3=X3:=by rw[hX3,aA]
   simp only[wq.1,seval,e71,e74,hgN,hnx,hd3,hd6];have bN:∀j,j<NR->(j==NR)=false:=fun j hj=>by rw[beq_eq_false_iff_ne];omega
   refine⟨⟨by omega,by omega,by omega⟩,?_,(hfa.drop ?_).put' rfl,(hg.drop (bN 0 (by omega)) (bN 1 (by omega)) (bN C hCl) e59 e60 e61).put (by simp),fun _ h8f=> ?_⟩
   ·unfold H17;rw[g 9 (by decide),n9,if_neg (by decide),sf,if_pos rfl,hX3];have hl:NR=(h0.map (O.drop fun x=>x==NR)).length:=by rw[zra];exact hNRe
    rw[List.set_append_right _ _ (by omega),show NR-(h0.map (O.drop fun x=>x==NR)).length=0 by omega];rfl
   ·intro x hx;simp only[pW,zrj,zrp,or_false]at hx;rcases hx with rfl|rfl|rfl|rfl|rfl|rfl|rfl<;>first|rfl|(simp only[V.drop];rw[if_neg (by simp;omega)])
   ·rw[sf]at h8f;cases h8f
  |9,_ =>
   have dp:=aG hi (l:=[0,8]) (by decide +kernel);have e67:=hfa (0,67,.lp 1 0) (by simp[pW]) (dp 0 (by simp));have e75:=h8 (dp 8 (by simp)) no;have g:∀j,j≠9->(L.setIfInBounds 9 true).getD j false=L.getD j false:=fun j hj=>getD_set_ne false (Ne.symm hj);have sf:(L.setIfInBounds 9 true).getD 9 false=true:=by simp[Array.getD,sz]
   have hh':h=h0.map (O.drop (·==NR))++[.cells ((q.ins++[q.name]).map V.str)]:=by unfold H17 at hh;rw[no,if_neg (by decide),if_pos (dp 8 (by simp))]at hh;exact hh
   simp only[wq.1,seval,e67,e75];have bN:∀j,j<NR->(j==NR)=false:=fun j hj=>by rw[beq_eq_false_iff_ne];omega
   have pw2:=(pw.dropped (p:=fun x=>x==NR) hne (bN 1 (by omega)) (bN 2 (by omega))).more hne (.cells ((q.ins++[q.name]).map V.str));rw[<-hh']at pw2;have hnN:h[NR]? =some (.cells ((q.ins++[q.name]).map V.str)):=by rw[hh',zsb (by rw[zra];omega),zra,show NR-h0.length=0 by omega];rfl
   have hln:(q.ins++[q.name]).length=q.ins.length+1:=by simp
   have hll:=iG (w:=ig) (l:=q.ins++[q.name]) (by decide) (by rw[hln];omega);have hcc:=hcell no;have hlc:=Dq (id:=1) (b:=2) (NR:=NR) (w:=ig) (l:=q.ins++[q.name]) (out:=out) (h:=h) (R:=dJ (some 76) (fun f' h'=>H17 c q out C NR h0 (L.setIfInBounds 9 true) h'/\FA (L.setIfInBounds 9 true) f' (pW q C)/\G17 C f' f0/\((L.setIfInBounds 9 true).getD 4 false=true->(L.setIfInBounds 9 true).getD 8 false=false->f'.t 71=V.ls NR 1 0 q.ins.length q.ins.length)/\((L.setIfInBounds 9 true).getD 8 false=true->(L.setIfInBounds 9 true).getD 9 false=false->f'.t 75=V.ls NR 1 0 (q.ins.length+1) (q.ins.length+1))) Q f) (by decide) pw2.w hnN (by omega) (by omega) (by decide) (by omega) (by rw[hln];omega);rw[hln]at hlc;refine hlc ?_;intro v h' p hp hw' hk';have pw3:=hk'.c0 pw2 hw';have hgC:=hk'.cells hcc hC1 hC2 (fun p=>by
    have:O.drop p (gaO q)=gaO q:=rfl;exact O.cells.inj this)
   simp only[wq.1,seval,aX];refine⟨fun j hj=>(by rw[hg.d]at hj;cases hj),?_,(hfa.drop ?_).put' rfl,(hg.drop (qL hp (by decide)) (qL hp (by decide)) (qL hp hC2) e59 e60 e61).put (by simp),fun _ h8f=> ?_,fun _ h9f=> ?_⟩
   ·unfold H17;rw[sf,if_pos rfl];exact⟨pw3,hgC⟩
   ·intro x hx;simp only[pW,zrj,zrp,or_false]at hx;rcases hx with rfl|rfl|rfl|rfl|rfl|rfl|rfl<;>first|rfl|(simp only[V.drop];rw[if_neg (by(first|rw[qL hp hC2]|rw[qL hp (by decide)]);decide)])
   ·rw[g 8 (by decide),dp 8 (by simp)]at h8f;cases h8f
   ·rw[sf]at h9f;cases h9f
 ·rintro L f h hall ⟨hh,hfa,hg,h4,h8⟩;have hs:∀i,i<10->L.getD i false=true:=fun i hi=>hall i hi;unfold H17 at hh;rw[if_pos (hs 9 (by omega))]at hh;exact hk f h hh.1 hh.2 hg
end Go.Proofs.YtokppohljajhjaaGreatDoor
