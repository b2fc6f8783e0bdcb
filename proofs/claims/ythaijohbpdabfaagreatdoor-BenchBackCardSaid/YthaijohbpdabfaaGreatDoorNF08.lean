/- Lemmas for this claim, part F08: each holds under what it names. -/
import Derived.Test.YthaijohbpdabfaaGreatDoorNF07
import Derived.Test.YthaijohbpdabfaaGreatDoorNF04
import Derived.Lib.ItoaNum
set_option linter.all false
set_option maxRecDepth 20000
namespace Go.Proofs.YthaijohbpdabfaaGreatDoor
open Go Go.Proofs Go.Abs
def Am(row:S):Nat:=row.countP (· != 45)
theorem tN:∀(i:Nat)(row:S),(bV i row).length=Am row
 |_,[]=>rfl
 |i,c::r=>by
  rw[bV,Am,List.countP_cons];have ih:=tN (i+1) r;unfold Am at ih;by_cases h:c=45
  ·rw[if_pos h,ih];simp[h]
  ·rw[if_neg h,zrt,ih];simp[h]
theorem yC{row:S}(h:og row=false):bD row≠[]:=by
 intro e;have h1:=tN 0 row;have e':bV 0 row=[]:=e;rw[e']at h1;have h2:Am row=0:=h1.symm;unfold Am at h2;rw[List.countP_eq_zero]at h2;have:og row=true:=by
  unfold og;rw[zrs];intro c hc;have:=h2 c hc;simpa using this
 rw[this]at h;cases h
theorem I5:∀ {i:Nat} {row:S} {x:Li},x∈bV i row->x.2≠45/\row[x.1-i]? =some x.2
 |i,[],x,h=>by cases h
 |i,c::r,x,h=>by
  rw[bV]at h;have hb:∀ {y:Li},y∈bV (i+1) r->y.2≠45/\(c::r)[y.1-i]? =some y.2:=fun {y} hy=>by
   have h1:=nC hy;obtain⟨a,b⟩:=I5 hy;refine⟨a,?_⟩;rw[show y.1-i=(y.1-(i+1))+1 by omega,List.getElem?_cons_succ];exact b
  split at h
  ·exact hb h
  ·rename_i hc;rcases zrj.1 h with rfl|h
   ·refine⟨hc,?_⟩;rw[Nat.sub_self];rfl
   ·exact hb h
theorem Xq(row:S)(i:Nat):Am (row.set i 45)<=Am row:=by
 unfold Am
 induction row generalizing i with
 |nil=>simp
 |cons c r ih =>
  cases i with
  |zero=>rw[List.set_cons_zero,List.countP_cons,List.countP_cons];simp
  |succ i=>rw[List.set_cons_succ,List.countP_cons,List.countP_cons];have:=ih i;omega
theorem Xr{row:S}{i:Nat}{c:UInt8}(h:row[i]? =some c)(hc:c≠45):Am (row.set i 45)<Am row:=by
 unfold Am
 induction row generalizing i with
 |nil=>simp at h
 |cons d r ih =>
  cases i with
  |zero=>rw[List.getElem?_cons_zero]at h;cases h;rw[List.set_cons_zero,List.countP_cons,List.countP_cons];simp[hc]
  |succ i=>rw[List.getElem?_cons_succ]at h;rw[List.set_cons_succ,List.countP_cons,List.countP_cons];have:=ih h;omega
theorem Ov(l:List Li):∀row:S,Am (nz row l)<=Am row:=by
 unfold nz
 induction l with
 |nil=>exact fun _=>zrb _
 |cons x l ih=>exact fun row=>Nat.le_trans (ih _) (Xq _ _)
theorem wR(l:List Li):∀row:S,(nz row l).length=row.length:=by
 unfold nz
 induction l with
 |nil=>exact fun _=>rfl
 |cons x l ih=>exact fun row=>by rw[List.foldl_cons,ih,zrn]
theorem Vl{x:Li}{l:List Li}{row:S}(h:x∈bD row):Am (nz row (x::l))<Am row:=by obtain⟨h1,h2⟩:=I5 h;rw[Nat.sub_zero]at h2;show Am (nz (row.set x.1 45) l)<_;exact Nat.lt_of_le_of_lt (Ov l _) (Xr h2 h1)
theorem Ox(rows:List S):cZ rows=(rows.map fun r=>Am r+1).sum:=by
 unfold cZ
 congr 1
 exact zsd fun r _=>congrArg (·+1) (tN 0 r)
theorem dN(r:S)(rows:List S):cZ (r::rows)=Am r+1+cZ rows:=by rw[Ox,Ox,zrd,List.sum_cons]
theorem I7(l:List Li):∀rows:List S,cZ (aW rows l)<=cZ rows
 |[]=>zrb _
 |r::rows=>by show cZ (nz r l::aW rows l)<=_;rw[dN,dN];have:=I7 l rows;have:=Ov l r;omega
theorem je{x:Li}{l:List Li}{r:S}{rows:List S}(h:x∈bD r):cZ (aW (r::rows) (x::l))<cZ (r::rows):=by show cZ (nz r (x::l)::aW rows (x::l))<_;rw[dN,dN];have:=I7 (x::l) rows;have:=Vl (l:=l) h;omega
theorem nD(p:S->Bool):∀rows:List S,cZ (rows.filter p)<=cZ rows
 |[]=>zrb _
 |r::rows=>by
  have:=nD p rows;rw[List.filter_cons];split
  ·rw[dN,dN];omega
  ·rw[dN];omega
theorem lH{p:S->Bool}:∀ {rows:List S},(∃r∈rows,p r=false)->cZ (rows.filter p)<cZ rows
 |[],h=>by obtain⟨r,hr,_⟩:=h;cases hr
 |r::rows,h=>by
  rw[List.filter_cons];by_cases hp:p r=true
  ·rw[if_pos hp,dN,dN];obtain⟨s,hs,h2⟩:=h;rcases zrj.1 hs with rfl|hs
   ·rw[hp]at h2;cases h2
   ·have:=lH ⟨s,hs,h2⟩;omega
  ·rw[if_neg hp,dN];have:=nD p rows;omega
theorem Hf(rows:List S):((lG rows).2=0/\(lG rows).1=(0,0))\/((lG rows).1∈wC (rows.headD []).length/\(lG rows).2=iU rows (lG rows).1):=by
 have key:∀(l:List Li)(b:Li×Nat)(C:List Li),((b.2=0/\b.1=(0,0))\/(b.1∈C/\b.2=iU rows b.1))->(∀x∈l,x∈C)->(((l.foldl (fC rows) b).2=0/\(l.foldl (fC rows) b).1=(0,0))\/((l.foldl (fC rows) b).1∈C/\(l.foldl (fC rows) b).2=iU rows (l.foldl (fC rows) b).1)):=by
  intro l
  induction l with
  |nil=>exact fun b C h _=>h
  |cons x l ih =>
   intro b C h hl;refine ih _ C ?_ fun y hy=>hl y (by simp[hy]);unfold fC;split
   ·exact .inr ⟨hl x (by simp),rfl⟩
   ·exact h
 exact key _ _ _ (.inl ⟨rfl,rfl⟩) fun x hx=>hx
theorem Vm{n:Nat}{x:Li}(h:x∈wC n):x.1<n:=by unfold wC at h;obtain⟨i,hi,hx⟩:=List.mem_flatMap.1 h;rw[List.mem_range]at hi;simp only[zrj,zrp,or_false]at hx;rcases hx with rfl|rfl<;>exact hi
theorem uQ{x:Li}{row:S}(h:lI x row=true):x∈bD row:=List.contains_iff_mem.1 h
theorem yD{n:Nat}{rows:List S}{l:List Li}(h:∀r∈rows,r.length=n):∀r∈aW rows l,r.length=n:=fun r hr=>by obtain⟨q,hq,rfl⟩:=zrh.1 hr;rw[wR];exact h q hq
theorem Ap{n:Nat}:∀(f:Nat)(rows:List S),(∀r∈rows,r.length=n)->cZ rows<f ->
 (rows=[]/\yB f rows=[⟨0,0,0⟩])\/(rows.any og=true/\∃fo:Fo,fo.kind=1/\yB f rows=[fo])\/(rows≠[]/\rows.any og=false/\WF n 1 (yB f rows))
 |0,_,_,h=>by omega
 |f+1,rows,hn,hs=>by
  unfold yB;by_cases h0:rows=[]
  ·rw[if_pos h0];exact .inl ⟨h0,rfl⟩
  rw[if_neg h0];by_cases h1:rows.any og=true
  ·rw[if_pos h1];exact .inr (.inl ⟨h1,_,rfl,rfl⟩)
  rw[if_neg h1];have h1:rows.any og=false:=by simpa using h1
  refine .inr (.inr ⟨h0,h1,?_⟩);have hfree:∀r∈rows,og r=false:=fun r hr=>by
   rw[List.any_eq_false]at h1;simpa using h1 r hr
  obtain⟨r0,rs,rfl⟩:∃r0 rs,rows=r0::rs:=by
   cases rows with
   |nil=>exact absurd rfl h0
   |cons a b=>exact⟨a,b,rfl⟩
  have hn0:=hn r0 (by simp);by_cases h2:dM (r0::rs)≠[]
  ·rw[if_pos h2];obtain⟨x,cs,hc⟩:∃x cs,dM (r0::rs)=x::cs:=by
    cases hcc:dM (r0::rs)with
    |nil=>exact absurd hcc h2
    |cons a b=>exact⟨a,b,rfl⟩
   have hcm:∀y∈dM (r0::rs),y∈bD r0:=fun y hy=>(List.mem_filter.1 hy).1;have hx:x∈bD r0:=hcm x (by rw[hc];simp);have hsz:cZ (aW (r0::rs) (dM (r0::rs)))<cZ (r0::rs):=by rw[hc];exact je hx
   refine WF.all (fun y hy=> ?_) h2 ?_
   ·have:=nC (hcm y hy);omega
   ·rcases Ap f (aW (r0::rs) (dM (r0::rs))) (yD hn) (by omega)with⟨ha,_⟩|⟨_,fo,hb,hb2⟩|⟨_,_,hcw⟩
    ·exact absurd ha (by unfold aW;simp)
    ·exact .inl ⟨fo,hb,hb2⟩
    ·exact .inr (.inr hcw)
  ·rw[if_neg h2];have h2:dM (r0::rs)=[]:=by simpa using h2
   by_cases h3:(lG (r0::rs)).2<2
   ·rw[if_pos h3];have hlen:2<=(r0::rs).length:=by
     cases rs with
     |cons _ _=>simp
     |nil =>
      exfalso;have hl:=yC (hfree r0 (by simp));obtain⟨x,hx⟩:=List.exists_mem_of_ne_nil _ hl;have:x∈dM [r0]:=by
       refine List.mem_filter.2 ⟨hx,?_⟩;have hh:lI x r0=true:=List.contains_iff_mem.2 hx;simp[iU,hh]
      rw[h2]at this;cases this
    show WF n (0+1) (_::_);unfold WF;refine .inr ⟨.inr rfl,hlen,?_⟩;have:∀l:List S,(∀r∈l,r.length=n/\og r=false)->WF n l.length (l.flatMap fun r=>CE (bD r) []):=fun l=>by
     induction l with
     |nil=>exact fun _=>trivial
     |cons r l ih=>intro h;rw[zrt,List.flatMap_cons,Nat.add_comm];refine WF.app (WF.all (fun y hy=> ?_) (yC (h r (by simp)).2) (.inr (.inl rfl))) (ih fun q hq=>h q (by simp[hq]));have:=nC hy;have:=(h r (by simp)).1;omega
    exact this _ fun r hr=>⟨hn r hr,hfree r hr⟩
   ·rw[if_neg h3];obtain⟨x,hx⟩:∃x,x=(lG (r0::rs)).1:=⟨_,rfl⟩;rw[<-hx];obtain⟨m1,m2⟩:x∈wC ((r0::rs).headD []).length/\(lG (r0::rs)).2=iU (r0::rs) x:=by
     rcases Hf (r0::rs)with⟨h,_⟩|⟨a,b⟩
     ·omega
     ·exact⟨hx▸a,hx▸b⟩
    have hxl:x.1<n:=by have:=Vm m1;simpa [hn0]using this
    have hex:∃r∈r0::rs,lI x r=true:=by
     have:0<iU (r0::rs) x:=by omega
     exact List.countP_pos_iff.1 this
    have hnot:∃r∈r0::rs,lI x r=false:=by
     apply Classical.byContradiction;intro hno;have hall:∀r∈r0::rs,lI x r=true:=fun r hr=>by
      cases hh:lI x r with
      |true=>rfl
      |false=>exact absurd ⟨r,hr,hh⟩ hno
     have:x∈dM (r0::rs):=by refine List.mem_filter.2 ⟨uQ (hall r0 (by simp)),?_⟩;rw[beq_iff_eq];exact List.countP_eq_length.2 hall
     rw[h2]at this;cases this
    have hq:∃q qs,(r0::rs).filter (lI x)=q::qs:=by
     obtain⟨r,hr,hh⟩:=hex;have:r∈(r0::rs).filter (lI x):=List.mem_filter.2 ⟨hr,hh⟩;cases hc:(r0::rs).filter (lI x)with
     |nil=>rw[hc]at this;cases this
     |cons a b=>exact⟨a,b,rfl⟩
    obtain⟨q,qs,hqe⟩:=hq;have hqx:x∈bD q:=uQ (List.mem_filter.1 (show q∈(r0::rs).filter (lI x) by rw[hqe];simp)).2;have hs1:cZ (aW ((r0::rs).filter (lI x)) [x])<cZ (r0::rs):=by have h4:=nD (lI x) (r0::rs);rw[hqe]at h4 ⊢;have:=je (l:=[]) (rows:=qs) hqx;omega
    have hs2:cZ ((r0::rs).filter fun r=> !lI x r)<cZ (r0::rs):=by obtain⟨r,hr,hh⟩:=hex;exact lH ⟨r,hr,by rw[hh];rfl⟩
    show WF n (0+1) (_::_);unfold WF;refine .inr ⟨.inr rfl,zrb _,?_⟩;show WF n (1+1) _;refine WF.app (WF.all (fun y hy=>by rw[zrc.1 hy];exact hxl) (by simp) ?_) ?_
    ·rcases Ap f (aW ((r0::rs).filter (lI x)) [x]) (yD fun p hp=>hn p (List.mem_filter.1 hp).1) (by omega)with⟨ha,_⟩|⟨_,fo,hb,hb2⟩|⟨_,_,hcw⟩
     ·exact absurd ha (by rw[hqe];unfold aW;simp)
     ·exact .inl ⟨fo,hb,hb2⟩
     ·exact .inr (.inr hcw)
    ·rcases Ap f ((r0::rs).filter fun r=> !lI x r) (fun r hr=>hn r (List.mem_filter.1 hr).1) (by omega)with⟨ha,_⟩|⟨hb0,fo,hb,hb2⟩|⟨_,_,hcw⟩
     ·exfalso;obtain⟨r,hr,hh⟩:=hnot;have:r∈(r0::rs).filter fun r=> !lI x r:=List.mem_filter.2 ⟨hr,by rw[hh];rfl⟩;rw[ha]at this;cases this
     ·exfalso;obtain⟨r,hr,hh⟩:=List.any_eq_true.1 hb0;rw[hfree r (List.mem_filter.1 hr).1]at hh;cases hh
     ·exact hcw
theorem Oy{n:Nat}{N0 B:List (List Nat)}(w:Wt n N0 B){D:List Nat}{a:Nat}:∀(r:List Nat) {Q:List Nat} {N:List (List Nat)},Fv n N0 D a r N Q->(∀i∈r,i∈B.getD a [])->r.Nodup->Cv n N0 (D++[a]) (qC a r (N,Q)).1 (qC a r (N,Q)).2
 |[],_,_,c,_,_=>by rw[qC];exact c.done
 |i::r,Q,N,c,hi,hn=>by rw[qC];have hn2:=List.nodup_cons.1 hn;exact Oy w r (c.step w (hi i (by simp)) hn2.1) (fun j hj=>hi j (by simp[hj])) hn2.2
theorem Oz{n:Nat}{N0 B:List (List Nat)}(w:Wt n N0 B):∀(f:Nat)(N:List (List Nat))(Q D:List Nat),Cv n N0 D N Q->n<=f+D.length ->
 (∃N',Cv n N0 (D++oQ B f N Q) N' [])/\∀D1 a D2,oQ B f N Q=D1++a::D2->∀k∈N0.getD a [],k∈D++D1
 |0,N,Q,D,c,h=>by have hl:=c.len;have:Q=[]:=zse (by omega);subst this;rw[oQ,zqp];refine⟨⟨N,c⟩,fun D1 a D2 h=> ?_⟩;cases D1<;>cases h
 |f+1,N,Q,D,c,h=>by
  by_cases hQ:Q=[]
  ·subst hQ;have e:oQ B (f+1) N []=[]:=by rw[oQ];rfl
   rw[e,zqp];refine⟨⟨N,c⟩,fun D1 a D2 h=> ?_⟩;cases D1<;>cases h
  ·have he:¬Q.isEmpty=true:=fun h=>hQ (List.isEmpty_iff.1 h);obtain⟨a,ha⟩:∃a,a=(ni Q).getLastD 0:=⟨_,rfl⟩;have hc:=c.pop w hQ;rw[<-ha]at hc;have hn:=Oy w (B.getD a []) hc (fun i hi=>hi) (w.nB a);obtain⟨ih1,ih2⟩:=Oz w f _ _ _ hn (by rw[zqa,zrk];omega);have haQ:a∈Q:=by have:=(Aj hQ).mem_iff (a:=a);rw[this,<-ha];simp
   have hNa:N.getD a []=[]:=((c.mem a).1 (.inl haQ)).2;have e:oQ B (f+1) N Q=a::oQ B f (qC a (B.getD a []) (N,(ni Q).dropLast)).1 (qC a (B.getD a []) (N,(ni Q).dropLast)).2:=by rw[oQ,if_neg he,<-ha]
   rw[e];refine⟨?_,fun D1 b D2 hs k hk=> ?_⟩
   ·obtain⟨N',hN'⟩:=ih1;refine⟨N',?_⟩;rw[zqc]at hN';exact hN'
   ·cases D1 with
    |nil=>rw[List.nil_append]at hs;injection hs with h1 h2;subst h1;rw[zqp];have hh:=hNa;rw[c.nn,List.filter_eq_nil_iff]at hh;have:=hh k hk;simpa using this
    |cons d D1=>rw[List.cons_append]at hs;injection hs with h1 h2;subst h1;have:=ih2 D1 b D2 h2 k hk;simpa using this
theorem OA{names:List S}{ins:List (List S)}(h:names.length=ins.length):(∃N',Cv ins.length (sU names ins).1 (qY names ins) N' [])/\∀D1 a D2,qY names ins=D1++a::D2->∀k∈(sU names ins).1.getD a [],k∈D1:=by have w:=Cf h;have:=Oz w ins.length _ _ _ (Cv.born w) (by simp);simpa [qY]using this
theorem KG{names:List S}{ins:List (List S)}(h:names.length=ins.length)(rk:Nat->Nat×Nat)(hr:∀i<ins.length,∀k∈(sU names ins).1.getD i [],Prod.Lex (·<·) (·<·) (rk k) (rk i)):nU names ins=[]:=by
 obtain⟨⟨N',c⟩,_⟩:=OA h;have w:=Cf h;have hwf:WellFounded (fun i j:Nat=>Prod.Lex (·<·) (·<·) (rk i) (rk j)):=InvImage.wf rk (Prod.lex ⟨_,Nat.lt_wfRel.wf⟩ ⟨_,Nat.lt_wfRel.wf⟩).wf;have all:∀i,i<ins.length->i∈qY names ins:=fun i=>by
  refine hwf.induction (C:=fun i=>i<ins.length->i∈qY names ins) i fun i ih hi=> ?_;have:=(c.mem i).2 ⟨hi,?_⟩
  ·exact this.resolve_left (by simp)
  ·rw[c.nn,List.filter_eq_nil_iff];intro k hk;have:=ih k (hr i hi k hk) (w.lt i k hk).2;simpa using this
 unfold nU;rw[List.map_eq_nil_iff,List.filter_eq_nil_iff];intro i hi;rw[List.mem_range,h]at hi;simpa using all i hi
theorem OB{names:List S}{ins:List (List S)}(h:names.length=ins.length)(hn:nU names ins=[]):∀i<ins.length,i∈qY names ins:=fun i hi=>by unfold nU at hn;rw[List.map_eq_nil_iff,List.filter_eq_nil_iff]at hn;have:=hn i (by rw[List.mem_range,h];exact hi);simpa using this
theorem qc(names:List S)(i:Nat):∀(l:List S)(N B:List (List Nat))(j k:Nat),i<N.length ->
 (k∈(fE names i l (N,B)).1.getD j []↔k∈N.getD j []\/(j=i/\∃s∈l,jb names s=some k))
 |[],N,B,j,k,_=>by rw[fE];simp
 |s::l,N,B,j,k,hi=>by
  rw[fE];cases hp:jb names s with
  |none =>
   dsimp only;rw[qc names i l N B j k hi];constructor
   ·rintro(h|⟨h,t,ht,h2⟩)
    ·exact .inl h
    ·exact .inr ⟨h,t,by simp[ht],h2⟩
   ·rintro(h|⟨h,t,ht,h2⟩)
    ·exact .inl h
    ·rcases zrj.1 ht with rfl|ht
     ·rw[hp]at h2;cases h2
     ·exact .inr ⟨h,t,ht,h2⟩
  |some q =>
   dsimp only;by_cases hc:(N.getD i []).contains q=true
   ·rw[if_pos hc,qc names i l N B j k hi];constructor
    ·rintro(h|⟨h,t,ht,h2⟩)
     ·exact .inl h
     ·exact .inr ⟨h,t,by simp[ht],h2⟩
    ·rintro(h|⟨h,t,ht,h2⟩)
     ·exact .inl h
     ·rcases zrj.1 ht with rfl|ht
      ·rw[hp]at h2;cases h2;rw[h];exact .inl (List.contains_iff_mem.1 hc)
      ·exact .inr ⟨h,t,ht,h2⟩
   ·rw[if_neg hc,qc names i l _ _ j k (by rw[zrn];exact hi),kR (by exact hi)];constructor
    ·rintro(h|⟨h,t,ht,h2⟩)
     ·split at h
      ·rename_i hij;rcases zrf.1 h with h|h
       ·exact .inl (hij▸h)
       ·exact .inr ⟨hij.symm,s,by simp,by rw[zrc.1 h];exact hp⟩
      ·exact .inl h
     ·exact .inr ⟨h,t,by simp[ht],h2⟩
    ·rintro(h|⟨h,t,ht,h2⟩)
     ·split
      ·rename_i hij;exact .inl (List.mem_append_left _ (hij▸h))
      ·exact .inl h
     ·rcases zrj.1 ht with rfl|ht
      ·rw[hp]at h2;cases h2;rw[if_pos h.symm];exact .inl (by simp)
      ·exact .inr ⟨h,t,ht,h2⟩
theorem qf(names:List S)(i:Nat):∀(l:List S)(N B:List (List Nat)),(fE names i l (N,B)).1.length=N.length
 |[],_,_=>rfl
 |s::l,N,B=>by
  rw[fE];cases jb names s with
  |none=>exact qf names i l N B
  |some q =>
   dsimp only;split
   ·exact qf names i l N B
   ·rw[qf,zrn]
theorem yE(names:List S):∀(r:List (List S))(i:Nat)(N B:List (List Nat))(j k:Nat),i+r.length<=N.length ->
 (k∈(jd names i r (N,B)).1.getD j []↔k∈N.getD j []\/(i<=j/\∃s∈r.getD (j-i) [],jb names s=some k))
 |[],i,N,B,j,k,_=>by rw[jd];simp
 |l::r,i,N,B,j,k,hi=>by
  rw[zrt]at hi;rw[jd];have hl:=qf names i l N B;have ih:=yE names r (i+1) (fE names i l (N,B)).1 (fE names i l (N,B)).2 j k (by omega);rw[show((fE names i l (N,B)).1,(fE names i l (N,B)).2)=fE names i l (N,B)from rfl]at ih;rw[ih,qc names i l N B j k (by omega)];constructor
  ·rintro((h|⟨rfl,h⟩)|⟨h1,h⟩)
   ·exact .inl h
   ·exact .inr ⟨zrb _,by rw[Nat.sub_self];exact h⟩
   ·refine .inr ⟨by omega,?_⟩;rw[show j-i=(j-(i+1))+1 by omega,List.getD_cons_succ];exact h
  ·rintro(h|⟨h1,h⟩)
   ·exact .inl (.inl h)
   ·by_cases hij:j=i
    ·subst hij;rw[Nat.sub_self,List.getD_cons_zero]at h;exact .inl (.inr ⟨rfl,h⟩)
    ·rw[show j-i=(j-(i+1))+1 by omega,List.getD_cons_succ]at h;exact .inr ⟨by omega,h⟩
theorem I8(names:List S)(ins:List (List S))(i k:Nat):k∈(sU names ins).1.getD i []↔∃s∈ins.getD i [],jb names s=some k:=by
 unfold sU;rw[yE names ins 0 _ _ i k (by simp)];have hr:(List.replicate ins.length ([]:List Nat)).getD i []=[]:=by
  rw[zqg,List.getElem?_replicate];split<;>rfl
 rw[hr,Nat.sub_zero];simp
theorem KH{names:List S}{s:S}{k:Nat}(h:jb names s=some k):names[k]? =some s:=by unfold jb at h;obtain⟨h1,h2,_⟩:=List.findIdx?_eq_some_iff_getElem.1 h;rw[zqk h1];simpa using h2
abbrev Hg:Nat×Nat->Nat×Nat->Prop:=Prod.Lex (·<·) (·<·)
theorem KI{c:Ci}(hn:NetOk c)(rk:S->Nat×Nat)(hr:∀g∈c.gates,∀s∈g.ins,s∈c.gates.map (·.name)->Hg (rk s) (rk g.name)):sV c=(0,[]):=by
 have h1:(nT c).1=0:=(BR c).2 hn;have hl:(c.gates.map (·.name)).length=(c.gates.map (·.ins)).length:=by simp
 have hnev:nU (c.gates.map (·.name)) (c.gates.map (·.ins))=[]:=by
  refine KG hl (fun i=>rk ((c.gates.map (·.name)).getD i [])) fun i hi k hk=> ?_;rw[zra]at hi;obtain⟨s,hs,hp⟩:=(I8 _ _ _ _).1 hk;have hg:=KH hp;have e1:(c.gates.map (·.name)).getD k []=s:=by rw[zqg,hg];rfl
  have e2:(c.gates.map (·.name)).getD i []=c.gates[i].name:=by rw[zqg,zqo,zqk hi];rfl
  have e3:(c.gates.map (·.ins)).getD i []=c.gates[i].ins:=by rw[zqg,zqo,zqk hi];rfl
  rw[e3]at hs;show Hg (rk _) (rk _);rw[e1,e2];exact hr _ (zqu hi) s hs (List.mem_of_getElem? hg)
 unfold sV;rw[if_neg (by rw[h1];decide)];have:(zy c).2=[]:=by
  unfold zy;rw[if_pos h1];exact hnev
 rw[this]
theorem RV{c:Ci}(ho:(sV c).1=0):∃r:S->Nat,∀g∈c.gates,∀s∈g.ins,r s<r g.name:=by
 have hn:=ny ho;have h1:(nT c).1=0:=(BR c).2 hn;have hl:(c.gates.map (·.name)).length=(c.gates.map (·.ins)).length:=by simp
 have hnev:nU (c.gates.map (·.name)) (c.gates.map (·.ins))=[]:=by
  unfold sV at ho;rw[if_neg (by rw[h1];decide)]at ho;have e:(zy c).2=nU (c.gates.map (·.name)) (c.gates.map (·.ins)):=by
   unfold zy;rw[if_pos h1]
  rw[e]at ho;cases hc:nU (c.gates.map (·.name)) (c.gates.map (·.ins))with
  |nil=>rfl
  |cons a b=>rw[hc]at ho;cases ho
 have hall:=OB hl hnev;obtain⟨⟨N',cv⟩,hpos⟩:=OA hl;obtain⟨L,hL⟩:∃L,L=qY (c.gates.map (·.name)) (c.gates.map (·.ins)):=⟨_,rfl⟩;rw[<-hL]at hall hpos cv;have hnd:L.Nodup:=by simpa using cv.nd
 refine⟨fun s=>match jb (c.gates.map (·.name)) s with|some k=>L.idxOf k+1|none=>0,fun g hg s hs=> ?_⟩;obtain⟨i,hi,hgi⟩:=List.getElem_of_mem hg;have hnm:(c.gates.map (·.name)).Nodup:=vK hn.nets;have hi2:i<(c.gates.map (·.name)).length:=by simpa using hi
 have hgn:(c.gates.map (·.name))[i]=g.name:=by simp[hgi]
 have hpg:jb (c.gates.map (·.name)) g.name=some i:=by unfold jb;refine List.findIdx?_eq_some_iff_getElem.2 ⟨hi2,by simpa using hgn,fun j hj=> ?_⟩;have hne:(c.gates.map (·.name))[j]≠g.name:=fun e=>List.pairwise_iff_getElem.1 hnm j i (by omega) hi2 hj (e.trans hgn.symm);simpa using hne
 dsimp only;rw[hpg];cases hp:jb (c.gates.map (·.name)) s with
 |none=>exact Nat.succ_pos _
 |some k =>
  dsimp only;have hw:k∈(sU (c.gates.map (·.name)) (c.gates.map (·.ins))).1.getD i []:=(I8 _ _ _ _).2 ⟨s,by
   have e3:(c.gates.map (·.ins)).getD i []=c.gates[i].ins:=by rw[zqg,zqo,zqk hi];rfl
   rw[e3,hgi];exact hs,hp⟩
  have hiL:=hall i (by simpa using hi);obtain⟨D1,D2,hD⟩:=List.append_of_mem hiL;have hk:=hpos D1 i D2 hD k hw;rw[hD]at hnd ⊢;have hiD:i∉D1:=fun h=>(List.nodup_append.1 hnd).2.2 i h i (by simp) rfl;have e1:(D1++i::D2).idxOf i=D1.length:=by rw[List.idxOf_append,if_neg hiD];simp
  have e2:(D1++i::D2).idxOf k=D1.idxOf k:=by rw[List.idxOf_append,if_pos hk]
  have:=List.idxOf_lt_length_iff.2 hk;rw[e1,e2];omega
def Yg(ds:S):Nat:=ds.foldl (fun a c=>10*a+(c.toNat-48)) 0
theorem OC:∀(k u:Nat),u<10^(k+1)->Lib.nDigits u<=k+1
 |0,u,h=>by rw[Lib.nDigits_small (by simpa using h)];exact zrb _
 |k+1,u,h=>by
  by_cases hu:u<10
  ·rw[Lib.nDigits_small hu];omega
  ·rw[Lib.nDigits_big hu];have:=OC k (u/10) (by rw[Nat.pow_succ]at h;omega);omega
theorem YA{u:Nat}(h:¬u<10):Lib.decDigits u=Lib.decDigits (u/10)++[UInt8.ofNat (48+u%10)]:=by rw[Lib.decDigits,dif_neg h]
theorem XZ{d:Nat}(h:d<10):(UInt8.ofNat (48+d)).toNat=48+d:=by rw[UInt8.toNat_ofNat'];omega
theorem Vo(u:Nat):∀c∈Lib.decDigits u,48<=c.toNat/\c.toNat<=57:=by
 induction u using Nat.strongRecOn with
 |_ u ih =>
  by_cases h:u<10
  ·rw[Lib.decDigits_one h];intro c hc;have:c=UInt8.ofNat (48+u):=by simpa using hc
   rw[this,XZ h];omega
  ·rw[YA h];intro c hc;rcases zrf.1 hc with hc|hc
   ·exact ih (u/10) (by omega) c hc
   ·have:c=UInt8.ofNat (48+u%10):=by simpa using hc
    rw[this,XZ (by omega)];omega
theorem OD(u:Nat):Yg (Lib.decDigits u)=u:=by
 induction u using Nat.strongRecOn with
 |_ u ih =>
  by_cases h:u<10
  ·rw[Lib.decDigits_one h];show 10*0+((UInt8.ofNat (48+u)).toNat-48)=u;rw[XZ h];omega
  ·rw[YA h];unfold Yg;rw[List.foldl_append];show 10*Yg (Lib.decDigits (u/10))+((UInt8.ofNat (48+u%10)).toNat-48)=u;rw[ih (u/10) (by omega),XZ (by omega)];omega
def iJ(k:Nat):S:=110::Lib.decDigits k
theorem RX{a b:Nat}(h:iJ a=iJ b):a=b:=by unfold iJ at h;injection h with _ h;rw[<-OD a,<-OD b,h]
theorem Vp{k:Nat}(h:k<10^30):aS (iJ k)=true:=by
 have hl:(Lib.decDigits k).length<=30:=by rw[Lib.decDigits_length];exact OC 29 k h
 have hb:∀c∈iJ k,iC c=true:=fun c hc=>by
  have key:∀n:Nat,48<=n->n<=57->iC (UInt8.ofNat n)=true:=fun n h1 h2=>by
   have:n=48\/n=49\/n=50\/n=51\/n=52\/n=53\/n=54\/n=55\/n=56\/n=57:=by omega
   rcases this with rfl|rfl|rfl|rfl|rfl|rfl|rfl|rfl|rfl|rfl<;>decide
  rcases zrj.1 hc with rfl|hc
  ·decide
  ·obtain⟨h1,h2⟩:=Vo k c hc;have:=key c.toNat h1 h2
   rwa [UInt8.ofNat_toNat]at this
 unfold aS;have e:(iJ k).length=(Lib.decDigits k).length+1:=rfl;rw[e,zrs.2 hb,decide_eq_true (by omega),decide_eq_true (by omega)];rfl
def EX:Nat->Nat->List S->S
 |0,k,_=>iJ k
 |f+1,k,used=>if used.contains (iJ k)=true then EX f (k+1) used else iJ k
def oW(used:List S):S:=EX used.length 1 used
theorem CJ:∀(f k:Nat)(used:List S),∃j,k<=j/\j<=k+f/\EX f k used=iJ j/\(∀i,k<=i->i<j->iJ i∈used)/\(j<k+f->iJ j∉used)
 |0,k,used=>⟨k,zrb _,zrb _,rfl,fun i h1 h2=>by omega,fun h=>by omega⟩
 |f+1,k,used=>by
  rw[EX];by_cases h:used.contains (iJ k)=true
  ·rw[if_pos h];obtain⟨j,h1,h2,h3,h4,h5⟩:=CJ f (k+1) used;refine⟨j,by omega,by omega,h3,fun i hi hj=> ?_,fun hj=>h5 (by omega)⟩;by_cases hk:i=k
   ·rw[hk];exact List.contains_iff_mem.1 h
   ·exact h4 i (by omega) hj
  ·rw[if_neg h];exact⟨k,zrb _,by omega,rfl,fun i h1 h2=>by omega,fun _ hm=>h (List.contains_iff_mem.2 hm)⟩
theorem Vq{l m:List S}(hn:l.Nodup)(h:∀x∈l,x∈m):l.length<=m.length:=by
 induction l generalizing m with
 |nil=>exact Nat.zero_le _
 |cons a l ih =>
  have ha:=h a (by simp);have hn2:=List.nodup_cons.1 hn;have:=ih (m:=m.erase a) hn2.2 fun x hx=>by have hne:x≠a:=fun e=>hn2.1 (e▸hx);exact(List.mem_erase_of_ne hne).2 (h x (by simp[hx]))
  rw[List.length_erase_of_mem ha]at this;have:0<m.length:=List.length_pos_of_mem ha;rw[zrt];omega
theorem I9(used:List S):oW used∉used/\∃j,j<=used.length+1/\oW used=iJ j:=by
 unfold oW;obtain⟨j,h1,h2,h3,h4,h5⟩:=CJ used.length 1 used;rw[h3];refine⟨fun hm=> ?_,j,by omega,rfl⟩;have hall:∀x∈(List.range' 1 j).map iJ,x∈used:=fun x hx=>by
  obtain⟨i,hi,rfl⟩:=zrh.1 hx;rw[List.mem_range'_1]at hi;by_cases hij:i=j
  ·rw[hij];exact hm
  ·exact h4 i hi.1 (by omega)
 have hnd:((List.range' 1 j).map iJ).Nodup:=by refine List.Pairwise.map _ (R:=(·≠·)) (fun a b hab e=>hab (RX e)) ?_;exact List.nodup_range'
 have:=Vq hnd hall;rw[zra,List.length_range']at this;exact h5 (by omega) hm
structure Xs where
 gates:List Ga
 used:List S
 nots:List S×List S
def jA(x:Xs)(g:Ga):Xs×S :=
 if g.name=[]then(⟨x.gates++[{g with name:=oW x.used}],x.used++[oW x.used],x.nots⟩,oW x.used)
 else(⟨x.gates++[g],x.used,x.nots⟩,g.name)
def gY(x:Xs)(s:S):Xs×S:=match at? x.nots.1 s with
 |some n=>(x,x.nots.2.getD n [])
 |none=>(⟨(jA x ⟨[],3,[s],[],false⟩).1.gates,(jA x ⟨[],3,[s],[],false⟩).1.used,(x.nots.1++[s],x.nots.2++[(jA x ⟨[],3,[s],[],false⟩).2])⟩,(jA x ⟨[],3,[s],[],false⟩).2)
def jG:Nat->Xs->S->Int->Int->List S->Xs×S
 |0,x,name,_,last,l=>jA x ⟨name,last,l,[],false⟩
 |f+1,x,name,op,last,l=>if 8<l.length then jG f (jA x ⟨[],op,l.take 8,[],false⟩).1 name op last ((jA x ⟨[],op,l.take 8,[],false⟩).2::l.drop 8)else jA x ⟨name,last,l,[],false⟩
def Aq(x:Xs)(ins:List S)(n:Nat):Xs×S:=if n%2=1 then gY x (ins.getD (n/2) [])else(x,ins.getD (n/2) [])
def opF(fo:Fo):Int:=if fo.kind=3 then 4 else 6
def aP(ins:List S):Nat->Nat->Xs->List Fo->Xs×List S×List Fo
 |0,_,x,l=>(x,[],l)
 |_+1,0,x,l=>(x,[],l)
 |_+1,_+1,x,[]=>(x,[],[])
 |f+1,k+1,x,fo::l =>
  if fo.kind = 2 then
   ((aP ins f k (Aq x ins fo.lit).1 l).1,(Aq x ins fo.lit).2::(aP ins f k (Aq x ins fo.lit).1 l).2.1,(aP ins f k (Aq x ins fo.lit).1 l).2.2)
  else
   let q:=aP ins f fo.kids x l
   let y:=jG q.2.1.length q.1 [] (opF fo) (opF fo) q.2.1
   let r:=aP ins f k y.1 q.2.2
   (r.1,y.2::r.2.1,r.2.2)
def dQ(rows:List S):List S:=rows.foldl (fun l r=>if l.contains r=true then l else l++[r]) []
def TY(op:Int):Int:=if op=0 then 1 else if op=2 then 3 else if op=3 then 2 else if op=4 then 5 else if op=6 then 7 else 0
def iE(off:Bool)(op:Int):Int:=if off=true then TY op else op
def tV(x:Xs)(g:Ga):Xs:=match TW (dQ g.rows)with
 |[]=>x
 |fo::l =>
  if fo.kind=0 then(jA x ⟨g.name,iE g.off 0,[],[],false⟩).1
  else if fo.kind=1 then(jA x ⟨g.name,iE g.off 1,[],[],false⟩).1
  else if fo.kind=2 then(jA x ⟨g.name,iE g.off (if fo.lit%2=1 then 3 else 2),[g.ins.getD (fo.lit/2) []],[],false⟩).1
  else(jG (aP g.ins (l.length+1) fo.kids x l).2.1.length (aP g.ins (l.length+1) fo.kids x l).1 g.name (opF fo) (iE g.off (opF fo)) (aP g.ins (l.length+1) fo.kids x l).2.1).1
def zD(x:Xs)(g:Ga):Xs:=if(aZ g).op=10 then tV x (aZ g)else(jA x (aZ g)).1
def Dv(c:Ci):Xs:=c.gates.foldl zD ⟨[],bf c,([],[])⟩
def Dw(c:Ci):Ci×Int :=
 if(sV c).1≠0 then(⟨[],[],[],[]⟩,1)
 else if 200<c.ins.length+c.lat.length+(Dv c).gates.length then(⟨[],[],[],[]⟩,8)
 else({c with gates:=(Dv c).gates},0)
theorem Hl{l:List S}{x:S}(h:l.Nodup)(hx:x∉l):(l++[x]).Nodup :=
 List.nodup_append.2 ⟨h,by simp,fun a ha b hb hab=>by rw[zrc.1 hb]at hab;exact hx (hab▸ha)⟩
structure GPl(g:Ga):Prop where
 h:uJ g.op g.ins.length=true
 o:g.op≠10
 r:g.rows=[]
 f:g.off=false
theorem GPl.canon{g:Ga}(h:GPl g):aZ g=g:=by have hk:GOk g:=⟨h.h,fun _=>⟨h.r,h.f⟩⟩;unfold aZ;rw[CB hk,if_pos h.o]
structure XI(c:Ci)(r:S->Nat)(D:List S)(rk:S->Nat×Nat)(x:Xs):Prop where
 fr:∃F,x.used=bf c++F/\(∀s∈F,∃j,j<=x.used.length/\s=iJ j)/\x.used.Nodup/\(x.gates.map (·.name)).Perm (F++D)
 pl:∀g∈x.gates,GPl g/\∀s∈g.ins,s∈x.used/\Hg (rk s) (rk g.name)
 rc:∀s∈bf c,rk s=(2*r s,0)
 dn:∀s∈D,s∈bf c
 no:x.nots.1.length=x.nots.2.length/\∀(n:Nat)(s:S),x.nots.1[n]? =some s->s∈bf c/\∃t,x.nots.2[n]? =some t/\t∈x.used/\rk t=(2*r s+1,0)
structure XS(x y:Xs)(rk rk':S->Nat×Nat):Prop where
 us:∀s∈x.used,s∈y.used
 rk:∀s∈x.used,rk' s=rk s
 gl:x.gates.length<=y.gates.length
theorem XS.refl(x:Xs)(rk:S->Nat×Nat):XS x x rk rk:=⟨fun _ h=>h,fun _ _=>rfl,zrb _⟩
theorem XS.trans{x y z:Xs}{a b c:S->Nat×Nat}(h:XS x y a b)(k:XS y z b c):XS x z a c :=
 ⟨fun s hs=>k.us s (h.us s hs),fun s hs=>(k.rk s (h.us s hs)).trans (h.rk s hs),Nat.le_trans h.gl k.gl⟩
theorem XI.len{c:Ci}{r:S->Nat}{D:List S}{rk:S->Nat×Nat}{x:Xs}(k:XI c r D rk x):x.used.length<=(bf c).length+x.gates.length:=by obtain⟨F,h1,_,_,h4⟩:=k.fr;have:=h4.length_eq;rw[zra,zqa]at this;rw[h1,zqa];omega
theorem XI.nm{c:Ci}{r:S->Nat}{D:List S}{rk:S->Nat×Nat}{x:Xs}(k:XI c r D rk x){q:Ga}(hq:q∈x.gates):q.name∈x.used:=by
 obtain⟨F,e1,_,_,e4⟩:=k.fr;have:=e4.mem_iff.1 (zrh.2 ⟨q,hq,rfl⟩);rw[e1];rcases zrf.1 this with h|h
 ·exact List.mem_append_right _ h
 ·exact List.mem_append_left _ (k.dn _ h)
theorem yF{c:Ci}{r:S->Nat}{D:List S}{rk:S->Nat×Nat}{x:Xs}(k:XI c r D rk x){g:Ga}(hg:g.name=[])(hp:GPl g)(v:Nat×Nat)
 (hi:∀s∈g.ins,s∈x.used/\Hg (rk s) v) :
 ∃rk',XI c r D rk' (jA x g).1/\XS x (jA x g).1 rk rk'/\(jA x g).2∈(jA x g).1.used/\rk' (jA x g).2=v/\(jA x g).1.nots=x.nots/\(jA x g).1.gates.length=x.gates.length+1:=by
 obtain⟨f1,f2⟩:=I9 x.used;obtain⟨n,hn⟩:∃n,n=oW x.used:=⟨_,rfl⟩;rw[<-hn]at f1 f2;have he:jA x g=(⟨x.gates++[{g with name:=n}],x.used++[n],x.nots⟩,n):=by unfold jA;rw[if_pos hg,<-hn]
 rw[he];have hne:∀s∈x.used,s≠n:=fun s hs e=>f1 (e▸hs);have hrk:∀s∈x.used,(fun s=>if s=n then v else rk s) s=rk s:=fun s hs=>if_neg (hne s hs);obtain⟨F,e1,e2,e3,e4⟩:=k.fr;have hc:∀s∈bf c,s∈x.used:=fun s hs=>by rw[e1];exact List.mem_append_left _ hs
 have hgn:∀q∈x.gates,q.name∈x.used:=fun q hq=>k.nm hq;refine⟨fun s=>if s=n then v else rk s,⟨⟨F++[n],by rw[e1,zqc],fun s hs=> ?_,?_,?_⟩,fun q hq=> ?_,fun s hs=> ?_,k.dn,k.no.1,fun i s hs=> ?_⟩,⟨fun s hs=>List.mem_append_left _ hs,hrk,by simp⟩,by simp,if_pos rfl,rfl,by simp⟩
 ·rw[zqa,zrk];rcases zrf.1 hs with h|h
  ·obtain⟨j,h1,h2⟩:=e2 s h;exact⟨j,by omega,h2⟩
  ·rw[zrc.1 h];exact f2
 ·exact Hl e3 f1
 ·rw[zql];show(x.gates.map (·.name)++[n]).Perm _;refine(e4.append_right _).trans ?_;rw[zqc,zqc];exact List.Perm.append_left _ List.perm_append_comm
 ·rcases zrf.1 hq with h|h
  ·obtain⟨p1,p2⟩:=k.pl q h;refine⟨p1,fun s hs=> ?_⟩;obtain⟨q1,q2⟩:=p2 s hs;refine⟨List.mem_append_left _ q1,?_⟩;show Hg (if s=n then v else rk s) (if q.name=n then v else rk q.name);rw[if_neg (hne s q1),if_neg (hne _ (hgn q h))];exact q2
  ·rw[zrc.1 h];refine⟨⟨hp.h,hp.o,hp.r,hp.f⟩,fun s hs=> ?_⟩;obtain⟨q1,q2⟩:=hi s hs;refine⟨List.mem_append_left _ q1,?_⟩;show Hg (if s=n then v else rk s) (if n=n then v else rk n);rw[if_neg (hne s q1),if_pos rfl];exact q2
 ·show(if s=n then v else rk s)=_;rw[if_neg (hne s (hc s hs))];exact k.rc s hs
 ·obtain⟨a,t,b1,b2,b3⟩:=k.no.2 i s hs;refine⟨a,t,b1,List.mem_append_left _ b2,?_⟩;show(if t=n then v else rk t)=_;rw[if_neg (hne t b2)];exact b3
theorem RY{a b a' b':Nat}(h:a<a'):Hg (a,b) (a',b'):=Prod.Lex.left _ _ h
theorem Xt{a b b':Nat}(h:b<b'):Hg (a,b) (a,b'):=Prod.Lex.right _ h
theorem YB{p q s:Nat×Nat}(h:Hg p q)(k:Hg q s):Hg p s:=by
 rcases p with⟨p1,p2⟩;rcases q with⟨q1,q2⟩;rcases s with⟨s1,s2⟩;cases h with
 |left _ _ h1 =>
  cases k with
  |left _ _ k1=>exact RY (Nat.lt_trans h1 k1)
  |right _ k1=>exact RY h1
 |right _ h1 =>
  cases k with
  |left _ _ k1=>exact RY k1
  |right _ k1=>exact Xt (Nat.lt_trans h1 k1)
theorem Yh{p:Nat×Nat}{a b b':Nat}(h:Hg p (a,b))(hb:b<=b'):Hg p (a,b'):=by
 rcases Nat.lt_or_ge b b' with hlt|hge
 ·exact YB h (Xt hlt)
 ·have:b=b':=by omega
  rw[<-this];exact h
theorem Vr:uJ 3 1=true:=by decide
theorem OE{c:Ci}{r:S->Nat}{D:List S}{rk:S->Nat×Nat}{x:Xs}(k:XI c r D rk x){s:S}(hs:s∈bf c) :
 ∃rk',XI c r D rk' (gY x s).1/\XS x (gY x s).1 rk rk'/\(gY x s).2∈(gY x s).1.used/\rk' (gY x s).2=(2*r s+1,0):=by
 have hu:∀s∈bf c,s∈x.used:=fun s hs=>by obtain⟨F,e1,_⟩:=k.fr;rw[e1];exact List.mem_append_left _ hs
 unfold gY;cases ha:at? x.nots.1 s with
 |some n =>
  obtain⟨h1,h2⟩:=qI ha;obtain⟨_,t,b1,b2,b3⟩:=k.no.2 n s (by rw[zqk h1,h2]);have e:x.nots.2.getD n []=t:=by rw[zqg,b1];rfl
  refine⟨rk,k,XS.refl x rk,?_,?_⟩
  ·show x.nots.2.getD n []∈x.used;rw[e];exact b2
  ·show rk (x.nots.2.getD n [])=_;rw[e];exact b3
 |none =>
  obtain⟨rk',k1,k2,k3,k4,k5,k6⟩:=yF k (g:=⟨[],3,[s],[],false⟩) rfl ⟨Vr,(show(3:Int)≠10 by decide),rfl,rfl⟩ (2*r s+1,0) (fun t ht=>by
   have ht:t=s:=zrc.1 ht;subst ht;exact⟨hu _ hs,by rw[k.rc _ hs];exact RY (by omega)⟩)
  obtain⟨y,hy⟩:∃y,y=jA x ⟨[],3,[s],[],false⟩:=⟨_,rfl⟩;rw[<-hy]at k1 k2 k3 k4 k5 k6;dsimp only;rw[<-hy];refine⟨rk',⟨k1.fr,k1.pl,k1.rc,k1.dn,by simp[k.no.1],fun n u hn=> ?_⟩,⟨k2.us,k2.rk,k2.gl⟩,k3,k4⟩;by_cases hlt:n<x.nots.1.length
  ·have hn:x.nots.1[n]? =some u:=by rw[<-hn];exact(zqj hlt).symm
   obtain⟨a,t,b1,b2,b3⟩:=k.no.2 n u hn;exact⟨a,t,by rw[<-b1];exact zqj (by rw[<-k.no.1];exact hlt),k2.us t b2,by rw[k2.rk t b2];exact b3⟩
  ·have hn:(x.nots.1++[s])[n]? =some u:=hn;have hl:=(zqe hn).1;rw[zqa,zrk]at hl;have hnl:n=x.nots.1.length:=by omega
   subst hnl;have hus:u=s:=by
    rw[zsb (zrb _),Nat.sub_self]at hn;exact(Option.some.inj hn).symm
   subst hus;refine⟨hs,y.2,?_,k3,k4⟩;show(x.nots.2++[y.2])[x.nots.1.length]? =_;rw[k.no.1,zsb (zrb _),Nat.sub_self];rfl
def Qc(rk:S->Nat×Nat)(x:Xs)(a:Nat)(l:List S):Prop:=∀s∈l,s∈x.used/\Hg (rk s) (a,1+x.gates.length)
theorem Qc.up{rk rk':S->Nat×Nat}{x y:Xs}{a:Nat}{l:List S}(h:Qc rk x a l)(k:XS x y rk rk'):Qc rk' y a l:=fun s hs=>by obtain⟨h1,h2⟩:=h s hs;refine⟨k.us s h1,?_⟩;rw[k.rk s h1];exact Yh h2 (by have:=k.gl;omega)
theorem CO{op:Int}{n:Nat}(ho:op=4\/op=5\/op=6\/op=7)(h1:2<=n)(h2:n<=8):uJ op n=true:=by
 have:n=2\/n=3\/n=4\/n=5\/n=6\/n=7\/n=8:=by omega
 rcases ho with rfl|rfl|rfl|rfl<;>rcases this with rfl|rfl|rfl|rfl|rfl|rfl|rfl<;>decide
theorem Hm{c:Ci}{r:S->Nat}{D:List S}{a:Nat}(name:S){op last:Int}(ho:op=4\/op=6):∀(f:Nat) {rk:S->Nat×Nat} {x:Xs} {l:List S},XI c r D rk x->Qc rk x a l->2<=l.length->l.length<=f ->
 ∃rk' x' l',jG f x name op last l=jA x' ⟨name,last,l',[],false⟩/\XI c r D rk' x'/\XS x x' rk rk'/\Qc rk' x' a l'/\2<=l'.length/\l'.length<=8
 |0,_,_,_,_,_,h1,h2=>by omega
 |f+1,rk,x,l,k,hl,h1,h2=>by
  rw[jG];by_cases h8:8<l.length
  ·rw[if_pos h8];have h8l:(l.take 8).length=8:=by rw[zrl];omega
   obtain⟨rk1,k1,k2,k3,k4,_,k6⟩:=yF k (g:=⟨[],op,l.take 8,[],false⟩) rfl ⟨by show uJ op (l.take 8).length=true;rw[h8l];exact CO (ho.elim .inl fun h=> .inr (.inr (.inl h))) (by omega) (by omega),by show op≠10;rcases ho with rfl|rfl<;>decide,rfl,rfl⟩ (a,1+x.gates.length) (fun s hs=>hl s (zsh hs));obtain⟨y,hy⟩:∃y,y=jA x ⟨[],op,l.take 8,[],false⟩:=⟨_,rfl⟩;rw[<-hy]at k1 k2 k3 k4 k6 ⊢;have hlow:Qc rk1 y.1 a (y.2::l.drop 8):=fun s hs=>by
    rcases zrj.1 hs with rfl|hs
    ·refine⟨k3,?_⟩;rw[k4,k6];exact Xt (by omega)
    ·exact(hl.up k2) s (List.mem_of_mem_drop hs)
   have hdl:(l.drop 8).length=l.length-8:=List.length_drop;obtain⟨rk2,x',l',e,j1,j2,j3,j4,j5⟩:=Hm name ho f k1 hlow (by rw[zrt,hdl];omega) (by rw[zrt,hdl];omega);exact⟨rk2,x',l',e,j1,k2.trans j2,j3,j4,j5⟩
  ·rw[if_neg h8];exact⟨rk,x,l,rfl,k,XS.refl x rk,hl,h1,by omega⟩
theorem KJ{c:Ci}{r:S->Nat}{D:List S}{a:Nat}{op:Int}(ho:op=4\/op=6){f:Nat}{rk:S->Nat×Nat}{x:Xs}{l:List S}(k:XI c r D rk x)(hl:Qc rk x a l)(h1:2<=l.length)(h2:l.length<=f) :
 ∃rk',XI c r D rk' (jG f x [] op op l).1/\XS x (jG f x [] op op l).1 rk rk'/\Qc rk' (jG f x [] op op l).1 a [(jG f x [] op op l).2]:=by
 obtain⟨rk1,x',l',e,j1,j2,j3,j4,j5⟩:=Hm (last:=op) [] ho f k hl h1 h2;rw[e];obtain⟨rk2,k1,k2,k3,k4,_,k6⟩:=yF j1 (g:=⟨[],op,l',[],false⟩) rfl ⟨CO (ho.elim .inl fun h=> .inr (.inr (.inl h))) j4 j5,by show op≠10;rcases ho with rfl|rfl<;>decide,rfl,rfl⟩ (a,1+x'.gates.length) j3;refine⟨rk2,k1,j2.trans k2,fun s hs=> ?_⟩;rw[zrc.1 hs];refine⟨k3,?_⟩;rw[k4,k6];exact Xt (by omega)
theorem OG:∀ {l:List Fo} {k:Nat},¬WF 0 (k+1) l
 |[],k,h=>by unfold WF at h;exact h.elim
 |fo::l,k,h=>by
  unfold WF at h;rcases h with⟨_,h,_⟩|⟨_,h2,h⟩
  ·omega
  ·rw[show fo.kids+k=(fo.kids+k-1)+1 by omega]at h;exact OG h
theorem EY{l:List S}{i:Nat}(h:i<l.length):l.getD i []∈l:=by rw[zqg,zqk h];exact zqu h
theorem wS{c:Ci}{r:S->Nat}{D:List S}{a:Nat}{ins:List S}(hins:∀s∈ins,s∈bf c/\2*r s+1<=a):∀(f k j:Nat)(x:Xs)(l:List Fo)(rk:S->Nat×Nat),WF ins.length (k+j) l->l.length<f->XI c r D rk x ->
 ∃rk',XI c r D rk' (aP ins f k x l).1/\XS x (aP ins f k x l).1 rk rk'/\Qc rk' (aP ins f k x l).1 a (aP ins f k x l).2.1/\(aP ins f k x l).2.1.length=k/\WF ins.length j (aP ins f k x l).2.2/\(aP ins f k x l).2.2.length<=l.length
 |0,_,_,_,_,_,_,h,_=>by omega
 |f+1,0,j,x,l,rk,hw,_,hk=>by rw[aP];rw[Nat.zero_add]at hw;exact⟨rk,hk,XS.refl x rk,fun s hs=>(by cases hs),rfl,hw,zrb _⟩
 |f+1,k+1,j,x,[],rk,hw,_,_=>by rw[Nat.add_right_comm]at hw;unfold WF at hw;exact hw.elim
 |f+1,k+1,j,x,fo::l,rk,hw,hf,hk=>by
  rw[Nat.add_right_comm]at hw;unfold WF at hw;rw[zrt]at hf;rw[aP];rcases hw with⟨w1,w2,w3⟩|⟨w1,w2,w3⟩
  ·rw[if_pos w1];have hi:fo.lit/2<ins.length:=by omega
   have hs:=EY hi;obtain⟨hs1,hs2⟩:=hins _ hs;have hu:ins.getD (fo.lit/2) []∈x.used:=by obtain⟨F,e1,_⟩:=hk.fr;rw[e1];exact List.mem_append_left _ hs1
   obtain⟨rk1,k1,k2,k3⟩:∃rk1,XI c r D rk1 (Aq x ins fo.lit).1/\XS x (Aq x ins fo.lit).1 rk rk1/\Qc rk1 (Aq x ins fo.lit).1 a [(Aq x ins fo.lit).2]:=by
    unfold Aq;by_cases ho:fo.lit%2=1
    ·rw[if_pos ho];obtain⟨rk1,k1,k2,k3,k4⟩:=OE hk hs1;refine⟨rk1,k1,k2,fun s hs=> ?_⟩;rw[zrc.1 hs];refine⟨k3,?_⟩;rw[k4];rcases Nat.lt_or_ge (2*r (ins.getD (fo.lit/2) [])+1) a with hlt|hge
     ·exact RY hlt
     ·have:2*r (ins.getD (fo.lit/2) [])+1=a:=by omega
      rw[this];exact Xt (by omega)
    ·rw[if_neg ho];refine⟨rk,hk,XS.refl x rk,fun s hs=> ?_⟩;rw[zrc.1 hs];refine⟨hu,?_⟩;rw[hk.rc _ hs1];exact RY (by omega)
   obtain⟨rk2,j1,j2,j3,j4,j5,j6⟩:=wS hins f k j (Aq x ins fo.lit).1 l rk1 w3 (by omega) k1;refine⟨rk2,j1,k2.trans j2,fun s hs=> ?_,by rw[zrt,j4],j5,Nat.le_trans j6 (Nat.le_succ _)⟩;rcases zrj.1 hs with rfl|hs
   ·exact(k3.up j2) _ (by simp)
   ·exact j3 s hs
  ·rw[if_neg (by rcases w1 with h|h<;>rw[h]<;>decide)];obtain⟨rk1,i1,i2,i3,i4,i5,i6⟩:=wS hins f fo.kids (k+j) x l rk w3 (by omega) hk;obtain⟨q,hq⟩:∃q,q=aP ins f fo.kids x l:=⟨_,rfl⟩;rw[<-hq]at i1 i2 i3 i4 i5 i6;have hop:opF fo=4\/opF fo=6:=by
    unfold opF;split
    ·exact .inl rfl
    ·exact .inr rfl
   obtain⟨rk2,m1,m2,m3⟩:=KJ hop (f:=q.2.1.length) i1 i3 (by omega) (zrb _);obtain⟨y,hy⟩:∃y,y=jG q.2.1.length q.1 [] (opF fo) (opF fo) q.2.1:=⟨_,rfl⟩;rw[<-hy]at m1 m2 m3;obtain⟨rk3,j1,j2,j3,j4,j5,j6⟩:=wS hins f k j y.1 q.2.2 rk2 i5 (by omega) m1;rw[<-hq];dsimp only;rw[<-hy];refine⟨rk3,j1,(i2.trans m2).trans j2,fun s hs=> ?_,by rw[zrt,j4],j5,Nat.le_trans j6 (Nat.le_succ_of_le i6)⟩;rcases zrj.1 hs with rfl|hs
   ·exact(m3.up j2) _ (by simp)
   ·exact j3 s hs
theorem oZ{c:Ci}{r:S->Nat}{D:List S}{rk:S->Nat×Nat}{x:Xs}(k:XI c r D rk x){g:Ga}(hne:g.name≠[])(hg:g.name∈bf c)(hp:GPl g)
 (hi:∀s∈g.ins,s∈x.used/\Hg (rk s) (2*r g.name,0)):XI c r (D++[g.name]) rk (jA x g).1:=by
 have he:jA x g=(⟨x.gates++[g],x.used,x.nots⟩,g.name):=by unfold jA;rw[if_neg hne]
 rw[he];obtain⟨F,e1,e2,e3,e4⟩:=k.fr;refine⟨⟨F,e1,e2,e3,?_⟩,fun q hq=> ?_,k.rc,fun s hs=> ?_,k.no⟩
 ·rw[zql];show(x.gates.map (·.name)++[g.name]).Perm _;rw[<-zqc];exact e4.append_right _
 ·rcases zrf.1 hq with h|h
  ·exact k.pl q h
  ·rw[zrc.1 h];refine⟨hp,fun s hs=> ?_⟩;rw[k.rc _ hg];exact hi s hs
 ·rcases zrf.1 hs with h|h
  ·exact k.dn s h
  ·rw[zrc.1 h];exact hg
theorem qg:∀(rows acc:List S),∀s∈rows.foldl (fun l r=>if l.contains r=true then l else l++[r]) acc,s∈acc\/s∈rows
 |[],acc,s,h=> .inl h
 |q::rows,acc,s,h=>by
  rw[List.foldl_cons]at h;rcases qg rows _ s h with h|h
  ·split at h
   ·exact .inl h
   ·rcases zrf.1 h with h|h
    ·exact .inl h
    ·exact .inr (by rw[zrc.1 h];simp)
  ·exact .inr (by simp[h])
theorem RZ(off:Bool){op:Int}(h:op=4\/op=6):iE off op=4\/iE off op=5\/iE off op=6\/iE off op=7:=by cases off<;>rcases h with rfl|rfl<;>decide
theorem Vs{c:Ci}{r:S->Nat}{D:List S}{rk:S->Nat×Nat}{x:Xs}(k:XI c r D rk x){g:Ga}(hne:g.name≠[])(hg:g.name∈bf c)(hn:∀q∈g.rows,q.length=g.ins.length)
 (hi:∀s∈g.ins,s∈bf c/\r s<r g.name):∃rk',XI c r (D++[g.name]) rk' (tV x g):=by
 have hus:∀s∈bf c,s∈x.used:=fun s hs=>by obtain⟨F,e1,_⟩:=k.fr;rw[e1];exact List.mem_append_left _ hs
 have z0:∀off:Bool,(uJ (iE off 0) 0=true/\iE off 0≠10)/\uJ (iE off 1) 0=true/\iE off 1≠10:=by decide
 have z1:∀off:Bool,(uJ (iE off 2) 1=true/\iE off 2≠10)/\uJ (iE off 3) 1=true/\iE off 3≠10:=by decide
 have h0:∀(off:Bool)(op:Int),(op=0\/op=1)->GPl ⟨g.name,iE off op,[],[],false⟩:=fun off op ho=>by
  rcases ho with rfl|rfl
  ·exact⟨(z0 off).1.1,(z0 off).1.2,rfl,rfl⟩
  ·exact⟨(z0 off).2.1,(z0 off).2.2,rfl,rfl⟩
 have h1:∀(off:Bool)(op:Int),(op=2\/op=3)->∀s,GPl ⟨g.name,iE off op,[s],[],false⟩:=fun off op ho s=>by
  rcases ho with rfl|rfl
  ·exact⟨(z1 off).1.1,(z1 off).1.2,rfl,rfl⟩
  ·exact⟨(z1 off).2.1,(z1 off).2.2,rfl,rfl⟩
 unfold tV;have hf:=Ap (n:=g.ins.length) (cZ (dQ g.rows)+1) (dQ g.rows) (fun q hq=>by
  rcases qg g.rows [] q hq with h|h
  ·cases h
  ·exact hn q h) (by omega)
 rw[show yB (cZ (dQ g.rows)+1) (dQ g.rows)=TW (dQ g.rows)from rfl]at hf;rcases hf with⟨_,e⟩|⟨_,fo,hfo,e⟩|⟨_,_,hw⟩
 ·rw[e];dsimp only;rw[if_pos rfl];exact⟨rk,oZ k (g:=⟨g.name,iE g.off 0,[],[],false⟩) hne hg (h0 _ _ (.inl rfl)) fun s hs=>(by cases hs)⟩
 ·rw[e];dsimp only;rw[if_neg (by rw[hfo];decide),if_pos hfo];exact⟨rk,oZ k (g:=⟨g.name,iE g.off 1,[],[],false⟩) hne hg (h0 _ _ (.inr rfl)) fun s hs=>(by cases hs)⟩
 ·cases hc:TW (dQ g.rows)with
  |nil=>rw[hc]at hw;unfold WF at hw;exact hw.elim
  |cons fo l =>
   rw[hc]at hw;unfold WF at hw;dsimp only;rcases hw with⟨w1,w2,w3⟩|⟨w1,w2,w3⟩
   ·rw[if_neg (by rw[w1];decide),if_neg (by rw[w1];decide),if_pos w1];have hl:fo.lit/2<g.ins.length:=by omega
    have hs:=hi _ (EY hl);refine⟨rk,oZ k (g:=⟨g.name,iE g.off (if fo.lit%2=1 then 3 else 2),[g.ins.getD (fo.lit/2) []],[],false⟩) hne hg (h1 _ _ (by split<;>simp) _) fun s hs2=> ?_⟩;have hs2:s=g.ins.getD (fo.lit/2) []:=zrc.1 hs2;rw[hs2];refine⟨hus _ hs.1,?_⟩;rw[k.rc _ hs.1];exact RY (by show 2*_<2*r g.name;omega)
   ·have hk0:fo.kind≠0/\fo.kind≠1/\fo.kind≠2:=by rcases w1 with h|h<;>rw[h]<;>decide
    rw[if_neg hk0.1,if_neg hk0.2.1,if_neg hk0.2.2];have hr0:1<=r g.name\/g.ins=[]:=by
     cases hgi:g.ins with
     |nil=>exact .inr rfl
     |cons s t=>have:=(hi s (by rw[hgi];simp)).2;exact .inl (by omega)
    obtain⟨rk1,i1,i2,i3,i4,i5,i6⟩:=wS (a:=2*r g.name-1) (ins:=g.ins) (fun s hs=>by
     obtain⟨a1,a2⟩:=hi s hs;exact⟨a1,by omega⟩) (l.length+1) fo.kids 0 x l rk w3 (by omega) k
    obtain⟨q,hq⟩:∃q,q=aP g.ins (l.length+1) fo.kids x l:=⟨_,rfl⟩;rw[<-hq]at i1 i2 i3 i4 i5 i6 ⊢;have hop:opF fo=4\/opF fo=6:=by
     unfold opF;split
     ·exact .inl rfl
     ·exact .inr rfl
    obtain⟨rk2,x',l',e,j1,j2,j3,j4,j5⟩:=Hm (last:=iE g.off (opF fo)) g.name hop q.2.1.length i1 i3 (by omega) (zrb _);rw[e];have ht:=RZ g.off hop;refine⟨rk2,oZ j1 (g:=⟨g.name,iE g.off (opF fo),l',[],false⟩) hne hg ⟨CO ht j4 j5,by show iE g.off (opF fo)≠10;rcases ht with h|h|h|h<;>rw[h]<;>decide,rfl,rfl⟩ fun s hs=> ?_⟩;obtain⟨b1,b2⟩:=j3 s hs;refine⟨b1,YB b2 (RY ?_)⟩;show 2*r g.name-1<2*r g.name;rcases hr0 with h|h
    ·omega
    ·exfalso;rw[h]at w3;rw[show fo.kids+0=(fo.kids-1)+1 by omega]at w3;exact OG w3
theorem TZ{op n:Nat}(h:Lh op n=true):n<=8:=by
 unfold Lh at h;split at h
 all_goals simp only[beq_iff_eq,zqb,zqf]at h
 all_goals omega
theorem EZ:∀(l acc:List S),(acc++l).Nodup->zh acc l=none
 |[],_,_=>rfl
 |s::l,acc,h=>by rw[zh];have hs:¬acc.contains s=true:=fun hc=>(List.nodup_append.1 h).2.2 s (List.contains_iff_mem.1 hc) s (by simp) rfl;rw[if_neg hs];refine EZ l _ ?_;rw[zqc];exact h
theorem Ho{g:Ga}(h:jo g=true)(ho:(aZ g).op=10):∀q∈(aZ g).rows,q.length=(aZ g).ins.length:=by
 have hk:=sQ h;obtain⟨c1,c2,c3⟩:=Ep hk.1;have e:aZ g=g:=by
  unfold aZ at ho ⊢;rw[CB hk.1]at ho ⊢;split
  ·rfl
  ·rename_i h1;rw[if_neg h1]at ho;cases hf:jY g.ins.length g.rows g.off with
   |none=>rfl
   |some op=>rw[hf]at ho;exfalso;have:=(xW hf).1;have ho:(op:Int)=10:=ho;omega
 rw[e];intro q hq;have:=hk.2.2 q hq;unfold ng at this;simp only[zqf,beq_iff_eq]at this;exact this.1
theorem CP{s:S}(h:aS s=true):s≠[]:=fun e=>by rw[e]at h;exact absurd h (by decide)
theorem Ja{c:Ci}(hn:NetOk c){r:S->Nat}(hr:∀g∈c.gates,∀s∈g.ins,r s<r g.name):∀(gs:List Ga),(∀g∈gs,g∈c.gates)->∀(x:Xs)(D:List S)(rk:S->Nat×Nat),XI c r D rk x ->
 ∃rk',XI c r (D++gs.map (·.name)) rk' (gs.foldl zD x)
 |[],_,x,D,rk,k=>⟨rk,by simpa using k⟩
 |g::gs,hg,x,D,rk,k=>by
  have hgc:=hg g (by simp);have hb:=hn.gates g hgc;obtain⟨c1,c2,c3⟩:=Ep (sQ hb).1;have hnm:g.name∈bf c:=by unfold bf;exact List.mem_append_right _ (zrh.2 ⟨g,hgc,rfl⟩)
  have hnk:aS g.name=true:=hn.told _ (by
   unfold dG;exact List.mem_append_right _ (List.mem_flatMap.2 ⟨g,hgc,by simp⟩))
  have hins:∀s∈g.ins,s∈bf c/\r s<r g.name:=fun s hs=>by refine⟨List.contains_iff_mem.1 (hn.used s ?_),hr g hgc s hs⟩;unfold fZ;exact List.mem_append_right _ (List.mem_flatMap.2 ⟨g,hgc,hs⟩)
  obtain⟨rk1,k1⟩:∃rk1,XI c r (D++[g.name]) rk1 (zD x g):=by
   unfold zD;by_cases ho:(aZ g).op=10
   ·rw[if_pos ho,<-c3];exact Vs k (by rw[c3];exact CP hnk) (by rw[c3];exact hnm) (Ho hb ho) (by rw[c2,c3];exact hins)
   ·rw[if_neg ho,<-c3];obtain⟨h1,h2⟩:=c1.r ho;refine⟨rk,oZ k (by rw[c3];exact CP hnk) (by rw[c3];exact hnm) ⟨c1.h,ho,h1,h2⟩ fun s hs=> ?_⟩;rw[c2]at hs;obtain⟨a1,a2⟩:=hins s hs;obtain⟨F,e1,_⟩:=k.fr;refine⟨by rw[e1];exact List.mem_append_left _ a1,?_⟩;rw[k.rc _ a1,c3];exact RY (by omega)
  obtain⟨rk2,k2⟩:=Ja hn hr gs (fun q hq=>hg q (by simp[hq])) _ _ _ k1;refine⟨rk2,?_⟩;rw[zqc]at k2;exact k2
theorem Vt{c:Ci}(ho:(sV c).1=0):∃r rk,XI c r (c.gates.map (·.name)) rk (Dv c):=by
 have hn:=ny ho;obtain⟨r,hr⟩:=RV ho;have hnd:(bf c).Nodup:=by have:=yt (bf c) [] hn.nets List.nodup_nil;simpa using this
 obtain⟨rk,k⟩:=Ja hn hr c.gates (fun _ h=>h) ⟨[],bf c,([],[])⟩ [] (fun s=>(2*r s,0)) ⟨⟨[],by simp,fun s hs=>(by cases hs),hnd,List.Perm.nil⟩,fun g hg=>(by cases hg),fun s _=>rfl,fun s hs=>(by cases hs),rfl,fun n s h=>by cases h⟩;rw[List.nil_append]at k;exact⟨r,rk,k⟩
theorem Hq{c x:Ci}(h:Dw c=(x,0)):sV x=(0,[])/\(∀g∈x.gates,GPl g)/\x.ins=c.ins/\x.outs=c.outs/\x.lat=c.lat:=by
 unfold Dw at h;by_cases ho:(sV c).1≠0
 ·rw[if_pos ho]at h;have:=congrArg Prod.snd h;exact absurd this (by show(1:Int)≠0;decide)
 rw[if_neg ho]at h;have ho:(sV c).1=0:=Decidable.not_not.1 ho;by_cases hl:200<c.ins.length+c.lat.length+(Dv c).gates.length
 ·rw[if_pos hl]at h;have:=congrArg Prod.snd h;exact absurd this (by show(8:Int)≠0;decide)
 rw[if_neg hl]at h;have hx:{c with gates:=(Dv c).gates}=x:=congrArg Prod.fst h;have hn:=ny ho;obtain⟨r,rk,k⟩:=Vt ho;obtain⟨F,e1,e2,e3,e4⟩:=k.fr;subst hx;have hpl:∀g∈(Dv c).gates,GPl g:=fun g hg=>(k.pl g hg).1;have lm:=Vb hn.lim;have hnl:(bf c).length<=200:=by
  have:=hn.lim;unfold Lj at this;simp only[zqf,zqb]at this;unfold bf;simp only[zqa,zra];omega
 have hul:=k.len;have hname:∀s∈(Dv c).used,aS s=true:=fun s hs=>by
  rw[e1]at hs;rcases zrf.1 hs with hs|hs
  ·refine hn.told s ?_;unfold bf at hs;unfold dG;simp only[zrf,zrh,List.mem_flatMap]at hs ⊢;rcases hs with(hs|⟨q,hq,rfl⟩)|⟨g,hg,rfl⟩
   ·exact .inl (.inl (.inl hs))
   ·exact .inl (.inr ⟨q,hq,by simp⟩)
   ·exact .inr ⟨g,hg,by simp⟩
  ·obtain⟨j,h1,rfl⟩:=e2 s hs;exact Vp (by omega)
 have hnets:∀s∈(Dv c).used,s∈bf {c with gates:=(Dv c).gates}:=fun s hs=>by
  rw[e1]at hs;unfold bf;rcases zrf.1 hs with hs|hs
  ·unfold bf at hs;rcases zrf.1 hs with hs|hs
   ·exact List.mem_append_left _ hs
   ·exact List.mem_append_right _ (e4.mem_iff.2 (List.mem_append_right _ hs))
  ·exact List.mem_append_right _ (e4.mem_iff.2 (List.mem_append_left _ hs))
 have hold:∀s∈bf c,s∈bf {c with gates:=(Dv c).gates}:=fun s hs=>hnets s (by rw[e1];exact List.mem_append_left _ hs);have hN:NetOk {c with gates:=(Dv c).gates}:=by
  refine⟨?_,fun s hs=> ?_,?_,hn.outs,hn.lat,fun g hg=> ?_,fun s hs=> ?_⟩
  ·unfold Lj;simp only[zqf,zqb,Bool.not_eq_true',List.any_eq_false];refine⟨by omega,lm.outs,fun g hg=> ?_⟩;have hp:=hpl g hg;have h8:=hp.h;unfold uJ at h8;simp only[zqf]at h8;have:=TZ h8.2.2;unfold zY;rw[hp.r];simp only[Bool.or_eq_true,zqb,List.length_nil,not_or];omega
  ·unfold dG at hs;simp only[zrf,List.mem_flatMap]at hs;rcases hs with((hs|hs)|hs)|⟨g,hg,hs⟩
   ·exact hn.told s (by unfold dG;simp[hs])
   ·exact hn.told s (by unfold dG;simp[hs])
   ·exact hn.told s (by unfold dG;simp only[zrf,List.mem_flatMap];exact .inl (.inr hs))
   ·rcases zrj.1 hs with rfl|hs
    ·exact hname _ (k.nm hg)
    ·exact hname _ ((k.pl g hg).2 s hs).1
  ·refine EZ _ [] ?_;rw[List.nil_append];show(c.ins++c.lat.map (·.name)++(Dv c).gates.map (·.name)).Nodup;rw[e1]at e3;unfold bf at e3;refine List.Perm.nodup_iff ?_ |>.1 e3;rw[zqc (c.ins++c.lat.map (·.name))];exact List.Perm.append_left _ (List.perm_append_comm.trans e4.symm)
  ·have hp:=hpl g hg;unfold jo;rw[hp.h,hp.r,hp.f];simp
  ·refine List.contains_iff_mem.2 ?_;unfold fZ at hs;simp only[zrf,List.mem_flatMap]at hs;rcases hs with(hs|hs)|⟨g,hg,hs⟩
   ·exact hold s (List.contains_iff_mem.1 (hn.used s (by unfold fZ;simp[hs])))
   ·exact hold s (List.contains_iff_mem.1 (hn.used s (by unfold fZ;simp only[zrf];exact .inl (.inr hs))))
   ·exact hnets s ((k.pl g hg).2 s hs).1
 exact⟨KI hN rk fun g hg s hs _=>((k.pl g hg).2 s hs).2,hpl,rfl,rfl,rfl⟩
theorem E5:∀(gs:List Ga)(x:Xs),(∀g∈gs,GPl g/\g.name≠[])->(gs.foldl zD x).gates=x.gates++gs
 |[],x,_=>by simp
 |g::gs,x,h=>by
  obtain⟨hp,hne⟩:=h g (by simp);have e:zD x g=⟨x.gates++[g],x.used,x.nots⟩:=by unfold zD;rw[hp.canon,if_neg hp.o];unfold jA;rw[if_neg hne]
  rw[List.foldl_cons,e,E5 gs _ fun q hq=>h q (by simp[hq])];simp
theorem OH{c x:Ci}(h:Dw c=(x,0)):Dw x=(x,0):=by
 obtain⟨ho,hp,_,_,_⟩:=Hq h;have ho1:(sV x).1=0:=by rw[ho]
 have hn:=ny ho1;have hg:(Dv x).gates=x.gates:=by
  unfold Dv;rw[E5 x.gates _ fun g hg=>⟨hp g hg,CP (hn.told _ (by
   unfold dG;exact List.mem_append_right _ (List.mem_flatMap.2 ⟨g,hg,by simp⟩)))⟩]
  rfl
 have hl:=hn.lim;unfold Lj at hl;simp only[zqf,zqb]at hl;unfold Dw;rw[if_neg (by rw[ho1];decide),hg,if_neg (by omega)]
def ru(c:UInt8):Bool:=c==61||c==40||c==41||c==44
def o6(c:UInt8):Bool:=c==32||c==9||c==13||c==10
def E8(c:UInt8):Bool:=decide (32<c.toNat)&&decide (c.toNat<=126)
def gX(c:UInt8):Bool:=E8 c&& !(ru c||c==35)
def tkN:Nat->Nat->S->List Tk×Option Nat
 |0,_,_=>([],none)
 |_,_,[]=>([],none)
 |n+1,p,c::r =>
  if c=35 then tkN n (p+((c::r).takeWhile (· != 10)).length) ((c::r).dropWhile (· != 10))
  else if o6 c=true then tkN n (p+1) r
  else if ru c=true then(⟨1,[c],p⟩::(tkN n (p+1) r).1,(tkN n (p+1) r).2)
  else if gX c=true then(⟨0,(c::r).takeWhile gX,p⟩::(tkN n (p+((c::r).takeWhile gX).length) ((c::r).dropWhile gX)).1,(tkN n (p+((c::r).takeWhile gX).length) ((c::r).dropWhile gX)).2)
  else([],some p)
inductive Pc where
 |word (w:S)
 |mark (c:UInt8)
 |blank (c:UInt8)
def OI:Pc->S
 | .word w=>w
 | .mark c=>[c]
 | .blank c=>[c]
def vP:Pc->List (Nat×S)
 | .word w=>[(0,w)]
 | .mark c=>[(1,[c])]
 | .blank _=>[]
def okP:List Pc->Prop
 |[]=>True
 | .word w::r=>w≠[]/\(∀c∈w,gX c=true)/\(∀v s,r≠ .word v::s)/\okP r
 | .mark c::r=>ru c=true/\okP r
 | .blank c::r=>o6 c=true/\okP r
def iM(l:List Pc):S:=l.flatMap OI
theorem yG{c:UInt8}(h:gX c=true):c≠35/\o6 c=false/\ru c=false:=by unfold gX at h;simp only[zqf,Bool.not_eq_true',zsf,beq_eq_false_iff_ne]at h;obtain⟨h1,h2,h3⟩:=h;refine⟨h3,?_,h2⟩;unfold E8 at h1;simp only[zqf,zqb]at h1;unfold o6;simp only[zsf,beq_eq_false_iff_ne];refine⟨⟨⟨?_,?_⟩,?_⟩,?_⟩<;>(rintro rfl;exact absurd h1.1 (by decide))
theorem OJ:∀ {r:List Pc},okP r->(∀v s,r≠ .word v::s)->∀c,(iM r).head? =some c->gX c=false
 |[],_,_,c,h=>by cases h
 | .word w::r,_,h2,c,h=>absurd rfl (h2 w r)
 | .mark m::r,h1,_,c,h=>by have:some m=some c:=h;cases this;unfold okP at h1;unfold gX;rw[h1.1];simp
 | .blank m::r,h1,_,c,h=>by
  have:some m=some c:=h;cases this;unfold okP at h1;have hb:=h1.1;cases hw:gX m with
  |false=>rfl
  |true=>rw[(yG hw).2.1]at hb;cases hb
theorem Si{c:UInt8}(h:ru c=true):c≠35/\o6 c=false:=by unfold ru at h;simp only[Bool.or_eq_true,beq_iff_eq]at h;rcases h with((rfl|rfl)|rfl)|rfl<;>exact⟨by decide,by decide⟩
theorem OL{c:UInt8}(h:o6 c=true):c≠35:=by unfold o6 at h;simp only[Bool.or_eq_true,beq_iff_eq]at h;rcases h with((rfl|rfl)|rfl)|rfl<;>decide
theorem tX:∀(l:List Pc)(n p:Nat),okP l->(iM l).length<=n->(tkN n p (iM l)).1.map Tk.s=l.flatMap vP/\(tkN n p (iM l)).2=none
 |[],n,p,_,_=>by cases n<;>exact⟨rfl,rfl⟩
 | .mark c::r,n,p,h,hn=>by have e:iM (.mark c::r)=c::iM r:=rfl;rw[e]at hn ⊢;obtain⟨n,rfl⟩:∃m,n=m+1:=⟨n-1,by simp at hn;omega⟩;unfold okP at h;obtain⟨m1,m2⟩:=Si h.1;obtain⟨i1,i2⟩:=tX r n (p+1) h.2 (by simp at hn;omega);rw[tkN,if_neg m1,if_neg (by rw[m2];decide),if_pos h.1];refine⟨?_,i2⟩;rw[zrd,i1];rfl
 | .blank c::r,n,p,h,hn=>by have e:iM (.blank c::r)=c::iM r:=rfl;rw[e]at hn ⊢;obtain⟨n,rfl⟩:∃m,n=m+1:=⟨n-1,by simp at hn;omega⟩;unfold okP at h;obtain⟨i1,i2⟩:=tX r n (p+1) h.2 (by simp at hn;omega);rw[tkN,if_neg (OL h.1),if_pos h.1];exact⟨i1,i2⟩
 | .word w::r,n,p,h,hn=>by
  unfold okP at h;obtain⟨h1,h2,h3,h4⟩:=h;have e:iM (.word w::r)=w++iM r:=rfl;obtain⟨t1,t2⟩:=X7 h2 (OJ h4 h3);rw[e]at hn ⊢;rw[zqa]at hn;cases w with
  |nil=>exact absurd rfl h1
  |cons c w=>obtain⟨n,rfl⟩:∃m,n=m+1:=⟨n-1,by simp at hn;omega⟩;obtain⟨a1,a2,a3⟩:=yG (h2 c (by simp));have e2:(c::w)++iM r=c::(w++iM r):=rfl;rw[e2]at t1 t2 ⊢;obtain⟨i1,i2⟩:=tX r n (p+(c::w).length) h4 (by simp at hn;omega);rw[tkN,if_neg a1,if_neg (by rw[a2];decide),if_neg (by rw[a3];decide),if_pos (h2 c (by simp)),t1,t2];refine⟨?_,i2⟩;rw[zrd,i1];rfl
def jq(s:S):Bool:= !s.any fun c=>ru c||c==35
def aO(s:S):S:=if(qA.isPrefixOf s|| !jq s)=true then bg s else s
def uS(s:S):S×Int :=
 if bH s≠[]/\aS (bH s)=true/\aO (bH s)=s then(bH s,0)else if(aS s&&jq s)=true then(s,0)else([],4)
theorem Hr{s:S}(h:aS s=true):uS (aO s)=(s,0):=by
 have hne:s≠[]:=CP h;by_cases hm:(qA.isPrefixOf s|| !jq s)=true
 ·have e:aO s=bg s:=by unfold aO;rw[if_pos hm]
  unfold uS;rw[e,uI,if_pos ⟨hne,h,e⟩]
 ·have e:aO s=s:=by unfold aO;rw[if_neg hm]
  rw[e];unfold uS;split
  ·rename_i hc;obtain⟨_,_,h3⟩:=hc;by_cases hm2:(qA.isPrefixOf (bH s)|| !jq (bH s))=true
   ·exfalso;have e2:aO (bH s)=bg (bH s):=by unfold aO;rw[if_pos hm2]
    rw[e2]at h3;apply hm;rw[<-h3,vH];rfl
   ·have e2:aO (bH s)=bH s:=by unfold aO;rw[if_neg hm2]
    rw[e2]at h3;rw[h3]
  ·rw[if_pos ?_];have:jq s=true:=by
    cases hl:jq s with
    |true=>rfl
    |false=>rw[hl]at hm;simp at hm
   rw[h,this];rfl
theorem ry{s:S}(h:aS s=true):aO s≠[]/\∀c∈aO s,gX c=true:=by
 obtain⟨h1,h2⟩:=zZ h;unfold aO;split
 ·refine⟨by simp[bg,qA],fun c hc=> ?_⟩;unfold bg qA at hc;have hexW:∀n,n<16->gX (QY n)=true:=by decide
  rcases zrf.1 hc with hc|hc
  ·have hm:∀c∈([120,95,95]:S),gX c=true:=by decide
   exact hm c hc
  ·obtain⟨d,_,hd⟩:=List.mem_flatMap.1 hc;have:=d.toNat_lt;unfold QZ at hd;simp only[zrj,zrp,or_false]at hd;rcases hd with rfl|rfl
   ·exact hexW _ (by omega)
   ·exact hexW _ (by omega)
 ·rename_i hc;refine⟨h1,fun c hcs=> ?_⟩;simp only[Bool.or_eq_true,Bool.not_eq_true',not_or,Bool.not_eq_true,Bool.not_eq_false]at hc;have hl:=hc.2;unfold jq at hl;rw[Bool.not_eq_true',List.any_eq_false]at hl;have hl:=hl c hcs;have hb:=h2 c hcs;unfold iC at hb;unfold gX E8;simp only[zqf,zqb]at hb;have b1:32<c.toNat:=by
   have:=hb.1
   first|exact this|exact UInt8.lt_iff_toNat_lt.1 this|(have:=UInt8.le_iff_toNat_le.1 this;simpa using this)
  have b2:c.toNat<=126:=by
   have:=hb.2
   first|exact this|exact UInt8.le_iff_toNat_le.1 this|(have:=UInt8.lt_iff_toNat_lt.1 this;simp at this;omega)
  rw[decide_eq_true b1,decide_eq_true b2];simpa using hl
abbrev RN(α:Type):=Except (Nat×Int) α
def atN(e:Nat):List Tk->Nat
 |[]=>e
 |t::_=>t.at'
def isM(c:UInt8)(t:Tk):Bool:=t.k==1&&t.t==[c]
def o7(c:UInt8):List Tk->Bool×List Tk
 |[]=>(false,[])
 |t::r=>if isM c t=true then(true,r)else(false,t::r)
def o8(e:Nat)(c:UInt8)(l:List Tk):RN (List Tk):=if(o7 c l).1=true then .ok (o7 c l).2 else .error (atN e l,2)
def wE(e:Nat):List Tk->RN (Tk×List Tk)
 |[]=> .error (e,2)
 |t::r=>if t.k=0 then .ok (t,r)else .error (t.at',2)
def rC(e:Nat)(l:List Tk):RN (S×List Tk):=match wE e l with
 | .error x=> .error x
 | .ok (t,r)=>if(uS t.t).2=0 then .ok ((uS t.t).1,r)else .error (t.at',(uS t.t).2)
def zF(e:Nat):Nat->List S->List Tk->RN (List S×List Tk)
 |0,_,l=> .error (atN e l,2)
 |f+1,acc,l=>if(o7 44 l).1=true then(match rC e (o7 44 l).2 with
  | .error x=> .error x
  | .ok (s,r)=>zF e f (acc++[s]) r)else match o8 e 41 l with
  | .error x=> .error x
  | .ok r=> .ok (acc,r)
def nV(e:Nat)(l:List Tk):RN (List S×List Tk):=match o8 e 40 l with
 | .error x=> .error x
 | .ok l1=>if(o7 41 l1).1=true then .ok ([],(o7 41 l1).2)else match rC e l1 with
  | .error x=> .error x
  | .ok (s,r)=>zF e (r.length+1) [s] r
def iK:S:=[73,78,80,85,84]
def dZ:S:=[79,85,84,80,85,84]
def YC:S:=[66,85,70]
def opW(s:S):Option Nat:=if s=YC then some 2 else dL.findIdx? (·==s)
def zG(e:Nat)(c:Ci)(l:List Tk):RN (Ci×List Tk):=match rC e l with
 | .error x=> .error x
 | .ok (s,l1)=>match o8 e 61 l1 with
  | .error x=> .error x
  | .ok l2=>match wE e l2 with
   | .error x=> .error x
   | .ok (w,l3)=>match bM.findIdx? (·==w.t),opW w.t with
    |none,none=> .error (w.at',9)
    |lat,op=>match nV e l3 with
     | .error x=> .error x
     | .ok (ns,l4)=>match lat with
      |none=> .ok ({c with gates:=c.gates++[aZ ⟨s,(op.getD 0:Nat),ns,[],false⟩]},l4)
      |some k=>if ns.length=1 then .ok ({c with lat:=c.lat++[⟨s,ns.headD [],k⟩]},l4)else .error (w.at',1)
def zH(e:Nat)(c:Ci)(out:Bool)(l:List Tk):RN (Ci×List Tk):=match o8 e 40 l with
 | .error x=> .error x
 | .ok l1=>match rC e l1 with
  | .error x=> .error x
  | .ok (s,l2)=>match o8 e 41 l2 with
   | .error x=> .error x
   | .ok l3=> .ok (if out=true then {c with outs:=c.outs++[s]} else {c with ins:=c.ins++[s]},l3)
def Ht(e:Nat)(c:Ci):List Tk->RN (Ci×List Tk)
 |[]=> .ok (c,[])
 |t::r=>if t.k=0/\(t.t=iK\/t.t=dZ)/\(o7 61 r).1=false then zH e c (t.t==dZ) r else zG e c (t::r)
def tY(e:Nat):Nat->Ci->List Tk->RN Ci
 |0,c,_=> .ok c
 |_+1,c,[]=> .ok c
 |f+1,c,t::r=>match Ht e c (t::r)with
  | .error x=> .error x
  | .ok (c',l')=>tY e f c' l'
def CQ:List S->S
 |[]=>[]
 |[s]=>aO s
 |s::t::r=>aO s++44::32::CQ (t::r)
def gm(ahead word:S)(l:List S):S:=ahead++word++40::CQ l++[41,10]
def o9(x:Ci):S:=x.ins.flatMap (fun s=>gm [] iK [s])++x.outs.flatMap (fun s=>gm [] dZ [s])++x.lat.flatMap (fun q=>gm (aO q.name++[32,61,32]) (bM.getD q.init.toNat []) [q.next])++x.gates.flatMap fun g=>gm (aO g.name++[32,61,32]) (dL.getD g.op.toNat []) g.ins
end Go.Proofs.YthaijohbpdabfaaGreatDoor
