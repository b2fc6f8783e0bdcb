/- Lemmas for this claim, part F08: each holds under what it names. -/
import Derived.Test.YthaijohbpdabfaaGreatDoorRF07
import Derived.Test.YthaijohbpdabfaaGreatDoorRF04
import Derived.Lib.ItoaNum
set_option linter.all false
set_option maxRecDepth 20000
namespace Go.Proofs.YthaijohbpdabfaaGreatDoor
open Go Go.Proofs Go.Abs
open List renaming length → aa, replicate → ao
open Bool renaming true → ab, false → ac
open Option renaming some → al, none → aq
open Decidable renaming decide → ar
open Go.IntKind renaming wrap → aD
open Go.Result renaming andThen → aM
open Go.Abs.O renaming cells → am
open Go.Abs.V renaming drops → ap, dat → aE, dats → aL
def Az(row:S):Nat:=row.countP (· != 45)
theorem qR:∀(i:Nat)(row:S),aa (bg i row)=Az row
 |_,[]=>rfl
 |i,c::r=>by
  rw[bg,Az,List.countP_cons];have ih:=qR (i+1) r;unfold Az at ih;by_cases h:c=45
  ·rw[if_pos h,ih];simp[h]
  ·rw[if_neg h,zrt,ih];simp[h]
theorem uS{row:S}(h:jX row=ac):aY row≠[]:=by
 intro e;have h1:=qR 0 row;have e':bg 0 row=[]:=e;rw[e']at h1;have h2:Az row=0:=h1.symm;unfold Az at h2;rw[List.countP_eq_zero]at h2;have:jX row=ab:=by
  unfold jX;rw[zrs];intro c hc;have:=h2 c hc;simpa using this
 rw[this]at h;cases h
theorem uT:∀ {i:Nat} {row:S} {x:Li},x∈bg i row->x.2≠45/\row[x.1-i]? =al x.2
 |i,[],x,h=>by cases h
 |i,c::r,x,h=>by
  rw[bg]at h;have hb:∀ {y:Li},y∈bg (i+1) r->y.2≠45/\(c::r)[y.1-i]? =al y.2:=λ{y} hy=>by
   have h1:=mW hy;obtain⟨a,b⟩:=uT hy;refine⟨a,?_⟩;rw[show y.1-i=(y.1-(i+1))+1 by omega,List.getElem?_cons_succ];exact b
  split at h
  ·exact hb h
  ·rename_i hc;rcases zrj.1 h with rfl|h
   ·refine⟨hc,?_⟩;rw[Nat.sub_self];rfl
   ·exact hb h
theorem Zz(row:S)(i:Nat):Az (row.set i 45)<=Az row:=by
 unfold Az
 induction row generalizing i with
 |nil=>simp
 |cons c r ih =>
  cases i with
  |zero=>rw[List.set_cons_zero,List.countP_cons,List.countP_cons];simp
  |succ i=>rw[List.set_cons_succ,List.countP_cons,List.countP_cons];have:=ih i;omega
theorem ZA{row:S}{i:Nat}{c:UInt8}(h:row[i]? =al c)(hc:c≠45):Az (row.set i 45)<Az row:=by
 unfold Az
 induction row generalizing i with
 |nil=>simp at h
 |cons d r ih =>
  cases i with
  |zero=>rw[List.getElem?_cons_zero]at h;cases h;rw[List.set_cons_zero,List.countP_cons,List.countP_cons];simp[hc]
  |succ i=>rw[List.getElem?_cons_succ]at h;rw[List.set_cons_succ,List.countP_cons,List.countP_cons];have:=ih h;omega
theorem QA(l:List Li):∀row:S,Az (jP row l)<=Az row:=by
 unfold jP
 induction l with
 |nil=>exact λ_=>zrb _
 |cons x l ih=>exact λrow=>Nat.le_trans (ih _) (Zz _ _)
theorem yl(l:List Li):∀row:S,aa (jP row l)=aa row:=by
 unfold jP
 induction l with
 |nil=>exact λ_=>rfl
 |cons x l ih=>exact λrow=>by rw[List.foldl_cons,ih,zrn]
theorem XN{x:Li}{l:List Li}{row:S}(h:x∈aY row):Az (jP row (x::l))<Az row:=by obtain⟨h1,h2⟩:=uT h;rw[Nat.sub_zero]at h2;show Az (jP (row.set x.1 45) l)<_;exact Nat.lt_of_le_of_lt (QA l _) (ZA h2 h1)
theorem QB(rows:List S):bK rows=(rows.map λr=>Az r+1).sum:=by
 unfold bK
 congr 1
 exact zsd λr _=>congrArg (·+1) (qR 0 r)
theorem eH(r:S)(rows:List S):bK (r::rows)=Az r+1+bK rows:=by rw[QB,QB,zrd,List.sum_cons]
theorem KA(l:List Li):∀rows:List S,bK (aS rows l)<=bK rows
 |[]=>zrb _
 |r::rows=>by show bK (jP r l::aS rows l)<=_;rw[eH,eH];have:=KA l rows;have:=QA l r;omega
theorem iw{x:Li}{l:List Li}{r:S}{rows:List S}(h:x∈aY r):bK (aS (r::rows) (x::l))<bK (r::rows):=by show bK (jP r (x::l)::aS rows (x::l))<_;rw[eH,eH];have:=KA (x::l) rows;have:=XN (l:=l) h;omega
theorem lD(p:S->Bool):∀rows:List S,bK (rows.filter p)<=bK rows
 |[]=>zrb _
 |r::rows=>by
  have:=lD p rows;rw[List.filter_cons];split
  ·rw[eH,eH];omega
  ·rw[eH];omega
theorem jD{p:S->Bool}:∀ {rows:List S},(∃r∈rows,p r=ac)->bK (rows.filter p)<bK rows
 |[],h=>by obtain⟨r,hr,_⟩:=h;cases hr
 |r::rows,h=>by
  rw[List.filter_cons];by_cases hp:p r=ab
  ·rw[if_pos hp,eH,eH];obtain⟨s,hs,h2⟩:=h;rcases zrj.1 hs with rfl|hs
   ·rw[hp]at h2;cases h2
   ·have:=jD ⟨s,hs,h2⟩;omega
  ·rw[if_neg hp,eH];have:=lD p rows;omega
theorem DX(rows:List S):((jW rows).2=0/\(jW rows).1=(0,0))\/((jW rows).1∈xQ (aa (rows.headD []))/\(jW rows).2=iZ rows (jW rows).1):=by
 have key:∀(l:List Li)(b:Li×Nat)(C:List Li),((b.2=0/\b.1=(0,0))\/(b.1∈C/\b.2=iZ rows b.1))->(∀x∈l,x∈C)->(((l.foldl (fQ rows) b).2=0/\(l.foldl (fQ rows) b).1=(0,0))\/((l.foldl (fQ rows) b).1∈C/\(l.foldl (fQ rows) b).2=iZ rows (l.foldl (fQ rows) b).1)):=by
  intro l
  induction l with
  |nil=>exact λb C h _=>h
  |cons x l ih =>
   intro b C h hl;refine ih _ C ?_ λy hy=>hl y (by simp[hy]);unfold fQ;split
   ·exact .inr ⟨hl x (by simp),rfl⟩
   ·exact h
 exact key _ _ _ (.inl ⟨rfl,rfl⟩) λx hx=>hx
theorem XO{n:Nat}{x:Li}(h:x∈xQ n):x.1<n:=by unfold xQ at h;obtain⟨i,hi,hx⟩:=List.mem_flatMap.1 h;rw[List.mem_range]at hi;simp only[zrj,zrp,or_false]at hx;rcases hx with rfl|rfl<;>exact hi
theorem lF{x:Li}{row:S}(h:jd x row=ab):x∈aY row:=List.contains_iff_mem.1 h
theorem zJ{n:Nat}{rows:List S}{l:List Li}(h:∀r∈rows,aa r=n):∀r∈aS rows l,aa r=n:=λr hr=>by obtain⟨q,hq,rfl⟩:=zrh.1 hr;rw[yl];exact h q hq
theorem zK{n:Nat}:∀(f:Nat)(rows:List S),(∀r∈rows,aa r=n)->bK rows<f ->
 (rows=[]/\wF f rows=[⟨0,0,0⟩])\/(rows.any jX=ab/\∃fo:Fo,fo.kind=1/\wF f rows=[fo])\/(rows≠[]/\rows.any jX=ac/\WF n 1 (wF f rows))
 |0,_,_,h=>by omega
 |f+1,rows,hn,hs=>by
  unfold wF;by_cases h0:rows=[]
  ·rw[if_pos h0];exact .inl ⟨h0,rfl⟩
  rw[if_neg h0];by_cases h1:rows.any jX=ab
  ·rw[if_pos h1];exact .inr (.inl ⟨h1,_,rfl,rfl⟩)
  rw[if_neg h1];have h1:rows.any jX=ac:=by simpa using h1
  refine .inr (.inr ⟨h0,h1,?_⟩);have hfree:∀r∈rows,jX r=ac:=λr hr=>by
   rw[List.any_eq_false]at h1;simpa using h1 r hr
  obtain⟨r0,rs,rfl⟩:∃r0 rs,rows=r0::rs:=by
   cases rows with
   |nil=>exact absurd rfl h0
   |cons a b=>exact⟨a,b,rfl⟩
  have hn0:=hn r0 (by simp);by_cases h2:bD (r0::rs)≠[]
  ·rw[if_pos h2];obtain⟨x,cs,hc⟩:∃x cs,bD (r0::rs)=x::cs:=by
    cases hcc:bD (r0::rs)with
    |nil=>exact absurd hcc h2
    |cons a b=>exact⟨a,b,rfl⟩
   have hcm:∀y∈bD (r0::rs),y∈aY r0:=λy hy=>(List.mem_filter.1 hy).1;have hx:x∈aY r0:=hcm x (by rw[hc];simp);have hsz:bK (aS (r0::rs) (bD (r0::rs)))<bK (r0::rs):=by rw[hc];exact iw hx
   refine WF.all (λy hy=> ?_) h2 ?_
   ·have:=mW (hcm y hy);omega
   ·rcases zK f (aS (r0::rs) (bD (r0::rs))) (zJ hn) (by omega)with⟨ha,_⟩|⟨_,fo,hb,hb2⟩|⟨_,_,hcw⟩
    ·exact absurd ha (by unfold aS;simp)
    ·exact .inl ⟨fo,hb,hb2⟩
    ·exact .inr (.inr hcw)
  ·rw[if_neg h2];have h2:bD (r0::rs)=[]:=by simpa using h2
   by_cases h3:(jW (r0::rs)).2<2
   ·rw[if_pos h3];have hlen:2<=aa (r0::rs):=by
     cases rs with
     |cons _ _=>simp
     |nil =>
      exfalso;have hl:=uS (hfree r0 (by simp));obtain⟨x,hx⟩:=List.exists_mem_of_ne_nil _ hl;have:x∈bD [r0]:=by
       refine List.mem_filter.2 ⟨hx,?_⟩;have hh:jd x r0=ab:=List.contains_iff_mem.2 hx;simp[iZ,hh]
      rw[h2]at this;cases this
    show WF n (0+1) (_::_);unfold WF;refine .inr ⟨.inr rfl,hlen,?_⟩;have:∀l:List S,(∀r∈l,aa r=n/\jX r=ac)->WF n (aa l) (l.flatMap λr=>zI (aY r) []):=λl=>by
     induction l with
     |nil=>exact λ_=>trivial
     |cons r l ih=>intro h;rw[zrt,List.flatMap_cons,Nat.add_comm];refine WF.app (WF.all (λy hy=> ?_) (uS (h r (by simp)).2) (.inr (.inl rfl))) (ih λq hq=>h q (by simp[hq]));have:=mW hy;have:=(h r (by simp)).1;omega
    exact this _ λr hr=>⟨hn r hr,hfree r hr⟩
   ·rw[if_neg h3];obtain⟨x,hx⟩:∃x,x=(jW (r0::rs)).1:=⟨_,rfl⟩;rw[<-hx];obtain⟨m1,m2⟩:x∈xQ (aa ((r0::rs).headD []))/\(jW (r0::rs)).2=iZ (r0::rs) x:=by
     rcases DX (r0::rs)with⟨h,_⟩|⟨a,b⟩
     ·omega
     ·exact⟨hx▸a,hx▸b⟩
    have hxl:x.1<n:=by have:=XO m1;simpa [hn0]using this
    have hex:∃r∈r0::rs,jd x r=ab:=by
     have:0<iZ (r0::rs) x:=by omega
     exact List.countP_pos_iff.1 this
    have hnot:∃r∈r0::rs,jd x r=ac:=by
     apply Classical.byContradiction;intro hno;have hall:∀r∈r0::rs,jd x r=ab:=λr hr=>by
      cases hh:jd x r with
      |true=>rfl
      |false=>exact absurd ⟨r,hr,hh⟩ hno
     have:x∈bD (r0::rs):=by refine List.mem_filter.2 ⟨lF (hall r0 (by simp)),?_⟩;rw[beq_iff_eq];exact List.countP_eq_length.2 hall
     rw[h2]at this;cases this
    have hq:∃q qs,(r0::rs).filter (jd x)=q::qs:=by
     obtain⟨r,hr,hh⟩:=hex;have:r∈(r0::rs).filter (jd x):=List.mem_filter.2 ⟨hr,hh⟩;cases hc:(r0::rs).filter (jd x)with
     |nil=>rw[hc]at this;cases this
     |cons a b=>exact⟨a,b,rfl⟩
    obtain⟨q,qs,hqe⟩:=hq;have hqx:x∈aY q:=lF (List.mem_filter.1 (show q∈(r0::rs).filter (jd x) by rw[hqe];simp)).2;have hs1:bK (aS ((r0::rs).filter (jd x)) [x])<bK (r0::rs):=by have h4:=lD (jd x) (r0::rs);rw[hqe]at h4 ⊢;have:=iw (l:=[]) (rows:=qs) hqx;omega
    have hs2:bK ((r0::rs).filter λr=> !jd x r)<bK (r0::rs):=by obtain⟨r,hr,hh⟩:=hex;exact jD ⟨r,hr,by rw[hh];rfl⟩
    show WF n (0+1) (_::_);unfold WF;refine .inr ⟨.inr rfl,zrb _,?_⟩;show WF n (1+1) _;refine WF.app (WF.all (λy hy=>by rw[zrc.1 hy];exact hxl) (by simp) ?_) ?_
    ·rcases zK f (aS ((r0::rs).filter (jd x)) [x]) (zJ λp hp=>hn p (List.mem_filter.1 hp).1) (by omega)with⟨ha,_⟩|⟨_,fo,hb,hb2⟩|⟨_,_,hcw⟩
     ·exact absurd ha (by rw[hqe];unfold aS;simp)
     ·exact .inl ⟨fo,hb,hb2⟩
     ·exact .inr (.inr hcw)
    ·rcases zK f ((r0::rs).filter λr=> !jd x r) (λr hr=>hn r (List.mem_filter.1 hr).1) (by omega)with⟨ha,_⟩|⟨hb0,fo,hb,hb2⟩|⟨_,_,hcw⟩
     ·exfalso;obtain⟨r,hr,hh⟩:=hnot;have:r∈(r0::rs).filter λr=> !jd x r:=List.mem_filter.2 ⟨hr,by rw[hh];rfl⟩;rw[ha]at this;cases this
     ·exfalso;obtain⟨r,hr,hh⟩:=List.any_eq_true.1 hb0;rw[hfree r (List.mem_filter.1 hr).1]at hh;cases hh
     ·exact hcw
theorem QC{n:Nat}{N0 B:List (List Nat)}(w:Wt n N0 B){D:List Nat}{a:Nat}:∀(r:List Nat) {Q:List Nat} {N:List (List Nat)},Fv n N0 D a r N Q->(∀i∈r,i∈B.getD a [])->r.Nodup->Cv n N0 (D++[a]) (o8 a r (N,Q)).1 (o8 a r (N,Q)).2
 |[],_,_,c,_,_=>by rw[o8];exact c.done
 |i::r,Q,N,c,hi,hn=>by rw[o8];have hn2:=List.nodup_cons.1 hn;exact QC w r (c.step w (hi i (by simp)) hn2.1) (λj hj=>hi j (by simp[hj])) hn2.2
theorem QD{n:Nat}{N0 B:List (List Nat)}(w:Wt n N0 B):∀(f:Nat)(N:List (List Nat))(Q D:List Nat),Cv n N0 D N Q->n<=f+aa D ->
 (∃N',Cv n N0 (D++lI B f N Q) N' [])/\∀D1 a D2,lI B f N Q=D1++a::D2->∀k∈N0.getD a [],k∈D++D1
 |0,N,Q,D,c,h=>by have hl:=c.len;have:Q=[]:=zse (by omega);subst this;rw[lI,zqp];refine⟨⟨N,c⟩,λD1 a D2 h=> ?_⟩;cases D1<;>cases h
 |f+1,N,Q,D,c,h=>by
  by_cases hQ:Q=[]
  ·subst hQ;have e:lI B (f+1) N []=[]:=by rw[lI];rfl
   rw[e,zqp];refine⟨⟨N,c⟩,λD1 a D2 h=> ?_⟩;cases D1<;>cases h
  ·have he:¬Q.isEmpty=ab:=λh=>hQ (List.isEmpty_iff.1 h);obtain⟨a,ha⟩:∃a,a=(oz Q).getLastD 0:=⟨_,rfl⟩;have hc:=c.pop w hQ;rw[<-ha]at hc;have hn:=QC w (B.getD a []) hc (λi hi=>hi) (w.nB a);obtain⟨ih1,ih2⟩:=QD w f _ _ _ hn (by rw[zqa,zrk];omega);have haQ:a∈Q:=by have:=(wC hQ).mem_iff (a:=a);rw[this,<-ha];simp
   have hNa:N.getD a []=[]:=((c.mem a).1 (.inl haQ)).2;have e:lI B (f+1) N Q=a::lI B f (o8 a (B.getD a []) (N,(oz Q).dropLast)).1 (o8 a (B.getD a []) (N,(oz Q).dropLast)).2:=by rw[lI,if_neg he,<-ha]
   rw[e];refine⟨?_,λD1 b D2 hs k hk=> ?_⟩
   ·obtain⟨N',hN'⟩:=ih1;refine⟨N',?_⟩;rw[zqc]at hN';exact hN'
   ·cases D1 with
    |nil=>rw[List.nil_append]at hs;injection hs with h1 h2;subst h1;rw[zqp];have hh:=hNa;rw[c.nn,List.filter_eq_nil_iff]at hh;have:=hh k hk;simpa using this
    |cons d D1=>rw[List.cons_append]at hs;injection hs with h1 h2;subst h1;have:=ih2 D1 b D2 h2 k hk;simpa using this
theorem Jd{names:List S}{ins:List (List S)}(h:aa names=aa ins):(∃N',Cv (aa ins) (oC names ins).1 (oD names ins) N' [])/\∀D1 a D2,oD names ins=D1++a::D2->∀k∈(oC names ins).1.getD a [],k∈D1:=by have w:=yh h;have:=QD w (aa ins) _ _ _ (Cv.born w) (by simp);simpa [oD]using this
theorem Ny{names:List S}{ins:List (List S)}(h:aa names=aa ins)(rk:Nat->Nat×Nat)(hr:∀i<aa ins,∀k∈(oC names ins).1.getD i [],Prod.Lex (·<·) (·<·) (rk k) (rk i)):kV names ins=[]:=by
 obtain⟨⟨N',c⟩,_⟩:=Jd h;have w:=yh h;have hwf:WellFounded (λi j:Nat=>Prod.Lex (·<·) (·<·) (rk i) (rk j)):=InvImage.wf rk (Prod.lex ⟨_,Nat.lt_wfRel.wf⟩ ⟨_,Nat.lt_wfRel.wf⟩).wf;have all:∀i,i<aa ins->i∈oD names ins:=λi=>by
  refine hwf.induction (C:=λi=>i<aa ins->i∈oD names ins) i λi ih hi=> ?_;have:=(c.mem i).2 ⟨hi,?_⟩
  ·exact this.resolve_left (by simp)
  ·rw[c.nn,List.filter_eq_nil_iff];intro k hk;have:=ih k (hr i hi k hk) (w.lt i k hk).2;simpa using this
 unfold kV;rw[List.map_eq_nil_iff,List.filter_eq_nil_iff];intro i hi;rw[List.mem_range,h]at hi;simpa using all i hi
theorem Gv{names:List S}{ins:List (List S)}(h:aa names=aa ins)(hn:kV names ins=[]):∀i<aa ins,i∈oD names ins:=λi hi=>by unfold kV at hn;rw[List.map_eq_nil_iff,List.filter_eq_nil_iff]at hn;have:=hn i (by rw[List.mem_range,h];exact hi);simpa using this
theorem qU(names:List S)(i:Nat):∀(l:List S)(N B:List (List Nat))(j k:Nat),i<aa N ->
 (k∈(fZ names i l (N,B)).1.getD j []↔k∈N.getD j []\/(j=i/\∃s∈l,iQ names s=al k))
 |[],N,B,j,k,_=>by rw[fZ];simp
 |s::l,N,B,j,k,hi=>by
  rw[fZ];cases hp:iQ names s with
  |none =>
   dsimp only;rw[qU names i l N B j k hi];constructor
   ·rintro(h|⟨h,t,ht,h2⟩)
    ·exact .inl h
    ·exact .inr ⟨h,t,by simp[ht],h2⟩
   ·rintro(h|⟨h,t,ht,h2⟩)
    ·exact .inl h
    ·rcases zrj.1 ht with rfl|ht
     ·rw[hp]at h2;cases h2
     ·exact .inr ⟨h,t,ht,h2⟩
  |some q =>
   dsimp only;by_cases hc:(N.getD i []).contains q=ab
   ·rw[if_pos hc,qU names i l N B j k hi];constructor
    ·rintro(h|⟨h,t,ht,h2⟩)
     ·exact .inl h
     ·exact .inr ⟨h,t,by simp[ht],h2⟩
    ·rintro(h|⟨h,t,ht,h2⟩)
     ·exact .inl h
     ·rcases zrj.1 ht with rfl|ht
      ·rw[hp]at h2;cases h2;rw[h];exact .inl (List.contains_iff_mem.1 hc)
      ·exact .inr ⟨h,t,ht,h2⟩
   ·rw[if_neg hc,qU names i l _ _ j k (by rw[zrn];exact hi),lX (by exact hi)];constructor
    ·rintro(h|⟨h,t,ht,h2⟩)
     ·split at h
      ·rename_i hij;rcases zrf.1 h with h|h
       ·exact .inl (hij▸h)
       ·exact .inr ⟨hij.symm,s,by simp,by rw[zrc.1 h];exact hp⟩
      ·exact .inl h
     ·exact .inr ⟨h,t,by simp[ht],h2⟩
    ·rintro(h|⟨h,t,ht,h2⟩)
     ·split
      ·rename_i hij;exact .inl (List.mem_append_left _ (hij▸h))
      ·exact .inl h
     ·rcases zrj.1 ht with rfl|ht
      ·rw[hp]at h2;cases h2;rw[if_pos h.symm];exact .inl (by simp)
      ·exact .inr ⟨h,t,ht,h2⟩
theorem qV(names:List S)(i:Nat):∀(l:List S)(N B:List (List Nat)),(fZ names i l (N,B)).1.length=aa N
 |[],_,_=>rfl
 |s::l,N,B=>by
  rw[fZ];cases iQ names s with
  |none=>exact qV names i l N B
  |some q =>
   dsimp only;split
   ·exact qV names i l N B
   ·rw[qV,zrn]
theorem zL(names:List S):∀(r:List (List S))(i:Nat)(N B:List (List Nat))(j k:Nat),i+aa r<=aa N ->
 (k∈(jy names i r (N,B)).1.getD j []↔k∈N.getD j []\/(i<=j/\∃s∈r.getD (j-i) [],iQ names s=al k))
 |[],i,N,B,j,k,_=>by rw[jy];simp
 |l::r,i,N,B,j,k,hi=>by
  rw[zrt]at hi;rw[jy];have hl:=qV names i l N B;have ih:=zL names r (i+1) (fZ names i l (N,B)).1 (fZ names i l (N,B)).2 j k (by omega);rw[show((fZ names i l (N,B)).1,(fZ names i l (N,B)).2)=fZ names i l (N,B)from rfl]at ih;rw[ih,qU names i l N B j k (by omega)];constructor
  ·rintro((h|⟨rfl,h⟩)|⟨h1,h⟩)
   ·exact .inl h
   ·exact .inr ⟨zrb _,by rw[Nat.sub_self];exact h⟩
   ·refine .inr ⟨by omega,?_⟩;rw[show j-i=(j-(i+1))+1 by omega,List.getD_cons_succ];exact h
  ·rintro(h|⟨h1,h⟩)
   ·exact .inl (.inl h)
   ·by_cases hij:j=i
    ·subst hij;rw[Nat.sub_self,List.getD_cons_zero]at h;exact .inl (.inr ⟨rfl,h⟩)
    ·rw[show j-i=(j-(i+1))+1 by omega,List.getD_cons_succ]at h;exact .inr ⟨by omega,h⟩
theorem DY(names:List S)(ins:List (List S))(i k:Nat):k∈(oC names ins).1.getD i []↔∃s∈ins.getD i [],iQ names s=al k:=by
 unfold oC;rw[zL names ins 0 _ _ i k (by simp)];have hr:(ao (aa ins) ([]:List Nat)).getD i []=[]:=by
  rw[zqg,List.getElem?_replicate];split<;>rfl
 rw[hr,Nat.sub_zero];simp
theorem Nz{names:List S}{s:S}{k:Nat}(h:iQ names s=al k):names[k]? =al s:=by unfold iQ at h;obtain⟨h1,h2,_⟩:=List.findIdx?_eq_some_iff_getElem.1 h;rw[zqk h1];simpa using h2
abbrev Je:Nat×Nat->Nat×Nat->Prop:=Prod.Lex (·<·) (·<·)
theorem NC{c:Ci}(hn:NetOk c)(rk:S->Nat×Nat)(hr:∀g∈c.gates,∀s∈g.ins,s∈c.gates.map (·.name)->Je (rk s) (rk g.name)):kW c=(0,[]):=by
 have h1:(ou c).1=0:=(zg c).2 hn;have hl:aa (c.gates.map (·.name))=aa (c.gates.map (·.ins)):=by simp
 have hnev:kV (c.gates.map (·.name)) (c.gates.map (·.ins))=[]:=by
  refine Ny hl (λi=>rk ((c.gates.map (·.name)).getD i [])) λi hi k hk=> ?_;rw[zra]at hi;obtain⟨s,hs,hp⟩:=(DY _ _ _ _).1 hk;have hg:=Nz hp;have e1:(c.gates.map (·.name)).getD k []=s:=by rw[zqg,hg];rfl
  have e2:(c.gates.map (·.name)).getD i []=c.gates[i].name:=by rw[zqg,zqo,zqk hi];rfl
  have e3:(c.gates.map (·.ins)).getD i []=c.gates[i].ins:=by rw[zqg,zqo,zqk hi];rfl
  rw[e3]at hs;show Je (rk _) (rk _);rw[e1,e2];exact hr _ (zqu hi) s hs (List.mem_of_getElem? hg)
 unfold kW;rw[if_neg (by rw[h1];decide)];have:(jA c).2=[]:=by
  unfold jA;rw[if_pos h1];exact hnev
 rw[this]
theorem KC{c:Ci}(ho:(kW c).1=0):∃r:S->Nat,∀g∈c.gates,∀s∈g.ins,r s<r g.name:=by
 have hn:=iJ ho;have h1:(ou c).1=0:=(zg c).2 hn;have hl:aa (c.gates.map (·.name))=aa (c.gates.map (·.ins)):=by simp
 have hnev:kV (c.gates.map (·.name)) (c.gates.map (·.ins))=[]:=by
  unfold kW at ho;rw[if_neg (by rw[h1];decide)]at ho;have e:(jA c).2=kV (c.gates.map (·.name)) (c.gates.map (·.ins)):=by
   unfold jA;rw[if_pos h1]
  rw[e]at ho;cases hc:kV (c.gates.map (·.name)) (c.gates.map (·.ins))with
  |nil=>rfl
  |cons a b=>rw[hc]at ho;cases ho
 have hall:=Gv hl hnev;obtain⟨⟨N',cv⟩,hpos⟩:=Jd hl;obtain⟨L,hL⟩:∃L,L=oD (c.gates.map (·.name)) (c.gates.map (·.ins)):=⟨_,rfl⟩;rw[<-hL]at hall hpos cv;have hnd:L.Nodup:=by simpa using cv.nd
 refine⟨λs=>match iQ (c.gates.map (·.name)) s with|some k=>L.idxOf k+1|none=>0,λg hg s hs=> ?_⟩;obtain⟨i,hi,hgi⟩:=List.getElem_of_mem hg;have hnm:(c.gates.map (·.name)).Nodup:=lV hn.nets;have hi2:i<aa (c.gates.map (·.name)):=by simpa using hi
 have hgn:(c.gates.map (·.name))[i]=g.name:=by simp[hgi]
 have hpg:iQ (c.gates.map (·.name)) g.name=al i:=by unfold iQ;refine List.findIdx?_eq_some_iff_getElem.2 ⟨hi2,by simpa using hgn,λj hj=> ?_⟩;have hne:(c.gates.map (·.name))[j]≠g.name:=λe=>List.pairwise_iff_getElem.1 hnm j i (by omega) hi2 hj (e.trans hgn.symm);simpa using hne
 dsimp only;rw[hpg];cases hp:iQ (c.gates.map (·.name)) s with
 |none=>exact Nat.succ_pos _
 |some k =>
  dsimp only;have hw:k∈(oC (c.gates.map (·.name)) (c.gates.map (·.ins))).1.getD i []:=(DY _ _ _ _).2 ⟨s,by
   have e3:(c.gates.map (·.ins)).getD i []=c.gates[i].ins:=by rw[zqg,zqo,zqk hi];rfl
   rw[e3,hgi];exact hs,hp⟩
  have hiL:=hall i (by simpa using hi);obtain⟨D1,D2,hD⟩:=List.append_of_mem hiL;have hk:=hpos D1 i D2 hD k hw;rw[hD]at hnd ⊢;have hiD:i∉D1:=λh=>(List.nodup_append.1 hnd).2.2 i h i (by simp) rfl;have e1:(D1++i::D2).idxOf i=aa D1:=by rw[List.idxOf_append,if_neg hiD];simp
  have e2:(D1++i::D2).idxOf k=D1.idxOf k:=by rw[List.idxOf_append,if_pos hk]
  have:=List.idxOf_lt_length_iff.2 hk;rw[e1,e2];omega
def zaq(ds:S):Nat:=ds.foldl (λa c=>10*a+(c.toNat-48)) 0
theorem QE:∀(k u:Nat),u<10^(k+1)->Lib.nDigits u<=k+1
 |0,u,h=>by rw[Lib.nDigits_small (by simpa using h)];exact zrb _
 |k+1,u,h=>by
  by_cases hu:u<10
  ·rw[Lib.nDigits_small hu];omega
  ·rw[Lib.nDigits_big hu];have:=QE k (u/10) (by rw[Nat.pow_succ]at h;omega);omega
theorem zaK{u:Nat}(h:¬u<10):Lib.decDigits u=Lib.decDigits (u/10)++[UInt8.ofNat (48+u%10)]:=by rw[Lib.decDigits,dif_neg h]
theorem zac{d:Nat}(h:d<10):(UInt8.ofNat (48+d)).toNat=48+d:=by rw[UInt8.toNat_ofNat'];omega
theorem XQ(u:Nat):∀c∈Lib.decDigits u,48<=c.toNat/\c.toNat<=57:=by
 induction u using Nat.strongRecOn with
 |_ u ih =>
  by_cases h:u<10
  ·rw[Lib.decDigits_one h];intro c hc;have:c=UInt8.ofNat (48+u):=by simpa using hc
   rw[this,zac h];omega
  ·rw[zaK h];intro c hc;rcases zrf.1 hc with hc|hc
   ·exact ih (u/10) (by omega) c hc
   ·have:c=UInt8.ofNat (48+u%10):=by simpa using hc
    rw[this,zac (by omega)];omega
theorem QF(u:Nat):zaq (Lib.decDigits u)=u:=by
 induction u using Nat.strongRecOn with
 |_ u ih =>
  by_cases h:u<10
  ·rw[Lib.decDigits_one h];show 10*0+((UInt8.ofNat (48+u)).toNat-48)=u;rw[zac h];omega
  ·rw[zaK h];unfold zaq;rw[List.foldl_append];show 10*zaq (Lib.decDigits (u/10))+((UInt8.ofNat (48+u%10)).toNat-48)=u;rw[ih (u/10) (by omega),zac (by omega)];omega
def ja(k:Nat):S:=110::Lib.decDigits k
theorem UZ{a b:Nat}(h:ja a=ja b):a=b:=by unfold ja at h;injection h with _ h;rw[<-QF a,<-QF b,h]
theorem XR{k:Nat}(h:k<10^30):aU (ja k)=ab:=by
 have hl:aa (Lib.decDigits k)<=30:=by rw[Lib.decDigits_length];exact QE 29 k h
 have hb:∀c∈ja k,iP c=ab:=λc hc=>by
  have key:∀n:Nat,48<=n->n<=57->iP (UInt8.ofNat n)=ab:=λn h1 h2=>by
   have:n=48\/n=49\/n=50\/n=51\/n=52\/n=53\/n=54\/n=55\/n=56\/n=57:=by omega
   rcases this with rfl|rfl|rfl|rfl|rfl|rfl|rfl|rfl|rfl|rfl<;>decide
  rcases zrj.1 hc with rfl|hc
  ·decide
  ·obtain⟨h1,h2⟩:=XQ k c hc;have:=key c.toNat h1 h2
   rwa [UInt8.ofNat_toNat]at this
 unfold aU;have e:aa (ja k)=aa (Lib.decDigits k)+1:=rfl;rw[e,zrs.2 hb,decide_eq_true (by omega),decide_eq_true (by omega)];rfl
def Gw:Nat->Nat->List S->S
 |0,k,_=>ja k
 |f+1,k,used=>if used.contains (ja k)=ab then Gw f (k+1) used else ja k
def oV(used:List S):S:=Gw (aa used) 1 used
theorem DZ:∀(f k:Nat)(used:List S),∃j,k<=j/\j<=k+f/\Gw f k used=ja j/\(∀i,k<=i->i<j->ja i∈used)/\(j<k+f->ja j∉used)
 |0,k,used=>⟨k,zrb _,zrb _,rfl,λi h1 h2=>by omega,λh=>by omega⟩
 |f+1,k,used=>by
  rw[Gw];by_cases h:used.contains (ja k)=ab
  ·rw[if_pos h];obtain⟨j,h1,h2,h3,h4,h5⟩:=DZ f (k+1) used;refine⟨j,by omega,by omega,h3,λi hi hj=> ?_,λhj=>h5 (by omega)⟩;by_cases hk:i=k
   ·rw[hk];exact List.contains_iff_mem.1 h
   ·exact h4 i (by omega) hj
  ·rw[if_neg h];exact⟨k,zrb _,by omega,rfl,λi h1 h2=>by omega,λ_ hm=>h (List.contains_iff_mem.2 hm)⟩
theorem XT{l m:List S}(hn:l.Nodup)(h:∀x∈l,x∈m):aa l<=aa m:=by
 induction l generalizing m with
 |nil=>exact Nat.zero_le _
 |cons a l ih =>
  have ha:=h a (by simp);have hn2:=List.nodup_cons.1 hn;have:=ih (m:=m.erase a) hn2.2 λx hx=>by have hne:x≠a:=λe=>hn2.1 (e▸hx);exact(List.mem_erase_of_ne hne).2 (h x (by simp[hx]))
  rw[List.length_erase_of_mem ha]at this;have:0<aa m:=List.length_pos_of_mem ha;rw[zrt];omega
theorem KD(used:List S):oV used∉used/\∃j,j<=aa used+1/\oV used=ja j:=by
 unfold oV;obtain⟨j,h1,h2,h3,h4,h5⟩:=DZ (aa used) 1 used;rw[h3];refine⟨λhm=> ?_,j,by omega,rfl⟩;have hall:∀x∈(List.range' 1 j).map ja,x∈used:=λx hx=>by
  obtain⟨i,hi,rfl⟩:=zrh.1 hx;rw[List.mem_range'_1]at hi;by_cases hij:i=j
  ·rw[hij];exact hm
  ·exact h4 i hi.1 (by omega)
 have hnd:((List.range' 1 j).map ja).Nodup:=by refine List.Pairwise.map _ (R:=(·≠·)) (λa b hab e=>hab (UZ e)) ?_;exact List.nodup_range'
 have:=XT hnd hall;rw[zra,List.length_range']at this;exact h5 (by omega) hm
structure Xs where
 gates:List Ga
 used:List S
 nots:List S×List S
def iI(x:Xs)(g:Ga):Xs×S :=
 if g.name=[]then(⟨x.gates++[{g with name:=oV x.used}],x.used++[oV x.used],x.nots⟩,oV x.used)
 else(⟨x.gates++[g],x.used,x.nots⟩,g.name)
def dN(x:Xs)(s:S):Xs×S:=match at? x.nots.1 s with
 |some n=>(x,x.nots.2.getD n [])
 |none=>(⟨(iI x ⟨[],3,[s],[],ac⟩).1.gates,(iI x ⟨[],3,[s],[],ac⟩).1.used,(x.nots.1++[s],x.nots.2++[(iI x ⟨[],3,[s],[],ac⟩).2])⟩,(iI x ⟨[],3,[s],[],ac⟩).2)
def gU:Nat->Xs->S->Int->Int->List S->Xs×S
 |0,x,name,_,last,l=>iI x ⟨name,last,l,[],ac⟩
 |f+1,x,name,op,last,l=>if 8<aa l then gU f (iI x ⟨[],op,l.take 8,[],ac⟩).1 name op last ((iI x ⟨[],op,l.take 8,[],ac⟩).2::l.drop 8)else iI x ⟨name,last,l,[],ac⟩
def vK(x:Xs)(ins:List S)(n:Nat):Xs×S:=if n%2=1 then dN x (ins.getD (n/2) [])else(x,ins.getD (n/2) [])
def opF(fo:Fo):Int:=if fo.kind=3 then 4 else 6
def aO(ins:List S):Nat->Nat->Xs->List Fo->Xs×List S×List Fo
 |0,_,x,l=>(x,[],l)
 |_+1,0,x,l=>(x,[],l)
 |_+1,_+1,x,[]=>(x,[],[])
 |f+1,k+1,x,fo::l =>
  if fo.kind = 2 then
   ((aO ins f k (vK x ins fo.lit).1 l).1,(vK x ins fo.lit).2::(aO ins f k (vK x ins fo.lit).1 l).2.1,(aO ins f k (vK x ins fo.lit).1 l).2.2)
  else
   let q:=aO ins f fo.kids x l
   let y:=gU (aa q.2.1) q.1 [] (opF fo) (opF fo) q.2.1
   let r:=aO ins f k y.1 q.2.2
   (r.1,y.2::r.2.1,r.2.2)
def bM(rows:List S):List S:=rows.foldl (λl r=>if l.contains r=ab then l else l++[r]) []
def We(op:Int):Int:=if op=0 then 1 else if op=2 then 3 else if op=3 then 2 else if op=4 then 5 else if op=6 then 7 else 0
def fM(off:Bool)(op:Int):Int:=if off=ab then We op else op
def jT(x:Xs)(g:Ga):Xs:=match Qz (bM g.rows)with
 |[]=>x
 |fo::l =>
  if fo.kind=0 then(iI x ⟨g.name,fM g.off 0,[],[],ac⟩).1
  else if fo.kind=1 then(iI x ⟨g.name,fM g.off 1,[],[],ac⟩).1
  else if fo.kind=2 then(iI x ⟨g.name,fM g.off (if fo.lit%2=1 then 3 else 2),[g.ins.getD (fo.lit/2) []],[],ac⟩).1
  else(gU (aO g.ins (aa l+1) fo.kids x l).2.1.length (aO g.ins (aa l+1) fo.kids x l).1 g.name (opF fo) (fM g.off (opF fo)) (aO g.ins (aa l+1) fo.kids x l).2.1).1
def wG(x:Xs)(g:Ga):Xs:=if(aZ g).op=10 then jT x (aZ g)else(iI x (aZ g)).1
def D5(c:Ci):Xs:=c.gates.foldl wG ⟨[],aT c,([],[])⟩
def D6(c:Ci):Ci×Int :=
 if(kW c).1≠0 then(⟨[],[],[],[]⟩,1)
 else if 200<aa c.ins+aa c.lat+(D5 c).gates.length then(⟨[],[],[],[]⟩,8)
 else({c with gates:=(D5 c).gates},0)
theorem Jf{l:List S}{x:S}(h:l.Nodup)(hx:x∉l):(l++[x]).Nodup :=
 List.nodup_append.2 ⟨h,by simp,λa ha b hb hab=>by rw[zrc.1 hb]at hab;exact hx (hab▸ha)⟩
structure GPl(g:Ga):Prop where
 h:vJ g.op (aa g.ins)=ab
 o:g.op≠10
 r:g.rows=[]
 f:g.off=ac
theorem GPl.canon{g:Ga}(h:GPl g):aZ g=g:=by have hk:GOk g:=⟨h.h,λ_=>⟨h.r,h.f⟩⟩;unfold aZ;rw[uQ hk,if_pos h.o]
structure XI(c:Ci)(r:S->Nat)(D:List S)(rk:S->Nat×Nat)(x:Xs):Prop where
 fr:∃F,x.used=aT c++F/\(∀s∈F,∃j,j<=aa x.used/\s=ja j)/\x.used.Nodup/\(x.gates.map (·.name)).Perm (F++D)
 pl:∀g∈x.gates,GPl g/\∀s∈g.ins,s∈x.used/\Je (rk s) (rk g.name)
 rc:∀s∈aT c,rk s=(2*r s,0)
 dn:∀s∈D,s∈aT c
 no:aa x.nots.1=aa x.nots.2/\∀(n:Nat)(s:S),x.nots.1[n]? =al s->s∈aT c/\∃t,x.nots.2[n]? =al t/\t∈x.used/\rk t=(2*r s+1,0)
structure XS(x y:Xs)(rk rk':S->Nat×Nat):Prop where
 us:∀s∈x.used,s∈y.used
 rk:∀s∈x.used,rk' s=rk s
 gl:aa x.gates<=aa y.gates
theorem XS.refl(x:Xs)(rk:S->Nat×Nat):XS x x rk rk:=⟨λ_ h=>h,λ_ _=>rfl,zrb _⟩
theorem XS.trans{x y z:Xs}{a b c:S->Nat×Nat}(h:XS x y a b)(k:XS y z b c):XS x z a c :=
 ⟨λs hs=>k.us s (h.us s hs),λs hs=>(k.rk s (h.us s hs)).trans (h.rk s hs),Nat.le_trans h.gl k.gl⟩
theorem XI.len{c:Ci}{r:S->Nat}{D:List S}{rk:S->Nat×Nat}{x:Xs}(k:XI c r D rk x):aa x.used<=aa (aT c)+aa x.gates:=by obtain⟨F,h1,_,_,h4⟩:=k.fr;have:=h4.length_eq;rw[zra,zqa]at this;rw[h1,zqa];omega
theorem XI.nm{c:Ci}{r:S->Nat}{D:List S}{rk:S->Nat×Nat}{x:Xs}(k:XI c r D rk x){q:Ga}(hq:q∈x.gates):q.name∈x.used:=by
 obtain⟨F,e1,_,_,e4⟩:=k.fr;have:=e4.mem_iff.1 (zrh.2 ⟨q,hq,rfl⟩);rw[e1];rcases zrf.1 this with h|h
 ·exact List.mem_append_right _ h
 ·exact List.mem_append_left _ (k.dn _ h)
theorem zM{c:Ci}{r:S->Nat}{D:List S}{rk:S->Nat×Nat}{x:Xs}(k:XI c r D rk x){g:Ga}(hg:g.name=[])(hp:GPl g)(v:Nat×Nat)
 (hi:∀s∈g.ins,s∈x.used/\Je (rk s) v) :
 ∃rk',XI c r D rk' (iI x g).1/\XS x (iI x g).1 rk rk'/\(iI x g).2∈(iI x g).1.used/\rk' (iI x g).2=v/\(iI x g).1.nots=x.nots/\(iI x g).1.gates.length=aa x.gates+1:=by
 obtain⟨f1,f2⟩:=KD x.used;obtain⟨n,hn⟩:∃n,n=oV x.used:=⟨_,rfl⟩;rw[<-hn]at f1 f2;have he:iI x g=(⟨x.gates++[{g with name:=n}],x.used++[n],x.nots⟩,n):=by unfold iI;rw[if_pos hg,<-hn]
 rw[he];have hne:∀s∈x.used,s≠n:=λs hs e=>f1 (e▸hs);have hrk:∀s∈x.used,(λs=>if s=n then v else rk s) s=rk s:=λs hs=>if_neg (hne s hs);obtain⟨F,e1,e2,e3,e4⟩:=k.fr;have hc:∀s∈aT c,s∈x.used:=λs hs=>by rw[e1];exact List.mem_append_left _ hs
 have hgn:∀q∈x.gates,q.name∈x.used:=λq hq=>k.nm hq;refine⟨λs=>if s=n then v else rk s,⟨⟨F++[n],by rw[e1,zqc],λs hs=> ?_,?_,?_⟩,λq hq=> ?_,λs hs=> ?_,k.dn,k.no.1,λi s hs=> ?_⟩,⟨λs hs=>List.mem_append_left _ hs,hrk,by simp⟩,by simp,if_pos rfl,rfl,by simp⟩
 ·rw[zqa,zrk];rcases zrf.1 hs with h|h
  ·obtain⟨j,h1,h2⟩:=e2 s h;exact⟨j,by omega,h2⟩
  ·rw[zrc.1 h];exact f2
 ·exact Jf e3 f1
 ·rw[zql];show(x.gates.map (·.name)++[n]).Perm _;refine(e4.append_right _).trans ?_;rw[zqc,zqc];exact List.Perm.append_left _ List.perm_append_comm
 ·rcases zrf.1 hq with h|h
  ·obtain⟨p1,p2⟩:=k.pl q h;refine⟨p1,λs hs=> ?_⟩;obtain⟨q1,q2⟩:=p2 s hs;refine⟨List.mem_append_left _ q1,?_⟩;show Je (if s=n then v else rk s) (if q.name=n then v else rk q.name);rw[if_neg (hne s q1),if_neg (hne _ (hgn q h))];exact q2
  ·rw[zrc.1 h];refine⟨⟨hp.h,hp.o,hp.r,hp.f⟩,λs hs=> ?_⟩;obtain⟨q1,q2⟩:=hi s hs;refine⟨List.mem_append_left _ q1,?_⟩;show Je (if s=n then v else rk s) (if n=n then v else rk n);rw[if_neg (hne s q1),if_pos rfl];exact q2
 ·show(if s=n then v else rk s)=_;rw[if_neg (hne s (hc s hs))];exact k.rc s hs
 ·obtain⟨a,t,b1,b2,b3⟩:=k.no.2 i s hs;refine⟨a,t,b1,List.mem_append_left _ b2,?_⟩;show(if t=n then v else rk t)=_;rw[if_neg (hne t b2)];exact b3
theorem U0{a b a' b':Nat}(h:a<a'):Je (a,b) (a',b'):=Prod.Lex.left _ _ h
theorem ZB{a b b':Nat}(h:b<b'):Je (a,b) (a,b'):=Prod.Lex.right _ h
theorem zaL{p q s:Nat×Nat}(h:Je p q)(k:Je q s):Je p s:=by
 rcases p with⟨p1,p2⟩;rcases q with⟨q1,q2⟩;rcases s with⟨s1,s2⟩;cases h with
 |left _ _ h1 =>
  cases k with
  |left _ _ k1=>exact U0 (Nat.lt_trans h1 k1)
  |right _ k1=>exact U0 h1
 |right _ h1 =>
  cases k with
  |left _ _ k1=>exact U0 k1
  |right _ k1=>exact ZB (Nat.lt_trans h1 k1)
theorem zar{p:Nat×Nat}{a b b':Nat}(h:Je p (a,b))(hb:b<=b'):Je p (a,b'):=by
 rcases Nat.lt_or_ge b b' with hlt|hge
 ·exact zaL h (ZB hlt)
 ·have:b=b':=by omega
  rw[<-this];exact h
theorem XU:vJ 3 1=ab:=by decide
theorem QG{c:Ci}{r:S->Nat}{D:List S}{rk:S->Nat×Nat}{x:Xs}(k:XI c r D rk x){s:S}(hs:s∈aT c) :
 ∃rk',XI c r D rk' (dN x s).1/\XS x (dN x s).1 rk rk'/\(dN x s).2∈(dN x s).1.used/\rk' (dN x s).2=(2*r s+1,0):=by
 have hu:∀s∈aT c,s∈x.used:=λs hs=>by obtain⟨F,e1,_⟩:=k.fr;rw[e1];exact List.mem_append_left _ hs
 unfold dN;cases ha:at? x.nots.1 s with
 |some n =>
  obtain⟨h1,h2⟩:=lh ha;obtain⟨_,t,b1,b2,b3⟩:=k.no.2 n s (by rw[zqk h1,h2]);have e:x.nots.2.getD n []=t:=by rw[zqg,b1];rfl
  refine⟨rk,k,XS.refl x rk,?_,?_⟩
  ·show x.nots.2.getD n []∈x.used;rw[e];exact b2
  ·show rk (x.nots.2.getD n [])=_;rw[e];exact b3
 |none =>
  obtain⟨rk',k1,k2,k3,k4,k5,k6⟩:=zM k (g:=⟨[],3,[s],[],ac⟩) rfl ⟨XU,(show(3:Int)≠10 by decide),rfl,rfl⟩ (2*r s+1,0) (λt ht=>by
   have ht:t=s:=zrc.1 ht;subst ht;exact⟨hu _ hs,by rw[k.rc _ hs];exact U0 (by omega)⟩)
  obtain⟨y,hy⟩:∃y,y=iI x ⟨[],3,[s],[],ac⟩:=⟨_,rfl⟩;rw[<-hy]at k1 k2 k3 k4 k5 k6;dsimp only;rw[<-hy];refine⟨rk',⟨k1.fr,k1.pl,k1.rc,k1.dn,by simp[k.no.1],λn u hn=> ?_⟩,⟨k2.us,k2.rk,k2.gl⟩,k3,k4⟩;by_cases hlt:n<aa x.nots.1
  ·have hn:x.nots.1[n]? =al u:=by rw[<-hn];exact(zqj hlt).symm
   obtain⟨a,t,b1,b2,b3⟩:=k.no.2 n u hn;exact⟨a,t,by rw[<-b1];exact zqj (by rw[<-k.no.1];exact hlt),k2.us t b2,by rw[k2.rk t b2];exact b3⟩
  ·have hn:(x.nots.1++[s])[n]? =al u:=hn;have hl:=(zqe hn).1;rw[zqa,zrk]at hl;have hnl:n=aa x.nots.1:=by omega
   subst hnl;have hus:u=s:=by
    rw[zsb (zrb _),Nat.sub_self]at hn;exact(Option.some.inj hn).symm
   subst hus;refine⟨hs,y.2,?_,k3,k4⟩;show(x.nots.2++[y.2])[aa x.nots.1]? =_;rw[k.no.1,zsb (zrb _),Nat.sub_self];rfl
def Ti(rk:S->Nat×Nat)(x:Xs)(a:Nat)(l:List S):Prop:=∀s∈l,s∈x.used/\Je (rk s) (a,1+aa x.gates)
theorem Ti.up{rk rk':S->Nat×Nat}{x y:Xs}{a:Nat}{l:List S}(h:Ti rk x a l)(k:XS x y rk rk'):Ti rk' y a l:=λs hs=>by obtain⟨h1,h2⟩:=h s hs;refine⟨k.us s h1,?_⟩;rw[k.rk s h1];exact zar h2 (by have:=k.gl;omega)
theorem D7{op:Int}{n:Nat}(ho:op=4\/op=5\/op=6\/op=7)(h1:2<=n)(h2:n<=8):vJ op n=ab:=by
 have:n=2\/n=3\/n=4\/n=5\/n=6\/n=7\/n=8:=by omega
 rcases ho with rfl|rfl|rfl|rfl<;>rcases this with rfl|rfl|rfl|rfl|rfl|rfl|rfl<;>decide
theorem Jg{c:Ci}{r:S->Nat}{D:List S}{a:Nat}(name:S){op last:Int}(ho:op=4\/op=6):∀(f:Nat) {rk:S->Nat×Nat} {x:Xs} {l:List S},XI c r D rk x->Ti rk x a l->2<=aa l->aa l<=f ->
 ∃rk' x' l',gU f x name op last l=iI x' ⟨name,last,l',[],ac⟩/\XI c r D rk' x'/\XS x x' rk rk'/\Ti rk' x' a l'/\2<=aa l'/\aa l'<=8
 |0,_,_,_,_,_,h1,h2=>by omega
 |f+1,rk,x,l,k,hl,h1,h2=>by
  rw[gU];by_cases h8:8<aa l
  ·rw[if_pos h8];have h8l:aa (l.take 8)=8:=by rw[zrl];omega
   obtain⟨rk1,k1,k2,k3,k4,_,k6⟩:=zM k (g:=⟨[],op,l.take 8,[],ac⟩) rfl ⟨by show vJ op (aa (l.take 8))=ab;rw[h8l];exact D7 (ho.elim .inl λh=> .inr (.inr (.inl h))) (by omega) (by omega),by show op≠10;rcases ho with rfl|rfl<;>decide,rfl,rfl⟩ (a,1+aa x.gates) (λs hs=>hl s (zsh hs));obtain⟨y,hy⟩:∃y,y=iI x ⟨[],op,l.take 8,[],ac⟩:=⟨_,rfl⟩;rw[<-hy]at k1 k2 k3 k4 k6 ⊢;have hlow:Ti rk1 y.1 a (y.2::l.drop 8):=λs hs=>by
    rcases zrj.1 hs with rfl|hs
    ·refine⟨k3,?_⟩;rw[k4,k6];exact ZB (by omega)
    ·exact(hl.up k2) s (List.mem_of_mem_drop hs)
   have hdl:aa (l.drop 8)=aa l-8:=List.length_drop;obtain⟨rk2,x',l',e,j1,j2,j3,j4,j5⟩:=Jg name ho f k1 hlow (by rw[zrt,hdl];omega) (by rw[zrt,hdl];omega);exact⟨rk2,x',l',e,j1,k2.trans j2,j3,j4,j5⟩
  ·rw[if_neg h8];exact⟨rk,x,l,rfl,k,XS.refl x rk,hl,h1,by omega⟩
theorem ND{c:Ci}{r:S->Nat}{D:List S}{a:Nat}{op:Int}(ho:op=4\/op=6){f:Nat}{rk:S->Nat×Nat}{x:Xs}{l:List S}(k:XI c r D rk x)(hl:Ti rk x a l)(h1:2<=aa l)(h2:aa l<=f) :
 ∃rk',XI c r D rk' (gU f x [] op op l).1/\XS x (gU f x [] op op l).1 rk rk'/\Ti rk' (gU f x [] op op l).1 a [(gU f x [] op op l).2]:=by
 obtain⟨rk1,x',l',e,j1,j2,j3,j4,j5⟩:=Jg (last:=op) [] ho f k hl h1 h2;rw[e];obtain⟨rk2,k1,k2,k3,k4,_,k6⟩:=zM j1 (g:=⟨[],op,l',[],ac⟩) rfl ⟨D7 (ho.elim .inl λh=> .inr (.inr (.inl h))) j4 j5,by show op≠10;rcases ho with rfl|rfl<;>decide,rfl,rfl⟩ (a,1+aa x'.gates) j3;refine⟨rk2,k1,j2.trans k2,λs hs=> ?_⟩;rw[zrc.1 hs];refine⟨k3,?_⟩;rw[k4,k6];exact ZB (by omega)
theorem QH:∀ {l:List Fo} {k:Nat},¬WF 0 (k+1) l
 |[],k,h=>by unfold WF at h;exact h.elim
 |fo::l,k,h=>by
  unfold WF at h;rcases h with⟨_,h,_⟩|⟨_,h2,h⟩
  ·omega
  ·rw[show fo.kids+k=(fo.kids+k-1)+1 by omega]at h;exact QH h
theorem Gx{l:List S}{i:Nat}(h:i<aa l):l.getD i []∈l:=by rw[zqg,zqk h];exact zqu h
theorem yt{c:Ci}{r:S->Nat}{D:List S}{a:Nat}{ins:List S}(hins:∀s∈ins,s∈aT c/\2*r s+1<=a):∀(f k j:Nat)(x:Xs)(l:List Fo)(rk:S->Nat×Nat),WF (aa ins) (k+j) l->aa l<f->XI c r D rk x ->
 ∃rk',XI c r D rk' (aO ins f k x l).1/\XS x (aO ins f k x l).1 rk rk'/\Ti rk' (aO ins f k x l).1 a (aO ins f k x l).2.1/\(aO ins f k x l).2.1.length=k/\WF (aa ins) j (aO ins f k x l).2.2/\(aO ins f k x l).2.2.length<=aa l
 |0,_,_,_,_,_,_,h,_=>by omega
 |f+1,0,j,x,l,rk,hw,_,hk=>by rw[aO];rw[Nat.zero_add]at hw;exact⟨rk,hk,XS.refl x rk,λs hs=>(by cases hs),rfl,hw,zrb _⟩
 |f+1,k+1,j,x,[],rk,hw,_,_=>by rw[Nat.add_right_comm]at hw;unfold WF at hw;exact hw.elim
 |f+1,k+1,j,x,fo::l,rk,hw,hf,hk=>by
  rw[Nat.add_right_comm]at hw;unfold WF at hw;rw[zrt]at hf;rw[aO];rcases hw with⟨w1,w2,w3⟩|⟨w1,w2,w3⟩
  ·rw[if_pos w1];have hi:fo.lit/2<aa ins:=by omega
   have hs:=Gx hi;obtain⟨hs1,hs2⟩:=hins _ hs;have hu:ins.getD (fo.lit/2) []∈x.used:=by obtain⟨F,e1,_⟩:=hk.fr;rw[e1];exact List.mem_append_left _ hs1
   obtain⟨rk1,k1,k2,k3⟩:∃rk1,XI c r D rk1 (vK x ins fo.lit).1/\XS x (vK x ins fo.lit).1 rk rk1/\Ti rk1 (vK x ins fo.lit).1 a [(vK x ins fo.lit).2]:=by
    unfold vK;by_cases ho:fo.lit%2=1
    ·rw[if_pos ho];obtain⟨rk1,k1,k2,k3,k4⟩:=QG hk hs1;refine⟨rk1,k1,k2,λs hs=> ?_⟩;rw[zrc.1 hs];refine⟨k3,?_⟩;rw[k4];rcases Nat.lt_or_ge (2*r (ins.getD (fo.lit/2) [])+1) a with hlt|hge
     ·exact U0 hlt
     ·have:2*r (ins.getD (fo.lit/2) [])+1=a:=by omega
      rw[this];exact ZB (by omega)
    ·rw[if_neg ho];refine⟨rk,hk,XS.refl x rk,λs hs=> ?_⟩;rw[zrc.1 hs];refine⟨hu,?_⟩;rw[hk.rc _ hs1];exact U0 (by omega)
   obtain⟨rk2,j1,j2,j3,j4,j5,j6⟩:=yt hins f k j (vK x ins fo.lit).1 l rk1 w3 (by omega) k1;refine⟨rk2,j1,k2.trans j2,λs hs=> ?_,by rw[zrt,j4],j5,Nat.le_trans j6 (Nat.le_succ _)⟩;rcases zrj.1 hs with rfl|hs
   ·exact(k3.up j2) _ (by simp)
   ·exact j3 s hs
  ·rw[if_neg (by rcases w1 with h|h<;>rw[h]<;>decide)];obtain⟨rk1,i1,i2,i3,i4,i5,i6⟩:=yt hins f fo.kids (k+j) x l rk w3 (by omega) hk;obtain⟨q,hq⟩:∃q,q=aO ins f fo.kids x l:=⟨_,rfl⟩;rw[<-hq]at i1 i2 i3 i4 i5 i6;have hop:opF fo=4\/opF fo=6:=by
    unfold opF;split
    ·exact .inl rfl
    ·exact .inr rfl
   obtain⟨rk2,m1,m2,m3⟩:=ND hop (f:=aa q.2.1) i1 i3 (by omega) (zrb _);obtain⟨y,hy⟩:∃y,y=gU (aa q.2.1) q.1 [] (opF fo) (opF fo) q.2.1:=⟨_,rfl⟩;rw[<-hy]at m1 m2 m3;obtain⟨rk3,j1,j2,j3,j4,j5,j6⟩:=yt hins f k j y.1 q.2.2 rk2 i5 (by omega) m1;rw[<-hq];dsimp only;rw[<-hy];refine⟨rk3,j1,(i2.trans m2).trans j2,λs hs=> ?_,by rw[zrt,j4],j5,Nat.le_trans j6 (Nat.le_succ_of_le i6)⟩;rcases zrj.1 hs with rfl|hs
   ·exact(m3.up j2) _ (by simp)
   ·exact j3 s hs
theorem qm{c:Ci}{r:S->Nat}{D:List S}{rk:S->Nat×Nat}{x:Xs}(k:XI c r D rk x){g:Ga}(hne:g.name≠[])(hg:g.name∈aT c)(hp:GPl g)
 (hi:∀s∈g.ins,s∈x.used/\Je (rk s) (2*r g.name,0)):XI c r (D++[g.name]) rk (iI x g).1:=by
 have he:iI x g=(⟨x.gates++[g],x.used,x.nots⟩,g.name):=by unfold iI;rw[if_neg hne]
 rw[he];obtain⟨F,e1,e2,e3,e4⟩:=k.fr;refine⟨⟨F,e1,e2,e3,?_⟩,λq hq=> ?_,k.rc,λs hs=> ?_,k.no⟩
 ·rw[zql];show(x.gates.map (·.name)++[g.name]).Perm _;rw[<-zqc];exact e4.append_right _
 ·rcases zrf.1 hq with h|h
  ·exact k.pl q h
  ·rw[zrc.1 h];refine⟨hp,λs hs=> ?_⟩;rw[k.rc _ hg];exact hi s hs
 ·rcases zrf.1 hs with h|h
  ·exact k.dn s h
  ·rw[zrc.1 h];exact hg
theorem lZ:∀(rows acc:List S),∀s∈rows.foldl (λl r=>if l.contains r=ab then l else l++[r]) acc,s∈acc\/s∈rows
 |[],acc,s,h=> .inl h
 |q::rows,acc,s,h=>by
  rw[List.foldl_cons]at h;rcases lZ rows _ s h with h|h
  ·split at h
   ·exact .inl h
   ·rcases zrf.1 h with h|h
    ·exact .inl h
    ·exact .inr (by rw[zrc.1 h];simp)
  ·exact .inr (by simp[h])
theorem U1(off:Bool){op:Int}(h:op=4\/op=6):fM off op=4\/fM off op=5\/fM off op=6\/fM off op=7:=by cases off<;>rcases h with rfl|rfl<;>decide
theorem XV{c:Ci}{r:S->Nat}{D:List S}{rk:S->Nat×Nat}{x:Xs}(k:XI c r D rk x){g:Ga}(hne:g.name≠[])(hg:g.name∈aT c)(hn:∀q∈g.rows,aa q=aa g.ins)
 (hi:∀s∈g.ins,s∈aT c/\r s<r g.name):∃rk',XI c r (D++[g.name]) rk' (jT x g):=by
 have hus:∀s∈aT c,s∈x.used:=λs hs=>by obtain⟨F,e1,_⟩:=k.fr;rw[e1];exact List.mem_append_left _ hs
 have z0:∀off:Bool,(vJ (fM off 0) 0=ab/\fM off 0≠10)/\vJ (fM off 1) 0=ab/\fM off 1≠10:=by decide
 have z1:∀off:Bool,(vJ (fM off 2) 1=ab/\fM off 2≠10)/\vJ (fM off 3) 1=ab/\fM off 3≠10:=by decide
 have h0:∀(off:Bool)(op:Int),(op=0\/op=1)->GPl ⟨g.name,fM off op,[],[],ac⟩:=λoff op ho=>by
  rcases ho with rfl|rfl
  ·exact⟨(z0 off).1.1,(z0 off).1.2,rfl,rfl⟩
  ·exact⟨(z0 off).2.1,(z0 off).2.2,rfl,rfl⟩
 have h1:∀(off:Bool)(op:Int),(op=2\/op=3)->∀s,GPl ⟨g.name,fM off op,[s],[],ac⟩:=λoff op ho s=>by
  rcases ho with rfl|rfl
  ·exact⟨(z1 off).1.1,(z1 off).1.2,rfl,rfl⟩
  ·exact⟨(z1 off).2.1,(z1 off).2.2,rfl,rfl⟩
 unfold jT;have hf:=zK (n:=aa g.ins) (bK (bM g.rows)+1) (bM g.rows) (λq hq=>by
  rcases lZ g.rows [] q hq with h|h
  ·cases h
  ·exact hn q h) (by omega)
 rw[show wF (bK (bM g.rows)+1) (bM g.rows)=Qz (bM g.rows)from rfl]at hf;rcases hf with⟨_,e⟩|⟨_,fo,hfo,e⟩|⟨_,_,hw⟩
 ·rw[e];dsimp only;rw[if_pos rfl];exact⟨rk,qm k (g:=⟨g.name,fM g.off 0,[],[],ac⟩) hne hg (h0 _ _ (.inl rfl)) λs hs=>(by cases hs)⟩
 ·rw[e];dsimp only;rw[if_neg (by rw[hfo];decide),if_pos hfo];exact⟨rk,qm k (g:=⟨g.name,fM g.off 1,[],[],ac⟩) hne hg (h0 _ _ (.inr rfl)) λs hs=>(by cases hs)⟩
 ·cases hc:Qz (bM g.rows)with
  |nil=>rw[hc]at hw;unfold WF at hw;exact hw.elim
  |cons fo l =>
   rw[hc]at hw;unfold WF at hw;dsimp only;rcases hw with⟨w1,w2,w3⟩|⟨w1,w2,w3⟩
   ·rw[if_neg (by rw[w1];decide),if_neg (by rw[w1];decide),if_pos w1];have hl:fo.lit/2<aa g.ins:=by omega
    have hs:=hi _ (Gx hl);refine⟨rk,qm k (g:=⟨g.name,fM g.off (if fo.lit%2=1 then 3 else 2),[g.ins.getD (fo.lit/2) []],[],ac⟩) hne hg (h1 _ _ (by split<;>simp) _) λs hs2=> ?_⟩;have hs2:s=g.ins.getD (fo.lit/2) []:=zrc.1 hs2;rw[hs2];refine⟨hus _ hs.1,?_⟩;rw[k.rc _ hs.1];exact U0 (by show 2*_<2*r g.name;omega)
   ·have hk0:fo.kind≠0/\fo.kind≠1/\fo.kind≠2:=by rcases w1 with h|h<;>rw[h]<;>decide
    rw[if_neg hk0.1,if_neg hk0.2.1,if_neg hk0.2.2];have hr0:1<=r g.name\/g.ins=[]:=by
     cases hgi:g.ins with
     |nil=>exact .inr rfl
     |cons s t=>have:=(hi s (by rw[hgi];simp)).2;exact .inl (by omega)
    obtain⟨rk1,i1,i2,i3,i4,i5,i6⟩:=yt (a:=2*r g.name-1) (ins:=g.ins) (λs hs=>by
     obtain⟨a1,a2⟩:=hi s hs;exact⟨a1,by omega⟩) (aa l+1) fo.kids 0 x l rk w3 (by omega) k
    obtain⟨q,hq⟩:∃q,q=aO g.ins (aa l+1) fo.kids x l:=⟨_,rfl⟩;rw[<-hq]at i1 i2 i3 i4 i5 i6 ⊢;have hop:opF fo=4\/opF fo=6:=by
     unfold opF;split
     ·exact .inl rfl
     ·exact .inr rfl
    obtain⟨rk2,x',l',e,j1,j2,j3,j4,j5⟩:=Jg (last:=fM g.off (opF fo)) g.name hop (aa q.2.1) i1 i3 (by omega) (zrb _);rw[e];have ht:=U1 g.off hop;refine⟨rk2,qm j1 (g:=⟨g.name,fM g.off (opF fo),l',[],ac⟩) hne hg ⟨D7 ht j4 j5,by show fM g.off (opF fo)≠10;rcases ht with h|h|h|h<;>rw[h]<;>decide,rfl,rfl⟩ λs hs=> ?_⟩;obtain⟨b1,b2⟩:=j3 s hs;refine⟨b1,zaL b2 (U0 ?_)⟩;show 2*r g.name-1<2*r g.name;rcases hr0 with h|h
    ·omega
    ·exfalso;rw[h]at w3;rw[show fo.kids+0=(fo.kids-1)+1 by omega]at w3;exact QH w3
theorem Wh{op n:Nat}(h:JV op n=ab):n<=8:=by
 unfold JV at h;split at h
 all_goals simp only[beq_iff_eq,zqb,zqf]at h
 all_goals omega
theorem Gy:∀(l acc:List S),(acc++l).Nodup->Aw acc l=aq
 |[],_,_=>rfl
 |s::l,acc,h=>by rw[Aw];have hs:¬acc.contains s=ab:=λhc=>(List.nodup_append.1 h).2.2 s (List.contains_iff_mem.1 hc) s (by simp) rfl;rw[if_neg hs];refine Gy l _ ?_;rw[zqc];exact h
theorem Jh{g:Ga}(h:gQ g=ab)(ho:(aZ g).op=10):∀q∈(aZ g).rows,aa q=(aZ g).ins.length:=by
 have hk:=jC h;obtain⟨c1,c2,c3⟩:=zf hk.1;have e:aZ g=g:=by
  unfold aZ at ho ⊢;rw[uQ hk.1]at ho ⊢;split
  ·rfl
  ·rename_i h1;rw[if_neg h1]at ho;cases hf:jI (aa g.ins) g.rows g.off with
   |none=>rfl
   |some op=>rw[hf]at ho;exfalso;have:=(qc hf).1;have ho:(op:Int)=10:=ho;omega
 rw[e];intro q hq;have:=hk.2.2 q hq;unfold mQ at this;simp only[zqf,beq_iff_eq]at this;exact this.1
theorem D8{s:S}(h:aU s=ab):s≠[]:=λe=>by rw[e]at h;exact absurd h (by decide)
theorem KE{c:Ci}(hn:NetOk c){r:S->Nat}(hr:∀g∈c.gates,∀s∈g.ins,r s<r g.name):∀(gs:List Ga),(∀g∈gs,g∈c.gates)->∀(x:Xs)(D:List S)(rk:S->Nat×Nat),XI c r D rk x ->
 ∃rk',XI c r (D++gs.map (·.name)) rk' (gs.foldl wG x)
 |[],_,x,D,rk,k=>⟨rk,by simpa using k⟩
 |g::gs,hg,x,D,rk,k=>by
  have hgc:=hg g (by simp);have hb:=hn.gates g hgc;obtain⟨c1,c2,c3⟩:=zf (jC hb).1;have hnm:g.name∈aT c:=by unfold aT;exact List.mem_append_right _ (zrh.2 ⟨g,hgc,rfl⟩)
  have hnk:aU g.name=ab:=hn.told _ (by
   unfold dW;exact List.mem_append_right _ (List.mem_flatMap.2 ⟨g,hgc,by simp⟩))
  have hins:∀s∈g.ins,s∈aT c/\r s<r g.name:=λs hs=>by refine⟨List.contains_iff_mem.1 (hn.used s ?_),hr g hgc s hs⟩;unfold fP;exact List.mem_append_right _ (List.mem_flatMap.2 ⟨g,hgc,hs⟩)
  obtain⟨rk1,k1⟩:∃rk1,XI c r (D++[g.name]) rk1 (wG x g):=by
   unfold wG;by_cases ho:(aZ g).op=10
   ·rw[if_pos ho,<-c3];exact XV k (by rw[c3];exact D8 hnk) (by rw[c3];exact hnm) (Jh hb ho) (by rw[c2,c3];exact hins)
   ·rw[if_neg ho,<-c3];obtain⟨h1,h2⟩:=c1.r ho;refine⟨rk,qm k (by rw[c3];exact D8 hnk) (by rw[c3];exact hnm) ⟨c1.h,ho,h1,h2⟩ λs hs=> ?_⟩;rw[c2]at hs;obtain⟨a1,a2⟩:=hins s hs;obtain⟨F,e1,_⟩:=k.fr;refine⟨by rw[e1];exact List.mem_append_left _ a1,?_⟩;rw[k.rc _ a1,c3];exact U0 (by omega)
  obtain⟨rk2,k2⟩:=KE hn hr gs (λq hq=>hg q (by simp[hq])) _ _ _ k1;refine⟨rk2,?_⟩;rw[zqc]at k2;exact k2
theorem XW{c:Ci}(ho:(kW c).1=0):∃r rk,XI c r (c.gates.map (·.name)) rk (D5 c):=by
 have hn:=iJ ho;obtain⟨r,hr⟩:=KC ho;have hnd:(aT c).Nodup:=by have:=uJ (aT c) [] hn.nets List.nodup_nil;simpa using this
 obtain⟨rk,k⟩:=KE hn hr c.gates (λ_ h=>h) ⟨[],aT c,([],[])⟩ [] (λs=>(2*r s,0)) ⟨⟨[],by simp,λs hs=>(by cases hs),hnd,List.Perm.nil⟩,λg hg=>(by cases hg),λs _=>rfl,λs hs=>(by cases hs),rfl,λn s h=>by cases h⟩;rw[List.nil_append]at k;exact⟨r,rk,k⟩
theorem D9{c x:Ci}(h:D6 c=(x,0)):kW x=(0,[])/\(∀g∈x.gates,GPl g)/\x.ins=c.ins/\x.outs=c.outs/\x.lat=c.lat:=by
 unfold D6 at h;by_cases ho:(kW c).1≠0
 ·rw[if_pos ho]at h;have:=congrArg Prod.snd h;exact absurd this (by show(1:Int)≠0;decide)
 rw[if_neg ho]at h;have ho:(kW c).1=0:=Decidable.not_not.1 ho;by_cases hl:200<aa c.ins+aa c.lat+(D5 c).gates.length
 ·rw[if_pos hl]at h;have:=congrArg Prod.snd h;exact absurd this (by show(8:Int)≠0;decide)
 rw[if_neg hl]at h;have hx:{c with gates:=(D5 c).gates}=x:=congrArg Prod.fst h;have hn:=iJ ho;obtain⟨r,rk,k⟩:=XW ho;obtain⟨F,e1,e2,e3,e4⟩:=k.fr;subst hx;have hpl:∀g∈(D5 c).gates,GPl g:=λg hg=>(k.pl g hg).1;have lm:=P9 hn.lim;have hnl:aa (aT c)<=200:=by
  have:=hn.lim;unfold PL at this;simp only[zqf,zqb]at this;unfold aT;simp only[zqa,zra];omega
 have hul:=k.len;have hname:∀s∈(D5 c).used,aU s=ab:=λs hs=>by
  rw[e1]at hs;rcases zrf.1 hs with hs|hs
  ·refine hn.told s ?_;unfold aT at hs;unfold dW;simp only[zrf,zrh,List.mem_flatMap]at hs ⊢;rcases hs with(hs|⟨q,hq,rfl⟩)|⟨g,hg,rfl⟩
   ·exact .inl (.inl (.inl hs))
   ·exact .inl (.inr ⟨q,hq,by simp⟩)
   ·exact .inr ⟨g,hg,by simp⟩
  ·obtain⟨j,h1,rfl⟩:=e2 s hs;exact XR (by omega)
 have hnets:∀s∈(D5 c).used,s∈aT {c with gates:=(D5 c).gates}:=λs hs=>by
  rw[e1]at hs;unfold aT;rcases zrf.1 hs with hs|hs
  ·unfold aT at hs;rcases zrf.1 hs with hs|hs
   ·exact List.mem_append_left _ hs
   ·exact List.mem_append_right _ (e4.mem_iff.2 (List.mem_append_right _ hs))
  ·exact List.mem_append_right _ (e4.mem_iff.2 (List.mem_append_left _ hs))
 have hold:∀s∈aT c,s∈aT {c with gates:=(D5 c).gates}:=λs hs=>hnets s (by rw[e1];exact List.mem_append_left _ hs);have hN:NetOk {c with gates:=(D5 c).gates}:=by
  refine⟨?_,λs hs=> ?_,?_,hn.outs,hn.lat,λg hg=> ?_,λs hs=> ?_⟩
  ·unfold PL;simp only[zqf,zqb,Bool.not_eq_true',List.any_eq_false];refine⟨by omega,lm.outs,λg hg=> ?_⟩;have hp:=hpl g hg;have h8:=hp.h;unfold vJ at h8;simp only[zqf]at h8;have:=Wh h8.2.2;unfold BB;rw[hp.r];simp only[Bool.or_eq_true,zqb,List.length_nil,not_or];omega
  ·unfold dW at hs;simp only[zrf,List.mem_flatMap]at hs;rcases hs with((hs|hs)|hs)|⟨g,hg,hs⟩
   ·exact hn.told s (by unfold dW;simp[hs])
   ·exact hn.told s (by unfold dW;simp[hs])
   ·exact hn.told s (by unfold dW;simp only[zrf,List.mem_flatMap];exact .inl (.inr hs))
   ·rcases zrj.1 hs with rfl|hs
    ·exact hname _ (k.nm hg)
    ·exact hname _ ((k.pl g hg).2 s hs).1
  ·refine Gy _ [] ?_;rw[List.nil_append];show(c.ins++c.lat.map (·.name)++(D5 c).gates.map (·.name)).Nodup;rw[e1]at e3;unfold aT at e3;refine List.Perm.nodup_iff ?_ |>.1 e3;rw[zqc (c.ins++c.lat.map (·.name))];exact List.Perm.append_left _ (List.perm_append_comm.trans e4.symm)
  ·have hp:=hpl g hg;unfold gQ;rw[hp.h,hp.r,hp.f];simp
  ·refine List.contains_iff_mem.2 ?_;unfold fP at hs;simp only[zrf,List.mem_flatMap]at hs;rcases hs with(hs|hs)|⟨g,hg,hs⟩
   ·exact hold s (List.contains_iff_mem.1 (hn.used s (by unfold fP;simp[hs])))
   ·exact hold s (List.contains_iff_mem.1 (hn.used s (by unfold fP;simp only[zrf];exact .inl (.inr hs))))
   ·exact hnets s ((k.pl g hg).2 s hs).1
 exact⟨NC hN rk λg hg s hs _=>((k.pl g hg).2 s hs).2,hpl,rfl,rfl,rfl⟩
def tq(c:UInt8):Bool:=c==61||c==40||c==41||c==44
def qo(c:UInt8):Bool:=c==32||c==9||c==13||c==10
def Gz(c:UInt8):Bool:=ar (32<c.toNat)&&ar (c.toNat<=126)
def iH(c:UInt8):Bool:=Gz c&& !(tq c||c==35)
def tkN:Nat->Nat->S->List Tk×Option Nat
 |0,_,_=>([],aq)
 |_,_,[]=>([],aq)
 |n+1,p,c::r =>
  if c=35 then tkN n (p+aa ((c::r).takeWhile (· != 10))) ((c::r).dropWhile (· != 10))
  else if qo c=ab then tkN n (p+1) r
  else if tq c=ab then(⟨1,[c],p⟩::(tkN n (p+1) r).1,(tkN n (p+1) r).2)
  else if iH c=ab then(⟨0,(c::r).takeWhile iH,p⟩::(tkN n (p+aa ((c::r).takeWhile iH)) ((c::r).dropWhile iH)).1,(tkN n (p+aa ((c::r).takeWhile iH)) ((c::r).dropWhile iH)).2)
  else([],al p)
inductive Pc where
 |word (w:S)
 |mark (c:UInt8)
 |blank (c:UInt8)
def QI:Pc->S
 | .word w=>w
 | .mark c=>[c]
 | .blank c=>[c]
def xy:Pc->List (Nat×S)
 | .word w=>[(0,w)]
 | .mark c=>[(1,[c])]
 | .blank _=>[]
def okP:List Pc->Prop
 |[]=>True
 | .word w::r=>w≠[]/\(∀c∈w,iH c=ab)/\(∀v s,r≠ .word v::s)/\okP r
 | .mark c::r=>tq c=ab/\okP r
 | .blank c::r=>qo c=ab/\okP r
def je(l:List Pc):S:=l.flatMap QI
theorem zN{c:UInt8}(h:iH c=ab):c≠35/\qo c=ac/\tq c=ac:=by unfold iH at h;simp only[zqf,Bool.not_eq_true',zsf,beq_eq_false_iff_ne]at h;obtain⟨h1,h2,h3⟩:=h;refine⟨h3,?_,h2⟩;unfold Gz at h1;simp only[zqf,zqb]at h1;unfold qo;simp only[zsf,beq_eq_false_iff_ne];refine⟨⟨⟨?_,?_⟩,?_⟩,?_⟩<;>(rintro rfl;exact absurd h1.1 (by decide))
theorem QJ:∀ {r:List Pc},okP r->(∀v s,r≠ .word v::s)->∀c,(je r).head? =al c->iH c=ac
 |[],_,_,c,h=>by cases h
 | .word w::r,_,h2,c,h=>absurd rfl (h2 w r)
 | .mark m::r,h1,_,c,h=>by have:al m=al c:=h;cases this;unfold okP at h1;unfold iH;rw[h1.1];simp
 | .blank m::r,h1,_,c,h=>by
  have:al m=al c:=h;cases this;unfold okP at h1;have hb:=h1.1;cases hw:iH m with
  |false=>rfl
  |true=>rw[(zN hw).2.1]at hb;cases hb
theorem U2{c:UInt8}(h:tq c=ab):c≠35/\qo c=ac:=by unfold tq at h;simp only[Bool.or_eq_true,beq_iff_eq]at h;rcases h with((rfl|rfl)|rfl)|rfl<;>exact⟨by decide,by decide⟩
theorem QK{c:UInt8}(h:qo c=ab):c≠35:=by unfold qo at h;simp only[Bool.or_eq_true,beq_iff_eq]at h;rcases h with((rfl|rfl)|rfl)|rfl<;>decide
theorem uU:∀(l:List Pc)(n p:Nat),okP l->aa (je l)<=n->(tkN n p (je l)).1.map Tk.s=l.flatMap xy/\(tkN n p (je l)).2=aq
 |[],n,p,_,_=>by cases n<;>exact⟨rfl,rfl⟩
 | .mark c::r,n,p,h,hn=>by have e:je (.mark c::r)=c::je r:=rfl;rw[e]at hn ⊢;obtain⟨n,rfl⟩:∃m,n=m+1:=⟨n-1,by simp at hn;omega⟩;unfold okP at h;obtain⟨m1,m2⟩:=U2 h.1;obtain⟨i1,i2⟩:=uU r n (p+1) h.2 (by simp at hn;omega);rw[tkN,if_neg m1,if_neg (by rw[m2];decide),if_pos h.1];refine⟨?_,i2⟩;rw[zrd,i1];rfl
 | .blank c::r,n,p,h,hn=>by have e:je (.blank c::r)=c::je r:=rfl;rw[e]at hn ⊢;obtain⟨n,rfl⟩:∃m,n=m+1:=⟨n-1,by simp at hn;omega⟩;unfold okP at h;obtain⟨i1,i2⟩:=uU r n (p+1) h.2 (by simp at hn;omega);rw[tkN,if_neg (QK h.1),if_pos h.1];exact⟨i1,i2⟩
 | .word w::r,n,p,h,hn=>by
  unfold okP at h;obtain⟨h1,h2,h3,h4⟩:=h;have e:je (.word w::r)=w++je r:=rfl;obtain⟨t1,t2⟩:=zag h2 (QJ h4 h3);rw[e]at hn ⊢;rw[zqa]at hn;cases w with
  |nil=>exact absurd rfl h1
  |cons c w=>obtain⟨n,rfl⟩:∃m,n=m+1:=⟨n-1,by simp at hn;omega⟩;obtain⟨a1,a2,a3⟩:=zN (h2 c (by simp));have e2:(c::w)++je r=c::(w++je r):=rfl;rw[e2]at t1 t2 ⊢;obtain⟨i1,i2⟩:=uU r n (p+aa (c::w)) h4 (by simp at hn;omega);rw[tkN,if_neg a1,if_neg (by rw[a2];decide),if_neg (by rw[a3];decide),if_pos (h2 c (by simp)),t1,t2];refine⟨?_,i2⟩;rw[zrd,i1];rfl
def jK(s:S):Bool:= !s.any λc=>tq c||c==35
def aP(s:S):S:=if(rC.isPrefixOf s|| !jK s)=ab then bu s else s
def wH(s:S):S×Int :=
 if bQ s≠[]/\aU (bQ s)=ab/\aP (bQ s)=s then(bQ s,0)else if(aU s&&jK s)=ab then(s,0)else([],4)
theorem Ji{s:S}(h:aU s=ab):wH (aP s)=(s,0):=by
 have hne:s≠[]:=D8 h;by_cases hm:(rC.isPrefixOf s|| !jK s)=ab
 ·have e:aP s=bu s:=by unfold aP;rw[if_pos hm]
  unfold wH;rw[e,vZ,if_pos ⟨hne,h,e⟩]
 ·have e:aP s=s:=by unfold aP;rw[if_neg hm]
  rw[e];unfold wH;split
  ·rename_i hc;obtain⟨_,_,h3⟩:=hc;by_cases hm2:(rC.isPrefixOf (bQ s)|| !jK (bQ s))=ab
   ·exfalso;have e2:aP (bQ s)=bu (bQ s):=by unfold aP;rw[if_pos hm2]
    rw[e2]at h3;apply hm;rw[<-h3,xh];rfl
   ·have e2:aP (bQ s)=bQ s:=by unfold aP;rw[if_neg hm2]
    rw[e2]at h3;rw[h3]
  ·rw[if_pos ?_];have:jK s=ab:=by
    cases hl:jK s with
    |true=>rfl
    |false=>rw[hl]at hm;simp at hm
   rw[h,this];rfl
theorem tu{s:S}(h:aU s=ab):aP s≠[]/\∀c∈aP s,iH c=ab:=by
 obtain⟨h1,h2⟩:=BC h;unfold aP;split
 ·refine⟨by simp[bu,rC],λc hc=> ?_⟩;unfold bu rC at hc;have hexW:∀n,n<16->iH (Ur n)=ab:=by decide
  rcases zrf.1 hc with hc|hc
  ·have hm:∀c∈([120,95,95]:S),iH c=ab:=by decide
   exact hm c hc
  ·obtain⟨d,_,hd⟩:=List.mem_flatMap.1 hc;have:=d.toNat_lt;unfold Us at hd;simp only[zrj,zrp,or_false]at hd;rcases hd with rfl|rfl
   ·exact hexW _ (by omega)
   ·exact hexW _ (by omega)
 ·rename_i hc;refine⟨h1,λc hcs=> ?_⟩;simp only[Bool.or_eq_true,Bool.not_eq_true',not_or,Bool.not_eq_true,Bool.not_eq_false]at hc;have hl:=hc.2;unfold jK at hl;rw[Bool.not_eq_true',List.any_eq_false]at hl;have hl:=hl c hcs;have hb:=h2 c hcs;unfold iP at hb;unfold iH Gz;simp only[zqf,zqb]at hb;have b1:32<c.toNat:=by
   have:=hb.1
   first|exact this|exact UInt8.lt_iff_toNat_lt.1 this|(have:=UInt8.le_iff_toNat_le.1 this;simpa using this)
  have b2:c.toNat<=126:=by
   have:=hb.2
   first|exact this|exact UInt8.le_iff_toNat_le.1 this|(have:=UInt8.lt_iff_toNat_lt.1 this;simp at this;omega)
  rw[decide_eq_true b1,decide_eq_true b2];simpa using hl
abbrev RN(α:Type):=Except (Nat×Int) α
def atN(e:Nat):List Tk->Nat
 |[]=>e
 |t::_=>t.at'
def isM(c:UInt8)(t:Tk):Bool:=t.k==1&&t.t==[c]
def qp(c:UInt8):List Tk->Bool×List Tk
 |[]=>(ac,[])
 |t::r=>if isM c t=ab then(ab,r)else(ac,t::r)
def qx(e:Nat)(c:UInt8)(l:List Tk):RN (List Tk):=if(qp c l).1=ab then .ok (qp c l).2 else .error (atN e l,2)
def xR(e:Nat):List Tk->RN (Tk×List Tk)
 |[]=> .error (e,2)
 |t::r=>if t.k=0 then .ok (t,r)else .error (t.at',2)
def tH(e:Nat)(l:List Tk):RN (S×List Tk):=match xR e l with
 | .error x=> .error x
 | .ok (t,r)=>if(wH t.t).2=0 then .ok ((wH t.t).1,r)else .error (t.at',(wH t.t).2)
def AY(e:Nat):Nat->List S->List Tk->RN (List S×List Tk)
 |0,_,l=> .error (atN e l,2)
 |f+1,acc,l=>if(qp 44 l).1=ab then(match tH e (qp 44 l).2 with
  | .error x=> .error x
  | .ok (s,r)=>AY e f (acc++[s]) r)else match qx e 41 l with
  | .error x=> .error x
  | .ok r=> .ok (acc,r)
def oW(e:Nat)(l:List Tk):RN (List S×List Tk):=match qx e 40 l with
 | .error x=> .error x
 | .ok l1=>if(qp 41 l1).1=ab then .ok ([],(qp 41 l1).2)else match tH e l1 with
  | .error x=> .error x
  | .ok (s,r)=>AY e (aa r+1) [s] r
def jc:S:=[73,78,80,85,84]
def fE:S:=[79,85,84,80,85,84]
def zaM:S:=[66,85,70]
def opW(s:S):Option Nat:=if s=zaM then al 2 else dZ.findIdx? (·==s)
def AZ(e:Nat)(c:Ci)(l:List Tk):RN (Ci×List Tk):=match tH e l with
 | .error x=> .error x
 | .ok (s,l1)=>match qx e 61 l1 with
  | .error x=> .error x
  | .ok l2=>match xR e l2 with
   | .error x=> .error x
   | .ok (w,l3)=>match bW.findIdx? (·==w.t),opW w.t with
    |none,aq=> .error (w.at',9)
    |lat,op=>match oW e l3 with
     | .error x=> .error x
     | .ok (ns,l4)=>match lat with
      |none=> .ok ({c with gates:=c.gates++[aZ ⟨s,(op.getD 0:Nat),ns,[],ac⟩]},l4)
      |some k=>if aa ns=1 then .ok ({c with lat:=c.lat++[⟨s,ns.headD [],k⟩]},l4)else .error (w.at',1)
def A7(e:Nat)(c:Ci)(out:Bool)(l:List Tk):RN (Ci×List Tk):=match qx e 40 l with
 | .error x=> .error x
 | .ok l1=>match tH e l1 with
  | .error x=> .error x
  | .ok (s,l2)=>match qx e 41 l2 with
   | .error x=> .error x
   | .ok l3=> .ok (if out=ab then {c with outs:=c.outs++[s]} else {c with ins:=c.ins++[s]},l3)
def Jj(e:Nat)(c:Ci):List Tk->RN (Ci×List Tk)
 |[]=> .ok (c,[])
 |t::r=>if t.k=0/\(t.t=jc\/t.t=fE)/\(qp 61 r).1=ac then A7 e c (t.t==fE) r else AZ e c (t::r)
def uV(e:Nat):Nat->Ci->List Tk->RN Ci
 |0,c,_=> .ok c
 |_+1,c,[]=> .ok c
 |f+1,c,t::r=>match Jj e c (t::r)with
  | .error x=> .error x
  | .ok (c',l')=>uV e f c' l'
def Ea:List S->S
 |[]=>[]
 |[s]=>aP s
 |s::t::r=>aP s++44::32::Ea (t::r)
def gV(ahead word:S)(l:List S):S:=ahead++word++40::Ea l++[41,10]
def qy(x:Ci):S:=x.ins.flatMap (λs=>gV [] jc [s])++x.outs.flatMap (λs=>gV [] fE [s])++x.lat.flatMap (λq=>gV (aP q.name++[32,61,32]) (bW.getD q.init.toNat []) [q.next])++x.gates.flatMap λg=>gV (aP g.name++[32,61,32]) (dZ.getD g.op.toNat []) g.ins
end Go.Proofs.YthaijohbpdabfaaGreatDoor
