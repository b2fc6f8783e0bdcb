/- Lemmas for this claim, part F02: each holds under what it names. -/
import Derived.Test.YthdidjjecjhenaaGreatF01
import Derived.Test.YthdidjjecjhenaaGreatA7
set_option linter.unusedVariables false
set_option linter.unusedSimpArgs false
set_option linter.unnecessarySimpa false
set_option maxRecDepth 20000
namespace Go.Proofs.YthdidjjecjhenaaGreat
open Go Go.Proofs Go.Abs
structure LI(S:St)(seen:List Nat)(rest:Cl):Prop where
 s1:∀v∈seen,∃a∈S.tr,a.natAbs=v/\0<fU S a
 s2:∀a∈rest,-a∈S.tr/\0<fU S a/\fU S a<S.lv.length/\a.natAbs∈seen
 s3:∀a∈S.tr,a.natAbs∈seen->fU S a<S.lv.length->-a∈rest
 rn:(rest.map Int.natAbs).Nodup
def dM(S:St)(seen:List Nat)(q:Nat):Nat:=(S.tr.take q).countP fun a=>decide (a.natAbs∈seen)&&decide (fU S a=S.lv.length)
def Acc(S:St)(seen:List Nat)(b:Int):Prop:=fU S b=0\/b.natAbs∈seen
def vZ(S:St)(seen:List Nat)(i:Nat):Prop:=∀(h:i<S.tr.length),(S.tr[i]).natAbs∈seen->fU S S.tr[i]=S.lv.length ->
 ∃k,k<S.nc/\S.tr[i]∈S.cl k/\∀b∈S.cl k,b≠S.tr[i]->-b∈S.tr.take i/\Acc S seen b
section
variable{n:Nat}{l d L:List Cl}{S:St}
variable{seen seen':List Nat}
theorem Acc.mono{b:Int}(h:Acc S seen b)(hs:∀v∈seen,v∈seen'):Acc S seen' b:=h.imp id (hs _)
theorem AA{α:Type}[BEq α][LawfulBEq α]:∀ {l:List α} {p q:α->Bool} {x:α},l.Nodup->x∈l->p x=false->q x=true->(∀y∈l,y≠x->q y=p y)->l.countP q=l.countP p+1
 |[],_,_,_,_,h,_,_,_=>by simp at h
 |z::l,p,q,x,hn,hx,hp,hq,hy=>by
  rw[List.nodup_cons]at hn;rw[List.countP_cons,List.countP_cons];rcases zrj.1 hx with rfl|hx
  ·have:l.countP q=l.countP p:=List.countP_congr fun y hyl=>by rw[hy y (List.mem_cons_of_mem _ hyl) (fun e=>hn.1 (e▸hyl))]
   simp[hp,hq,this]
  ·have h1:=AA hn.2 hx hp hq fun y hyl hne=>hy y (List.mem_cons_of_mem _ hyl) hne;have h2:z≠x:=fun e=>hn.1 (e▸hx);rw[hy z List.mem_cons_self h2,h1];omega
theorem Tr.nodup(t:Tr n S):S.tr.Nodup:=by have:=t.nd;rw[List.Nodup,List.pairwise_map]at this;exact this.imp fun h e=>h (by rw[e])
theorem LI.start:LI S [] []:=⟨by simp,by simp,by simp,by simp⟩
variable{rest:Cl}
theorem LI.mark(k:LI S seen rest)(t:Tr n S){a:Int}{q:Nat}(ha:-a∈S.tr.take q)(h0:fU S a≠0)(hs:¬a.natAbs∈seen) :
 (fU S a=S.lv.length->LI S (seen++[a.natAbs]) rest/\dM S (seen++[a.natAbs]) q=dM S seen q+1) /\
 (fU S a≠S.lv.length->LI S (seen++[a.natAbs]) (rest++[a])/\dM S (seen++[a.natAbs]) q=dM S seen q):=by
 have hat:=zsh ha;have hlr:=t.lev_rng hat;rw[fV]at hlr;have hu:∀b∈S.tr,b.natAbs=a.natAbs->b=-a:=fun b hb he=>tH t.nd b hb (-a) hat (by rw[he,Int.natAbs_neg]);have s1:∀v∈seen++[a.natAbs],∃a∈S.tr,a.natAbs=v/\0<fU S a:=by
  intro v hv;rcases zrf.1 hv with hv|hv
  ·exact k.s1 v hv
  ·rw[zrc.1 hv];exact⟨-a,hat,Int.natAbs_neg a,by rw[fV];omega⟩
 refine⟨fun hD=>⟨⟨s1,fun b hb=> ?_,fun b hb hb2 hb3=> ?_,k.rn⟩,?_⟩,fun hD=>⟨⟨s1,fun b hb=> ?_,fun b hb hb2 hb3=> ?_,?_⟩,?_⟩⟩
 ·obtain⟨h1,h2,h3,h4⟩:=k.s2 b hb;exact⟨h1,h2,h3,List.mem_append_left _ h4⟩
 ·rcases zrf.1 hb2 with h1|h1
  ·exact k.s3 b hb h1 hb3
  ·have:=hu b hb (zrc.1 h1);rw[this,fV]at hb3;omega
 ·unfold dM;refine AA (x:=-a) (t.nodup.sublist (List.take_sublist _ _)) ha (by simp[hs]) (by simp[fV,hD]) fun y hy hne=> ?_;have:y.natAbs≠a.natAbs:=fun e=>hne (hu y (zsh hy) e);simp[this]
 ·rcases zrf.1 hb with hb|hb
  ·obtain⟨h1,h2,h3,h4⟩:=k.s2 b hb;exact⟨h1,h2,h3,List.mem_append_left _ h4⟩
  ·rw[zrc.1 hb];exact⟨hat,by omega,by omega,by simp⟩
 ·rcases zrf.1 hb2 with h1|h1
  ·exact List.mem_append_left _ (k.s3 b hb h1 hb3)
  ·have:=hu b hb (zrc.1 h1);rw[this,Int.neg_neg];simp
 ·rw[zql,List.map_singleton,List.nodup_append];refine⟨k.rn,by simp,fun x hx y hy=> ?_⟩;obtain⟨b,hb,rfl⟩:=zrh.1 hx;rw[zrc.1 hy];exact fun e=>hs (e▸(k.s2 b hb).2.2.2)
 ·unfold dM;refine List.countP_congr fun y hy=> ?_;by_cases hya:y.natAbs=a.natAbs
  ·have:=hu y (zsh hy) hya;rw[this,fV];simp[hD]
  ·simp[hya]
def Gap(S:St)(seen:List Nat)(q' q:Nat):Prop:=∀i (h:i<S.tr.length),q'<=i->i<q->¬(S.tr[i]).natAbs∈seen
variable{q' q:Nat}
theorem EE(h1:q'<=q)(hg:Gap S seen q' q):dM S seen q=dM S seen q':=by
 unfold dM;have e:S.tr.take q=S.tr.take q'++(S.tr.drop q').take (q-q'):=by
  rw[<-List.take_append_drop q' (S.tr.take q),List.take_take,Nat.min_eq_left h1,List.drop_take]
 rw[e,List.countP_append];have:((S.tr.drop q').take (q-q')).countP (fun a=>decide (a.natAbs∈seen)&&decide (fU S a=S.lv.length))=0:=by
  rw[List.countP_eq_zero];intro a ha;obtain⟨i,hi,rfl⟩:=List.getElem_of_mem ha;rw[zrl,List.length_drop]at hi;have:=hg (q'+i) (by omega) (by omega) (by omega);simp only[List.getElem_take,List.getElem_drop,zqf,zqb];exact fun h=>this h.1
 omega
theorem KU(h:q<S.tr.length):dM S seen (q+1)=dM S seen q+(if(S.tr[q]).natAbs∈seen/\fU S S.tr[q]=S.lv.length then 1 else 0):=by unfold dM;rw[zrg,zqk h,Option.toList_some,List.countP_append,List.countP_singleton];by_cases h1:(S.tr[q]).natAbs∈seen<;>by_cases h2:fU S S.tr[q]=S.lv.length<;>simp[h1,h2]
theorem RQ(h1:q'<=q)(hg:Gap S seen q' q)(ho:dM S seen q≠0):0<q':=by
 rw[EE h1 hg]at ho;cases q' with
 |zero=>simp[dM]at ho
 |succ q'=>omega
theorem KW(t:Tr n S)(h1:q'+1<=q)(h2:q'<S.tr.length)(hg:Gap S seen (q'+1) q)(ho:dM S seen q≠0)(hs:(S.tr[q']).natAbs∈seen) :
 fU S S.tr[q']=S.lv.length/\dM S seen q=dM S seen q'+1:=by
 rw[EE h1 hg]at ho ⊢;have hD:fU S S.tr[q']=S.lv.length:=by
  have h3:0<dM S seen (q'+1):=Nat.pos_of_ne_zero ho;unfold dM at h3;rw[List.countP_pos_iff]at h3;obtain⟨a,ha,ha2⟩:=h3;obtain⟨i,hi,hi2,rfl⟩:=jJ ha;simp only[zqf,zqb]at ha2;have h4:=ha2.2;rw[t.lvl i hi]at h4;rw[t.lvl q' h2];have h5:=RJ S.lv (show i<=q' by omega);have h6:=IU S.lv q';omega
 exact⟨hD,by rw[KU h2,if_pos ⟨hs,hD⟩]⟩
theorem KX(t:Tr n S)(h2:q'<S.tr.length)(hm:q'∈S.lv):dM S seen q'=0:=by
 unfold dM;rw[List.countP_eq_zero];intro a ha;obtain⟨i,hi,hi2,rfl⟩:=jJ ha;simp only[zqf,zqb];rintro⟨_,h⟩;rw[t.lvl i hi]at h;have h3:lev S.lv i<S.lv.length:=by
  have h4:=IU S.lv i;refine Nat.lt_of_le_of_ne h4 fun e=> ?_;unfold lev at e;rw[List.countP_eq_length]at e;have:=e q' hm;simp at this;omega
 omega
theorem OC(r:Rea S)(t:Tr n S)(h2:q'<S.tr.length)(hl:0<S.lv.length)(hD:fU S S.tr[q']=S.lv.length)(ho:dM S seen q'≠0) :
 ∃k,(S.v (S.tr[q']).natAbs).reason=some k/\k<S.nc/\S.tr[q']∈S.cl k/\∀b∈S.cl k,b≠S.tr[q']->-b∈S.tr.take q':=by
 cases hr:(S.v (S.tr[q']).natAbs).reason with
 |none =>
  rcases r.dec q' h2 hr with h|h
  ·rw[t.lvl q' h2]at hD;omega
  ·exact absurd (KX t h2 h) ho
 |some k=>exact⟨k,rfl,r.rea q' h2 k hr⟩
variable{l':List Cl}
theorem Der.mono{l:List Cl}{g g':Cl}(hl:∀c∈l,c∈l')(hg:∀a∈g,a∈g'){a:Int}(h:Der l g a):Der l' g' a:=by
 induction h with
 |start a h=>exact .start a (hg a h)
 |unit c a hc ha _ ih=>exact .unit c a (hl c hc) ha ih
theorem Bad.mono{l:List Cl}{g g':Cl}(hl:∀c∈l,c∈l')(hg:∀a∈g,a∈g')(h:Bad l g):Bad l' g':=by
 rcases h with⟨c,hc,h⟩|⟨a,h1,h2⟩
 ·exact .inl ⟨c,hl c hc,fun b hb=>(h b hb).mono hl hg⟩
 ·exact .inr ⟨a,h1.mono hl hg,h2.mono hl hg⟩
theorem OD(i:Inv n l d L S){seen:List Nat}{rest:Cl}(k:LI S seen rest){q:Nat}(hq:q<S.tr.length)(hs:(S.tr[q]).natAbs∈seen)(hD:fU S S.tr[q]=S.lv.length)
 (ho:dM S seen q=0) (hd:∀j,q<j->vZ S seen j) {j:Nat} (hj:j<S.nc) (hf:∀b∈S.cl j,-b∈S.tr/\Acc S seen b):Bad (l++S.ln) (Cm (-S.tr[q]::rest)):=by
 have h0:∀b:Int,b∈S.tr->fU S b=0->Der (l++S.ln) (Cm (-S.tr[q]::rest)) b:=by intro b hb hl;obtain⟨p,hp,rfl⟩:=List.getElem_of_mem hb;rw[i.t.lvl p hp]at hl;exact(i.g.d0 p hp (by omega)).mono (fun _ h=>h) (by simp)
 have key:∀m p,p<m->∀(hp:p<S.tr.length),(S.tr[p]).natAbs∈seen->Der (l++S.ln) (Cm (-S.tr[q]::rest)) S.tr[p]:=by
  intro m
  induction m with
  |zero=>intro p h;omega
  |succ m ih =>
   intro p hpm hp hps;by_cases hlt:fU S S.tr[p]<S.lv.length
   ·refine .start _ ?_;have:=k.s3 _ (zqu hp) hps hlt;unfold Cm;rw[zrh];exact⟨-S.tr[p],List.mem_cons_of_mem _ this,Int.neg_neg _⟩
   ·have hle:fU S S.tr[p]=S.lv.length:=by have:=(i.t.lev_rng (zqu hp)).2;omega
    rcases Nat.lt_trichotomy p q with h|h|h
    ·exfalso;unfold dM at ho;rw[List.countP_eq_zero]at ho;have:=ho S.tr[p] (lw hp h);simp[hps,hle]at this
    ·subst h;refine .start _ ?_;unfold Cm;rw[zrh];exact⟨-S.tr[p],List.mem_cons_self,Int.neg_neg _⟩
    ·obtain⟨c,hc,hc2,hc3⟩:=hd p h hp hps hle;obtain⟨c',hc',he⟩:=i.g.src c hc;refine .unit c' _ hc' ((he _).1 hc2) fun b hb hne=> ?_;obtain⟨h1,h2⟩:=hc3 b ((he b).2 hb) hne;rcases h2 with h2|h2
     ·exact h0 _ (zsh h1) (by rw[fV];exact h2)
     ·obtain⟨x,hx,hx2,hx3⟩:=jJ h1;rw[<-hx3];exact ih x (by omega) hx (by rw[hx3,Int.natAbs_neg];exact h2)
 obtain⟨c',hc',he⟩:=i.g.src j hj;refine .inl ⟨c',hc',fun b hb=> ?_⟩;obtain⟨h1,h2⟩:=hf b ((he b).2 hb);rcases h2 with h2|h2
 ·exact h0 _ h1 (by rw[fV];exact h2)
 ·obtain⟨p,hp,hp2⟩:=List.getElem_of_mem h1;rw[<-hp2];exact key (p+1) p (by omega) hp (by rw[hp2,Int.natAbs_neg];exact h2)
structure Lrnt(n:Nat)(l:List Cl)(S:St)(out:Cl)(k:Nat):Prop where
 bad:Bad (l++S.ln) (Cm out)
 nd:(out.map Int.natAbs).Nodup
 rng:∀a∈out,a≠0/\a.natAbs<=n
 fst:∃p rest,out=-p::rest/\p∈S.tr/\fU S p=S.lv.length/\(∀a∈rest,-a∈S.tr/\fU S a<=k)/\((rest=[]/\k=0)\/∃a r,rest=a::r/\fU S a=k)
 klt:k<S.lv.length
variable{out:Cl}{k:Nat}
theorem Lrnt.new(h:Lrnt n l S out k)(i:Inv n l d S.ln S):∀c∈S.ln,¬ ∀a,a∈c↔a∈out:=by
 obtain⟨p,rest,rfl,h1,h2,h3,h4⟩:=h.fst;have hk:=h.klt;have hp:=i.t.rng p h1;intro c hc he;rcases i.lc c hc with⟨a,rfl,ha,hl⟩|⟨j,hj,hj2⟩
 ·have:-p∈[a]:=(he _).2 (by simp);have:=zrc.1 this;subst this;exact i.t.con h1 ha
 ·have hc2:=i.c.c2 j hj;have hcn:=i.c.cnd j hj;have hw:=i.w j hj;have hm:∀a,a∈S.cl j↔a∈-p::rest:=fun a=>(hj2 a).trans (he a);have hno:∀z∈S.cl j,¬z∈S.tr:=by
   intro z hz hzt;rcases zrj.1 ((hm z).1 hz)with rfl|hz2
   ·exact i.t.con h1 hzt
   ·exact i.t.con hzt (h3 z hz2).1
  have hlow:∀z∈(S.cl j).take 2,z≠-p->False:=by
   intro z hz hne;have hz2:=(zrj.1 ((hm z).1 (zsh hz))).resolve_left hne;obtain⟨h5,h6⟩:=h3 z hz2;have h7:-z∈S.tr.take S.hd:=by
    have h8:=(i.t.low h5 hk).2 (by rw[fV];exact h6);exact List.take_subset_take_left S.tr (i.t.lvh _ (zqu hk)) h8
   obtain⟨y,hy,hy2,_⟩:=hw z hz h7;exact hno y (zsh hy) hy2
  rcases hcl:S.cl j with _|⟨x,_|⟨y,r⟩⟩
  ·rw[hcl]at hc2;simp at hc2
  ·rw[hcl]at hc2;simp at hc2
  ·rw[hcl]at hlow hcn;simp only[zrd,List.nodup_cons,zrj,not_or]at hcn;by_cases hx:x=-p
   ·exact hlow y (by simp) (fun e=>hcn.1.1 (by rw[hx,e]))
   ·exact hlow x (by simp) hx
def fD(S:St)(c:Cl):St:={S with cl:=upd S.cl S.nc c,nc:=S.nc+1,wt:=fun b=>if b∈c.take 2 then S.wt b++[S.nc]else S.wt b}
variable{c:Cl}{j:Nat}
theorem iI(h:j<S.nc):(fD S c).cl j=S.cl j:=bI (by omega)
theorem jK:(fD S c).cl S.nc=c:=bC _ _ _
theorem yI(i:Inv n l d L S){c:Cl}(h2:2<=c.length)(hn:(c.map Int.natAbs).Nodup)(hr:∀a∈c,a≠0/\a.natAbs<=n)(hs:∃c'∈l++S.ln,∀a,a∈c↔a∈c') :
 Tr n (fD S c)/\Cls n (fD S c)/\Rea (fD S c)/\Nxt n (fD S c)/\Log n l (fD S c)/\Lcv L (fD S c)/\Cov d (fD S c)/\Lvt (fD S c)/\∀j,j<S.nc->Wat S.hd (fD S c) j:=by
 have hnot:∀a,¬S.nc∈S.wt a:=fun a h=>by have:=(i.c.wts a _ h).1;omega
 have old:∀ {j},j<S.nc+1->j≠S.nc->j<S.nc:=fun h h2=>by omega
 refine⟨⟨i.t.nd,i.t.rng,i.t.val,i.t.lvl,i.t.lvs,i.t.lvh,i.t.hdl⟩,⟨?_,?_,?_,?_,?_,?_⟩,⟨?_,i.r.dec⟩,⟨i.x.1,i.x.2⟩,⟨i.g.d0,?_,i.g.rup,i.g.lrg,i.g.lnew⟩,?_,?_,i.lt,?_⟩
 ·intro j hj;by_cases he:j=S.nc
  ·subst he;rw[jK];exact h2
  ·rw[iI (old hj he)];exact i.c.c2 j (old hj he)
 ·intro j hj;by_cases he:j=S.nc
  ·subst he;rw[jK];exact hn
  ·rw[iI (old hj he)];exact i.c.cnd j (old hj he)
 ·intro j hj;by_cases he:j=S.nc
  ·subst he;rw[jK];exact hr
  ·rw[iI (old hj he)];exact i.c.crg j (old hj he)
 ·intro a j hj;have hj:j∈(if a∈c.take 2 then S.wt a++[S.nc]else S.wt a):=hj;show j<S.nc+1/\_;have k:j∈S.wt a->j<S.nc+1/\a∈((fD S c).cl j).take 2:=fun h=>by
   obtain⟨h3,h4⟩:=i.c.wts a j h;exact⟨by omega,by rw[iI h3];exact h4⟩
  split at hj
  ·rename_i h;rcases zrf.1 hj with h3|h3
   ·exact k h3
   ·rw[zrc.1 h3,jK];exact⟨by omega,h⟩
  ·exact k hj
 ·intro j hj a ha;show j∈(if a∈c.take 2 then S.wt a++[S.nc]else S.wt a);by_cases he:j=S.nc
  ·subst he;rw[jK]at ha;rw[if_pos ha];simp
  ·rw[iI (old hj he)]at ha;have:=i.c.wtc j (old hj he) a ha;split
   ·exact List.mem_append_left _ this
   ·exact this
 ·intro a;show(if a∈c.take 2 then S.wt a++[S.nc]else S.wt a).Nodup;split
  ·rw[List.nodup_append];refine⟨i.c.wnd a,by simp,fun y hy z hz=> ?_⟩;rw[zrc.1 hz];exact fun e=>hnot a (e▸hy)
  ·exact i.c.wnd a
 ·intro p h j hj;obtain⟨h3,h4,h5⟩:=i.r.rea p h j hj;show j<S.nc+1/\_;rw[iI h3];exact⟨by omega,h4,h5⟩
 ·intro j hj;by_cases he:j=S.nc
  ·subst he;rw[jK];exact hs
  ·rw[iI (old hj he)];exact i.g.src j (old hj he)
 ·intro x hx;rcases i.lc x hx with h|⟨j,h3,h4⟩
  ·exact .inl h
  ·exact .inr ⟨j,show j<S.nc+1 by omega,by rw[iI h3];exact h4⟩
 ·intro x hx;rcases i.cv x hx with h|h|⟨j,h3,h4⟩
  ·exact .inl h
  ·exact .inr (.inl h)
  ·exact .inr (.inr ⟨j,show j<S.nc+1 by omega,by rw[iI h3];exact h4⟩)
 ·intro j hj x hx hm;rw[iI hj]at hx ⊢;exact i.w j hj x hx hm
theorem Inv.watch(i:Inv n l d L S){c:Cl}(h2:2<=c.length)(hn:(c.map Int.natAbs).Nodup)(hr:∀a∈c,a≠0/\a.natAbs<=n)(hs:∃c'∈l++S.ln,∀a,a∈c↔a∈c')
 (hw:Wat S.hd (fD S c) S.nc):Inv n l d L (fD S c):=by
 obtain⟨p1,p2,p3,p4,p5,p6,p7,p8,p9⟩:=yI i h2 hn hr hs;refine⟨p1,p2,p3,p4,p5,p6,p7,p8,fun j hj=> ?_⟩;have hj:j<S.nc+1:=hj;by_cases he:j=S.nc
 ·subst he;exact hw
 ·exact p9 j (by omega)
def lnS(S:St)(out:Cl):St:={S with ln:=S.ln++[out]}
theorem OE(i:Inv n l d S.ln S){out:Cl}{k:Nat}(h:Lrnt n l S out k):Inv n l d S.ln (lnS S out):=by
 have hm:∀c∈l++S.ln,c∈l++(S.ln++[out]):=by intro c hc;rw[<-zqc];exact List.mem_append_left _ hc
 refine⟨⟨i.t.nd,i.t.rng,i.t.val,i.t.lvl,i.t.lvs,i.t.lvh,i.t.hdl⟩,⟨i.c.c2,i.c.cnd,i.c.crg,i.c.wts,i.c.wtc,i.c.wnd⟩,⟨i.r.rea,i.r.dec⟩,⟨i.x.1,i.x.2⟩,⟨?_,?_,?_,?_,?_⟩,i.lc,i.cv,i.lt,i.w⟩
 ·intro p hp hl;exact(i.g.d0 p hp hl).mono hm (by simp)
 ·intro j hj;obtain⟨c,h1,h2⟩:=i.g.src j hj;exact⟨c,hm c h1,h2⟩
 ·intro m hmm;have hmm:m<(S.ln++[out]).length:=hmm;show Bad (l++(S.ln++[out]).take m) (Cm (S.ln++[out])[m]);by_cases he:m<S.ln.length
  ·rw[List.take_append_of_le_length (by omega),List.getElem_append_left he];exact i.g.rup m he
  ·have:m=S.ln.length:=by rw[zqa,zrk]at hmm;omega
   subst this;rw[List.take_left,List.getElem_concat_length rfl];exact h.bad
 ·intro c hc;rcases zrf.1 (show c∈S.ln++[out]from hc)with hc|hc
  ·exact i.g.lrg c hc
  ·rw[zrc.1 hc];obtain⟨p,rest,h1,_⟩:=h.fst;exact⟨by rw[h1];simp,h.nd,h.rng⟩
 ·show(S.ln++[out]).Pairwise fun c d=>¬ ∀a,a∈c↔a∈d
  rw[List.pairwise_append];refine⟨i.g.lnew,by simp,fun c hc x hx=> ?_⟩;rw[zrc.1 hx];exact h.new i c hc
theorem EF(i:Inv n l d L S){k:Nat}(hk:k<S.lv.length){nx:List (Int×Int)}(hnx:∀x∈S.nx,x∈nx)(hun:∀a∈S.tr.drop (S.lv.getD k 0),((a.natAbs:Int),(S.v a.natAbs).score)∈nx)
 (hr:∀x∈nx,x∈S.nx\/∃a∈S.tr.drop (S.lv.getD k 0),x.1=a.natAbs):Inv n l d L (fG S k nx) :=
 ⟨i.t.backS hk i.lt,i.c.backS,i.r.backS i.t hk,i.x.backS i.t hnx hun hr,i.g.backS i.t hk,i.lc.backS i.t hk,i.cv.backS i.t hk,i.lt.backS i.t hk,fun j hj=>(i.w j hj).backS i.t hk (by rw[jo hk];exact i.t.lvh _ (zqu hk))⟩
theorem IW(i:Inv n l d L S){c:Cl}(h:(∃a,c=[a]/\a∈S.tr/\fU S a=0)\/∃j,j<S.nc/\∀a,a∈S.cl j↔a∈c):Inv n l d (L++[c]) S :=
 ⟨i.t,i.c,i.r,i.x,i.g,fun x hx=>by
  rcases zrf.1 hx with hx|hx
  ·exact i.lc x hx
  ·rw[zrc.1 hx];exact h,i.cv,i.lt,i.w⟩
theorem EG(i:Inv n l d S.ln S){out:Cl}{k:Nat}(h:Lrnt n l S out k){nx:List (Int×Int)}(hnx:∀x∈S.nx,x∈nx)(hun:∀a∈S.tr.drop (S.lv.getD k 0),((a.natAbs:Int),(S.v a.natAbs).score)∈nx)
 (hr:∀x∈nx,x∈S.nx\/∃a∈S.tr.drop (S.lv.getD k 0),x.1=a.natAbs) :
 (∀a,out=[a]->Inv n l d (S.ln++[out]) (kK (fG (lnS S out) k nx) a none)) /\
 (∀a b r,out=a::b::r->Inv n l d (S.ln++[out]) (kK (fD (fG (lnS S out) k nx) out) a (some S.nc))):=by
 have i1:=OE i h;have i2:Inv n l d S.ln (fG (lnS S out) k nx):=EF i1 h.klt hnx hun hr;have hk:=h.klt;have hbad:=h.bad;have hnd:=h.nd;have hrg:=h.rng;obtain⟨p,rest,he,h1,h2,h3,h4⟩:=h.fst;have hp:=i.t.rng p h1;have hpn:¬p∈S.tr.take (S.lv.getD k 0):=by rw[jo hk];intro hm;have:=(i.t.low h1 hk).1 hm;omega
 have f1:¬ -p∈S.tr.take (S.lv.getD k 0):=fun hm=>i.t.con h1 (zsh hm);have f2:¬- -p∈S.tr.take (S.lv.getD k 0):=by rw[Int.neg_neg];exact hpn
 have hout:out∈l++(S.ln++[out]):=by simp
 have hfalse:∀a∈rest,-a∈S.tr.take (S.lv.getD k 0):=by intro a ha;obtain⟨h5,h6⟩:=h3 a ha;rw[jo hk];exact(i.t.low h5 hk).2 (by rw[fV];exact h6)
 refine⟨?_,?_⟩
 ·intro a ha;have hrest:rest=[]:=by rw[he]at ha;exact(List.cons.inj ha).2
  have hap:a=-p:=by rw[he]at ha;exact(List.cons.inj ha).1.symm
  have hk0:k=0:=by
   rcases h4 with h4|⟨x,r,h4,_⟩
   ·exact h4.2
   ·rw[hrest]at h4;cases h4
  subst hap;have hlv:(fG (lnS S out) k nx).lv=[]:=by
   show S.lv.take k=[];rw[hk0];rfl
  have hder:Der (l++(S.ln++[out])) [] (-p):=by refine .unit out (-p) hout (by rw[ha];simp) fun b hb hne=> ?_;rw[ha]at hb;exact absurd (zrc.1 hb) hne
  have i3:=i2.letS (a:=-p) (r:=Option.none) (by omega) (by rw[Int.natAbs_neg];exact hp.2) f1 f2 (fun j hj=>by cases hj) (fun _=>hlv) (fun _=>hder);refine IW i3 (.inl ⟨-p,ha,?_,?_⟩)
  ·show -p∈(fG (lnS S out) k nx).tr++[-p];simp
  ·rw[wV,hlv];rfl
 ·intro a b r ha;have hap:a=-p:=by rw[he]at ha;exact(List.cons.inj ha).1.symm
  have hrest:rest=b::r:=by rw[he]at ha;exact(List.cons.inj ha).2
  subst hap;have hb:fU S b=k:=by
   rcases h4 with h4|⟨x,r',h4,h5⟩
   ·rw[hrest]at h4;cases h4.1
   ·rw[hrest]at h4;cases h4;exact h5
  have tt:=i2.t;have hw:Wat (fG (lnS S out) k nx).hd (kK (fD (fG (lnS S out) k nx) out) (-p) (some S.nc)) S.nc:=by
   intro x hx hm;have hx:x∈(upd S.cl S.nc out S.nc).take 2:=hx;have hm:-x∈(S.tr.take (S.lv.getD k 0)++[-p]).take (S.lv.getD k 0):=hm;rw[bC,ha]at hx;simp only[List.take_succ_cons,List.take_zero,zrj,zrp,or_false]at hx;rw[List.take_append_of_le_length (by rw[zrl];have:=i.lt _ (zqu hk);rw[jo hk];omega),List.take_take,Nat.min_self]at hm;rcases hx with rfl|rfl
   ·exact absurd hm f2
   ·refine⟨-p,?_,?_,?_⟩
    ·show -p∈(upd S.cl S.nc out S.nc).take 2;rw[bC,ha];simp
    ·show -p∈S.tr.take (S.lv.getD k 0)++[-p];simp
    ·rw[wV];show((S.lv.take k).length:Int)<=_;have hxp:x.natAbs≠(-p).natAbs:=by
      rw[ha]at hnd;simp only[zrd,List.nodup_cons,zrj,not_or]at hnd;exact fun e=>hnd.1.1 e.symm
     have e:fU (kK (fD (fG (lnS S out) k nx) out) (-p) (some S.nc)) x=fU S x:=by show((upd _ _ _ x.natAbs:VS)).level=_;rw[bI hxp];exact nC (S:=lnS S out) (k:=k) (nx:=nx)
     rw[e,hb,zrl];omega
  obtain⟨p1,p2,p3,p4,p5,p6,p7,p8,p9⟩:=yI i2 (c:=out) (by rw[ha];simp) hnd hrg ⟨out,hout,fun _=>Iff.rfl⟩;have g0:-p≠0:=by omega
  have gn:(-p).natAbs<=n:=by rw[Int.natAbs_neg];exact hp.2
  have hreas:∀j,Option.some S.nc=Option.some j->j<S.nc+1/\-p∈upd S.cl S.nc out j/\∀b∈upd S.cl S.nc out j,b≠-p->-b∈S.tr.take (S.lv.getD k 0):=by intro j hj;cases hj;rw[bC];refine⟨Nat.lt_succ_self _,by rw[ha];simp,?_⟩;intro c hc hne;rw[he]at hc;exact hfalse c ((zrj.1 hc).resolve_left hne)
  have i4:Inv n l d S.ln (kK (fD (fG (lnS S out) k nx) out) (-p) (some S.nc)):=by
   refine⟨p1.letS g0 gn f1 f2,p2.letS,p3.letS p1 f1 f2 hreas (fun h=>by cases h),p4.letS,p5.letS p1 f1 f2 (fun hl=> ?_),p6.letS p1 f1 f2,p7.letS p1 f1 f2,p8.letS,fun j hj=> ?_⟩
   ·refine .unit out (-p) hout (by rw[ha];simp) fun c hc hne=> ?_;rw[he]at hc;have hc2:=hfalse c ((zrj.1 hc).resolve_left hne);obtain⟨m,hm,e⟩:=List.getElem_of_mem hc2;have:=p5.d0 m hm (by rw[hl];rfl);rw[<-e];exact this
   ·have hj:j<S.nc+1:=hj;by_cases hje:j=S.nc
    ·subst hje;exact hw
    ·exact(p9 j (by show j<S.nc;omega)).letS p1 p1.hdl f1 f2
  refine IW i4 (.inr ⟨S.nc,Nat.lt_succ_self _,fun x=> ?_⟩);show x∈upd S.cl S.nc out S.nc↔_;rw[bC]
end
def KY(c:Cl)(v:Nat):Nat:=if(v:Int)∈c then 1 else if -(v:Int)∈c then 2 else 0
def uT(c:Cl):Nat->Nat
 |0=>0
 |v+1=>uT c v+3^v*KY c (v+1)
theorem U7(c:Cl)(v:Nat):KY c v<3:=by
 unfold KY;split
 ·omega
 ·split<;>omega
theorem tN(c:Cl):∀n,uT c n<3^n
 |0=>by simp[uT]
 |n+1=>by have h1:=tN c n;have h2:=U7 c (n+1);unfold uT;rw[Nat.pow_succ];have:3^n*KY c (n+1)<=3^n*2:=Nat.mul_le_mul_left _ (by omega);omega
theorem EH{c d:Cl}:∀ {n},uT c n=uT d n->∀v,1<=v->v<=n->KY c v=KY d v
 |0,_,v,h1,h2=>by omega
 |n+1,h,v,h1,h2=>by
  have l1:=tN c n;have l2:=tN d n;unfold uT at h;have hd:KY c (n+1)=KY d (n+1):=by
   have e1:(uT c n+3^n*KY c (n+1))/3^n=KY c (n+1):=by rw[Nat.add_mul_div_left _ _ (Nat.pow_pos (by omega)),Nat.div_eq_of_lt l1,Nat.zero_add]
   have e2:(uT d n+3^n*KY d (n+1))/3^n=KY d (n+1):=by rw[Nat.add_mul_div_left _ _ (Nat.pow_pos (by omega)),Nat.div_eq_of_lt l2,Nat.zero_add]
   rw[<-e1,<-e2,h]
  by_cases hv:v=n+1
  ·rw[hv];exact hd
  ·rw[hd]at h;exact EH (n:=n) (by omega) v h1 (by omega)
variable{c:Cl}
theorem pU{d:Cl}{n:Nat}(hc:(c.map Int.natAbs).Nodup)(hr:∀a∈c,a≠0/\a.natAbs<=n)(hd:(d.map Int.natAbs).Nodup)(hr2:∀a∈d,a≠0/\a.natAbs<=n)(h:uT c n=uT d n):∀a,a∈c->a∈d:=by
 intro a ha;obtain⟨h0,hn⟩:=hr a ha;have e:=EH h a.natAbs (by omega) hn;have hno:=yE hc a ha h0;unfold KY at e;rcases show((a.natAbs:Nat):Int)=a\/((a.natAbs:Nat):Int)=-a by omega with h1|h1
 ·rw[h1,if_pos ha]at e;by_cases h2:a∈d
  ·exact h2
  ·rw[if_neg h2]at e;split at e<;>omega
 ·rw[h1,if_neg hno,Int.neg_neg,if_pos ha]at e;by_cases h2:-a∈d
  ·rw[if_pos h2]at e;omega
  ·rw[if_neg h2]at e;by_cases h3:a∈d
   ·exact h3
   ·rw[if_neg h3]at e;omega
section
variable{n:Nat}{l d L:List Cl}{S:St}
theorem Log.few(g:Log n l S):S.ln.length<=3^n:=by
 have h:=gI (m:=3^n) (l:=S.ln.map fun c=>uT c n) (by
  rw[List.Nodup,List.pairwise_map];refine g.lnew.imp_of_mem fun {a b} ha hb hab e=>hab fun x=> ?_;obtain⟨_,h1,h2⟩:=g.lrg a ha;obtain⟨_,h3,h4⟩:=g.lrg b hb;exact⟨pU h1 h2 h3 h4 e x,pU h3 h4 h1 h2 e.symm x⟩) (by
  intro x hx;obtain⟨c,_,rfl⟩:=zrh.1 hx;exact tN c n)
 simpa using h
variable{out:Cl}{k:Nat}
theorem Lrnt.few(h:Lrnt n l S out k)(i:Inv n l d S.ln S):S.ln.length+1<=3^n:=by
 have:=(OE i h).g.few;have e:(lnS S out).ln.length=S.ln.length+1:=by show(S.ln++[out]).length=_;simp
 omega
def lD(n:Nat)(nx:List (Int×Int)):St:={v:=fun _=>⟨0,0,none,0,0⟩,cl:=fun _=>[],nc:=0,wt:=fun _=>[],tr:=[],hd:=0,lv:=[],ln:=[],nx:=nx}
theorem RS(n:Nat)(l:List Cl){nx:List (Int×Int)}(h1:∀i:Nat,1<=i->i<=n->((i:Int),0)∈nx)(h2:∀t∈nx,1<=t.1/\t.1<=n):Inv n l [] [] (lD n nx) where
 t:=⟨by simp[lD],fun a ha=>(by cases ha),fun i hi hn=>(by simp[lD,Gn]),fun p hp=>(by simp[lD]at hp),List.Pairwise.nil,fun x hx=>(by cases hx),zrb _⟩
 c:=⟨fun j hj=>(by simp[lD]at hj),fun j hj=>(by simp[lD]at hj),fun j hj=>(by simp[lD]at hj),fun a j hj=>(by cases hj),fun j hj=>(by simp[lD]at hj),fun a=>List.nodup_nil⟩
 r:=⟨fun p hp=>(by simp[lD]at hp),fun p hp=>(by simp[lD]at hp)⟩
 x:=⟨fun i hi hn _=>h1 i hi hn,h2⟩
 g:=⟨fun p hp=>(by simp[lD]at hp),fun j hj=>(by simp[lD]at hj),fun k hk=>(by simp[lD]at hk),fun c hc=>(by cases hc),List.Pairwise.nil⟩
 lc:=fun c hc=>by cases hc
 cv:=fun c hc=>by cases hc
 lt:=fun x hx=>by cases hx
 w:=fun j hj=>by simp[lD]at hj
theorem CG(i:Inv n l d L S){c:Cl}(h:(∃a∈c,-a∈c)\/(∃a∈c,a∈S.tr/\fU S a=0)\/∃j,j<S.nc/\∀a,a∈S.cl j↔a∈c):Inv n l (d++[c]) L S :=
 ⟨i.t,i.c,i.r,i.x,i.g,i.lc,fun x hx=>by
  rcases zrf.1 hx with hx|hx
  ·exact i.cv x hx
  ·rw[zrc.1 hx];exact h,i.lt,i.w⟩
def ddp:Cl->Cl->Option Cl
 |e,[]=>some e
 |e,a::c=>if -a∈e then none else if a∈e then ddp e c else ddp (e++[a]) c
theorem CJ:∀ {c e c0:Cl},(∀a∈e,a∈c0)->(∀a∈c,a∈c0)->ddp e c=none->∃a∈c0,-a∈c0
 |[],e,c0,_,_,h=>by cases h
 |a::c,e,c0,h1,h2,h=>by
  unfold ddp at h;split at h
  ·rename_i h3;exact⟨a,h2 a (by simp),h1 _ h3⟩
  ·split at h
   ·exact CJ h1 (fun x hx=>h2 x (by simp[hx])) h
   ·refine CJ (fun x hx=> ?_) (fun x hx=>h2 x (by simp[hx])) h;rcases zrf.1 hx with hx|hx
    ·exact h1 x hx
    ·rw[zrc.1 hx];exact h2 a (by simp)
theorem qB:∀ {c e e':Cl},(e.map Int.natAbs).Nodup->(∀a∈c,a≠0)->ddp e c=some e'->(e'.map Int.natAbs).Nodup/\∀a,a∈e'↔a∈e\/a∈c
 |[],e,e',hn,_,h=>by cases h;exact⟨hn,by simp⟩
 |a::c,e,e',hn,h0,h=>by
  have h0':∀b∈c,b≠0:=fun b hb=>h0 b (by simp[hb]);unfold ddp at h;split at h
  ·cases h
  ·rename_i h3;split at h
   ·rename_i h4;obtain⟨h5,h6⟩:=qB hn h0' h;refine⟨h5,fun x=> ?_⟩;rw[h6,zrj];constructor
    ·rintro(h|h)
     ·exact .inl h
     ·exact .inr (.inr h)
    ·rintro(h|h|h)
     ·exact .inl h
     ·exact .inl (h▸h4)
     ·exact .inr h
   ·rename_i h4;obtain⟨h5,h6⟩:=qB (e:=e++[a]) (by
     rw[zql,List.map_singleton,List.nodup_append];refine⟨hn,by simp,fun x hx y hy=> ?_⟩;obtain⟨b,hb,rfl⟩:=zrh.1 hx;rw[zrc.1 hy];intro he;rcases show b=a\/b=-a by omega with rfl|rfl
     ·exact h4 hb
     ·exact h3 hb) h0' h
    refine⟨h5,fun x=> ?_⟩;rw[h6,zrj,zrf,zrc];constructor
    ·rintro((h|h)|h)
     ·exact .inl h
     ·exact .inr (.inl h)
     ·exact .inr (.inr h)
    ·rintro(h|h|h)
     ·exact .inl (.inl h)
     ·exact .inl (.inr h)
     ·exact .inr h
theorem RU(i:Inv n l d L S){c:Cl}(h:ddp [] c=none):Inv n l (d++[c]) L S:=CG i (.inl (CJ (by simp) (fun _ h=>h) h))
theorem U8(i:Inv n l d L S){c e:Cl}(hc:c∈l)(hr:∀a∈c,a≠0/\a.natAbs<=n)(h:ddp [] c=some e)(h2:2<=e.length)(hh:S.hd=0):Inv n l (d++[c]) L (fD S e):=by
 obtain⟨h3,h4⟩:=qB (by simp) (fun a ha=>(hr a ha).1) h;have hm:∀a,a∈e↔a∈c:=fun a=>by rw[h4];simp
 refine CG (i.watch h2 h3 (fun a ha=>hr a ((hm a).1 ha)) ⟨c,List.mem_append_left _ hc,hm⟩ ?_) (.inr (.inr ⟨S.nc,Nat.lt_succ_self _,fun a=>by rw[jK];exact hm a⟩));intro x hx hx2;rw[hh]at hx2;simp at hx2
variable{a:Int}
theorem Hf(hr:∀a∈c,a≠0/\a.natAbs<=n)(h:ddp [] c=some [a]):∀b,b∈c↔b=a:=by obtain⟨h3,h4⟩:=qB (by simp) (fun a ha=>(hr a ha).1) h;intro b;have:=h4 b;simp at this;exact this.symm
theorem U9(i:Inv n l d L S){c:Cl}{a:Int}(hc:c∈l)(hr:∀a∈c,a≠0/\a.natAbs<=n)(h:ddp [] c=some [a])(hl:S.lv=[])(h1:¬a∈S.tr)(h2:¬ -a∈S.tr):Inv n l (d++[c]) L (kK S a none):=by
 have hm:=Hf hr h;obtain⟨h3,h4⟩:=hr a ((hm a).2 rfl);refine CG (i.letS h3 h4 h1 h2 (fun j hj=>by cases hj) (fun _=>hl) fun _=> .unit c a (List.mem_append_left _ hc) ((hm a).2 rfl) fun b hb hne=>absurd ((hm b).1 hb) hne) (.inr (.inl ⟨a,(hm a).2 rfl,?_,?_⟩))
 ·show a∈S.tr++[a];simp
 ·rw[wV,hl];rfl
theorem Va(i:Inv n l d L S){c:Cl}{a:Int}(hr:∀a∈c,a≠0/\a.natAbs<=n)(h:ddp [] c=some [a])(hl:S.lv=[])(h1:a∈S.tr):Inv n l (d++[c]) L S:=by have hm:=Hf hr h;refine CG i (.inr (.inl ⟨a,(hm a).2 rfl,h1,?_⟩));have:=i.t.lev_rng h1;rw[hl]at this;simp at this;omega
theorem EI(hr:∀a∈c,a≠0/\a.natAbs<=n)(hc:c∈l)(h:ddp [] c=some []):Bad (l++S.ln) []:=by obtain⟨_,h4⟩:=qB (by simp) (fun a ha=>(hr a ha).1) h;refine .inl ⟨c,List.mem_append_left _ hc,fun b hb=> ?_⟩;have:=(h4 b).2 (.inr hb);cases this
theorem Vb(i:Inv n l d L S){c:Cl}{a:Int}(hc:c∈l)(hr:∀a∈c,a≠0/\a.natAbs<=n)(h:ddp [] c=some [a])(hl:S.lv=[])(h1:-a∈S.tr):Bad (l++S.ln) []:=by have hm:=Hf hr h;refine .inl ⟨c,List.mem_append_left _ hc,fun b hb=> ?_⟩;rw[(hm b).1 hb];obtain⟨p,hp,e⟩:=List.getElem_of_mem h1;rw[<-e];exact i.g.d0 p hp (by rw[hl];rfl)
def nxS(S:St)(nx:List (Int×Int)):St:={S with nx:=nx}
theorem Ua(i:Inv n l d L S){nx:List (Int×Int)}(h1:∀k,1<=k->k<=n->(S.v k).value=0->((k:Int),(S.v k).score)∈nx)(h2:∀t∈nx,1<=t.1/\t.1<=n):Inv n l d L (nxS S nx) :=
 ⟨⟨i.t.nd,i.t.rng,i.t.val,i.t.lvl,i.t.lvs,i.t.lvh,i.t.hdl⟩,⟨i.c.c2,i.c.cnd,i.c.crg,i.c.wts,i.c.wtc,i.c.wnd⟩,⟨i.r.rea,i.r.dec⟩,⟨h1,h2⟩,⟨i.g.d0,i.g.src,i.g.rup,i.g.lrg,i.g.lnew⟩,i.lc,i.cv,i.lt,i.w⟩
def uU(S:St)(k:Nat)(s:Int):St:={S with v:=upd S.v k {S.v k with score:=s}}
theorem oI{s:Int}(i:Nat):((uU S k s).v i).value=(S.v i).value/\((uU S k s).v i).level=(S.v i).level/\((uU S k s).v i).reason=(S.v i).reason/\((uU S k s).v i).last=(S.v i).last:=by
 unfold uU upd;dsimp only;split
 ·rename_i h;subst h;exact⟨rfl,rfl,rfl,rfl⟩
 ·exact⟨rfl,rfl,rfl,rfl⟩
theorem nD{s:Int}:fU (uU S k s) a=fU S a:=(oI _).2.1
theorem RV(i:Inv n l d L S){k:Nat}{s:Int}(hk:1<=k/\k<=n)(hv:(S.v k).value≠0):Inv n l d L (uU S k s):=by
 refine⟨⟨i.t.nd,i.t.rng,fun j h1 h2=>((oI j).1).trans (i.t.val j h1 h2),fun p hp=>nD.trans (i.t.lvl p hp),i.t.lvs,i.t.lvh,i.t.hdl⟩,⟨i.c.c2,i.c.cnd,i.c.crg,i.c.wts,i.c.wtc,i.c.wnd⟩,
  ⟨fun p hp j hj=>i.r.rea p hp j (((oI _).2.2.1).symm.trans hj),fun p hp hj=>i.r.dec p hp (((oI _).2.2.1).symm.trans hj)⟩,⟨fun j h1 h2 hz=> ?_,i.x.2⟩,⟨i.g.d0,i.g.src,i.g.rup,i.g.lrg,i.g.lnew⟩,?_,?_,i.lt,?_⟩
 ·have hz':(S.v j).value=0:=((oI j).1).symm.trans hz;have hne:j≠k:=fun e=>hv (e▸hz');show((j:Int),(upd S.v k _ j).score)∈S.nx;rw[bI hne];exact i.x.all j h1 h2 hz'
 ·intro c hc;rcases i.lc c hc with⟨a,h1,h2,h3⟩|h
  ·exact .inl ⟨a,h1,h2,nD.trans h3⟩
  ·exact .inr h
 ·intro c hc;rcases i.cv c hc with h|⟨a,h1,h2,h3⟩|h
  ·exact .inl h
  ·exact .inr (.inl ⟨a,h1,h2,nD.trans h3⟩)
  ·exact .inr (.inr h)
 ·intro j hj x hx hm;obtain⟨y,h1,h2,h3⟩:=i.w j hj x hx hm;exact⟨y,h1,h2,by rw[nD,nD];exact h3⟩
end
def V7(nt:Int):Cl->Cl
 |x::y::r=>if x=nt then y::x::r else x::y::r
 |c=>c
theorem IX(S:St)(j:Nat):swS S j (S.cl j)=S:=by
 have:upd S.cl j (S.cl j)=S.cl:=funext fun q=>by
  by_cases he:q=j
  ·subst he;rw[bC]
  ·rw[bI he]
 show {S with cl:=upd S.cl j (S.cl j),wt:=S.wt}=S;rw[this]
structure PI(n:Nat)(l d L:List Cl)(S:St)(nt:Int)(K R:List Nat):Prop where
 i:Inv n l d L S
 h:S.hd<S.tr.length
 e:S.tr[S.hd]=-nt
 wt:S.wt nt=K++R
 dn:∀j,j<S.nc->¬j∈R->Wat (S.hd+1) S j
structure Pr(S S':St):Prop where
 lv:S'.lv=S.lv
 nx:S'.nx=S.nx
 ln:S'.ln=S.ln
 nc:S'.nc=S.nc
theorem Pr.refl(S:St):Pr S S:=⟨rfl,rfl,rfl,rfl⟩
theorem Pr.trans{A B C:St}(p:Pr A B)(q:Pr B C):Pr A C:=⟨q.lv.trans p.lv,q.nx.trans p.nx,q.ln.trans p.ln,q.nc.trans p.nc⟩
section
variable{n:Nat}{l d L:List Cl}{S:St}{nt u:Int}{K R:List Nat}{j:Nat}{r:Cl}
theorem PI.start(i:Inv n l d L S)(h:S.hd<S.tr.length):PI n l d L S (-S.tr[S.hd]) [] (S.wt (-S.tr[S.hd])) :=
 ⟨i,h,by omega,rfl,fun j hj hn=>OB h (by omega) (i.w j hj) fun hm=>hn (i.c.wtc j hj _ hm)⟩
theorem PI.mem(p:PI n l d L S nt K (j::R)):j<S.nc/\nt∈(S.cl j).take 2/\¬j∈K/\¬j∈R:=by
 have hm:j∈S.wt nt:=by rw[p.wt];simp
 have hn:=p.i.c.wnd nt;rw[p.wt,List.nodup_append]at hn;refine⟨(p.i.c.wts nt j hm).1,(p.i.c.wts nt j hm).2,fun hk=>hn.2.2 j hk j (by simp) rfl,fun hr=> ?_⟩;exact(List.nodup_cons.1 hn.2.1).1 hr
theorem PI.shape(p:PI n l d L S nt K (j::R)):∃u r,V7 nt (S.cl j)=u::nt::r/\PI n l d L (swS S j (u::nt::r)) nt K (j::R):=by
 obtain⟨hj,hm,_⟩:=p.mem;obtain⟨x,y,r0,ec⟩:∃x y r0,S.cl j=x::y::r0:=by
  have:=p.i.c.c2 j hj
  match h:S.cl j,this with
  |x::y::r0,_=>exact⟨x,y,r0,rfl⟩
 by_cases hx:x=nt
 ·subst hx;refine⟨y,r0,by rw[ec];exact if_pos rfl,p.i.swS ec,p.h,p.e,p.wt,fun q hq hn=>(p.dn q hq hn).two fun a=>CE ec q a⟩
 ·have hy:y=nt:=by
   rw[ec]at hm;simp only[List.take_succ_cons,List.take_zero,zrj,zrp,or_false]at hm;rcases hm with hm|hm
   ·exact absurd hm.symm hx
   ·exact hm.symm
  subst hy;refine⟨x,r0,by rw[ec];exact if_neg hx,?_⟩;rw[<-ec,IX];exact p
theorem PI.stay(p:PI n l d L S nt K (j::R))(hc:S.cl j=u::nt::r)(hu:u∈S.tr):PI n l d L S nt (K++[j]) R :=
 ⟨p.i,p.h,p.e,by rw[p.wt];simp,fun q hq hn=>by
  by_cases he:q=j
  ·subst he;exact ED p.i.t p.h hc p.e hu
  ·exact p.dn q hq (by simp[he,hn])⟩
theorem PI.move(p:PI n l d L S nt K (j::R))(hc:S.cl j=u::nt::r){k:Nat}(hk:k<r.length)(hx:¬u∈S.tr)(ha:¬ -r[k]∈S.tr):PI n l d L (mvS S j nt r[k] (u::r[k]::r.set k nt)) nt K R:=by
 obtain⟨hj,hm,hK,hR⟩:=p.mem;obtain⟨a,ea⟩:∃a,a=r[k]:=⟨_,rfl⟩;rw[<-ea]at ha ⊢;have e1:r=r.take k++a::r.drop (k+1):=by rw[ea,List.getElem_cons_drop,List.take_append_drop]
 have e2:r.set k nt=r.take k++nt::r.drop (k+1):=by rw[List.set_eq_take_append_cons_drop,if_pos hk]
 rw[e2];have hc':S.cl j=u::nt::(r.take k++a::r.drop (k+1)):=by rw[<-e1];exact hc
 have hnd:=p.i.c.cnd j hj;rw[hc']at hnd;obtain⟨n1,n2,n3⟩:=Xd hnd;have hw:=RP p.i.t p.h hc' n1 p.e (p.i.w j hj) hx ha;refine⟨p.i.mvS hj hc' (hw.weak (Nat.le_succ _)),p.h,p.e,?_,fun q hq hn=> ?_⟩
 ·show(if nt=nt then(S.wt nt).erase j else _)=_;rw[if_pos rfl,p.wt,List.erase_append_right _ hK,List.erase_cons_head]
 ·by_cases he:q=j
  ·subst he;exact hw
  ·exact(p.dn q hq (by simp[he,hn])).two fun b=>by rw[bI he]
theorem PI.lets(p:PI n l d L S nt K (j::R))(hc:S.cl j=u::nt::r)(h1:¬u∈S.tr)(h2:¬ -u∈S.tr)(ha:∀b∈r,-b∈S.tr):PI n l d L (kK S u (some j)) nt (K++[j]) R:=by
 obtain⟨hj,hm,hK,hR⟩:=p.mem;obtain⟨u0,un⟩:=p.i.c.crg j hj u (by rw[hc];simp);have hnt:-nt∈S.tr:=by rw[<-p.e];exact zqu p.h
 have i2:Inv n l d L (kK S u (some j)):=p.i.letS u0 un h1 h2 (fun q hq=>by
  cases hq;refine⟨hj,by rw[hc];simp,fun b hb hne=> ?_⟩;rw[hc]at hb;simp only[zrj]at hb;rcases hb with hb|hb|hb
  ·exact absurd hb hne
  ·rw[hb];exact hnt
  ·exact ha b hb) (fun h=>by cases h) (fun h=>by cases h)
 have hh:(kK S u (some j)).hd<(kK S u (some j)).tr.length:=by show S.hd<(S.tr++[u]).length;rw[zqa];have:=p.h;omega
 have he:(kK S u (some j)).tr[(kK S u (some j)).hd]=-nt:=by exact(List.getElem_append_left p.h).trans p.e
 refine⟨i2,hh,he,by show S.wt nt=_;rw[p.wt];simp,fun q hq hn=> ?_⟩;by_cases hqj:q=j
 ·subst hqj;exact ED i2.t hh hc he (by show u∈S.tr++[u];simp)
 ·exact(p.dn q hq (by simp[hqj,hn])).letS p.i.t p.h h1 h2
theorem PI.done(p:PI n l d L S nt K []):Inv n l d L (He S):=p.i.nextS p.h fun j hj=>p.dn j hj (by simp)
end
structure Sco(S S':St):Prop where
 cl:S'.cl=S.cl
 nc:S'.nc=S.nc
 wt:S'.wt=S.wt
 tr:S'.tr=S.tr
 hd:S'.hd=S.hd
 lv:S'.lv=S.lv
 ln:S'.ln=S.ln
 nx:S'.nx=S.nx
 value:∀i,(S'.v i).value=(S.v i).value
 level:∀i,(S'.v i).level=(S.v i).level
 reason:∀i,(S'.v i).reason=(S.v i).reason
theorem Sco.refl(S:St):Sco S S:=⟨rfl,rfl,rfl,rfl,rfl,rfl,rfl,rfl,fun _=>rfl,fun _=>rfl,fun _=>rfl⟩
section
variable{n:Nat}{l d L:List Cl}{S S':St}
theorem Sco.bump(h:Sco S S')(k:Nat)(s:Int):Sco S (uU S' k s) :=
 ⟨h.cl,h.nc,h.wt,h.tr,h.hd,h.lv,h.ln,h.nx,fun i=>(oI i).1.trans (h.value i),fun i=>(oI i).2.1.trans (h.level i),fun i=>(oI i).2.2.1.trans (h.reason i)⟩
theorem Sco.llev(h:Sco S S')(a:Int):fU S' a=fU S a:=h.level _
variable{out:Cl}{k:Nat}
theorem Lrnt.sco(h:Lrnt n l S out k)(q:Sco S S'):Lrnt n l S' out k:=by
 refine⟨by rw[q.ln];exact h.bad,h.nd,h.rng,?_,by rw[q.lv];exact h.klt⟩;obtain⟨p,rest,h1,h2,h3,h4,h5⟩:=h.fst;refine⟨p,rest,h1,by rw[q.tr];exact h2,by rw[q.llev,q.lv];exact h3,fun a ha=>⟨by rw[q.tr];exact(h4 a ha).1,by rw[q.llev];exact(h4 a ha).2⟩,?_⟩;rcases h5 with h5|⟨a,r,h5,h6⟩
 ·exact .inl h5
 ·exact .inr ⟨a,r,h5,by rw[q.llev];exact h6⟩
theorem OG(i:Inv n l d L S){seen:List Nat}{rest rest':Cl}(k:LI S seen rest){q:Nat}(hq:q<S.tr.length)(hs:(S.tr[q]).natAbs∈seen)(hD:Go.Proofs.YthdidjjecjhenaaGreat.fU S S.tr[q]=S.lv.length)
 (hb:Bad (l++S.ln) (Cm (-S.tr[q]::rest))) (hp:rest'.Perm rest) {m:Nat} (hm:(rest'=[]/\m=0)\/∃a r,rest'=a::r/\Go.Proofs.YthdidjjecjhenaaGreat.fU S a=m) (hmax:∀a∈rest',Go.Proofs.YthdidjjecjhenaaGreat.fU S a<=m) (hlv:0<S.lv.length)
 (hbad:Bad (l++S.ln) (Cm (-S.tr[q]::rest'))):Lrnt n l S (-S.tr[q]::rest') m where
 bad:=hbad
 nd:=by
  rw[zrd,List.nodup_cons];refine⟨fun hx=> ?_,(hp.map _).nodup_iff.2 k.rn⟩;obtain⟨b,hb1,hb2⟩:=zrh.1 hx;obtain⟨h1,h2,h3,h4⟩:=k.s2 b (hp.mem_iff.1 hb1);have h5:-b=S.tr[q]:=tH i.t.nd (-b) h1 _ (zqu hq) (by rw[Int.natAbs_neg,hb2,Int.natAbs_neg]);rw[<-h5,fV]at hD;omega
 rng a ha:=by
  rcases zrj.1 ha with rfl|ha
  ·have:=i.t.rng _ (zqu hq);omega
  ·have:=i.t.rng _ (k.s2 a (hp.mem_iff.1 ha)).1;omega
 fst:=⟨S.tr[q],rest',rfl,zqu hq,hD,fun a ha=>⟨(k.s2 a (hp.mem_iff.1 ha)).1,hmax a ha⟩,hm⟩
 klt:=by
  rcases hm with⟨_,rfl⟩|⟨a,r,h1,h2⟩
  ·exact hlv
  ·have:=(k.s2 a (hp.mem_iff.1 (by rw[h1];simp))).2.2.1;omega
end
section
variable{n:Nat}{l d Lc:List Cl}{S:St}
variable{seen seen':List Nat}{i:Nat}
theorem vZ.mono(h:vZ S seen i)(hs:∀v∈seen,v∈seen')(hn:∀(hi:i<S.tr.length),(S.tr[i]).natAbs∈seen'->(S.tr[i]).natAbs∈seen):vZ S seen' i:=by intro hi h1 h2;obtain⟨k,k1,k2,k3⟩:=h hi (hn hi h1) h2;exact⟨k,k1,k2,fun b hb hne=>⟨(k3 b hb hne).1,(k3 b hb hne).2.mono hs⟩⟩
theorem KZ(t:Tr n S){i q:Nat}(hi:i<S.tr.length){a:Int}(ha:-a∈S.tr.take q)(he:(S.tr[i]).natAbs=a.natAbs):i<q:=by
 obtain⟨p,hp,hpq,e⟩:=jJ ha;have h1:S.tr[i]=S.tr[p]:=tH t.nd _ (zqu hi) _ (zqu hp) (by rw[he,e,Int.natAbs_neg]);have hnd:=List.pairwise_iff_getElem.1 t.nodup;rcases Nat.lt_trichotomy i p with h2|h2|h2
 ·omega
 ·omega
 ·exact absurd h1.symm (hnd p i hp hi h2)
structure LA(S:St)(j0 q:Nat)(p:Int)(j:Nat)(seen:List Nat)(rest:Cl):Prop where
 li:LI S seen rest
 dn:∀i,q<i->vZ S seen i
 qn:q<=S.tr.length
 jn:j<S.nc
 jf:∀b∈S.cl j,b≠p->-b∈S.tr.take q
 pp:(p=0/\q=S.tr.length/\j=j0)\/((∃hq:q<S.tr.length,p=S.tr[q])/\p∈S.cl j/\dM S seen q≠0/\∀b∈S.cl j0,Acc S seen b)
structure LC(S:St)(j0 q:Nat)(seen:List Nat)(rest:Cl):Prop where
 li:LI S seen rest
 dn:∀i,q<=i->vZ S seen i
 qn:q<=S.tr.length
 op:dM S seen q≠0
 ac:∀b∈S.cl j0,Acc S seen b
variable{j0 q j:Nat}{rest:Cl}
theorem LA.mark{p:Int}(k:LA S j0 q p j seen rest)(t:Tr n S){a:Int}(ha:a∈S.cl j)(hap:a≠p)(h0:fU S a≠0)(hs:¬a.natAbs∈seen) :
 (fU S a=S.lv.length->LA S j0 q p j (seen++[a.natAbs]) rest/\dM S (seen++[a.natAbs]) q=dM S seen q+1) /\
 (fU S a≠S.lv.length->LA S j0 q p j (seen++[a.natAbs]) (rest++[a])/\dM S (seen++[a.natAbs]) q=dM S seen q):=by
 have hat:=k.jf a ha hap;obtain⟨m1,m2⟩:=k.li.mark t hat h0 hs;have hsub:∀v∈seen,v∈seen++[a.natAbs]:=fun v hv=>List.mem_append_left _ hv;have dn:∀i,q<i->vZ S (seen++[a.natAbs]) i:=fun i hi=>(k.dn i hi).mono hsub fun hil hm=>by
  rcases zrf.1 hm with hm|hm
  ·exact hm
  ·have:=KZ t hil hat (zrc.1 hm);omega
 refine⟨fun h=>⟨⟨(m1 h).1,dn,k.qn,k.jn,k.jf,?_⟩,(m1 h).2⟩,fun h=>⟨⟨(m2 h).1,dn,k.qn,k.jn,k.jf,?_⟩,(m2 h).2⟩⟩
 ·rcases k.pp with h1|⟨h1,h2,h3,h4⟩
  ·exact .inl h1
  ·exact .inr ⟨h1,h2,by rw[(m1 h).2];omega,fun b hb=>(h4 b hb).mono hsub⟩
 ·rcases k.pp with h1|⟨h1,h2,h3,h4⟩
  ·exact .inl h1
  ·exact .inr ⟨h1,h2,by rw[(m2 h).2];exact h3,fun b hb=>(h4 b hb).mono hsub⟩
theorem LA.done{p:Int}(k:LA S j0 q p j seen rest)(t:Tr n S)(h0:∀b∈S.cl j0,b≠0)(hlv:0<S.lv.length)(htop:∃b∈S.cl j0,fU S b=S.lv.length)
 (hac:∀b∈S.cl j,b≠p->Acc S seen b):LC S j0 q seen rest:=by
 rcases k.pp with⟨rfl,hq,rfl⟩|⟨⟨hq,hp⟩,h2,h3,h4⟩
 ·have hac:∀b∈S.cl j,Acc S seen b:=fun b hb=>hac b hb (h0 b hb);refine⟨k.li,fun i hi h=>by omega,k.qn,?_,hac⟩;obtain⟨b,hb,hl⟩:=htop;have h1:=k.jf b hb (h0 b hb);have h2:b.natAbs∈seen:=(hac b hb).resolve_left (by omega);unfold dM;have:0<(S.tr.take q).countP fun a=>decide (a.natAbs∈seen)&&decide (fU S a=S.lv.length):=List.countP_pos_iff.2 ⟨-b,h1,by simp[h2,fV,hl]⟩;omega
 ·refine⟨k.li,fun i hi=> ?_,k.qn,h3,h4⟩;rcases Nat.lt_or_eq_of_le hi with hi|rfl
  ·exact k.dn i hi
  ·intro _ _ _;exact⟨j,k.jn,hp▸h2,fun b hb hne=>by
    rw[<-hp]at hne;exact⟨k.jf b hb hne,hac b hb hne⟩⟩
variable{q':Nat}
theorem LC.next(k:LC S j0 q seen rest)(i:Inv n l d Lc S)(hlv:0<S.lv.length)(hj0:j0<S.nc)(hf:∀b∈S.cl j0,-b∈S.tr)(h1:q'+1<=q)(h2:q'<S.tr.length)(hg:Gap S seen (q'+1) q)(hs:(S.tr[q']).natAbs∈seen) :
 fU S S.tr[q']=S.lv.length/\dM S seen q=dM S seen q'+1/\(dM S seen q'=0->Bad (l++S.ln) (Cm (-S.tr[q']::rest))) /\
 (dM S seen q'≠0->∃c,(S.v (S.tr[q']).natAbs).reason=some c/\LA S j0 q' S.tr[q'] c seen rest):=by
 obtain⟨hD,ho⟩:=KW i.t h1 h2 hg k.op hs;have dn:∀p,q'<p->vZ S seen p:=by
  intro p hp hpl hps hpd;by_cases hpq:p<q
  ·exact absurd hps (hg p hpl (by omega) hpq)
  ·exact k.dn p (by omega) hpl hps hpd
 refine⟨hD,ho,fun h=>OD i k.li h2 hs hD h dn hj0 fun b hb=>⟨hf b hb,k.ac b hb⟩,fun h=> ?_⟩;obtain⟨c,c1,c2,c3,c4⟩:=OC (seen:=seen) i.r i.t h2 hlv hD h;exact⟨c,c1,k.li,dn,by omega,c2,c4,.inr ⟨⟨h2,rfl⟩,c3,h,k.ac⟩⟩
theorem LA.start(t:Tr n S){j0:Nat}(hj:j0<S.nc)(hf:∀b∈S.cl j0,-b∈S.tr):LA S j0 S.tr.length 0 j0 [] [] :=
 ⟨LI.start,fun i hi h=>by omega,zrb _,hj,fun b hb _=>by rw[zrx];exact hf b hb,.inl ⟨rfl,rfl,rfl⟩⟩
theorem IY(h:q<=S.tr.length):dM S seen q<=q:=by unfold dM;refine Nat.le_trans List.countP_le_length ?_;rw[zrl];omega
end
theorem bJ{dst:Option Tmp}{Kn:Fr->H->Prop}{Q:XE->Fr->H->Prop}{f:Fr}{v:V}{h:H}{p:Nat->Bool}:Ky dst Kn Q f (.ret v) h p=((∀i∈f.d,p i=false)/\Kn ((f.drop p).put dst v) h):=rfl
inductive Ro where
 |s|v|m|t|l|x|g
 |c (j:Nat)
 |w (a:Int)
 |k (i:Nat)
 |e (o:O)
structure Lay where
 s:Nat
 v:Nat
 m:Nat
 t:Nat
 l:Nat
 x:Nat
 g:Nat
 c:Nat->Nat
 w:Int->Option Nat
 k:Nat->Nat
 ro:Nat->Option Ro
def IZ(o:Option Nat)(k len:Nat):V:=match o with|none=> .nils|some id=> .ls id k 0 len len
def gX(h:H)(L:Lay)(r:Ro)(o:Option Nat)(cs:List V):Prop:=match o with|none=>cs=[]|some id=>h[id]? =some (.cells cs)/\L.ro id=some r
def clV(L:Lay)(S:St)(j:Nat):V:= .ls (L.c j) 1 0 (S.cl j).length (S.cl j).length
def reV(L:Lay)(S:St)(r:Option Nat):V:=match r with|none=> .nils|some j=>clV L S j
def gV(L:Lay)(S:St)(x:VS):List V:=[vi x.value,vi x.level,reV L S x.reason,vi x.last,vi x.score]
def dP(L:Lay)(S:St)(n:Nat):List V:=(List.range (n+1)).flatMap fun i=>gV L S (S.v i)
def bD(nx:List (Int×Int)):List V:=nx.flatMap fun t=>[vi t.1,vi t.2]
def lnV(L:Lay)(S:St)(i:Nat):V:= .ls (L.k i) 1 0 (S.ln.getD i []).length (S.ln.getD i []).length
def ax(n:Nat)(bud:Int)(L:Lay)(S:St):List V :=
 [.ls L.v 5 0 (n+1) (n+1),.lm L.m,.ls L.t 1 0 S.tr.length S.tr.length,vi S.hd,.ls L.l 1 0 S.lv.length S.lv.length,.ls L.x 2 0 S.nx.length S.nx.length,.ls L.g 1 0 S.ln.length S.ln.length,vi bud]
def gY(lv:List Nat):List V:=lv.map fun(x:Nat)=>vi (x:Int)
def Ext(L:Lay)(o:O):Prop:=∀p:Nat->Bool,(∀q r,L.ro q=some r->p q=true->r= .t\/r= .l\/r= .x\/r= .g\/∃a,r= .w a)->o.drop p=o
theorem Ext.mono{L L':Lay}{o:O}(h:Ext L o)(hl:∀i r,L.ro i=some r->L'.ro i=some r):Ext L' o:=fun p hp=>h p fun q r hq=>hp q r (hl q r hq)
structure HR(n:Nat)(L:Lay)(S:St)(h:H):Prop where
 var:h[L.v]? =some (.cells (dP L S n))
 map:∃ks:List Int,h[L.m]? =some (.map (ks.map vi) (ks.map fun a=>IZ (L.w a) 1 (S.wt a).length))/\ks.Nodup/\∀a,¬a∈ks->L.w a=none/\S.wt a=[]
 trl:h[L.t]? =some (.cells (S.tr.map vi))
 lvl:h[L.l]? =some (.cells (gY S.lv))
 nxl:h[L.x]? =some (.cells (bD S.nx))
 lnl:h[L.g]? =some (.cells ((List.range S.ln.length).map (lnV L S)))
 lnk:∀i,i<S.ln.length->h[L.k i]? =some (.cells ((S.ln.getD i []).map vi))/\L.ro (L.k i)=some (.k i)
 cla:∀j,j<S.nc->h[L.c j]? =some (.cells ((S.cl j).map vi))/\L.ro (L.c j)=some (.c j)
 wat:∀a,gX h L (.w a) (L.w a) ((S.wt a).map (clV L S))
 fre:∀i,i<=n->∀j,(S.v i).reason=some j->j<S.nc
 fwt:∀a,∀j∈S.wt a,j<S.nc
 rs:L.ro L.s=some .s
 rv:L.ro L.v=some .v
 rm:L.ro L.m=some .m
 rt:L.ro L.t=some .t
 rl:L.ro L.l=some .l
 rx:L.ro L.x=some .x
 rg:L.ro L.g=some .g
 rlt:∀i r,L.ro i=some r->i<h.length
 ext:∀i o,L.ro i=some (.e o)->h[i]? =some o/\Ext L o
structure HS(n:Nat)(bud:Int)(L:Lay)(S:St)(h:H):Prop extends HR n L S h where
 sol:h[L.s]? =some (.cells (ax n bud L S))
section
variable{n:Nat}{bud:Int}{L:Lay}{S:St}{h:H}
theorem bV:(dP L S n).length=5*(n+1):=by
 unfold dP;generalize n+1=m
 induction m with
 |zero=>rfl
 |succ m ih=>rw[List.range_succ,List.flatMap_append,zqa,ih];simp[gV];omega
theorem EJ{α:Type}(f:Nat->List α)(k:Nat)(hk:∀i,(f i).length=k)(d:α):∀(m i j:Nat),i<m->j<k->((List.range m).flatMap f).getD (i*k+j) d=(f i).getD j d
 |0,i,j,hi,_=>by omega
 |m+1,i,j,hi,hj=>by
  have hlen:∀m,((List.range m).flatMap f).length=m*k:=by
   intro m
   induction m with
   |zero=>simp
   |succ m ih=>rw[List.range_succ,List.flatMap_append,zqa,ih];simp[hk,Nat.succ_mul]
  rw[List.range_succ,List.flatMap_append,zqg];by_cases h:i<m
  ·have:i*k+j<m*k:=by have:=Nat.mul_le_mul_right k (show i+1<=m by omega);rw[Nat.succ_mul]at this;omega
   rw[zqj (by rw[hlen];exact this),<-zqg];exact EJ f k hk d m i j h hj
  ·have:i=m:=by omega
   subst this;rw[zsb (by rw[hlen];omega),hlen,show i*k+j-i*k=j by omega];simp[zqg]
variable{i j:Nat}
theorem nG(hi:i<=n)(hj:j<5):(dP L S n).getD (i*5+j) .any=(gV L S (S.v i)).getD j .any :=
 EJ (fun i=>gV L S (S.v i)) 5 (fun _=>rfl) .any (n+1) i j (by omega) hj
variable{a:Int}
theorem Ub{n:Nat}(hn:n<=20000)(h1:a.natAbs<=n):xI [vi a,.int .i64 (IntKind.i64.wrap (0-a))]=(True,vi (a.natAbs:Int)):=by
 rw[aU (by omega) (by omega)];simp only[xI];split
 ·rw[show 0-a=(a.natAbs:Int) by omega]
 ·rw[show a=(a.natAbs:Int) by omega];rfl
theorem oJ(hs:HS n bud L S h)(hn:n<=20000){a:Int}(h1:a.natAbs<=n){R:AEnd->H->(Nat->Bool)->Prop}(hr:R (.ret (.lp L.v (a.natAbs*5))) h (fun _=>false)):ag TE 116 [.lp L.s 0,vi a] h R:=by have hsol:=hs.sol;refine ah Tryz.func116 rfl (by simp[nts]) (vm ?_);simp only[wq.1,seval,Tryz.results116,hsol,ax,Ub hn h1];exact⟨⟨by omega,by omega⟩,hr⟩
theorem vc0(hi:i<=n):(dP L S n).getD (i*5) .any=vi (S.v i).value:=nG hi (j:=0) (by omega)
theorem vc1(hi:i<=n):(dP L S n).getD (i*5+1) .any=vi (S.v i).level:=nG hi (by omega)
theorem vc2(hi:i<=n):(dP L S n).getD (i*5+2) .any=reV L S (S.v i).reason:=nG hi (by omega)
theorem vc3(hi:i<=n):(dP L S n).getD (i*5+3) .any=vi (S.v i).last:=nG hi (by omega)
theorem vc4(hi:i<=n):(dP L S n).getD (i*5+4) .any=vi (S.v i).score:=nG hi (by omega)
theorem lF(hs:HS n bud L S h)(hn:n<=20000){a:Int}(h1:a.natAbs<=n)(hv:-1<=(S.v a.natAbs).value/\(S.v a.natAbs).value<=1){R:AEnd->H->(Nat->Bool)->Prop}(hr:R (.ret (vi (mJ S a))) h (fun _=>false)):ag TE 97 [.lp L.s 0,vi a] h R:=by
 have hvar:=hs.var;have hw:IntKind.i64.wrap (0-(S.v a.natAbs).value)=-(S.v a.natAbs).value:=by rw[aU (by omega) (by omega)];omega
 refine ah Tryz.func97 rfl (by simp[nts]) (vm ?_);simp only[wq.1,seval,Tryz.results97];refine vcB.mk (fun hc=> ?_) (fun hc=> ?_)
 ·have hl:mJ S a=-(S.v a.natAbs).value:=by unfold mJ;rw[if_pos (by simpa using hc)]
  simp only[wq.1,seval];refine oJ hs hn h1 ?_;simp only[wq.1,seval,hvar,bV,vc0 h1,hw];rw[hl]at hr;exact⟨by omega,hr⟩
 ·have hl:mJ S a=(S.v a.natAbs).value:=by unfold mJ;rw[if_neg (by simpa using hc)]
  simp only[wq.1,seval];refine oJ hs hn h1 ?_;simp only[wq.1,seval,hvar,bV,vc0 h1];rw[hl]at hr;exact⟨by omega,hr⟩
end
end Go.Proofs.YthdidjjecjhenaaGreat
