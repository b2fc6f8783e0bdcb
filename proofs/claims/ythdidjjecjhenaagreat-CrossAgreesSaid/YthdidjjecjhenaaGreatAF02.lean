/- Lemmas for this claim, part F02: each holds under what it names. -/
import Derived.Test.YthdidjjecjhenaaGreatAF01
import Derived.Test.YthdidjjecjhenaaGreatAA7
set_option linter.all false
set_option maxRecDepth 20000
namespace Go.Proofs.YthdidjjecjhenaaGreat
open Go Go.Proofs Go.Abs
open List renaming length → aa, replicate → aD
open Bool renaming true → ab, false → am
open Option renaming some → ar, none → aL
open Decidable renaming decide → aM
open Go.IntKind renaming wrap → a5
open Go.Result renaming andThen → a8
open Go.Abs.O renaming cells → aw
open Go.Abs.V renaming drops → aE, dat → a6, dats → a7
structure LI(S:St)(seen:List Nat)(rest:Cl):Prop where
 s1:∀v∈seen,∃a∈S.tr,a.natAbs=v/\0<gG S a
 s2:∀a∈rest,-a∈S.tr/\0<gG S a/\gG S a<aa S.lv/\a.natAbs∈seen
 s3:∀a∈S.tr,a.natAbs∈seen->gG S a<aa S.lv->-a∈rest
 rn:(rest.map Int.natAbs).Nodup
def dY(S:St)(seen:List Nat)(q:Nat):Nat:=(S.tr.take q).countP λa=>aM (a.natAbs∈seen)&&aM (gG S a=aa S.lv)
def Acc(S:St)(seen:List Nat)(b:Int):Prop:=gG S b=0\/b.natAbs∈seen
def wP(S:St)(seen:List Nat)(i:Nat):Prop:=∀(h:i<aa S.tr),(S.tr[i]).natAbs∈seen->gG S S.tr[i]=aa S.lv ->
 ∃k,k<S.nc/\S.tr[i]∈S.cl k/\∀b∈S.cl k,b≠S.tr[i]->-b∈S.tr.take i/\Acc S seen b
section
variable{n:Nat}{l d L:List Cl}{S:St}
variable{seen seen':List Nat}
theorem Acc.mono{b:Int}(h:Acc S seen b)(hs:∀v∈seen,v∈seen'):Acc S seen' b:=h.imp id (hs _)
theorem Bz{α:Type}[BEq α][LawfulBEq α]:∀ {l:List α} {p q:α->Bool} {x:α},l.Nodup->x∈l->p x=am->q x=ab->(∀y∈l,y≠x->q y=p y)->l.countP q=l.countP p+1
 |[],_,_,_,_,h,_,_,_=>by simp at h
 |z::l,p,q,x,hn,hx,hp,hq,hy=>by
  rw[List.nodup_cons]at hn;rw[List.countP_cons,List.countP_cons];rcases zrj.1 hx with rfl|hx
  ·have:l.countP q=l.countP p:=List.countP_congr λy hyl=>by rw[hy y (List.mem_cons_of_mem _ hyl) (λe=>hn.1 (e▸hyl))]
   simp[hp,hq,this]
  ·have h1:=Bz hn.2 hx hp hq λy hyl hne=>hy y (List.mem_cons_of_mem _ hyl) hne;have h2:z≠x:=λe=>hn.1 (e▸hx);rw[hy z List.mem_cons_self h2,h1];omega
theorem Tr.nodup(t:Tr n S):S.tr.Nodup:=by have:=t.nd;rw[List.Nodup,List.pairwise_map]at this;exact this.imp λh e=>h (by rw[e])
theorem LI.start:LI S [] []:=⟨by simp,by simp,by simp,by simp⟩
variable{rest:Cl}
theorem LI.mark(k:LI S seen rest)(t:Tr n S){a:Int}{q:Nat}(ha:-a∈S.tr.take q)(h0:gG S a≠0)(hs:¬a.natAbs∈seen) :
 (gG S a=aa S.lv->LI S (seen++[a.natAbs]) rest/\dY S (seen++[a.natAbs]) q=dY S seen q+1) /\
 (gG S a≠aa S.lv->LI S (seen++[a.natAbs]) (rest++[a])/\dY S (seen++[a.natAbs]) q=dY S seen q):=by
 have hat:=zsh ha;have hlr:=t.lev_rng hat;rw[gI]at hlr;have hu:∀b∈S.tr,b.natAbs=a.natAbs->b=-a:=λb hb he=>um t.nd b hb (-a) hat (by rw[he,Int.natAbs_neg]);have s1:∀v∈seen++[a.natAbs],∃a∈S.tr,a.natAbs=v/\0<gG S a:=by
  intro v hv;rcases zrf.1 hv with hv|hv
  ·exact k.s1 v hv
  ·rw[zrc.1 hv];exact⟨-a,hat,Int.natAbs_neg a,by rw[gI];omega⟩
 refine⟨λhD=>⟨⟨s1,λb hb=> ?_,λb hb hb2 hb3=> ?_,k.rn⟩,?_⟩,λhD=>⟨⟨s1,λb hb=> ?_,λb hb hb2 hb3=> ?_,?_⟩,?_⟩⟩
 ·obtain⟨h1,h2,h3,h4⟩:=k.s2 b hb;exact⟨h1,h2,h3,List.mem_append_left _ h4⟩
 ·rcases zrf.1 hb2 with h1|h1
  ·exact k.s3 b hb h1 hb3
  ·have:=hu b hb (zrc.1 h1);rw[this,gI]at hb3;omega
 ·unfold dY;refine Bz (x:=-a) (t.nodup.sublist (List.take_sublist _ _)) ha (by simp[hs]) (by simp[gI,hD]) λy hy hne=> ?_;have:y.natAbs≠a.natAbs:=λe=>hne (hu y (zsh hy) e);simp[this]
 ·rcases zrf.1 hb with hb|hb
  ·obtain⟨h1,h2,h3,h4⟩:=k.s2 b hb;exact⟨h1,h2,h3,List.mem_append_left _ h4⟩
  ·rw[zrc.1 hb];exact⟨hat,by omega,by omega,by simp⟩
 ·rcases zrf.1 hb2 with h1|h1
  ·exact List.mem_append_left _ (k.s3 b hb h1 hb3)
  ·have:=hu b hb (zrc.1 h1);rw[this,Int.neg_neg];simp
 ·rw[zql,List.map_singleton,List.nodup_append];refine⟨k.rn,by simp,λx hx y hy=> ?_⟩;obtain⟨b,hb,rfl⟩:=zrh.1 hx;rw[zrc.1 hy];exact λe=>hs (e▸(k.s2 b hb).2.2.2)
 ·unfold dY;refine List.countP_congr λy hy=> ?_;by_cases hya:y.natAbs=a.natAbs
  ·have:=hu y (zsh hy) hya;rw[this,gI];simp[hD]
  ·simp[hya]
def Gap(S:St)(seen:List Nat)(q' q:Nat):Prop:=∀i (h:i<aa S.tr),q'<=i->i<q->¬(S.tr[i]).natAbs∈seen
variable{q' q:Nat}
theorem EZ(h1:q'<=q)(hg:Gap S seen q' q):dY S seen q=dY S seen q':=by
 unfold dY;have e:S.tr.take q=S.tr.take q'++(S.tr.drop q').take (q-q'):=by
  rw[<-List.take_append_drop q' (S.tr.take q),List.take_take,Nat.min_eq_left h1,List.drop_take]
 rw[e,List.countP_append];have:((S.tr.drop q').take (q-q')).countP (λa=>aM (a.natAbs∈seen)&&aM (gG S a=aa S.lv))=0:=by
  rw[List.countP_eq_zero];intro a ha;obtain⟨i,hi,rfl⟩:=List.getElem_of_mem ha;rw[zrl,List.length_drop]at hi;have:=hg (q'+i) (by omega) (by omega) (by omega);simp only[List.getElem_take,List.getElem_drop,zqf,zqb];exact λh=>this h.1
 omega
theorem LU(h:q<aa S.tr):dY S seen (q+1)=dY S seen q+(if(S.tr[q]).natAbs∈seen/\gG S S.tr[q]=aa S.lv then 1 else 0):=by unfold dY;rw[zrg,zqk h,Option.toList_some,List.countP_append,List.countP_singleton];by_cases h1:(S.tr[q]).natAbs∈seen<;>by_cases h2:gG S S.tr[q]=aa S.lv<;>simp[h1,h2]
theorem SY(h1:q'<=q)(hg:Gap S seen q' q)(ho:dY S seen q≠0):0<q':=by
 rw[EZ h1 hg]at ho;cases q' with
 |zero=>simp[dY]at ho
 |succ q'=>omega
theorem LV(t:Tr n S)(h1:q'+1<=q)(h2:q'<aa S.tr)(hg:Gap S seen (q'+1) q)(ho:dY S seen q≠0)(hs:(S.tr[q']).natAbs∈seen) :
 gG S S.tr[q']=aa S.lv/\dY S seen q=dY S seen q'+1:=by
 rw[EZ h1 hg]at ho ⊢;have hD:gG S S.tr[q']=aa S.lv:=by
  have h3:0<dY S seen (q'+1):=Nat.pos_of_ne_zero ho;unfold dY at h3;rw[List.countP_pos_iff]at h3;obtain⟨a,ha,ha2⟩:=h3;obtain⟨i,hi,hi2,rfl⟩:=jR ha;simp only[zqf,zqb]at ha2;have h4:=ha2.2;rw[t.lvl i hi]at h4;rw[t.lvl q' h2];have h5:=SS S.lv (show i<=q' by omega);have h6:=Jk S.lv q';omega
 exact⟨hD,by rw[LU h2,if_pos ⟨hs,hD⟩]⟩
theorem LW(t:Tr n S)(h2:q'<aa S.tr)(hm:q'∈S.lv):dY S seen q'=0:=by
 unfold dY;rw[List.countP_eq_zero];intro a ha;obtain⟨i,hi,hi2,rfl⟩:=jR ha;simp only[zqf,zqb];rintro⟨_,h⟩;rw[t.lvl i hi]at h;have h3:lev S.lv i<aa S.lv:=by
  have h4:=Jk S.lv i;refine Nat.lt_of_le_of_ne h4 λe=> ?_;unfold lev at e;rw[List.countP_eq_length]at e;have:=e q' hm;simp at this;omega
 omega
theorem Pg(r:Rea S)(t:Tr n S)(h2:q'<aa S.tr)(hl:0<aa S.lv)(hD:gG S S.tr[q']=aa S.lv)(ho:dY S seen q'≠0) :
 ∃k,(S.v (S.tr[q']).natAbs).reason=ar k/\k<S.nc/\S.tr[q']∈S.cl k/\∀b∈S.cl k,b≠S.tr[q']->-b∈S.tr.take q':=by
 cases hr:(S.v (S.tr[q']).natAbs).reason with
 |none =>
  rcases r.dec q' h2 hr with h|h
  ·rw[t.lvl q' h2]at hD;omega
  ·exact absurd (LW t h2 h) ho
 |some k=>exact⟨k,rfl,r.rea q' h2 k hr⟩
variable{l':List Cl}
theorem Der.mono{l:List Cl}{g g':Cl}(hl:∀c∈l,c∈l')(hg:∀a∈g,a∈g'){a:Int}(h:Der l g a):Der l' g' a:=by
 induction h with
 |start a h=>exact .start a (hg a h)
 |unit c a hc ha _ ih=>exact .unit c a (hl c hc) ha ih
theorem Bad.mono{l:List Cl}{g g':Cl}(hl:∀c∈l,c∈l')(hg:∀a∈g,a∈g')(h:Bad l g):Bad l' g':=by
 rcases h with⟨c,hc,h⟩|⟨a,h1,h2⟩
 ·exact .inl ⟨c,hl c hc,λb hb=>(h b hb).mono hl hg⟩
 ·exact .inr ⟨a,h1.mono hl hg,h2.mono hl hg⟩
theorem Ph(i:Inv n l d L S){seen:List Nat}{rest:Cl}(k:LI S seen rest){q:Nat}(hq:q<aa S.tr)(hs:(S.tr[q]).natAbs∈seen)(hD:gG S S.tr[q]=aa S.lv)
 (ho:dY S seen q=0) (hd:∀j,q<j->wP S seen j) {j:Nat} (hj:j<S.nc) (hf:∀b∈S.cl j,-b∈S.tr/\Acc S seen b):Bad (l++S.ln) (Dn (-S.tr[q]::rest)):=by
 have h0:∀b:Int,b∈S.tr->gG S b=0->Der (l++S.ln) (Dn (-S.tr[q]::rest)) b:=by intro b hb hl;obtain⟨p,hp,rfl⟩:=List.getElem_of_mem hb;rw[i.t.lvl p hp]at hl;exact(i.g.d0 p hp (by omega)).mono (λ_ h=>h) (by simp)
 have key:∀m p,p<m->∀(hp:p<aa S.tr),(S.tr[p]).natAbs∈seen->Der (l++S.ln) (Dn (-S.tr[q]::rest)) S.tr[p]:=by
  intro m
  induction m with
  |zero=>intro p h;omega
  |succ m ih =>
   intro p hpm hp hps;by_cases hlt:gG S S.tr[p]<aa S.lv
   ·refine .start _ ?_;have:=k.s3 _ (zqu hp) hps hlt;unfold Dn;rw[zrh];exact⟨-S.tr[p],List.mem_cons_of_mem _ this,Int.neg_neg _⟩
   ·have hle:gG S S.tr[p]=aa S.lv:=by have:=(i.t.lev_rng (zqu hp)).2;omega
    rcases Nat.lt_trichotomy p q with h|h|h
    ·exfalso;unfold dY at ho;rw[List.countP_eq_zero]at ho;have:=ho S.tr[p] (lM hp h);simp[hps,hle]at this
    ·subst h;refine .start _ ?_;unfold Dn;rw[zrh];exact⟨-S.tr[p],List.mem_cons_self,Int.neg_neg _⟩
    ·obtain⟨c,hc,hc2,hc3⟩:=hd p h hp hps hle;obtain⟨c',hc',he⟩:=i.g.src c hc;refine .unit c' _ hc' ((he _).1 hc2) λb hb hne=> ?_;obtain⟨h1,h2⟩:=hc3 b ((he b).2 hb) hne;rcases h2 with h2|h2
     ·exact h0 _ (zsh h1) (by rw[gI];exact h2)
     ·obtain⟨x,hx,hx2,hx3⟩:=jR h1;rw[<-hx3];exact ih x (by omega) hx (by rw[hx3,Int.natAbs_neg];exact h2)
 obtain⟨c',hc',he⟩:=i.g.src j hj;refine .inl ⟨c',hc',λb hb=> ?_⟩;obtain⟨h1,h2⟩:=hf b ((he b).2 hb);rcases h2 with h2|h2
 ·exact h0 _ h1 (by rw[gI];exact h2)
 ·obtain⟨p,hp,hp2⟩:=List.getElem_of_mem h1;rw[<-hp2];exact key (p+1) p (by omega) hp (by rw[hp2,Int.natAbs_neg];exact h2)
structure Lrnt(n:Nat)(l:List Cl)(S:St)(out:Cl)(k:Nat):Prop where
 bad:Bad (l++S.ln) (Dn out)
 nd:(out.map Int.natAbs).Nodup
 rng:∀a∈out,a≠0/\a.natAbs<=n
 fst:∃p rest,out=-p::rest/\p∈S.tr/\gG S p=aa S.lv/\(∀a∈rest,-a∈S.tr/\gG S a<=k)/\((rest=[]/\k=0)\/∃a r,rest=a::r/\gG S a=k)
 klt:k<aa S.lv
variable{out:Cl}{k:Nat}
theorem Lrnt.new(h:Lrnt n l S out k)(i:Inv n l d S.ln S):∀c∈S.ln,¬ ∀a,a∈c↔a∈out:=by
 obtain⟨p,rest,rfl,h1,h2,h3,h4⟩:=h.fst;have hk:=h.klt;have hp:=i.t.rng p h1;intro c hc he;rcases i.lc c hc with⟨a,rfl,ha,hl⟩|⟨j,hj,hj2⟩
 ·have:-p∈[a]:=(he _).2 (by simp);have:=zrc.1 this;subst this;exact i.t.con h1 ha
 ·have hc2:=i.c.c2 j hj;have hcn:=i.c.cnd j hj;have hw:=i.w j hj;have hm:∀a,a∈S.cl j↔a∈-p::rest:=λa=>(hj2 a).trans (he a);have hno:∀z∈S.cl j,¬z∈S.tr:=by
   intro z hz hzt;rcases zrj.1 ((hm z).1 hz)with rfl|hz2
   ·exact i.t.con h1 hzt
   ·exact i.t.con hzt (h3 z hz2).1
  have hlow:∀z∈(S.cl j).take 2,z≠-p->False:=by
   intro z hz hne;have hz2:=(zrj.1 ((hm z).1 (zsh hz))).resolve_left hne;obtain⟨h5,h6⟩:=h3 z hz2;have h7:-z∈S.tr.take S.hd:=by
    have h8:=(i.t.low h5 hk).2 (by rw[gI];exact h6);exact List.take_subset_take_left S.tr (i.t.lvh _ (zqu hk)) h8
   obtain⟨y,hy,hy2,_⟩:=hw z hz h7;exact hno y (zsh hy) hy2
  rcases hcl:S.cl j with _|⟨x,_|⟨y,r⟩⟩
  ·rw[hcl]at hc2;simp at hc2
  ·rw[hcl]at hc2;simp at hc2
  ·rw[hcl]at hlow hcn;simp only[zrd,List.nodup_cons,zrj,not_or]at hcn;by_cases hx:x=-p
   ·exact hlow y (by simp) (λe=>hcn.1.1 (by rw[hx,e]))
   ·exact hlow x (by simp) hx
def fP(S:St)(c:Cl):St:={S with cl:=upd S.cl S.nc c,nc:=S.nc+1,wt:=λb=>if b∈c.take 2 then S.wt b++[S.nc]else S.wt b}
variable{c:Cl}{j:Nat}
theorem iW(h:j<S.nc):(fP S c).cl j=S.cl j:=bM (by omega)
theorem jS:(fP S c).cl S.nc=c:=bD _ _ _
theorem y8(i:Inv n l d L S){c:Cl}(h2:2<=aa c)(hn:(c.map Int.natAbs).Nodup)(hr:∀a∈c,a≠0/\a.natAbs<=n)(hs:∃c'∈l++S.ln,∀a,a∈c↔a∈c') :
 Tr n (fP S c)/\Cls n (fP S c)/\Rea (fP S c)/\Nxt n (fP S c)/\Log n l (fP S c)/\Lcv L (fP S c)/\Cov d (fP S c)/\Lvt (fP S c)/\∀j,j<S.nc->Wat S.hd (fP S c) j:=by
 have hnot:∀a,¬S.nc∈S.wt a:=λa h=>by have:=(i.c.wts a _ h).1;omega
 have old:∀ {j},j<S.nc+1->j≠S.nc->j<S.nc:=λh h2=>by omega
 refine⟨⟨i.t.nd,i.t.rng,i.t.val,i.t.lvl,i.t.lvs,i.t.lvh,i.t.hdl⟩,⟨?_,?_,?_,?_,?_,?_⟩,⟨?_,i.r.dec⟩,⟨i.x.1,i.x.2⟩,⟨i.g.d0,?_,i.g.rup,i.g.lrg,i.g.lnew⟩,?_,?_,i.lt,?_⟩
 ·intro j hj;by_cases he:j=S.nc
  ·subst he;rw[jS];exact h2
  ·rw[iW (old hj he)];exact i.c.c2 j (old hj he)
 ·intro j hj;by_cases he:j=S.nc
  ·subst he;rw[jS];exact hn
  ·rw[iW (old hj he)];exact i.c.cnd j (old hj he)
 ·intro j hj;by_cases he:j=S.nc
  ·subst he;rw[jS];exact hr
  ·rw[iW (old hj he)];exact i.c.crg j (old hj he)
 ·intro a j hj;have hj:j∈(if a∈c.take 2 then S.wt a++[S.nc]else S.wt a):=hj;show j<S.nc+1/\_;have k:j∈S.wt a->j<S.nc+1/\a∈((fP S c).cl j).take 2:=λh=>by
   obtain⟨h3,h4⟩:=i.c.wts a j h;exact⟨by omega,by rw[iW h3];exact h4⟩
  split at hj
  ·rename_i h;rcases zrf.1 hj with h3|h3
   ·exact k h3
   ·rw[zrc.1 h3,jS];exact⟨by omega,h⟩
  ·exact k hj
 ·intro j hj a ha;show j∈(if a∈c.take 2 then S.wt a++[S.nc]else S.wt a);by_cases he:j=S.nc
  ·subst he;rw[jS]at ha;rw[if_pos ha];simp
  ·rw[iW (old hj he)]at ha;have:=i.c.wtc j (old hj he) a ha;split
   ·exact List.mem_append_left _ this
   ·exact this
 ·intro a;show(if a∈c.take 2 then S.wt a++[S.nc]else S.wt a).Nodup;split
  ·rw[List.nodup_append];refine⟨i.c.wnd a,by simp,λy hy z hz=> ?_⟩;rw[zrc.1 hz];exact λe=>hnot a (e▸hy)
  ·exact i.c.wnd a
 ·intro p h j hj;obtain⟨h3,h4,h5⟩:=i.r.rea p h j hj;show j<S.nc+1/\_;rw[iW h3];exact⟨by omega,h4,h5⟩
 ·intro j hj;by_cases he:j=S.nc
  ·subst he;rw[jS];exact hs
  ·rw[iW (old hj he)];exact i.g.src j (old hj he)
 ·intro x hx;rcases i.lc x hx with h|⟨j,h3,h4⟩
  ·exact .inl h
  ·exact .inr ⟨j,show j<S.nc+1 by omega,by rw[iW h3];exact h4⟩
 ·intro x hx;rcases i.cv x hx with h|h|⟨j,h3,h4⟩
  ·exact .inl h
  ·exact .inr (.inl h)
  ·exact .inr (.inr ⟨j,show j<S.nc+1 by omega,by rw[iW h3];exact h4⟩)
 ·intro j hj x hx hm;rw[iW hj]at hx ⊢;exact i.w j hj x hx hm
theorem Inv.watch(i:Inv n l d L S){c:Cl}(h2:2<=aa c)(hn:(c.map Int.natAbs).Nodup)(hr:∀a∈c,a≠0/\a.natAbs<=n)(hs:∃c'∈l++S.ln,∀a,a∈c↔a∈c')
 (hw:Wat S.hd (fP S c) S.nc):Inv n l d L (fP S c):=by
 obtain⟨p1,p2,p3,p4,p5,p6,p7,p8,p9⟩:=y8 i h2 hn hr hs;refine⟨p1,p2,p3,p4,p5,p6,p7,p8,λj hj=> ?_⟩;have hj:j<S.nc+1:=hj;by_cases he:j=S.nc
 ·subst he;exact hw
 ·exact p9 j (by omega)
def lnS(S:St)(out:Cl):St:={S with ln:=S.ln++[out]}
theorem Pi(i:Inv n l d S.ln S){out:Cl}{k:Nat}(h:Lrnt n l S out k):Inv n l d S.ln (lnS S out):=by
 have hm:∀c∈l++S.ln,c∈l++(S.ln++[out]):=by intro c hc;rw[<-zqc];exact List.mem_append_left _ hc
 refine⟨⟨i.t.nd,i.t.rng,i.t.val,i.t.lvl,i.t.lvs,i.t.lvh,i.t.hdl⟩,⟨i.c.c2,i.c.cnd,i.c.crg,i.c.wts,i.c.wtc,i.c.wnd⟩,⟨i.r.rea,i.r.dec⟩,⟨i.x.1,i.x.2⟩,⟨?_,?_,?_,?_,?_⟩,i.lc,i.cv,i.lt,i.w⟩
 ·intro p hp hl;exact(i.g.d0 p hp hl).mono hm (by simp)
 ·intro j hj;obtain⟨c,h1,h2⟩:=i.g.src j hj;exact⟨c,hm c h1,h2⟩
 ·intro m hmm;have hmm:m<aa (S.ln++[out]):=hmm;show Bad (l++(S.ln++[out]).take m) (Dn (S.ln++[out])[m]);by_cases he:m<aa S.ln
  ·rw[List.take_append_of_le_length (by omega),List.getElem_append_left he];exact i.g.rup m he
  ·have:m=aa S.ln:=by rw[zqa,zrk]at hmm;omega
   subst this;rw[List.take_left,List.getElem_concat_length rfl];exact h.bad
 ·intro c hc;rcases zrf.1 (show c∈S.ln++[out]from hc)with hc|hc
  ·exact i.g.lrg c hc
  ·rw[zrc.1 hc];obtain⟨p,rest,h1,_⟩:=h.fst;exact⟨by rw[h1];simp,h.nd,h.rng⟩
 ·show(S.ln++[out]).Pairwise λc d=>¬ ∀a,a∈c↔a∈d
  rw[List.pairwise_append];refine⟨i.g.lnew,by simp,λc hc x hx=> ?_⟩;rw[zrc.1 hx];exact h.new i c hc
theorem E5(i:Inv n l d L S){k:Nat}(hk:k<aa S.lv){nx:List (Int×Int)}(hnx:∀x∈S.nx,x∈nx)(hun:∀a∈S.tr.drop (S.lv.getD k 0),((a.natAbs:Int),(S.v a.natAbs).score)∈nx)
 (hr:∀x∈nx,x∈S.nx\/∃a∈S.tr.drop (S.lv.getD k 0),x.1=a.natAbs):Inv n l d L (fV S k nx) :=
 ⟨i.t.backS hk i.lt,i.c.backS,i.r.backS i.t hk,i.x.backS i.t hnx hun hr,i.g.backS i.t hk,i.lc.backS i.t hk,i.cv.backS i.t hk,i.lt.backS i.t hk,λj hj=>(i.w j hj).backS i.t hk (by rw[jH hk];exact i.t.lvh _ (zqu hk))⟩
theorem Jm(i:Inv n l d L S){c:Cl}(h:(∃a,c=[a]/\a∈S.tr/\gG S a=0)\/∃j,j<S.nc/\∀a,a∈S.cl j↔a∈c):Inv n l d (L++[c]) S :=
 ⟨i.t,i.c,i.r,i.x,i.g,λx hx=>by
  rcases zrf.1 hx with hx|hx
  ·exact i.lc x hx
  ·rw[zrc.1 hx];exact h,i.cv,i.lt,i.w⟩
theorem E8(i:Inv n l d S.ln S){out:Cl}{k:Nat}(h:Lrnt n l S out k){nx:List (Int×Int)}(hnx:∀x∈S.nx,x∈nx)(hun:∀a∈S.tr.drop (S.lv.getD k 0),((a.natAbs:Int),(S.v a.natAbs).score)∈nx)
 (hr:∀x∈nx,x∈S.nx\/∃a∈S.tr.drop (S.lv.getD k 0),x.1=a.natAbs) :
 (∀a,out=[a]->Inv n l d (S.ln++[out]) (kR (fV (lnS S out) k nx) a aL)) /\
 (∀a b r,out=a::b::r->Inv n l d (S.ln++[out]) (kR (fP (fV (lnS S out) k nx) out) a (ar S.nc))):=by
 have i1:=Pi i h;have i2:Inv n l d S.ln (fV (lnS S out) k nx):=E5 i1 h.klt hnx hun hr;have hk:=h.klt;have hbad:=h.bad;have hnd:=h.nd;have hrg:=h.rng;obtain⟨p,rest,he,h1,h2,h3,h4⟩:=h.fst;have hp:=i.t.rng p h1;have hpn:¬p∈S.tr.take (S.lv.getD k 0):=by rw[jH hk];intro hm;have:=(i.t.low h1 hk).1 hm;omega
 have f1:¬ -p∈S.tr.take (S.lv.getD k 0):=λhm=>i.t.con h1 (zsh hm);have f2:¬- -p∈S.tr.take (S.lv.getD k 0):=by rw[Int.neg_neg];exact hpn
 have hout:out∈l++(S.ln++[out]):=by simp
 have hfalse:∀a∈rest,-a∈S.tr.take (S.lv.getD k 0):=by intro a ha;obtain⟨h5,h6⟩:=h3 a ha;rw[jH hk];exact(i.t.low h5 hk).2 (by rw[gI];exact h6)
 refine⟨?_,?_⟩
 ·intro a ha;have hrest:rest=[]:=by rw[he]at ha;exact(List.cons.inj ha).2
  have hap:a=-p:=by rw[he]at ha;exact(List.cons.inj ha).1.symm
  have hk0:k=0:=by
   rcases h4 with h4|⟨x,r,h4,_⟩
   ·exact h4.2
   ·rw[hrest]at h4;cases h4
  subst hap;have hlv:(fV (lnS S out) k nx).lv=[]:=by
   show S.lv.take k=[];rw[hk0];rfl
  have hder:Der (l++(S.ln++[out])) [] (-p):=by refine .unit out (-p) hout (by rw[ha];simp) λb hb hne=> ?_;rw[ha]at hb;exact absurd (zrc.1 hb) hne
  have i3:=i2.letS (a:=-p) (r:=Option.none) (by omega) (by rw[Int.natAbs_neg];exact hp.2) f1 f2 (λj hj=>by cases hj) (λ_=>hlv) (λ_=>hder);refine Jm i3 (.inl ⟨-p,ha,?_,?_⟩)
  ·show -p∈(fV (lnS S out) k nx).tr++[-p];simp
  ·rw[xI,hlv];rfl
 ·intro a b r ha;have hap:a=-p:=by rw[he]at ha;exact(List.cons.inj ha).1.symm
  have hrest:rest=b::r:=by rw[he]at ha;exact(List.cons.inj ha).2
  subst hap;have hb:gG S b=k:=by
   rcases h4 with h4|⟨x,r',h4,h5⟩
   ·rw[hrest]at h4;cases h4.1
   ·rw[hrest]at h4;cases h4;exact h5
  have tt:=i2.t;have hw:Wat (fV (lnS S out) k nx).hd (kR (fP (fV (lnS S out) k nx) out) (-p) (ar S.nc)) S.nc:=by
   intro x hx hm;have hx:x∈(upd S.cl S.nc out S.nc).take 2:=hx;have hm:-x∈(S.tr.take (S.lv.getD k 0)++[-p]).take (S.lv.getD k 0):=hm;rw[bD,ha]at hx;simp only[List.take_succ_cons,List.take_zero,zrj,zrp,or_false]at hx;rw[List.take_append_of_le_length (by rw[zrl];have:=i.lt _ (zqu hk);rw[jH hk];omega),List.take_take,Nat.min_self]at hm;rcases hx with rfl|rfl
   ·exact absurd hm f2
   ·refine⟨-p,?_,?_,?_⟩
    ·show -p∈(upd S.cl S.nc out S.nc).take 2;rw[bD,ha];simp
    ·show -p∈S.tr.take (S.lv.getD k 0)++[-p];simp
    ·rw[xI];show(aa (S.lv.take k):Int)<=_;have hxp:x.natAbs≠(-p).natAbs:=by
      rw[ha]at hnd;simp only[zrd,List.nodup_cons,zrj,not_or]at hnd;exact λe=>hnd.1.1 e.symm
     have e:gG (kR (fP (fV (lnS S out) k nx) out) (-p) (ar S.nc)) x=gG S x:=by show((upd _ _ _ x.natAbs:VS)).level=_;rw[bM hxp];exact nK (S:=lnS S out) (k:=k) (nx:=nx)
     rw[e,hb,zrl];omega
  obtain⟨p1,p2,p3,p4,p5,p6,p7,p8,p9⟩:=y8 i2 (c:=out) (by rw[ha];simp) hnd hrg ⟨out,hout,λ_=>Iff.rfl⟩;have g0:-p≠0:=by omega
  have gn:(-p).natAbs<=n:=by rw[Int.natAbs_neg];exact hp.2
  have hreas:∀j,Option.some S.nc=Option.some j->j<S.nc+1/\-p∈upd S.cl S.nc out j/\∀b∈upd S.cl S.nc out j,b≠-p->-b∈S.tr.take (S.lv.getD k 0):=by intro j hj;cases hj;rw[bD];refine⟨Nat.lt_succ_self _,by rw[ha];simp,?_⟩;intro c hc hne;rw[he]at hc;exact hfalse c ((zrj.1 hc).resolve_left hne)
  have i4:Inv n l d S.ln (kR (fP (fV (lnS S out) k nx) out) (-p) (ar S.nc)):=by
   refine⟨p1.letS g0 gn f1 f2,p2.letS,p3.letS p1 f1 f2 hreas (λh=>by cases h),p4.letS,p5.letS p1 f1 f2 (λhl=> ?_),p6.letS p1 f1 f2,p7.letS p1 f1 f2,p8.letS,λj hj=> ?_⟩
   ·refine .unit out (-p) hout (by rw[ha];simp) λc hc hne=> ?_;rw[he]at hc;have hc2:=hfalse c ((zrj.1 hc).resolve_left hne);obtain⟨m,hm,e⟩:=List.getElem_of_mem hc2;have:=p5.d0 m hm (by rw[hl];rfl);rw[<-e];exact this
   ·have hj:j<S.nc+1:=hj;by_cases hje:j=S.nc
    ·subst hje;exact hw
    ·exact(p9 j (by show j<S.nc;omega)).letS p1 p1.hdl f1 f2
  refine Jm i4 (.inr ⟨S.nc,Nat.lt_succ_self _,λx=> ?_⟩);show x∈upd S.cl S.nc out S.nc↔_;rw[bD]
end
def LY(c:Cl)(v:Nat):Nat:=if(v:Int)∈c then 1 else if -(v:Int)∈c then 2 else 0
def vI(c:Cl):Nat->Nat
 |0=>0
 |v+1=>vI c v+3^v*LY c (v+1)
theorem VE(c:Cl)(v:Nat):LY c v<3:=by
 unfold LY;split
 ·omega
 ·split<;>omega
theorem ut(c:Cl):∀n,vI c n<3^n
 |0=>by simp[vI]
 |n+1=>by have h1:=ut c n;have h2:=VE c (n+1);unfold vI;rw[Nat.pow_succ];have:3^n*LY c (n+1)<=3^n*2:=Nat.mul_le_mul_left _ (by omega);omega
theorem E9{c d:Cl}:∀ {n},vI c n=vI d n->∀v,1<=v->v<=n->LY c v=LY d v
 |0,_,v,h1,h2=>by omega
 |n+1,h,v,h1,h2=>by
  have l1:=ut c n;have l2:=ut d n;unfold vI at h;have hd:LY c (n+1)=LY d (n+1):=by
   have e1:(vI c n+3^n*LY c (n+1))/3^n=LY c (n+1):=by rw[Nat.add_mul_div_left _ _ (Nat.pow_pos (by omega)),Nat.div_eq_of_lt l1,Nat.zero_add]
   have e2:(vI d n+3^n*LY d (n+1))/3^n=LY d (n+1):=by rw[Nat.add_mul_div_left _ _ (Nat.pow_pos (by omega)),Nat.div_eq_of_lt l2,Nat.zero_add]
   rw[<-e1,<-e2,h]
  by_cases hv:v=n+1
  ·rw[hv];exact hd
  ·rw[hd]at h;exact E9 (n:=n) (by omega) v h1 (by omega)
variable{c:Cl}
theorem qj{d:Cl}{n:Nat}(hc:(c.map Int.natAbs).Nodup)(hr:∀a∈c,a≠0/\a.natAbs<=n)(hd:(d.map Int.natAbs).Nodup)(hr2:∀a∈d,a≠0/\a.natAbs<=n)(h:vI c n=vI d n):∀a,a∈c->a∈d:=by
 intro a ha;obtain⟨h0,hn⟩:=hr a ha;have e:=E9 h a.natAbs (by omega) hn;have hno:=yV hc a ha h0;unfold LY at e;rcases show((a.natAbs:Nat):Int)=a\/((a.natAbs:Nat):Int)=-a by omega with h1|h1
 ·rw[h1,if_pos ha]at e;by_cases h2:a∈d
  ·exact h2
  ·rw[if_neg h2]at e;split at e<;>omega
 ·rw[h1,if_neg hno,Int.neg_neg,if_pos ha]at e;by_cases h2:-a∈d
  ·rw[if_pos h2]at e;omega
  ·rw[if_neg h2]at e;by_cases h3:a∈d
   ·exact h3
   ·rw[if_neg h3]at e;omega
section
variable{n:Nat}{l d L:List Cl}{S:St}
theorem Log.few(g:Log n l S):aa S.ln<=3^n:=by
 have h:=gY (m:=3^n) (l:=S.ln.map λc=>vI c n) (by
  rw[List.Nodup,List.pairwise_map];refine g.lnew.imp_of_mem λ{a b} ha hb hab e=>hab λx=> ?_;obtain⟨_,h1,h2⟩:=g.lrg a ha;obtain⟨_,h3,h4⟩:=g.lrg b hb;exact⟨qj h1 h2 h3 h4 e x,qj h3 h4 h1 h2 e.symm x⟩) (by
  intro x hx;obtain⟨c,_,rfl⟩:=zrh.1 hx;exact ut c n)
 simpa using h
variable{out:Cl}{k:Nat}
theorem Lrnt.few(h:Lrnt n l S out k)(i:Inv n l d S.ln S):aa S.ln+1<=3^n:=by
 have:=(Pi i h).g.few;have e:(lnS S out).ln.length=aa S.ln+1:=by show aa (S.ln++[out])=_;simp
 omega
def lQ(n:Nat)(nx:List (Int×Int)):St:={v:=λ_=>⟨0,0,aL,0,0⟩,cl:=λ_=>[],nc:=0,wt:=λ_=>[],tr:=[],hd:=0,lv:=[],ln:=[],nx:=nx}
theorem S9(n:Nat)(l:List Cl){nx:List (Int×Int)}(h1:∀i:Nat,1<=i->i<=n->((i:Int),0)∈nx)(h2:∀t∈nx,1<=t.1/\t.1<=n):Inv n l [] [] (lQ n nx) where
 t:=⟨by simp[lQ],λa ha=>(by cases ha),λi hi hn=>(by simp[lQ,G6]),λp hp=>(by simp[lQ]at hp),List.Pairwise.nil,λx hx=>(by cases hx),zrb _⟩
 c:=⟨λj hj=>(by simp[lQ]at hj),λj hj=>(by simp[lQ]at hj),λj hj=>(by simp[lQ]at hj),λa j hj=>(by cases hj),λj hj=>(by simp[lQ]at hj),λa=>List.nodup_nil⟩
 r:=⟨λp hp=>(by simp[lQ]at hp),λp hp=>(by simp[lQ]at hp)⟩
 x:=⟨λi hi hn _=>h1 i hi hn,h2⟩
 g:=⟨λp hp=>(by simp[lQ]at hp),λj hj=>(by simp[lQ]at hj),λk hk=>(by simp[lQ]at hk),λc hc=>(by cases hc),List.Pairwise.nil⟩
 lc:=λc hc=>by cases hc
 cv:=λc hc=>by cases hc
 lt:=λx hx=>by cases hx
 w:=λj hj=>by simp[lQ]at hj
theorem Dt(i:Inv n l d L S){c:Cl}(h:(∃a∈c,-a∈c)\/(∃a∈c,a∈S.tr/\gG S a=0)\/∃j,j<S.nc/\∀a,a∈S.cl j↔a∈c):Inv n l (d++[c]) L S :=
 ⟨i.t,i.c,i.r,i.x,i.g,i.lc,λx hx=>by
  rcases zrf.1 hx with hx|hx
  ·exact i.cv x hx
  ·rw[zrc.1 hx];exact h,i.lt,i.w⟩
def ddp:Cl->Cl->Option Cl
 |e,[]=>ar e
 |e,a::c=>if -a∈e then aL else if a∈e then ddp e c else ddp (e++[a]) c
theorem Du:∀ {c e c0:Cl},(∀a∈e,a∈c0)->(∀a∈c,a∈c0)->ddp e c=aL->∃a∈c0,-a∈c0
 |[],e,c0,_,_,h=>by cases h
 |a::c,e,c0,h1,h2,h=>by
  unfold ddp at h;split at h
  ·rename_i h3;exact⟨a,h2 a (by simp),h1 _ h3⟩
  ·split at h
   ·exact Du h1 (λx hx=>h2 x (by simp[hx])) h
   ·refine Du (λx hx=> ?_) (λx hx=>h2 x (by simp[hx])) h;rcases zrf.1 hx with hx|hx
    ·exact h1 x hx
    ·rw[zrc.1 hx];exact h2 a (by simp)
theorem qK:∀ {c e e':Cl},(e.map Int.natAbs).Nodup->(∀a∈c,a≠0)->ddp e c=ar e'->(e'.map Int.natAbs).Nodup/\∀a,a∈e'↔a∈e\/a∈c
 |[],e,e',hn,_,h=>by cases h;exact⟨hn,by simp⟩
 |a::c,e,e',hn,h0,h=>by
  have h0':∀b∈c,b≠0:=λb hb=>h0 b (by simp[hb]);unfold ddp at h;split at h
  ·cases h
  ·rename_i h3;split at h
   ·rename_i h4;obtain⟨h5,h6⟩:=qK hn h0' h;refine⟨h5,λx=> ?_⟩;rw[h6,zrj];constructor
    ·rintro(h|h)
     ·exact .inl h
     ·exact .inr (.inr h)
    ·rintro(h|h|h)
     ·exact .inl h
     ·exact .inl (h▸h4)
     ·exact .inr h
   ·rename_i h4;obtain⟨h5,h6⟩:=qK (e:=e++[a]) (by
     rw[zql,List.map_singleton,List.nodup_append];refine⟨hn,by simp,λx hx y hy=> ?_⟩;obtain⟨b,hb,rfl⟩:=zrh.1 hx;rw[zrc.1 hy];intro he;rcases show b=a\/b=-a by omega with rfl|rfl
     ·exact h4 hb
     ·exact h3 hb) h0' h
    refine⟨h5,λx=> ?_⟩;rw[h6,zrj,zrf,zrc];constructor
    ·rintro((h|h)|h)
     ·exact .inl h
     ·exact .inr (.inl h)
     ·exact .inr (.inr h)
    ·rintro(h|h|h)
     ·exact .inl (.inl h)
     ·exact .inl (.inr h)
     ·exact .inr h
theorem Tc(i:Inv n l d L S){c:Cl}(h:ddp [] c=aL):Inv n l (d++[c]) L S:=Dt i (.inl (Du (by simp) (λ_ h=>h) h))
theorem VF(i:Inv n l d L S){c e:Cl}(hc:c∈l)(hr:∀a∈c,a≠0/\a.natAbs<=n)(h:ddp [] c=ar e)(h2:2<=aa e)(hh:S.hd=0):Inv n l (d++[c]) L (fP S e):=by
 obtain⟨h3,h4⟩:=qK (by simp) (λa ha=>(hr a ha).1) h;have hm:∀a,a∈e↔a∈c:=λa=>by rw[h4];simp
 refine Dt (i.watch h2 h3 (λa ha=>hr a ((hm a).1 ha)) ⟨c,List.mem_append_left _ hc,hm⟩ ?_) (.inr (.inr ⟨S.nc,Nat.lt_succ_self _,λa=>by rw[jS];exact hm a⟩));intro x hx hx2;rw[hh]at hx2;simp at hx2
variable{a:Int}
theorem Ie(hr:∀a∈c,a≠0/\a.natAbs<=n)(h:ddp [] c=ar [a]):∀b,b∈c↔b=a:=by obtain⟨h3,h4⟩:=qK (by simp) (λa ha=>(hr a ha).1) h;intro b;have:=h4 b;simp at this;exact this.symm
theorem VG(i:Inv n l d L S){c:Cl}{a:Int}(hc:c∈l)(hr:∀a∈c,a≠0/\a.natAbs<=n)(h:ddp [] c=ar [a])(hl:S.lv=[])(h1:¬a∈S.tr)(h2:¬ -a∈S.tr):Inv n l (d++[c]) L (kR S a aL):=by
 have hm:=Ie hr h;obtain⟨h3,h4⟩:=hr a ((hm a).2 rfl);refine Dt (i.letS h3 h4 h1 h2 (λj hj=>by cases hj) (λ_=>hl) λ_=> .unit c a (List.mem_append_left _ hc) ((hm a).2 rfl) λb hb hne=>absurd ((hm b).1 hb) hne) (.inr (.inl ⟨a,(hm a).2 rfl,?_,?_⟩))
 ·show a∈S.tr++[a];simp
 ·rw[xI,hl];rfl
theorem VH(i:Inv n l d L S){c:Cl}{a:Int}(hr:∀a∈c,a≠0/\a.natAbs<=n)(h:ddp [] c=ar [a])(hl:S.lv=[])(h1:a∈S.tr):Inv n l (d++[c]) L S:=by have hm:=Ie hr h;refine Dt i (.inr (.inl ⟨a,(hm a).2 rfl,h1,?_⟩));have:=i.t.lev_rng h1;rw[hl]at this;simp at this;omega
theorem Fa(hr:∀a∈c,a≠0/\a.natAbs<=n)(hc:c∈l)(h:ddp [] c=ar []):Bad (l++S.ln) []:=by obtain⟨_,h4⟩:=qK (by simp) (λa ha=>(hr a ha).1) h;refine .inl ⟨c,List.mem_append_left _ hc,λb hb=> ?_⟩;have:=(h4 b).2 (.inr hb);cases this
theorem VI(i:Inv n l d L S){c:Cl}{a:Int}(hc:c∈l)(hr:∀a∈c,a≠0/\a.natAbs<=n)(h:ddp [] c=ar [a])(hl:S.lv=[])(h1:-a∈S.tr):Bad (l++S.ln) []:=by have hm:=Ie hr h;refine .inl ⟨c,List.mem_append_left _ hc,λb hb=> ?_⟩;rw[(hm b).1 hb];obtain⟨p,hp,e⟩:=List.getElem_of_mem h1;rw[<-e];exact i.g.d0 p hp (by rw[hl];rfl)
def nxS(S:St)(nx:List (Int×Int)):St:={S with nx:=nx}
theorem UH(i:Inv n l d L S){nx:List (Int×Int)}(h1:∀k,1<=k->k<=n->(S.v k).value=0->((k:Int),(S.v k).score)∈nx)(h2:∀t∈nx,1<=t.1/\t.1<=n):Inv n l d L (nxS S nx) :=
 ⟨⟨i.t.nd,i.t.rng,i.t.val,i.t.lvl,i.t.lvs,i.t.lvh,i.t.hdl⟩,⟨i.c.c2,i.c.cnd,i.c.crg,i.c.wts,i.c.wtc,i.c.wnd⟩,⟨i.r.rea,i.r.dec⟩,⟨h1,h2⟩,⟨i.g.d0,i.g.src,i.g.rup,i.g.lrg,i.g.lnew⟩,i.lc,i.cv,i.lt,i.w⟩
def vJ(S:St)(k:Nat)(s:Int):St:={S with v:=upd S.v k {S.v k with score:=s}}
theorem oN{s:Int}(i:Nat):((vJ S k s).v i).value=(S.v i).value/\((vJ S k s).v i).level=(S.v i).level/\((vJ S k s).v i).reason=(S.v i).reason/\((vJ S k s).v i).last=(S.v i).last:=by
 unfold vJ upd;dsimp only;split
 ·rename_i h;subst h;exact⟨rfl,rfl,rfl,rfl⟩
 ·exact⟨rfl,rfl,rfl,rfl⟩
theorem nM{s:Int}:gG (vJ S k s) a=gG S a:=(oN _).2.1
theorem Td(i:Inv n l d L S){k:Nat}{s:Int}(hk:1<=k/\k<=n)(hv:(S.v k).value≠0):Inv n l d L (vJ S k s):=by
 refine⟨⟨i.t.nd,i.t.rng,λj h1 h2=>((oN j).1).trans (i.t.val j h1 h2),λp hp=>nM.trans (i.t.lvl p hp),i.t.lvs,i.t.lvh,i.t.hdl⟩,⟨i.c.c2,i.c.cnd,i.c.crg,i.c.wts,i.c.wtc,i.c.wnd⟩,
  ⟨λp hp j hj=>i.r.rea p hp j (((oN _).2.2.1).symm.trans hj),λp hp hj=>i.r.dec p hp (((oN _).2.2.1).symm.trans hj)⟩,⟨λj h1 h2 hz=> ?_,i.x.2⟩,⟨i.g.d0,i.g.src,i.g.rup,i.g.lrg,i.g.lnew⟩,?_,?_,i.lt,?_⟩
 ·have hz':(S.v j).value=0:=((oN j).1).symm.trans hz;have hne:j≠k:=λe=>hv (e▸hz');show((j:Int),(upd S.v k _ j).score)∈S.nx;rw[bM hne];exact i.x.all j h1 h2 hz'
 ·intro c hc;rcases i.lc c hc with⟨a,h1,h2,h3⟩|h
  ·exact .inl ⟨a,h1,h2,nM.trans h3⟩
  ·exact .inr h
 ·intro c hc;rcases i.cv c hc with h|⟨a,h1,h2,h3⟩|h
  ·exact .inl h
  ·exact .inr (.inl ⟨a,h1,h2,nM.trans h3⟩)
  ·exact .inr (.inr h)
 ·intro j hj x hx hm;obtain⟨y,h1,h2,h3⟩:=i.w j hj x hx hm;exact⟨y,h1,h2,by rw[nM,nM];exact h3⟩
end
def WQ(nt:Int):Cl->Cl
 |x::y::r=>if x=nt then y::x::r else x::y::r
 |c=>c
theorem Jn(S:St)(j:Nat):swS S j (S.cl j)=S:=by
 have:upd S.cl j (S.cl j)=S.cl:=funext λq=>by
  by_cases he:q=j
  ·subst he;rw[bD]
  ·rw[bM he]
 show {S with cl:=upd S.cl j (S.cl j),wt:=S.wt}=S;rw[this]
structure PI(n:Nat)(l d L:List Cl)(S:St)(nt:Int)(K R:List Nat):Prop where
 i:Inv n l d L S
 h:S.hd<aa S.tr
 e:S.tr[S.hd]=-nt
 wt:S.wt nt=K++R
 dn:∀j,j<S.nc->¬j∈R->Wat (S.hd+1) S j
structure Pr(S S':St):Prop where
 lv:S'.lv=S.lv
 nx:S'.nx=S.nx
 ln:S'.ln=S.ln
 nc:S'.nc=S.nc
theorem Pr.refl(S:St):Pr S S:=⟨rfl,rfl,rfl,rfl⟩
theorem Pr.trans{A B C:St}(p:Pr A B)(q:Pr B C):Pr A C:=⟨q.lv.trans p.lv,q.nx.trans p.nx,q.ln.trans p.ln,q.nc.trans p.nc⟩
section
variable{n:Nat}{l d L:List Cl}{S:St}{nt u:Int}{K R:List Nat}{j:Nat}{r:Cl}
theorem PI.start(i:Inv n l d L S)(h:S.hd<aa S.tr):PI n l d L S (-S.tr[S.hd]) [] (S.wt (-S.tr[S.hd])) :=
 ⟨i,h,by omega,rfl,λj hj hn=>O9 h (by omega) (i.w j hj) λhm=>hn (i.c.wtc j hj _ hm)⟩
theorem PI.mem(p:PI n l d L S nt K (j::R)):j<S.nc/\nt∈(S.cl j).take 2/\¬j∈K/\¬j∈R:=by
 have hm:j∈S.wt nt:=by rw[p.wt];simp
 have hn:=p.i.c.wnd nt;rw[p.wt,List.nodup_append]at hn;refine⟨(p.i.c.wts nt j hm).1,(p.i.c.wts nt j hm).2,λhk=>hn.2.2 j hk j (by simp) rfl,λhr=> ?_⟩;exact(List.nodup_cons.1 hn.2.1).1 hr
theorem PI.shape(p:PI n l d L S nt K (j::R)):∃u r,WQ nt (S.cl j)=u::nt::r/\PI n l d L (swS S j (u::nt::r)) nt K (j::R):=by
 obtain⟨hj,hm,_⟩:=p.mem;obtain⟨x,y,r0,ec⟩:∃x y r0,S.cl j=x::y::r0:=by
  have:=p.i.c.c2 j hj
  match h:S.cl j,this with
  |x::y::r0,_=>exact⟨x,y,r0,rfl⟩
 by_cases hx:x=nt
 ·subst hx;refine⟨y,r0,by rw[ec];exact if_pos rfl,p.i.swS ec,p.h,p.e,p.wt,λq hq hn=>(p.dn q hq hn).two λa=>Dq ec q a⟩
 ·have hy:y=nt:=by
   rw[ec]at hm;simp only[List.take_succ_cons,List.take_zero,zrj,zrp,or_false]at hm;rcases hm with hm|hm
   ·exact absurd hm.symm hx
   ·exact hm.symm
  subst hy;refine⟨x,r0,by rw[ec];exact if_neg hx,?_⟩;rw[<-ec,Jn];exact p
theorem PI.stay(p:PI n l d L S nt K (j::R))(hc:S.cl j=u::nt::r)(hu:u∈S.tr):PI n l d L S nt (K++[j]) R :=
 ⟨p.i,p.h,p.e,by rw[p.wt];simp,λq hq hn=>by
  by_cases he:q=j
  ·subst he;exact EY p.i.t p.h hc p.e hu
  ·exact p.dn q hq (by simp[he,hn])⟩
theorem PI.move(p:PI n l d L S nt K (j::R))(hc:S.cl j=u::nt::r){k:Nat}(hk:k<aa r)(hx:¬u∈S.tr)(ha:¬ -r[k]∈S.tr):PI n l d L (mvS S j nt r[k] (u::r[k]::r.set k nt)) nt K R:=by
 obtain⟨hj,hm,hK,hR⟩:=p.mem;obtain⟨a,ea⟩:∃a,a=r[k]:=⟨_,rfl⟩;rw[<-ea]at ha ⊢;have e1:r=r.take k++a::r.drop (k+1):=by rw[ea,List.getElem_cons_drop,List.take_append_drop]
 have e2:r.set k nt=r.take k++nt::r.drop (k+1):=by rw[List.set_eq_take_append_cons_drop,if_pos hk]
 rw[e2];have hc':S.cl j=u::nt::(r.take k++a::r.drop (k+1)):=by rw[<-e1];exact hc
 have hnd:=p.i.c.cnd j hj;rw[hc']at hnd;obtain⟨n1,n2,n3⟩:=XJ hnd;have hw:=SX p.i.t p.h hc' n1 p.e (p.i.w j hj) hx ha;refine⟨p.i.mvS hj hc' (hw.weak (Nat.le_succ _)),p.h,p.e,?_,λq hq hn=> ?_⟩
 ·show(if nt=nt then(S.wt nt).erase j else _)=_;rw[if_pos rfl,p.wt,List.erase_append_right _ hK,List.erase_cons_head]
 ·by_cases he:q=j
  ·subst he;exact hw
  ·exact(p.dn q hq (by simp[he,hn])).two λb=>by rw[bM he]
theorem PI.lets(p:PI n l d L S nt K (j::R))(hc:S.cl j=u::nt::r)(h1:¬u∈S.tr)(h2:¬ -u∈S.tr)(ha:∀b∈r,-b∈S.tr):PI n l d L (kR S u (ar j)) nt (K++[j]) R:=by
 obtain⟨hj,hm,hK,hR⟩:=p.mem;obtain⟨u0,un⟩:=p.i.c.crg j hj u (by rw[hc];simp);have hnt:-nt∈S.tr:=by rw[<-p.e];exact zqu p.h
 have i2:Inv n l d L (kR S u (ar j)):=p.i.letS u0 un h1 h2 (λq hq=>by
  cases hq;refine⟨hj,by rw[hc];simp,λb hb hne=> ?_⟩;rw[hc]at hb;simp only[zrj]at hb;rcases hb with hb|hb|hb
  ·exact absurd hb hne
  ·rw[hb];exact hnt
  ·exact ha b hb) (λh=>by cases h) (λh=>by cases h)
 have hh:(kR S u (ar j)).hd<(kR S u (ar j)).tr.length:=by show S.hd<aa (S.tr++[u]);rw[zqa];have:=p.h;omega
 have he:(kR S u (ar j)).tr[(kR S u (ar j)).hd]=-nt:=by exact(List.getElem_append_left p.h).trans p.e
 refine⟨i2,hh,he,by show S.wt nt=_;rw[p.wt];simp,λq hq hn=> ?_⟩;by_cases hqj:q=j
 ·subst hqj;exact EY i2.t hh hc he (by show u∈S.tr++[u];simp)
 ·exact(p.dn q hq (by simp[hqj,hn])).letS p.i.t p.h h1 h2
theorem PI.done(p:PI n l d L S nt K []):Inv n l d L (Ic S):=p.i.nextS p.h λj hj=>p.dn j hj (by simp)
end
structure Sco(S S':St):Prop where
 cl:S'.cl=S.cl
 nc:S'.nc=S.nc
 wt:S'.wt=S.wt
 tr:S'.tr=S.tr
 hd:S'.hd=S.hd
 lv:S'.lv=S.lv
 ln:S'.ln=S.ln
 nx:S'.nx=S.nx
 value:∀i,(S'.v i).value=(S.v i).value
 level:∀i,(S'.v i).level=(S.v i).level
 reason:∀i,(S'.v i).reason=(S.v i).reason
theorem Sco.refl(S:St):Sco S S:=⟨rfl,rfl,rfl,rfl,rfl,rfl,rfl,rfl,λ_=>rfl,λ_=>rfl,λ_=>rfl⟩
section
variable{n:Nat}{l d L:List Cl}{S S':St}
theorem Sco.bump(h:Sco S S')(k:Nat)(s:Int):Sco S (vJ S' k s) :=
 ⟨h.cl,h.nc,h.wt,h.tr,h.hd,h.lv,h.ln,h.nx,λi=>(oN i).1.trans (h.value i),λi=>(oN i).2.1.trans (h.level i),λi=>(oN i).2.2.1.trans (h.reason i)⟩
theorem Sco.llev(h:Sco S S')(a:Int):gG S' a=gG S a:=h.level _
variable{out:Cl}{k:Nat}
theorem Lrnt.sco(h:Lrnt n l S out k)(q:Sco S S'):Lrnt n l S' out k:=by
 refine⟨by rw[q.ln];exact h.bad,h.nd,h.rng,?_,by rw[q.lv];exact h.klt⟩;obtain⟨p,rest,h1,h2,h3,h4,h5⟩:=h.fst;refine⟨p,rest,h1,by rw[q.tr];exact h2,by rw[q.llev,q.lv];exact h3,λa ha=>⟨by rw[q.tr];exact(h4 a ha).1,by rw[q.llev];exact(h4 a ha).2⟩,?_⟩;rcases h5 with h5|⟨a,r,h5,h6⟩
 ·exact .inl h5
 ·exact .inr ⟨a,r,h5,by rw[q.llev];exact h6⟩
theorem Pj(i:Inv n l d L S){seen:List Nat}{rest rest':Cl}(k:LI S seen rest){q:Nat}(hq:q<aa S.tr)(hs:(S.tr[q]).natAbs∈seen)(hD:Go.Proofs.YthdidjjecjhenaaGreat.gG S S.tr[q]=aa S.lv)
 (hb:Bad (l++S.ln) (Dn (-S.tr[q]::rest))) (hp:rest'.Perm rest) {m:Nat} (hm:(rest'=[]/\m=0)\/∃a r,rest'=a::r/\Go.Proofs.YthdidjjecjhenaaGreat.gG S a=m) (hmax:∀a∈rest',Go.Proofs.YthdidjjecjhenaaGreat.gG S a<=m) (hlv:0<aa S.lv)
 (hbad:Bad (l++S.ln) (Dn (-S.tr[q]::rest'))):Lrnt n l S (-S.tr[q]::rest') m where
 bad:=hbad
 nd:=by
  rw[zrd,List.nodup_cons];refine⟨λhx=> ?_,(hp.map _).nodup_iff.2 k.rn⟩;obtain⟨b,hb1,hb2⟩:=zrh.1 hx;obtain⟨h1,h2,h3,h4⟩:=k.s2 b (hp.mem_iff.1 hb1);have h5:-b=S.tr[q]:=um i.t.nd (-b) h1 _ (zqu hq) (by rw[Int.natAbs_neg,hb2,Int.natAbs_neg]);rw[<-h5,gI]at hD;omega
 rng a ha:=by
  rcases zrj.1 ha with rfl|ha
  ·have:=i.t.rng _ (zqu hq);omega
  ·have:=i.t.rng _ (k.s2 a (hp.mem_iff.1 ha)).1;omega
 fst:=⟨S.tr[q],rest',rfl,zqu hq,hD,λa ha=>⟨(k.s2 a (hp.mem_iff.1 ha)).1,hmax a ha⟩,hm⟩
 klt:=by
  rcases hm with⟨_,rfl⟩|⟨a,r,h1,h2⟩
  ·exact hlv
  ·have:=(k.s2 a (hp.mem_iff.1 (by rw[h1];simp))).2.2.1;omega
end
section
variable{n:Nat}{l d Lc:List Cl}{S:St}
variable{seen seen':List Nat}{i:Nat}
theorem wP.mono(h:wP S seen i)(hs:∀v∈seen,v∈seen')(hn:∀(hi:i<aa S.tr),(S.tr[i]).natAbs∈seen'->(S.tr[i]).natAbs∈seen):wP S seen' i:=by intro hi h1 h2;obtain⟨k,k1,k2,k3⟩:=h hi (hn hi h1) h2;exact⟨k,k1,k2,λb hb hne=>⟨(k3 b hb hne).1,(k3 b hb hne).2.mono hs⟩⟩
theorem LZ(t:Tr n S){i q:Nat}(hi:i<aa S.tr){a:Int}(ha:-a∈S.tr.take q)(he:(S.tr[i]).natAbs=a.natAbs):i<q:=by
 obtain⟨p,hp,hpq,e⟩:=jR ha;have h1:S.tr[i]=S.tr[p]:=um t.nd _ (zqu hi) _ (zqu hp) (by rw[he,e,Int.natAbs_neg]);have hnd:=List.pairwise_iff_getElem.1 t.nodup;rcases Nat.lt_trichotomy i p with h2|h2|h2
 ·omega
 ·omega
 ·exact absurd h1.symm (hnd p i hp hi h2)
structure LA(S:St)(j0 q:Nat)(p:Int)(j:Nat)(seen:List Nat)(rest:Cl):Prop where
 li:LI S seen rest
 dn:∀i,q<i->wP S seen i
 qn:q<=aa S.tr
 jn:j<S.nc
 jf:∀b∈S.cl j,b≠p->-b∈S.tr.take q
 pp:(p=0/\q=aa S.tr/\j=j0)\/((∃hq:q<aa S.tr,p=S.tr[q])/\p∈S.cl j/\dY S seen q≠0/\∀b∈S.cl j0,Acc S seen b)
structure LC(S:St)(j0 q:Nat)(seen:List Nat)(rest:Cl):Prop where
 li:LI S seen rest
 dn:∀i,q<=i->wP S seen i
 qn:q<=aa S.tr
 op:dY S seen q≠0
 ac:∀b∈S.cl j0,Acc S seen b
variable{j0 q j:Nat}{rest:Cl}
theorem LA.mark{p:Int}(k:LA S j0 q p j seen rest)(t:Tr n S){a:Int}(ha:a∈S.cl j)(hap:a≠p)(h0:gG S a≠0)(hs:¬a.natAbs∈seen) :
 (gG S a=aa S.lv->LA S j0 q p j (seen++[a.natAbs]) rest/\dY S (seen++[a.natAbs]) q=dY S seen q+1) /\
 (gG S a≠aa S.lv->LA S j0 q p j (seen++[a.natAbs]) (rest++[a])/\dY S (seen++[a.natAbs]) q=dY S seen q):=by
 have hat:=k.jf a ha hap;obtain⟨m1,m2⟩:=k.li.mark t hat h0 hs;have hsub:∀v∈seen,v∈seen++[a.natAbs]:=λv hv=>List.mem_append_left _ hv;have dn:∀i,q<i->wP S (seen++[a.natAbs]) i:=λi hi=>(k.dn i hi).mono hsub λhil hm=>by
  rcases zrf.1 hm with hm|hm
  ·exact hm
  ·have:=LZ t hil hat (zrc.1 hm);omega
 refine⟨λh=>⟨⟨(m1 h).1,dn,k.qn,k.jn,k.jf,?_⟩,(m1 h).2⟩,λh=>⟨⟨(m2 h).1,dn,k.qn,k.jn,k.jf,?_⟩,(m2 h).2⟩⟩
 ·rcases k.pp with h1|⟨h1,h2,h3,h4⟩
  ·exact .inl h1
  ·exact .inr ⟨h1,h2,by rw[(m1 h).2];omega,λb hb=>(h4 b hb).mono hsub⟩
 ·rcases k.pp with h1|⟨h1,h2,h3,h4⟩
  ·exact .inl h1
  ·exact .inr ⟨h1,h2,by rw[(m2 h).2];exact h3,λb hb=>(h4 b hb).mono hsub⟩
theorem LA.done{p:Int}(k:LA S j0 q p j seen rest)(t:Tr n S)(h0:∀b∈S.cl j0,b≠0)(hlv:0<aa S.lv)(htop:∃b∈S.cl j0,gG S b=aa S.lv)
 (hac:∀b∈S.cl j,b≠p->Acc S seen b):LC S j0 q seen rest:=by
 rcases k.pp with⟨rfl,hq,rfl⟩|⟨⟨hq,hp⟩,h2,h3,h4⟩
 ·have hac:∀b∈S.cl j,Acc S seen b:=λb hb=>hac b hb (h0 b hb);refine⟨k.li,λi hi h=>by omega,k.qn,?_,hac⟩;obtain⟨b,hb,hl⟩:=htop;have h1:=k.jf b hb (h0 b hb);have h2:b.natAbs∈seen:=(hac b hb).resolve_left (by omega);unfold dY;have:0<(S.tr.take q).countP λa=>aM (a.natAbs∈seen)&&aM (gG S a=aa S.lv):=List.countP_pos_iff.2 ⟨-b,h1,by simp[h2,gI,hl]⟩;omega
 ·refine⟨k.li,λi hi=> ?_,k.qn,h3,h4⟩;rcases Nat.lt_or_eq_of_le hi with hi|rfl
  ·exact k.dn i hi
  ·intro _ _ _;exact⟨j,k.jn,hp▸h2,λb hb hne=>by
    rw[<-hp]at hne;exact⟨k.jf b hb hne,hac b hb hne⟩⟩
variable{q':Nat}
theorem LC.next(k:LC S j0 q seen rest)(i:Inv n l d Lc S)(hlv:0<aa S.lv)(hj0:j0<S.nc)(hf:∀b∈S.cl j0,-b∈S.tr)(h1:q'+1<=q)(h2:q'<aa S.tr)(hg:Gap S seen (q'+1) q)(hs:(S.tr[q']).natAbs∈seen) :
 gG S S.tr[q']=aa S.lv/\dY S seen q=dY S seen q'+1/\(dY S seen q'=0->Bad (l++S.ln) (Dn (-S.tr[q']::rest))) /\
 (dY S seen q'≠0->∃c,(S.v (S.tr[q']).natAbs).reason=ar c/\LA S j0 q' S.tr[q'] c seen rest):=by
 obtain⟨hD,ho⟩:=LV i.t h1 h2 hg k.op hs;have dn:∀p,q'<p->wP S seen p:=by
  intro p hp hpl hps hpd;by_cases hpq:p<q
  ·exact absurd hps (hg p hpl (by omega) hpq)
  ·exact k.dn p (by omega) hpl hps hpd
 refine⟨hD,ho,λh=>Ph i k.li h2 hs hD h dn hj0 λb hb=>⟨hf b hb,k.ac b hb⟩,λh=> ?_⟩;obtain⟨c,c1,c2,c3,c4⟩:=Pg (seen:=seen) i.r i.t h2 hlv hD h;exact⟨c,c1,k.li,dn,by omega,c2,c4,.inr ⟨⟨h2,rfl⟩,c3,h,k.ac⟩⟩
theorem LA.start(t:Tr n S){j0:Nat}(hj:j0<S.nc)(hf:∀b∈S.cl j0,-b∈S.tr):LA S j0 (aa S.tr) 0 j0 [] [] :=
 ⟨LI.start,λi hi h=>by omega,zrb _,hj,λb hb _=>by rw[zrx];exact hf b hb,.inl ⟨rfl,rfl,rfl⟩⟩
theorem Jo(h:q<=aa S.tr):dY S seen q<=q:=by unfold dY;refine Nat.le_trans List.countP_le_length ?_;rw[zrl];omega
end
theorem bC{dst:Option Tmp}{Kn:Fr->H->Prop}{Q:XE->Fr->H->Prop}{f:Fr}{v:V}{h:H}{p:Nat->Bool}:Ld dst Kn Q f (.ret v) h p=((∀i∈f.d,p i=am)/\Kn ((f.drop p).put dst v) h):=rfl
inductive Ro where
 |s|v|m|t|l|x|g
 |c (j:Nat)
 |w (a:Int)
 |k (i:Nat)
 |e (o:O)
structure Lay where
 s:Nat
 v:Nat
 m:Nat
 t:Nat
 l:Nat
 x:Nat
 g:Nat
 c:Nat->Nat
 w:Int->Option Nat
 k:Nat->Nat
 ro:Nat->Option Ro
def Jp(o:Option Nat)(k len:Nat):V:=match o with|none=> .nils|some id=> .ls id k 0 len len
def iG(h:H)(L:Lay)(r:Ro)(o:Option Nat)(cs:List V):Prop:=match o with|none=>cs=[]|some id=>h[id]? =ar (aw cs)/\L.ro id=ar r
def clV(L:Lay)(S:St)(j:Nat):V:= .ls (L.c j) 1 0 (aa (S.cl j)) (aa (S.cl j))
def reV(L:Lay)(S:St)(r:Option Nat):V:=match r with|none=> .nils|some j=>clV L S j
def iE(L:Lay)(S:St)(x:VS):List V:=[vi x.value,vi x.level,reV L S x.reason,vi x.last,vi x.score]
def eH(L:Lay)(S:St)(n:Nat):List V:=(List.range (n+1)).flatMap λi=>iE L S (S.v i)
def bG(nx:List (Int×Int)):List V:=nx.flatMap λt=>[vi t.1,vi t.2]
def lnV(L:Lay)(S:St)(i:Nat):V:= .ls (L.k i) 1 0 (aa (S.ln.getD i [])) (aa (S.ln.getD i []))
def ay(n:Nat)(bud:Int)(L:Lay)(S:St):List V :=
 [.ls L.v 5 0 (n+1) (n+1),.lm L.m,.ls L.t 1 0 (aa S.tr) (aa S.tr),vi S.hd,.ls L.l 1 0 (aa S.lv) (aa S.lv),.ls L.x 2 0 (aa S.nx) (aa S.nx),.ls L.g 1 0 (aa S.ln) (aa S.ln),vi bud]
def iH(lv:List Nat):List V:=lv.map λ(x:Nat)=>vi (x:Int)
def Ext(L:Lay)(o:O):Prop:=∀p:Nat->Bool,(∀q r,L.ro q=ar r->p q=ab->r= .t\/r= .l\/r= .x\/r= .g\/∃a,r= .w a)->o.drop p=o
theorem Ext.mono{L L':Lay}{o:O}(h:Ext L o)(hl:∀i r,L.ro i=ar r->L'.ro i=ar r):Ext L' o:=λp hp=>h p λq r hq=>hp q r (hl q r hq)
structure HR(n:Nat)(L:Lay)(S:St)(h:H):Prop where
 var:h[L.v]? =ar (aw (eH L S n))
 map:∃ks:List Int,h[L.m]? =ar (.map (ks.map vi) (ks.map λa=>Jp (L.w a) 1 (aa (S.wt a))))/\ks.Nodup/\∀a,¬a∈ks->L.w a=aL/\S.wt a=[]
 trl:h[L.t]? =ar (aw (S.tr.map vi))
 lvl:h[L.l]? =ar (aw (iH S.lv))
 nxl:h[L.x]? =ar (aw (bG S.nx))
 lnl:h[L.g]? =ar (aw ((List.range (aa S.ln)).map (lnV L S)))
 lnk:∀i,i<aa S.ln->h[L.k i]? =ar (aw ((S.ln.getD i []).map vi))/\L.ro (L.k i)=ar (.k i)
 cla:∀j,j<S.nc->h[L.c j]? =ar (aw ((S.cl j).map vi))/\L.ro (L.c j)=ar (.c j)
 wat:∀a,iG h L (.w a) (L.w a) ((S.wt a).map (clV L S))
 fre:∀i,i<=n->∀j,(S.v i).reason=ar j->j<S.nc
 fwt:∀a,∀j∈S.wt a,j<S.nc
 rs:L.ro L.s=ar .s
 rv:L.ro L.v=ar .v
 rm:L.ro L.m=ar .m
 rt:L.ro L.t=ar .t
 rl:L.ro L.l=ar .l
 rx:L.ro L.x=ar .x
 rg:L.ro L.g=ar .g
 rlt:∀i r,L.ro i=ar r->i<aa h
 ext:∀i o,L.ro i=ar (.e o)->h[i]? =ar o/\Ext L o
structure HS(n:Nat)(bud:Int)(L:Lay)(S:St)(h:H):Prop extends HR n L S h where
 sol:h[L.s]? =ar (aw (ay n bud L S))
section
variable{n:Nat}{bud:Int}{L:Lay}{S:St}{h:H}
theorem bY:aa (eH L S n)=5*(n+1):=by
 unfold eH;generalize n+1=m
 induction m with
 |zero=>rfl
 |succ m ih=>rw[List.range_succ,List.flatMap_append,zqa,ih];simp[iE];omega
theorem Fb{α:Type}(f:Nat->List α)(k:Nat)(hk:∀i,aa (f i)=k)(d:α):∀(m i j:Nat),i<m->j<k->((List.range m).flatMap f).getD (i*k+j) d=(f i).getD j d
 |0,i,j,hi,_=>by omega
 |m+1,i,j,hi,hj=>by
  have hlen:∀m,aa ((List.range m).flatMap f)=m*k:=by
   intro m
   induction m with
   |zero=>simp
   |succ m ih=>rw[List.range_succ,List.flatMap_append,zqa,ih];simp[hk,Nat.succ_mul]
  rw[List.range_succ,List.flatMap_append,zqg];by_cases h:i<m
  ·have:i*k+j<m*k:=by have:=Nat.mul_le_mul_right k (show i+1<=m by omega);rw[Nat.succ_mul]at this;omega
   rw[zqj (by rw[hlen];exact this),<-zqg];exact Fb f k hk d m i j h hj
  ·have:i=m:=by omega
   subst this;rw[zsb (by rw[hlen];omega),hlen,show i*k+j-i*k=j by omega];simp[zqg]
variable{i j:Nat}
theorem nN(hi:i<=n)(hj:j<5):(eH L S n).getD (i*5+j) .any=(iE L S (S.v i)).getD j .any :=
 Fb (λi=>iE L S (S.v i)) 5 (λ_=>rfl) .any (n+1) i j (by omega) hj
variable{a:Int}
theorem UI{n:Nat}(hn:n<=20000)(h1:a.natAbs<=n):yh [vi a,.int .i64 (a5 .i64 (0-a))]=(True,vi (a.natAbs:Int)):=by
 rw[aV (by omega) (by omega)];simp only[yh];split
 ·rw[show 0-a=(a.natAbs:Int) by omega]
 ·rw[show a=(a.natAbs:Int) by omega];rfl
theorem oO(hs:HS n bud L S h)(hn:n<=20000){a:Int}(h1:a.natAbs<=n){R:AEnd->H->(Nat->Bool)->Prop}(hr:R (.ret (.lp L.v (a.natAbs*5))) h (λ_=>am)):ag TE 116 [.lp L.s 0,vi a] h R:=by have hsol:=hs.sol;refine ah Tryz.func116 rfl (by simp[nts]) (vm ?_);simp only[wq.1,seval,Tryz.results116,hsol,ay,UI hn h1];exact⟨⟨by omega,by omega⟩,hr⟩
theorem vc0(hi:i<=n):(eH L S n).getD (i*5) .any=vi (S.v i).value:=nN hi (j:=0) (by omega)
theorem vc1(hi:i<=n):(eH L S n).getD (i*5+1) .any=vi (S.v i).level:=nN hi (by omega)
theorem vc2(hi:i<=n):(eH L S n).getD (i*5+2) .any=reV L S (S.v i).reason:=nN hi (by omega)
theorem vc3(hi:i<=n):(eH L S n).getD (i*5+3) .any=vi (S.v i).last:=nN hi (by omega)
theorem vc4(hi:i<=n):(eH L S n).getD (i*5+4) .any=vi (S.v i).score:=nN hi (by omega)
theorem lS(hs:HS n bud L S h)(hn:n<=20000){a:Int}(h1:a.natAbs<=n)(hv:-1<=(S.v a.natAbs).value/\(S.v a.natAbs).value<=1){R:AEnd->H->(Nat->Bool)->Prop}(hr:R (.ret (vi (mY S a))) h (λ_=>am)):ag TE 97 [.lp L.s 0,vi a] h R:=by
 have hvar:=hs.var;have hw:a5 .i64 (0-(S.v a.natAbs).value)=-(S.v a.natAbs).value:=by rw[aV (by omega) (by omega)];omega
 refine ah Tryz.func97 rfl (by simp[nts]) (vm ?_);simp only[wq.1,seval,Tryz.results97];refine vcB.mk (λhc=> ?_) (λhc=> ?_)
 ·have hl:mY S a=-(S.v a.natAbs).value:=by unfold mY;rw[if_pos (by simpa using hc)]
  simp only[wq.1,seval];refine oO hs hn h1 ?_;simp only[wq.1,seval,hvar,bY,vc0 h1,hw];rw[hl]at hr;exact⟨by omega,hr⟩
 ·have hl:mY S a=(S.v a.natAbs).value:=by unfold mY;rw[if_neg (by simpa using hc)]
  simp only[wq.1,seval];refine oO hs hn h1 ?_;simp only[wq.1,seval,hvar,bY,vc0 h1];rw[hl]at hr;exact⟨by omega,hr⟩
end
end Go.Proofs.YthdidjjecjhenaaGreat
