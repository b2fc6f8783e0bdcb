/- Lemmas for this claim, part F09: each holds under what it names. -/
import Derived.Test.YthaijohbpdabfaaGreatDoorXF08
import Derived.Test.YthaijohbpdabfaaGreatDoorXF07
import Derived.Test.YthaijohbpdabfaaGreatDoorXF02
import Derived.Test.YthaijohbpdabfaaGreatDoorXA9
import Derived.Test.YthaijohbpdabfaaGreatDoorXA8
set_option linter.all false
set_option maxRecDepth 20000
namespace Go.Proofs.YthaijohbpdabfaaGreatDoor
open Go Go.Proofs Go.Abs
open List renaming length → aa, replicate → ao
open Bool renaming true → ab, false → ac
open Option renaming some → al, none → aq
open Decidable renaming decide → ar
open Go.IntKind renaming wrap → aD
open Go.Result renaming andThen → aM
open Go.Abs.O renaming cells → am
open Go.Abs.V renaming drops → ap, dat → aE, dats → aL
theorem JO:∀(row:S)(i j:Nat),bf i (row.set j 45)=(bf i row).filter λx=>x.1 != i+j
 |[],i,j=>by simp[bf]
 |c::r,i,0=>by
  rw[List.set_cons_zero,bf,if_pos rfl,bf];have hr:(bf (i+1) r).filter (λx=>x.1 != i+0)=bf (i+1) r:=by
   rw[List.filter_eq_self];intro x hx;have:=mQ hx;simp;omega
  split
  ·exact hr.symm
  ·rw[List.filter_cons_of_neg (by simp),hr]
 |c::r,i,j+1=>by
  have ih:=JO r (i+1) j;have e:i+1+j=i+(j+1):=by omega
  rw[e]at ih;rw[List.set_cons_succ,bf,bf,ih];split
  ·rfl
  ·rw[List.filter_cons_of_pos (by simp;try omega)]
theorem Qa(l:List Li):∀row:S,aX (jR row l)=(aX row).filter λx=> !(l.any λy=>y.1==x.1):=by
 unfold jR aX
 induction l with
 |nil=>intro row;exact(List.filter_eq_self.2 λx _=>rfl).symm
 |cons y l ih =>
  intro row;rw[List.foldl_cons,ih,JO,List.filter_filter];refine List.filter_congr λx _=> ?_;rw[Nat.zero_add,List.any_cons,Bool.not_or];have:(x.1 != y.1)= !(y.1==x.1):=by
   unfold bne
   congr 1
   by_cases h:x.1=y.1
   ·rw[h]
   ·have h2:y.1≠x.1:=Ne.symm h;rw[beq_eq_false_iff_ne.2 h,beq_eq_false_iff_ne.2 h2]
  rw[this,Bool.and_comm]
theorem Uj{row:S}{x y:Li}(hx:x∈aX row)(hy:y∈aX row)(h:x.1=y.1):x=y:=by obtain⟨_,a⟩:=uG hx;obtain⟨_,b⟩:=uG hy;rw[h,b]at a;exact Prod.ext h (Option.some.inj a).symm
theorem Uk{v:List Bool}{l:List Li}{row:S}(h:∀x∈l,x∈aX row):(aX row).all (lv v)=(l.all (lv v)&&(aX (jR row l)).all (lv v)):=by
 rw[Qa];rw[Bool.eq_iff_iff];simp only[zqf,zrs,List.mem_filter,Bool.not_eq_true',List.any_eq_false];constructor
 ·exact λhh=>⟨λx hx=>hh x (h x hx),λx hx=>hh x hx.1⟩
 ·rintro⟨h1,h2⟩ x hx;by_cases hin:x∈l
  ·exact h1 x hin
  ·refine h2 x ⟨hx,λy hy he=>hin ?_⟩;have he:y.1=x.1:=by simpa using he
   rw[<-Uj (h y hy) hx he];exact hy
theorem Qb{row:S}{v:List Bool}(h:kw row=ab):(aX row).all (lv v)=ab:=by
 have:aX row=[]:=by
  have h1:=qG 0 row;have h2:zU row=0:=by unfold zU;rw[List.countP_eq_zero];intro c hc;have:=zrs.1 h c hc;simpa using this
  rw[h2]at h1;exact zse h1
 rw[this];rfl
theorem JP{row:S}(l:List Li)(h:RI row):RI (jR row l):=by
 unfold jR
 induction l generalizing row with
 |nil=>exact h
 |cons x l ih =>
  refine ih λc hc=> ?_;rcases List.mem_or_eq_of_mem_set hc with hc|hc
  ·exact h c hc
  ·exact .inl hc
def uH(v:List Bool)(rows:List S):Bool:=rows.any λr=>(aX r).all (lv v)
theorem Qc{v:List Bool}{l:List Li}:∀ {rows:List S},(∀r∈rows,∀x∈l,x∈aX r)->rows≠[]->uH v rows=(l.all (lv v)&&uH v (aS rows l)):=by
 intro rows h _;have:∀rows:List S,(∀r∈rows,∀x∈l,x∈aX r)->uH v rows=(l.all (lv v)&&uH v (aS rows l)):=λrows=>by
  induction rows with
  |nil=>intro _;simp[uH,aS]
  |cons r rows ih=>intro h;have e1:uH v (r::rows)=((aX r).all (lv v)||uH v rows):=rfl;have e2:uH v (aS (r::rows) l)=((aX (jR r l)).all (lv v)||uH v (aS rows l)):=rfl;rw[e1,e2,ih λq hq=>h q (by simp[hq]),Uk (h r (by simp)),Bool.and_or_distrib_left]
 exact this rows h
theorem F6{v:List Bool}(p:S->Bool):∀rows:List S,uH v rows=(uH v (rows.filter p)||uH v (rows.filter λr=> !p r))
 |[]=>rfl
 |r::rows=>by
  have e1:uH v (r::rows)=((aX r).all (lv v)||uH v rows):=rfl;rw[e1,F6 p rows];by_cases h:p r=ab
  ·rw[List.filter_cons_of_pos h,List.filter_cons_of_neg (by simp[h])];show _=((aX r).all (lv v)||uH v (rows.filter p)||_);rw[Bool.or_assoc]
  ·rw[List.filter_cons_of_neg h,List.filter_cons_of_pos (by simp[h])];show _=(uH v (rows.filter p)||((aX r).all (lv v)||_));rw[<-Bool.or_assoc,<-Bool.or_assoc,Bool.or_comm ((aX r).all (lv v))];rfl
def Zz(v:List Bool)(rows:List S)(l:List Fo):Prop:=(rows=[]/\l=[⟨0,0,0⟩])\/((rows.any kw=ab/\uH v rows=ab)/\∃f:Fo,f.kind=1/\l=[f])\/VF v [uH v rows] l
theorem Zz.rest{v:List Bool}{rows:List S}{l:List Fo}(h:Zz v rows l)(hne:rows≠[]):YR v (uH v rows) l:=by
 rcases h with⟨h,_⟩|⟨hb,h⟩|h
 ·exact absurd h hne
 ·exact .inl ⟨hb.2,.inl h⟩
 ·exact .inr h
theorem DC{v:List Bool}:∀(f:Nat)(rows:List S),(∀r∈rows,RI r)->bH rows<f->Zz v rows (vM f rows)
 |0,_,_,h=>by omega
 |f+1,rows,hb,hs=>by
  unfold vM;by_cases h0:rows=[]
  ·rw[if_pos h0,h0];exact .inl ⟨rfl,rfl⟩
  rw[if_neg h0];by_cases h1:rows.any kw=ab
  ·rw[if_pos h1];refine .inr (.inl ⟨⟨h1,?_⟩,_,rfl,rfl⟩);obtain⟨r,hr,hf⟩:=List.any_eq_true.1 h1;exact List.any_eq_true.2 ⟨r,hr,Qb hf⟩
  rw[if_neg h1];have hfree:∀r∈rows,kw r=ac:=λr hr=>by
   have h1:rows.any kw=ac:=by simpa using h1
   rw[List.any_eq_false]at h1;simpa using h1 r hr
  refine .inr (.inr ?_);obtain⟨r0,rs,rfl⟩:∃r0 rs,rows=r0::rs:=by
   cases rows with
   |nil=>exact absurd rfl h0
   |cons a b=>exact⟨a,b,rfl⟩
  by_cases h2:bz (r0::rs)≠[]
  ·rw[if_pos h2];obtain⟨x,cs,hc⟩:∃x cs,bz (r0::rs)=x::cs:=by
    cases hcc:bz (r0::rs)with
    |nil=>exact absurd hcc h2
    |cons a b=>exact⟨a,b,rfl⟩
   have hcm:∀y∈bz (r0::rs),y∈aX r0:=λy hy=>(List.mem_filter.1 hy).1;have hx:x∈aX r0:=hcm x (by rw[hc];simp);have hsz:bH (aS (r0::rs) (bz (r0::rs)))<bH (r0::rs):=by rw[hc];exact iy hx
   have hall:∀r∈r0::rs,∀y∈bz (r0::rs),y∈aX r:=λr hr y hy=>by have:=(List.mem_filter.1 hy).2;rw[beq_iff_eq]at this;exact lw (List.countP_eq_length.1 this r hr)
   have ih:=DC (v:=v) f (aS (r0::rs) (bz (r0::rs))) (λr hr=>by
    obtain⟨q,hq,rfl⟩:=zrh.1 hr;exact JP _ (hb q hq)) (by omega)
   rw[Qc hall (by simp)];exact VF.all (λy hy=>Dz (hb r0 (by simp)) y (hcm y hy)) h2 (ih.rest (by unfold aS;simp))
  ·rw[if_neg h2];by_cases h3:(jZ (r0::rs)).2<2
   ·rw[if_pos h3];have key:∀l:List S,(∀r∈l,RI r/\kw r=ac)->VF v (l.map λr=>(aX r).all (lv v)) (l.flatMap λr=>yZ (aX r) []):=λl=>by
     induction l with
     |nil=>exact λ_=> .nil
     |cons r l ih=>intro h;rw[zrd,List.flatMap_cons];obtain⟨a1,a2⟩:=h r (by simp);have:=VF.all (v:=v) (b:=ab) (rest:=[]) (Dz a1) (uF a2) (.inl ⟨rfl,.inr rfl⟩);rw[Bool.and_true]at this;exact this.app (ih λq hq=>h q (by simp[hq]))
    have:=VF.or (v:=v) (fo:=⟨4,0,aa (r0::rs)⟩) (cs:=(r0::rs).map λr=>(aX r).all (lv v)) (bs:=[]) (l:=(r0::rs).flatMap λr=>yZ (aX r) []) rfl (by simp) (by rw[zqp];exact key _ λr hr=>⟨hb r hr,hfree r hr⟩);rw[List.any_map]at this;exact this
   ·rw[if_neg h3];obtain⟨x,hx⟩:∃x,x=(jZ (r0::rs)).1:=⟨_,rfl⟩;rw[<-hx];have m2:(jZ (r0::rs)).2=iW (r0::rs) x:=by
     rcases Dp (r0::rs)with⟨h,_⟩|⟨a,b⟩
     ·omega
     ·exact hx▸b
    have hex:∃r∈r0::rs,jc x r=ab:=List.countP_pos_iff.1 (show 0<iW (r0::rs) x by omega);obtain⟨p,hp,hpx⟩:=hex;have hpx':=lw hpx;have hq:∃q qs,(r0::rs).filter (jc x)=q::qs:=by
     have:p∈(r0::rs).filter (jc x):=List.mem_filter.2 ⟨hp,hpx⟩;cases hc:(r0::rs).filter (jc x)with
     |nil=>rw[hc]at this;cases this
     |cons a b=>exact⟨a,b,rfl⟩
    obtain⟨q,qs,hqe⟩:=hq;have hqx:x∈aX q:=lw (List.mem_filter.1 (show q∈(r0::rs).filter (jc x) by rw[hqe];simp)).2;have hs1:bH (aS ((r0::rs).filter (jc x)) [x])<bH (r0::rs):=by have h4:=lu (jc x) (r0::rs);rw[hqe]at h4 ⊢;have:=iy (l:=[]) (rows:=qs) hqx;omega
    have hs2:bH ((r0::rs).filter λr=> !jc x r)<bH (r0::rs):=jD ⟨p,hp,by rw[hpx];rfl⟩;have i1:=DC (v:=v) f (aS ((r0::rs).filter (jc x)) [x]) (λr hr=>by
     obtain⟨s,hs,rfl⟩:=zrh.1 hr;exact JP _ (hb s (List.mem_filter.1 hs).1)) (by omega)
    have i2:=DC (v:=v) f ((r0::rs).filter λr=> !jc x r) (λr hr=>hb r (List.mem_filter.1 hr).1) (by omega);have a1:=VF.all (v:=v) (l:=[x]) (λy hy=>by rw[zrc.1 hy];exact Dz (hb p hp) x hpx') (by simp) (i1.rest (by rw[hqe];unfold aS;simp));have e1:=Qc (v:=v) (l:=[x]) (rows:=(r0::rs).filter (jc x)) (λr hr y hy=>by rw[zrc.1 hy];exact lw (List.mem_filter.1 hr).2) (by rw[hqe];simp);rw[<-e1]at a1;have a2:VF v [uH v ((r0::rs).filter λr=> !jc x r)] (vM f ((r0::rs).filter λr=> !jc x r)):=by
     rcases i2 with⟨h,_⟩|⟨⟨h,_⟩,_⟩|h
     ·exfalso;have hall:∀r∈r0::rs,jc x r=ab:=λr hr=>by
       cases hh:jc x r with
       |true=>rfl
       |false=>have:r∈(r0::rs).filter λr=> !jc x r:=List.mem_filter.2 ⟨hr,by rw[hh];rfl⟩;rw[h]at this;cases this
      have:x∈bz (r0::rs):=by refine List.mem_filter.2 ⟨lw (hall r0 (by simp)),?_⟩;rw[beq_iff_eq];exact List.countP_eq_length.2 hall
      have h2:bz (r0::rs)=[]:=by simpa using h2
      rw[h2]at this;cases this
     ·exfalso;obtain⟨r,hr,hh⟩:=List.any_eq_true.1 h;rw[hfree r (List.mem_filter.1 hr).1]at hh;cases hh
     ·exact h
    have:=VF.or (v:=v) (fo:=⟨4,0,2⟩) (cs:=[uH v ((r0::rs).filter (jc x)),uH v ((r0::rs).filter λr=> !jc x r)]) (bs:=[]) rfl rfl (by rw[zqp];exact a1.app a2);rw[F6 (jc x)];simpa using this
def Eqs(σ:S->Bool)(gs:List Ga):Prop:=∀g∈gs,σ g.name=qW g (g.ins.map σ)
def Ai(σ:S->Bool)(x:Xs):Prop:=∀(n:Nat)(s t:S),x.nots.1[n]? =al s->x.nots.2[n]? =al t->σ t= !σ s
def zV(x y:Xs):Prop:=∃gs,y.gates=x.gates++gs
theorem zV.refl(x:Xs):zV x x:=⟨[],by simp⟩
theorem zV.trans{x y z:Xs}(h:zV x y)(k:zV y z):zV x z:=by obtain⟨a,ha⟩:=h;obtain⟨b,hb⟩:=k;exact⟨a++b,by rw[hb,ha,zqc]⟩
theorem Eqs.pre{σ:S->Bool}{x y:Xs}(h:Eqs σ y.gates)(k:zV x y):Eqs σ x.gates:=λg hg=>by obtain⟨a,ha⟩:=k;exact h g (by rw[ha];exact List.mem_append_left _ hg)
theorem qc(x:Xs)(g:Ga):zV x (iJ x g).1:=by
 unfold iJ;split
 ·exact⟨_,rfl⟩
 ·exact⟨_,rfl⟩
theorem ji(x:Xs)(g:Ga):(iJ x g).1.nots=x.nots:=by unfold iJ;split<;>rfl
theorem vP{σ:S->Bool}{x:Xs}{g:Ga}(h:Eqs σ (iJ x g).1.gates):σ (iJ x g).2=qW g (g.ins.map σ):=by
 unfold iJ at h ⊢;split
 ·rename_i hn;rw[if_pos hn]at h;exact h {g with name:=oO x.used} (by simp)
 ·rename_i hn;rw[if_neg hn]at h;exact h g (by simp)
theorem WY(n:S)(b:Bool):qW ⟨n,3,[],[],ac⟩ [b]= !b:=by cases b<;>rfl
theorem MF(x:Xs)(s:S):zV x (dI x s).1:=by
 unfold dI;split
 ·exact zV.refl x
 ·exact qc x _
theorem MG{σ:S->Bool}{x:Xs}{s:S}(hl:aa x.nots.1=aa x.nots.2)(hn:Ai σ x)(h:Eqs σ (dI x s).1.gates):σ (dI x s).2= !σ s/\Ai σ (dI x s).1/\(dI x s).1.nots.1.length=(dI x s).1.nots.2.length:=by
 unfold dI at h ⊢;cases ha:at? x.nots.1 s with
 |some n =>
  obtain⟨h1,h2⟩:=kY ha;have hb:n<aa x.nots.2:=by omega
  refine⟨?_,hn,hl⟩;have:=hn n s x.nots.2[n] (by rw[zqk h1,h2]) (zqk hb);dsimp only;rw[zqg,zqk hb];exact this
 |none =>
  rw[ha]at h;dsimp only at h ⊢;have hv:=vP h;have e:qW ⟨[],3,[s],[],ac⟩ [σ s]= !σ s:=WY [] (σ s);have hv:σ (iJ x ⟨[],3,[s],[],ac⟩).2= !σ s:=by rw[hv];exact e
  refine⟨hv,λn u t h1 h2=> ?_,by simp[hl]⟩;have h1:(x.nots.1++[s])[n]? =al u:=h1;have h2:(x.nots.2++[(iJ x ⟨[],3,[s],[],ac⟩).2])[n]? =al t:=h2;by_cases hlt:n<aa x.nots.1
  ·rw[zqj hlt]at h1;rw[zqj (by omega)]at h2;exact hn n u t h1 h2
  ·have hl1:=(zqe h1).1;rw[zqa,zrk]at hl1;have:n=aa x.nots.1:=by omega
   subst this;rw[zsb (zrb _),Nat.sub_self]at h1;rw[hl,zsb (zrb _),Nat.sub_self]at h2;have h1:s=u:=Option.some.inj h1;have h2:(iJ x ⟨[],3,[s],[],ac⟩).2=t:=Option.some.inj h2;rw[<-h1,<-h2];exact hv
theorem F7:∀l:List Bool,(l.count ab==aa l)=l.all id
 |[]=>rfl
 |b::l=>by
  have ih:=F7 l;have hle:l.count ab<=aa l:=List.count_le_length;cases b with
  |true =>
   rw[List.count_cons_self,zrt,List.all_cons,<-ih,id,Bool.true_and];by_cases h:l.count ab=aa l
   ·rw[h];simp
   ·rw[beq_eq_false_iff_ne.2 h,beq_eq_false_iff_ne.2 (by omega)]
  |false=>rw[List.count_cons_of_ne (by decide),zrt,List.all_cons,id,Bool.false_and];exact beq_eq_false_iff_ne.2 (by omega)
theorem F8:∀l:List Bool,ar (0<l.count ab)=l.any id
 |[]=>rfl
 |b::l=>by
  cases b with
  |true=>rw[List.count_cons_self,List.any_cons];simp
  |false=>rw[List.count_cons_of_ne (by decide),F8 l,List.any_cons];simp
def oD(op:Int)(l:List Bool):Bool:=if op=4 then l.all id else l.any id
theorem uI(n:S)(is:List S)(l:List Bool):qW ⟨n,4,is,[],ac⟩ l=oD 4 l/\qW ⟨n,6,is,[],ac⟩ l=oD 6 l/\qW ⟨n,5,is,[],ac⟩ l= !oD 4 l/\qW ⟨n,7,is,[],ac⟩ l= !oD 6 l:=by
 have h1:=F7 l;have h2:=F8 l;refine⟨?_,?_,?_,?_⟩
 ·show((l.count ab==aa l) != ac)=l.all id;rw[h1];cases l.all id<;>rfl
 ·show(ar (0<l.count ab) != ac)=l.any id;rw[h2];cases l.any id<;>rfl
 ·show((l.count ab==aa l) != ab)= !l.all id;rw[h1];cases l.all id<;>rfl
 ·show(ar (0<l.count ab) != ab)= !l.any id;rw[h2];cases l.any id<;>rfl
theorem qJ(name:S)(op last:Int):∀(f:Nat)(x:Xs)(l:List S),zV x (gI f x name op last l).1
 |0,x,l=>qc x _
 |f+1,x,l=>by
  rw[gI];split
  ·exact(qc x _).trans (qJ name op last f _ _)
  ·exact qc x _
theorem uJ(name:S)(op last:Int):∀(f:Nat)(x:Xs)(l:List S),(gI f x name op last l).1.nots=x.nots
 |0,x,l=>ji x _
 |f+1,x,l=>by
  rw[gI];split
  ·rw[uJ name op last f,ji]
  ·exact ji x _
theorem MH{op:Int}(ho:op=4\/op=6)(a b:List Bool):oD op (oD op a::b)=oD op (a++b):=by
 rcases ho with rfl|rfl
 ·show(oD 4 a::b).all id=(a++b).all id;rw[List.all_cons,List.all_append];rfl
 ·show(oD 6 a::b).any id=(a++b).any id;rw[List.any_cons,List.any_append];rfl
theorem DF{σ:S->Bool}(name:S){op last:Int}(ho:op=4\/op=6)(F:Bool->Bool)(hF:∀(is:List S)(l:List Bool),qW ⟨name,last,is,[],ac⟩ l=F (oD op l)):∀(f:Nat)(x:Xs)(l:List S),Eqs σ (gI f x name op last l).1.gates->σ (gI f x name op last l).2=F (oD op (l.map σ))
 |0,x,l,h=>by unfold gI at h ⊢;rw[vP h];exact hF l _
 |f+1,x,l,h=>by
  unfold gI at h ⊢;by_cases h8:8<aa l
  ·rw[if_pos h8]at h ⊢;have h1:=vP (h.pre (qJ name op last f _ _));have h2:σ (iJ x ⟨[],op,l.take 8,[],ac⟩).2=oD op ((l.take 8).map σ):=by
    rw[h1];rcases ho with rfl|rfl
    ·exact(uI [] _ _).1
    ·exact(uI [] _ _).2.1
   rw[DF name ho F hF f _ _ h,zrd,h2,MH ho,<-zql,List.take_append_drop]
  ·rw[if_neg h8]at h ⊢;rw[vP h];exact hF l _
theorem WZ(x:Xs)(ins:List S)(n:Nat):zV x (uT x ins n).1:=by
 unfold uT;split
 ·exact MF x _
 ·exact zV.refl x
theorem nH(ins:List S):∀(f k:Nat)(x:Xs)(l:List Fo),zV x (aO ins f k x l).1
 |0,_,x,_=>zV.refl x
 |_+1,0,x,_=>zV.refl x
 |_+1,_+1,x,[]=>zV.refl x
 |f+1,k+1,x,fo::l=>by
  rw[aO];split
  ·exact(WZ x ins fo.lit).trans (nH ins f k _ l)
  ·exact((nH ins f fo.kids x l).trans (qJ _ _ _ _ _ _)).trans (nH ins f k _ _)
theorem W9{σ:S->Bool}{x:Xs}{ins:List S}{n:Nat}(hl:aa x.nots.1=aa x.nots.2)(hn:Ai σ x)(hi:n/2<aa ins)(h:Eqs σ (uT x ins n).1.gates) :
 σ (uT x ins n).2=Vq (ins.map σ) n/\Ai σ (uT x ins n).1/\(uT x ins n).1.nots.1.length=(uT x ins n).1.nots.2.length:=by
 have e:(ins.map σ).getD (n/2) ac=σ (ins.getD (n/2) []):=by rw[zqg,zqo,zqg,zqk hi];rfl
 unfold uT at h ⊢;unfold Vq;rw[e];by_cases ho:n%2=1
 ·rw[if_pos ho]at h ⊢;obtain⟨a,b,c⟩:=MG hl hn h;refine⟨?_,b,c⟩;rw[a,ho];cases σ (ins.getD (n/2) [])<;>rfl
 ·rw[if_neg ho]at h ⊢;refine⟨?_,hn,hl⟩;have:(n%2==1)=ac:=beq_eq_false_iff_ne.2 ho;rw[this];show σ (ins.getD (n/2) [])=_;cases σ (ins.getD (n/2) [])<;>rfl
theorem uK{σ:S->Bool}{ins:List S}:∀(f k j:Nat)(x:Xs)(l:List Fo)(cs bs:List Bool),WF (aa ins) (k+j) l->aa l<f->aa cs=k->VF (ins.map σ) (cs++bs) l->aa x.nots.1=aa x.nots.2->Ai σ x->Eqs σ (aO ins f k x l).1.gates ->
 (aO ins f k x l).2.1.map σ=cs/\VF (ins.map σ) bs (aO ins f k x l).2.2/\WF (aa ins) j (aO ins f k x l).2.2/\(aO ins f k x l).2.2.length<=aa l/\Ai σ (aO ins f k x l).1/\(aO ins f k x l).1.nots.1.length=(aO ins f k x l).1.nots.2.length
 |0,_,_,_,_,_,_,_,h,_,_,_,_,_=>by omega
 |f+1,0,j,x,l,cs,bs,hw,_,hc,hv,hl,hn,_=>by have:cs=[]:=zse hc;subst this;rw[aO];rw[Nat.zero_add]at hw;exact⟨rfl,hv,hw,zrb _,hn,hl⟩
 |f+1,k+1,j,x,[],cs,bs,hw,_,_,_,_,_,_=>by rw[Nat.add_right_comm]at hw;unfold WF at hw;exact hw.elim
 |f+1,k+1,j,x,fo::l,cs,bs,hw,hf,hc,hv,hl,hn,he=>by
  rw[Nat.add_right_comm]at hw;unfold WF at hw;rw[zrt]at hf;obtain⟨b,cs,rfl⟩:∃b cs',cs=b::cs':=by
   cases cs with
   |nil=>cases hc
   |cons b cs=>exact⟨b,cs,rfl⟩
  have hc:aa cs=k:=by simpa using hc
  rw[aO]at he ⊢;rcases hw with⟨w1,w2,w3⟩|⟨w1,w2,w3⟩
  ·rw[if_pos w1]at he ⊢;dsimp only at he ⊢;obtain⟨hb,hv2⟩:b=Vq (ins.map σ) fo.lit/\VF (ins.map σ) (cs++bs) l:=by
    have hv:VF (ins.map σ) (b::(cs++bs)) (fo::l):=hv;cases hv with
    |lit _ h=>exact⟨rfl,h⟩
    |and h _ _=>omega
    |or h _ _=>omega
   obtain⟨a1,a2,a3⟩:=W9 (σ:=σ) hl hn (n:=fo.lit) (ins:=ins) (by omega) (he.pre (nH ins f k _ l));obtain⟨i1,i2,i3,i4,i5,i6⟩:=uK f k j _ l cs bs w3 (by omega) hc hv2 a3 a2 he;exact⟨by rw[zrd,a1,i1,hb],i2,i3,Nat.le_trans i4 (Nat.le_succ _),i5,i6⟩
  ·have hk:¬fo.kind=2:=by rcases w1 with h|h<;>rw[h]<;>decide
   rw[if_neg hk]at he ⊢;dsimp only at he ⊢;obtain⟨ks,hb,hkl,hv2⟩:∃ks:List Bool,b=oD (opF fo) ks/\aa ks=fo.kids/\VF (ins.map σ) (ks++(cs++bs)) l:=by
    have hv:VF (ins.map σ) (b::(cs++bs)) (fo::l):=hv;cases hv with
    |lit h _=>exact absurd h hk
    |and h h2 h3=>exact⟨_,by unfold opF;rw[if_pos h];rfl,h2,h3⟩
    |or h h2 h3=>exact⟨_,by unfold opF;rw[if_neg (by omega)];rfl,h2,h3⟩
   obtain⟨q,hq⟩:∃q,q=aO ins f fo.kids x l:=⟨_,rfl⟩;rw[<-hq]at he ⊢;obtain⟨y,hy⟩:∃y,y=gI (aa q.2.1) q.1 [] (opF fo) (opF fo) q.2.1:=⟨_,rfl⟩;rw[<-hy]at he ⊢;have ey:Eqs σ y.1.gates:=he.pre (nH ins f k _ _);have eq1:Eqs σ q.1.gates:=by rw[hy]at ey;exact ey.pre (qJ _ _ _ _ _ _)
   obtain⟨i1,i2,i3,i4,i5,i6⟩:=uK f fo.kids (k+j) x l ks (cs++bs) w3 (by omega) hkl hv2 hl hn (by rw[<-hq];exact eq1);rw[<-hq]at i1 i2 i3 i4 i5 i6;have hop:opF fo=4\/opF fo=6:=by
    unfold opF;split
    ·exact .inl rfl
    ·exact .inr rfl
   have hyv:σ y.2=oD (opF fo) (q.2.1.map σ):=by rw[hy]at ey ⊢;exact DF [] hop id (λis l=>by rcases hop with h|h<;>rw[h]<;>first|exact(uI [] is l).1|exact(uI [] is l).2.1) _ _ _ ey
   have hyn:y.1.nots=q.1.nots:=by rw[hy];exact uJ _ _ _ _ _ _
   obtain⟨j1,j2,j3,j4,j5,j6⟩:=uK f k j y.1 q.2.2 cs bs i3 (by omega) hc i2 (by rw[hyn];exact i6) (λn s t h1 h2=>i5 n s t (by rw[<-hyn];exact h1) (by rw[<-hyn];exact h2)) he;exact⟨by rw[zrd,hyv,i1,j1,hb],j2,j3,Nat.le_trans j4 (Nat.le_succ_of_le i4),j5,j6⟩
theorem JQ:∀(rows acc:List S)(s:S),s∈acc\/s∈rows->s∈rows.foldl (λl r=>if l.contains r=ab then l else l++[r]) acc
 |[],acc,s,h=>h.elim id λh=>by cases h
 |q::rows,acc,s,h=>by
  rw[List.foldl_cons];refine JQ rows _ s ?_;rcases h with h|h
  ·left;split
   ·exact h
   ·exact List.mem_append_left _ h
  ·rcases zrj.1 h with rfl|h
   ·left;split
    ·rename_i hc;exact List.contains_iff_mem.1 hc
    ·simp
   ·exact .inr h
theorem Ul(v:List Bool)(rows:List S):uH v (bJ rows)=uH v rows:=by
 rw[Bool.eq_iff_iff];unfold uH bJ;simp only[List.any_eq_true];constructor
 ·rintro⟨r,hr,h⟩;rcases lX rows [] r hr with hr|hr
  ·cases hr
  ·exact⟨r,hr,h⟩
 ·rintro⟨r,hr,h⟩;exact⟨r,JQ rows [] r (.inr hr),h⟩
theorem Um{v:List Bool}{rows:List S}(h:∀q∈rows,aa q=aa v/\RI q):rows.any (λr=>qV r v)=uH v rows:=by
 rw[Bool.eq_iff_iff];unfold uH;simp only[List.any_eq_true];constructor
 ·rintro⟨r,hr,hh⟩;obtain⟨a,b⟩:=h r hr;rw[zi r v v 0 a (List.drop_zero) b]at hh;exact⟨r,hr,hh⟩
 ·rintro⟨r,hr,hh⟩;obtain⟨a,b⟩:=h r hr;refine⟨r,hr,?_⟩;rw[zi r v v 0 a (List.drop_zero) b];exact hh
theorem Qd{σ:S->Bool}{x:Xs}{g:Ga}(ho:g.op=10)(hne:g.name≠[])(hr:∀q∈g.rows,aa q=aa g.ins/\RI q)(hl:aa x.nots.1=aa x.nots.2)(hn:Ai σ x)(h:Eqs σ (jW x g).gates) :
 σ g.name=qW g (g.ins.map σ)/\Ai σ (jW x g)/\(jW x g).nots.1.length=(jW x g).nots.2.length:=by
 obtain⟨v,hv⟩:∃v,v=g.ins.map σ:=⟨_,rfl⟩;have hvl:aa v=aa g.ins:=by rw[hv,zra]
 have hval:qW g v=(uH v (bJ g.rows) != g.off):=by unfold qW;rw[if_pos ho,Um (λq hq=>by rw[hvl];exact hr q hq),Ul]
 have hrow:∀q∈bJ g.rows,aa q=aa g.ins/\RI q:=λq hq=>by
  rcases lX g.rows [] q hq with h|h
  ·cases h
  ·exact hr q h
 have hf:=DC (v:=v) (bH (bJ g.rows)+1) (bJ g.rows) (λq hq=>(hrow q hq).2) (by omega);have hw:=y7 (n:=aa g.ins) (bH (bJ g.rows)+1) (bJ g.rows) (λq hq=>(hrow q hq).1) (by omega);rw[show vM (bH (bJ g.rows)+1) (bJ g.rows)=PS (bJ g.rows)from rfl]at hf hw;have z0:∀off:Bool,qW ⟨g.name,fF off 0,[],[],ac⟩ []=(ac != off):=λoff=>by cases off<;>rfl
 have z1:∀off:Bool,qW ⟨g.name,fF off 1,[],[],ac⟩ []=(ab != off):=λoff=>by cases off<;>rfl
 have named:∀(y:Xs)(q:Ga),q.name=g.name->Eqs σ (iJ y q).1.gates->σ g.name=qW q (q.ins.map σ):=λy q hqn hh=>by
  have h2:(iJ y q).2=g.name:=by unfold iJ;rw[if_neg (by rw[hqn];exact hne)];exact hqn
  rw[<-h2];exact vP hh
 rw[<-hv,hval];unfold jW at h ⊢;rcases hf with⟨e0,e⟩|⟨⟨_,hany⟩,fo,hfo,e⟩|hf
 ·rw[e]at h ⊢;dsimp only at h ⊢;rw[if_pos rfl]at h ⊢;refine⟨?_,by intro n s t a b;rw[ji]at a b;exact hn n s t a b,by rw[ji];exact hl⟩;rw[named x ⟨g.name,fF g.off 0,[],[],ac⟩ rfl h,e0];exact z0 g.off
 ·rw[e]at h ⊢;dsimp only at h ⊢;rw[if_neg (by rw[hfo];decide),if_pos hfo]at h ⊢;refine⟨?_,by intro n s t a b;rw[ji]at a b;exact hn n s t a b,by rw[ji];exact hl⟩;rw[named x ⟨g.name,fF g.off 1,[],[],ac⟩ rfl h,hany];exact z1 g.off
 ·obtain⟨b,hb⟩:∃b,b=uH v (bJ g.rows):=⟨_,rfl⟩;rw[<-hb]at hf ⊢;have hw:WF (aa g.ins) 1 (PS (bJ g.rows)):=by
   rcases hw with⟨_,e⟩|⟨_,fo,hfo,e⟩|⟨_,_,hw⟩
   ·rw[e]at hf;cases hf with
    |lit h _=>cases h
    |and h _ _=>cases h
    |or h _ _=>cases h
   ·rw[e]at hf;cases hf with
    |lit h _=>omega
    |and h _ _=>omega
    |or h _ _=>omega
   ·exact hw
  cases hc:PS (bJ g.rows)with
  |nil=>rw[hc]at hf;cases hf
  |cons fo l =>
   rw[hc]at hf hw h;dsimp only at h ⊢;unfold WF at hw;rcases hw with⟨w1,w2,w3⟩|⟨w1,w2,w3⟩
   ·rw[if_neg (by rw[w1];decide),if_neg (by rw[w1];decide),if_pos w1]at h ⊢;refine⟨?_,by intro n s t a b;rw[ji]at a b;exact hn n s t a b,by rw[ji];exact hl⟩;rw[named x ⟨g.name,fF g.off (if fo.lit%2=1 then 3 else 2),[g.ins.getD (fo.lit/2) []],[],ac⟩ rfl h];have hbl:b=Vq v fo.lit:=by
     cases hf with
     |lit _ _=>rfl
     |and h _ _=>omega
     |or h _ _=>omega
    have hi:fo.lit/2<aa g.ins:=by omega
    have e:v.getD (fo.lit/2) ac=σ (g.ins.getD (fo.lit/2) []):=by rw[hv,zqg,zqo,zqg,zqk hi];rfl
    have zz:∀(off w:Bool),qW ⟨g.name,fF off 3,[g.ins.getD (fo.lit/2) []],[],ac⟩ [w]=((w != ab) != off)/\qW ⟨g.name,fF off 2,[g.ins.getD (fo.lit/2) []],[],ac⟩ [w]=((w != ac) != off):=λoff w=>by cases off<;>cases w<;>exact⟨rfl,rfl⟩
    rw[hbl];unfold Vq;rw[e];by_cases hodd:fo.lit%2=1
    ·rw[if_pos hodd,hodd];exact(zz g.off _).1
    ·rw[if_neg hodd,beq_eq_false_iff_ne.2 hodd];exact(zz g.off _).2
   ·have hk0:fo.kind≠0/\fo.kind≠1/\fo.kind≠2:=by rcases w1 with h|h<;>rw[h]<;>decide
    rw[if_neg hk0.1,if_neg hk0.2.1,if_neg hk0.2.2]at h ⊢;obtain⟨q,hq⟩:∃q,q=aO g.ins (aa l+1) fo.kids x l:=⟨_,rfl⟩;rw[<-hq]at h ⊢;obtain⟨ks,hbk,hkl,hv2⟩:∃ks:List Bool,b=oD (opF fo) ks/\aa ks=fo.kids/\VF v (ks++[]) l:=by
     cases hf with
     |lit h _=>exact absurd h hk0.2.2
     |and h h2 h3=>exact⟨_,by unfold opF;rw[if_pos h];rfl,h2,h3⟩
     |or h h2 h3=>exact⟨_,by unfold opF;rw[if_neg (by omega)];rfl,h2,h3⟩
    have eq1:Eqs σ q.1.gates:=h.pre (qJ _ _ _ _ _ _);rw[hv]at hv2;obtain⟨i1,_,_,_,i5,i6⟩:=uK (σ:=σ) (aa l+1) fo.kids 0 x l ks [] w3 (by omega) hkl hv2 hl hn (by rw[<-hq];exact eq1);rw[<-hq]at i1 i5 i6;have hop:opF fo=4\/opF fo=6:=by
     unfold opF;split
     ·exact .inl rfl
     ·exact .inr rfl
    refine⟨?_,by intro n s t a b;rw[uJ]at a b;exact i5 n s t a b,by rw[uJ];exact i6⟩;have hmv:=DF (σ:=σ) g.name hop (last:=fF g.off (opF fo)) (λb=>b != g.off) (λis l=>by
     have:=uI g.name is l;rcases hop with h|h<;>rw[h]<;>cases g.off
     ·show qW ⟨g.name,4,is,[],ac⟩ l=_;rw[this.1];cases oD 4 l<;>rfl
     ·show qW ⟨g.name,5,is,[],ac⟩ l=_;rw[this.2.2.1];cases oD 4 l<;>rfl
     ·show qW ⟨g.name,6,is,[],ac⟩ l=_;rw[this.2.1];cases oD 6 l<;>rfl
     ·show qW ⟨g.name,7,is,[],ac⟩ l=_;rw[this.2.2.2];cases oD 6 l<;>rfl) _ _ _ h
    have hnm:∀(f:Nat)(y:Xs)(op last:Int)(l:List S),(gI f y g.name op last l).2=g.name:=λf=>by
     induction f with
     |zero=>intro y op last l;unfold gI iJ;rw[if_neg hne]
     |succ f ih =>
      intro y op last l;unfold gI;split
      ·exact ih _ _ _ _
      ·unfold iJ;rw[if_neg hne]
    rw[hnm]at hmv;rw[hmv,i1,hbk]
theorem Qe(x:Xs)(g:Ga):zV x (jW x g):=by
 unfold jW;split
 ·exact zV.refl x
 ·split
  ·exact qc x _
  ·split
   ·exact qc x _
   ·split
    ·exact qc x _
    ·exact(nH _ _ _ _ _).trans (qJ _ _ _ _ _ _)
theorem Un(x:Xs)(g:Ga):zV x (vN x g):=by
 unfold vN;split
 ·exact Qe x _
 ·exact qc x _
theorem JR:∀(gs:List Ga)(x:Xs),zV x (gs.foldl vN x)
 |[],x=>zV.refl x
 |g::gs,x=>(Un x g).trans (JR gs _)
theorem Qg{g:Ga}(h:gG g=ab)(ho:(aZ g).op=10):aZ g=g:=by
 have hk:=jC h;unfold aZ at ho ⊢;rw[xH hk.1]at ho ⊢;split
 ·rfl
 ·rename_i h1;rw[if_neg h1]at ho;cases hf:jI (aa g.ins) g.rows g.off with
  |none=>rfl
  |some op=>rw[hf]at ho;exfalso;have:=(pR hf).1;have ho:(op:Int)=10:=ho;omega
theorem Qh{g:Ga}(h:gG g=ab):∀q∈g.rows,aa q=aa g.ins/\RI q:=λq hq=>by
 have:=(jC h).2.2 q hq;unfold mO at this;simp only[zqf,beq_iff_eq,zrs]at this;refine⟨this.1,λc hc=> ?_⟩;have hb:=this.2 c hc;unfold Zm at hb;simp only[Bool.or_eq_true,beq_iff_eq]at hb;rcases hb with(h|h)|h
 ·exact .inr (.inl h)
 ·exact .inr (.inr h)
 ·exact .inl h
theorem JS{σ:S->Bool}:∀(gs:List Ga)(x:Xs),(∀g∈gs,gG g=ab/\g.name≠[])->aa x.nots.1=aa x.nots.2->Ai σ x->Eqs σ (gs.foldl vN x).gates->Eqs σ gs
 |[],_,_,_,_,_=>λg hg=>by cases hg
 |g::gs,x,hg,hl,hn,h=>by
  obtain⟨hb,hne⟩:=hg g (by simp);obtain⟨c1,c2,c3⟩:=yI (jC hb).1;have hx:Eqs σ (vN x g).gates:=h.pre (JR gs _);obtain⟨k1,k2,k3⟩:σ g.name=qW g (g.ins.map σ)/\Ai σ (vN x g)/\(vN x g).nots.1.length=(vN x g).nots.2.length:=by
   unfold vN at hx ⊢;by_cases ho:(aZ g).op=10
   ·rw[if_pos ho]at hx ⊢;have e:=Qg hb ho;rw[e]at hx ho ⊢;exact Qd ho hne (Qh hb) hl hn hx
   ·rw[if_neg ho]at hx ⊢;have hv:=vP hx;have e:(iJ x (aZ g)).2=g.name:=by
     unfold iJ;rw[c3,if_neg hne]
    rw[e,c2,PQ (jC hb).1 (by simp)]at hv;refine⟨hv,?_,by rw[ji];exact hl⟩;intro n s t a b;rw[ji]at a b;exact hn n s t a b
  have ih:=JS gs _ (λq hq=>hg q (by simp[hq])) k3 k2 h;intro q hq;rcases zrj.1 hq with rfl|hq
  ·exact k1
  ·exact ih q hq
theorem Uo{c:Ci}(hn:NetOk c){σ:S->Bool}(h:Eqs σ (Du c).gates):Eqs σ c.gates:=by refine JS c.gates _ (λg hg=>⟨hn.gates g hg,Iy (hn.told _ ?_)⟩) rfl (λn s t h=>by cases h) h;unfold eH;exact List.mem_append_right _ (List.mem_flatMap.2 ⟨g,hg,by simp⟩)
theorem Ur{c:Ci}(ho:(jV c).1=0){σ τ:S->Bool}(h1:Eqs σ c.gates)(h2:Eqs τ c.gates)(hb:∀s∈aP c,s∉c.gates.map (·.name)->σ s=τ s):∀s∈aP c,σ s=τ s:=by
 have hn:=iw ho;obtain⟨r,hr⟩:=JJ ho;have key:∀(n:Nat)(s:S),r s<n->s∈aP c->σ s=τ s:=λn=>by
  induction n with
  |zero=>intro s h;omega
  |succ n ih =>
   intro s hs hm;by_cases hg:s∈c.gates.map (·.name)
   ·obtain⟨g,hgc,rfl⟩:=zrh.1 hg;rw[h1 g hgc,h2 g hgc]
    congr 1
    refine zsd λt ht=> ?_;have hlt:=hr g hgc t ht;refine ih t (by omega) (List.contains_iff_mem.1 (hn.used t ?_));unfold gm;exact List.mem_append_right _ (List.mem_flatMap.2 ⟨g,hgc,ht⟩)
   ·exact hb s hm hg
 exact λs hs=>key (r s+1) s (by omega) hs
theorem Qi(k:S)(l:List S)(t:S):at? (k::l) t=if k=t then al 0 else(at? l t).map (·+1):=rfl
theorem Vr (t : S) : ∀ (l m : List S),at? (l ++ m) t = (match at? l t with | some n => al n | none => (at? m t).map (· + aa l))
 |[],m=>by show at? m t=(at? m t).map (·+0);cases at? m t<;>rfl
 |k::l,m=>by
  have ih:=Vr t l m;rw[List.cons_append,Qi,Qi];by_cases h:k=t
  ·rw[if_pos h,if_pos h]
  ·rw[if_neg h,if_neg h,ih];cases at? l t with
   |some n=>rfl
   |none =>
    dsimp only;cases at? m t with
    |none=>rfl
    |some n=>show al (n+aa l+1)=al (n+(aa l+1));rw[Nat.add_assoc]
theorem YS{m:Env}(h:okE m)(s t:S)(b:Bool):lkE (ptE m s b) t=if t=s then b else lkE m t:=by
 unfold okE at h;unfold ptE lkE;cases hs:at? m.1 s with
 |some n =>
  obtain⟨h1,h2⟩:=kY hs;have e:m.1.set n s=m.1:=by rw[<-h2];exact List.set_getElem_self h1
  dsimp only;rw[e];by_cases hts:t=s
  ·rw[if_pos hts,hts,hs];show(m.2.set n b).getD n ac=b;rw[zqg,zqt (by omega)];rfl
  ·rw[if_neg hts];cases ht:at? m.1 t with
   |none=>rfl
   |some j=>obtain⟨h3,h4⟩:=kY ht;have hne:n≠j:=λe=>hts (by rw[<-h4,<-h2];simp[e]);show(m.2.set n b).getD j ac=m.2.getD j ac;rw[zqg,zqn hne,<-zqg]
 |none =>
  dsimp only;rw[Vr];cases ht:at? m.1 t with
  |some j =>
   obtain⟨h3,h4⟩:=kY ht;have hts:t≠s:=λe=>by rw[e,hs]at ht;cases ht
   rw[if_neg hts];show(m.2++[b]).getD j ac=m.2.getD j ac;rw[zqg,zqj (by omega),<-zqg]
  |none =>
   by_cases hts:t=s
   ·rw[if_pos hts,hts];have e:at? [s] s=al 0:=by unfold at?;rw[if_pos rfl]
    rw[e];show(m.2++[b]).getD (0+aa m.1) ac=b;rw[zqg,Nat.zero_add,h,zsb (zrb _),Nat.sub_self];rfl
   ·rw[if_neg hts];have e:at? [s] t=aq:=by unfold at?;rw[if_neg (Ne.symm hts)];rfl
    rw[e];rfl
theorem JU{gs:List Ga}(hg:∀g∈gs,gG g=ab)(hnd:(gs.map (·.name)).Nodup):∀(L:List Nat)(m:Env),okE m->(∀a∈L,a<aa gs)->L.Nodup ->
 (∀L1 a L2,L=L1++a::L2->∀s∈(gs.getD a ga0).ins,∀b∈a::L2,(gs.getD b ga0).name≠s) ->
 (∀a∈L,lkE (L.foldl (sJ gs) m) (gs.getD a ga0).name=qW (gs.getD a ga0) ((gs.getD a ga0).ins.map (lkE (L.foldl (sJ gs) m))))/\∀s,(∀a∈L,(gs.getD a ga0).name≠s)->lkE (L.foldl (sJ gs) m) s=lkE m s
 |[],m,_,_,_,_=>⟨λa h=>(by cases h),λs _=>rfl⟩
 |a::L,m,hm,hlt,hn,hord=>by
  have hn2:=List.nodup_cons.1 hn;have hm2:okE (sJ gs m a):=Io hm _ _;obtain⟨i1,i2⟩:=JU hg hnd L (sJ gs m a) hm2 (λb hb=>hlt b (by simp[hb])) hn2.2 (λL1 b L2 e=>hord (a::L1) b L2 (by rw[e];rfl));have hal:=hlt a (by simp);have ega:gs.getD a ga0=gs[a]:=by rw[zqg,zqk hal];rfl
  have hstep:∀s,lkE (sJ gs m a) s=if s=(gs.getD a ga0).name then(wY (gs.getD a ga0) ((gs.getD a ga0).ins.map (lkE m))).1 else lkE m s:=λs=>YS hm _ _ _
  have hval:(wY (gs.getD a ga0) ((gs.getD a ga0).ins.map (lkE m))).1=qW (gs.getD a ga0) ((gs.getD a ga0).ins.map (lkE m)):=by unfold wY;rw[ega,hg _ (zqu hal),zra,beq_self_eq_true];rfl
  have hother:∀b∈L,(gs.getD b ga0).name≠(gs.getD a ga0).name:=λb hb e=>by
   have hbl:=hlt b (by simp[hb]);have egb:gs.getD b ga0=gs[b]:=by rw[zqg,zqk hbl];rfl
   rw[ega,egb]at e;have hba:b≠a:=λe2=>hn2.1 (e2▸hb);rcases Nat.lt_or_gt_of_ne hba with h|h
   ·exact List.pairwise_iff_getElem.1 hnd b a (by simpa using hbl) (by simpa using hal) h (by simpa using e)
   ·exact List.pairwise_iff_getElem.1 hnd a b (by simpa using hal) (by simpa using hbl) h (by simpa using e.symm)
  rw[List.foldl_cons];refine⟨λb hb=> ?_,λs hs=> ?_⟩
  ·rcases zrj.1 hb with rfl|hb
   ·rw[i2 _ hother,hstep,if_pos rfl,hval]
    congr 1
    refine zsd λs hs=> ?_;have h1:=hord [] b L rfl s hs;rw[i2 s λc hc=>h1 c (by simp[hc]),hstep,if_neg (Ne.symm (h1 b (by simp)))]
   ·exact i1 b hb
  ·rw[i2 s λb hb=>hs b (by simp[hb]),hstep,if_neg (Ne.symm (hs a (by simp)))]
theorem Us{names:List S}(h:names.Nodup){b:Nat}(hb:b<aa names):iP names names[b]=al b:=by unfold iP;refine List.findIdx?_eq_some_iff_getElem.2 ⟨hb,by simp,λj hj=> ?_⟩;have:=List.pairwise_iff_getElem.1 h j b (by omega) hb hj;simpa using this
theorem Qj{c:Ci}(ho:(jV c).1=0):(jA c).1.Nodup/\(∀i<aa c.gates,i∈(jA c).1)/\∀L1 a L2,(jA c).1=L1++a::L2->∀s∈(c.gates.getD a ga0).ins,∀b∈a::L2,(c.gates.getD b ga0).name≠s:=by
 have hn:=iw ho;have h1:(oq c).1=0:=(yJ c).2 hn;have hl:aa (c.gates.map (·.name))=aa (c.gates.map (·.ins)):=by simp
 have e1:(jA c).1=oC (c.gates.map (·.name)) (c.gates.map (·.ins)):=by unfold jA;rw[if_pos h1]
 have hnev:kW (c.gates.map (·.name)) (c.gates.map (·.ins))=[]:=by
  unfold jV at ho;rw[if_neg (by rw[h1];decide)]at ho;have e:(jA c).2=kW (c.gates.map (·.name)) (c.gates.map (·.ins)):=by
   unfold jA;rw[if_pos h1]
  rw[e]at ho;cases hc:kW (c.gates.map (·.name)) (c.gates.map (·.ins))with
  |nil=>rfl
  |cons a b=>rw[hc]at ho;cases ho
 have hall:=FQ hl hnev;obtain⟨⟨N',cv⟩,hpos⟩:=Ip hl;have hlt:=xI c;rw[e1]at hlt ⊢;have hnd:(oC (c.gates.map (·.name)) (c.gates.map (·.ins))).Nodup:=by simpa using cv.nd
 refine⟨hnd,λi hi=>hall i (by simpa using hi),λL1 a L2 hL s hs b hb e=> ?_⟩;have hbL:b∈oC (c.gates.map (·.name)) (c.gates.map (·.ins)):=by rw[hL];exact List.mem_append_right _ hb
 have haL:a∈oC (c.gates.map (·.name)) (c.gates.map (·.ins)):=by rw[hL];simp
 have hbl:=hlt b hbL;have hal:=hlt a haL;have hbn:(c.gates.map (·.name))[b]'(by simpa using hbl)=s:=by rw[<-e,zqg,zqk hbl];simp
 have hpl:=Us (lT hn.nets) (b:=b) (by simpa using hbl);have hpl:iP (c.gates.map (·.name)) s=al b:=by rw[<-hbn];exact hpl
 have hw:b∈(oz (c.gates.map (·.name)) (c.gates.map (·.ins))).1.getD a []:=(Dq _ _ _ _).2 ⟨s,by
  have e3:(c.gates.map (·.ins)).getD a []=(c.gates.getD a ga0).ins:=by rw[zqg,zqo,zqg,zqk hal];rfl
  rw[e3];exact hs,hpl⟩
 have hb1:=hpos L1 a L2 hL b hw;rw[hL]at hnd;exact(List.nodup_append.1 hnd).2.2 b hb1 b hb rfl
theorem JV{c:Ci}(ho:(jV c).1=0)(st ins:List Bool):Eqs (lkE (sK c st ins)) c.gates/\∀s,s∉c.gates.map (·.name)->lkE (sK c st ins) s=lkE (wZ ((aP c).take (aa (ins++st))) (ins++st)) s:=by
 have hn:=iw ho;obtain⟨f1,f2,f3⟩:=Qj ho;obtain⟨g1,g2⟩:=JU (gs:=c.gates) hn.gates (lT hn.nets) (jA c).1 (wZ ((aP c).take (aa (ins++st))) (ins++st)) (Dk _ _) (xI c) f1 f3;refine⟨λg hg=> ?_,λs hs=> ?_⟩
 ·obtain⟨i,hi,rfl⟩:=List.getElem_of_mem hg;have:=g1 i (f2 i hi);have e:c.gates.getD i ga0=c.gates[i]:=by rw[zqg,zqk hi];rfl
  rw[e]at this;exact this
 ·refine g2 s λa ha e=>hs ?_;have hal:=xI c a ha;have e2:c.gates.getD a ga0=c.gates[a]:=by rw[zqg,zqk hal];rfl
  rw[e2]at e;exact zrh.2 ⟨c.gates[a],zqu hal,e⟩
theorem zl{c x:Ci}(h:xg c=(x,0)):(jV c).1=0/\x.gates=(Du c).gates:=by
 have hc0:(jV c).1=0:=by
  unfold xg at h;by_cases ho:(jV c).1≠0
  ·rw[if_pos ho]at h;have:=congrArg Prod.snd h;exact absurd this (by show(1:Int)≠0;decide)
  ·exact Decidable.not_not.1 ho
 refine⟨hc0,?_⟩;unfold xg at h;rw[if_neg (by rw[hc0];decide)]at h;split at h
 ·have:=congrArg Prod.snd h;exact absurd this (by show(8:Int)≠0;decide)
 ·have hx2:=congrArg Prod.fst h;have hx2:{c with gates:=(Du c).gates}=x:=hx2;rw[<-hx2]
theorem Ut{c x:Ci}(h:xg c=(x,0))(st ins:List Bool)(hl:¬(aa st≠aa c.lat\/aa ins≠aa c.ins)):∀s∈aP c,lkE (sK x st ins) s=lkE (sK c st ins) s:=by
 obtain⟨hx,hp,e1,e2,e3⟩:=zf h;have hx1:(jV x).1=0:=by rw[hx]
 obtain⟨hc0,hxg⟩:=zl h;have hn:=iw hc0;have hlen:aa (ins++st)=aa (c.ins++c.lat.map (·.name)):=by simp only[zqa,zra];omega
 obtain⟨a1,a2⟩:=JV hx1 st ins;obtain⟨b1,b2⟩:=JV hc0 st ins;rw[hxg]at a1;have a1:=Uo hn a1;have t1:(aP x).take (aa (ins++st))=c.ins++c.lat.map (·.name):=by unfold aP;rw[e1,e3,hlen,List.take_left]
 have t2:(aP c).take (aa (ins++st))=c.ins++c.lat.map (·.name):=by unfold aP;rw[hlen,List.take_left]
 rw[t1]at a2;rw[t2]at b2;have hxn:=iw hx1;have hbase:∀s∈aP c,s∉c.gates.map (·.name)->lkE (sK x st ins) s=lkE (sK c st ins) s:=λs hs hng=>by
  rw[b2 s hng];refine a2 s λhxs=> ?_;have hb:s∈c.ins++c.lat.map (·.name):=by
   unfold aP at hs;exact(zrf.1 hs).resolve_right hng
  have hnd:(aP x).Nodup:=by have:=ut (aP x) [] hxn.nets List.nodup_nil;simpa using this
  unfold aP at hnd;rw[e1,e3]at hnd;exact(List.nodup_append.1 hnd).2.2 s hb s hxs rfl
 exact Ur hc0 a1 b1 hbase
theorem JW{α:Type}{f:α->S}{l:List α}{n:Nat}(h:∀a∈l,aa (f a)<=n):aa (l.flatMap f)<=aa l*n:=by
 induction l with
 |nil=>simp
 |cons a l ih=>rw[List.flatMap_cons,zqa,zrt,Nat.succ_mul];have h1:=h a (by simp);have h2:=ih λb hb=>h b (by simp[hb]);omega
theorem qK{s:S}(h:aW s=ab):aa (bC s)<=83:=by
 have hl:aa s<=40:=by unfold aW at h;simp only[zqf,zqb]at h;exact h.2.2
 unfold bC;split
 ·unfold bQ;have:∀l:S,aa (l.flatMap XM)=2*aa l:=by
   intro l
   induction l with
   |nil=>rfl
   |cons a l ih=>rw[List.flatMap_cons,zqa,ih,zrt];simp[XM];omega
  rw[zqa,this];have:aa Ad=3:=rfl;omega
 ·omega
theorem F9:∀ {l:List S},(∀s∈l,aW s=ab)->aa (FY l)<=aa l*85
 |[],_=>Nat.zero_le _
 |[s],h=>by have:=qK (h s (by simp));show aa (bC s)<=1*85;omega
 |s::t::r,h=>by have h1:=qK (h s (by simp));have h2:=F9 (l:=t::r) λq hq=>h q (by simp[hq]);show aa (bC s++44::32::FY (t::r))<=_;rw[zqa,zrt,zrt,zrt];omega
theorem uM{a w:S}{l:List S}(h:∀s∈l,aW s=ab):aa (jh a w l)<=aa a+aa w+aa l*85+3:=by have:=F9 h;unfold jh;rw[zqa,zqa,zrt,zqa,zrt,zrt,List.length_nil];omega
theorem MI{x:Ci}(ho:(jV x).1=0):aa (JM x)<=800000:=by
 have hn:=iw ho;have lm:=LX hn.lim;have hw:∀k,aa (iq.getD k [])<=4:=λk=>by
  by_cases hk:k<10
  ·have:∀j:Fin 10,aa (iq.getD j.1 [])<=4:=by decide
   exact this ⟨k,hk⟩
  ·rw[zqg,zsj (by show 10<=k;omega)];simp
 have hlw:∀k,aa (eX.getD k [])<=4:=λk=>by
  by_cases hk:k<3
  ·have:∀j:Fin 3,aa (eX.getD j.1 [])<=4:=by decide
   exact this ⟨k,hk⟩
  ·rw[zqg,zsj (by show 3<=k;omega)];simp
 have k1:=JW (f:=λs=>jh [] jq [s]) (l:=x.ins) (n:=1000) λs hs=>by
  have:=uM (a:=[]) (w:=jq) (l:=[s]) λq hq=>by rw[zrc.1 hq];exact hn.told s (by unfold eH;simp[hs])
  have e:aa jq=5:=rfl;simp only[zrt,List.length_nil,e]at this;omega
 have k2:=JW (f:=λs=>jh [] gp [s]) (l:=x.outs) (n:=1000) λs hs=>by
  have:=uM (a:=[]) (w:=gp) (l:=[s]) λq hq=>by rw[zrc.1 hq];exact hn.told s (by unfold eH;simp[hs])
  have e:aa gp=6:=rfl;simp only[zrt,List.length_nil,e]at this;omega
 have k3:=JW (f:=λq:La=>jh (bC q.name++[32,61,32]) (eX.getD q.init.toNat []) [q.next]) (l:=x.lat) (n:=1000) λq hq=>by
  have h1:aW q.name=ab:=hn.told _ (by unfold eH;simp only[zrf,List.mem_flatMap];exact .inl (.inr ⟨q,hq,by simp⟩));have h2:aW q.next=ab:=hn.told _ (by unfold eH;simp only[zrf,List.mem_flatMap];exact .inl (.inr ⟨q,hq,by simp⟩))
  have:=uM (a:=bC q.name++[32,61,32]) (w:=eX.getD q.init.toNat []) (l:=[q.next]) λs hs=>by rw[zrc.1 hs];exact h2
  have e1:=qK h1;have e2:=hlw q.init.toNat;rw[zqa]at this;simp only[zrt,List.length_nil]at this;omega
 have k4:=JW (f:=λg:Ga=>jh (bC g.name++[32,61,32]) (iq.getD g.op.toNat []) g.ins) (l:=x.gates) (n:=1000) λg hg=>by have h1:aW g.name=ab:=hn.told _ (by unfold eH;exact List.mem_append_right _ (List.mem_flatMap.2 ⟨g,hg,by simp⟩));have:=uM (a:=bC g.name++[32,61,32]) (w:=iq.getD g.op.toNat []) (l:=g.ins) λs hs=>hn.told _ (by unfold eH;exact List.mem_append_right _ (List.mem_flatMap.2 ⟨g,hg,by simp[hs]⟩));have e1:=qK h1;have e2:=hw g.op.toNat;have e3:=lm.gins g hg;rw[zqa]at this;simp only[zrt,List.length_nil]at this;omega
 unfold JM;simp only[zqa];have:=lm.ins;have:=lm.outs;have:=lm.lat;have:=lm.gates;omega
theorem JX{n k:Nat}(h:WF n (k+1) []):False:=by unfold WF at h;exact h.elim
theorem jE{n:Nat}{ins:List S}:∀(f k j:Nat)(x:Xs)(l:List Fo),WF n (k+j) l->aa l<f ->
 (aO ins f k x l).2.1.length=k/\WF n j (aO ins f k x l).2.2/\(aO ins f k x l).2.2.length+k<=aa l
 |0,_,_,_,_,_,h=>by omega
 |f+1,0,j,x,l,hw,_=>by rw[aO];rw[Nat.zero_add]at hw;exact⟨rfl,hw,zrb _⟩
 |f+1,k+1,j,x,[],hw,_=>by rw[Nat.add_right_comm]at hw;exact(JX hw).elim
 |f+1,k+1,j,x,fo::l,hw,hf=>by
  rw[Nat.add_right_comm]at hw;unfold WF at hw;rw[zrt]at hf;rw[aO];rcases hw with⟨w1,w2,w3⟩|⟨w1,w2,w3⟩
  ·rw[if_pos w1];obtain⟨a1,a2,a3⟩:=jE f k j (uT x ins fo.lit).1 l w3 (by omega);exact⟨by rw[zrt,a1],a2,by rw[zrt];dsimp only;omega⟩
  ·rw[if_neg (by rcases w1 with h|h<;>rw[h]<;>decide)];obtain⟨a1,a2,a3⟩:=jE f fo.kids (k+j) x l w3 (by omega);obtain⟨q,hq⟩:∃q,q=aO ins f fo.kids x l:=⟨_,rfl⟩;rw[<-hq]at a1 a2 a3 ⊢;obtain⟨b1,b2,b3⟩:=jE f k j (gI (aa q.2.1) q.1 [] (opF fo) (opF fo) q.2.1).1 q.2.2 a2 (by omega);exact⟨by dsimp only;rw[zrt,b1],b2,by rw[zrt];dsimp only;omega⟩
theorem kG{n:Nat}{ins:List S}:∀(f k j:Nat)(x:Xs)(l:List Fo),WF n (k+j) l->aa l<f->aO ins (f+1) k x l=aO ins f k x l
 |0,_,_,_,_,_,h=>by omega
 |f+1,0,j,x,l,hw,_=>by rw[aO,aO]
 |f+1,k+1,j,x,[],hw,_=>by rw[Nat.add_right_comm]at hw;exact(JX hw).elim
 |f+1,k+1,j,x,fo::l,hw,hf=>by
  rw[Nat.add_right_comm]at hw;unfold WF at hw;rw[zrt]at hf;rw[aO,aO];rcases hw with⟨w1,w2,w3⟩|⟨w1,w2,w3⟩
  ·rw[if_pos w1,if_pos w1,kG f k j (uT x ins fo.lit).1 l w3 (by omega)]
  ·have hn:¬fo.kind=2:=by rcases w1 with h|h<;>rw[h]<;>decide
   rw[if_neg hn,if_neg hn,kG f fo.kids (k+j) x l w3 (by omega)];obtain⟨a1,a2,a3⟩:=jE (ins:=ins) f fo.kids (k+j) x l w3 (by omega);obtain⟨q,hq⟩:∃q,q=aO ins f fo.kids x l:=⟨_,rfl⟩;rw[<-hq]at a1 a2 a3 ⊢;dsimp only;rw[kG f k j _ q.2.2 a2 (by omega)]
theorem zo{n:Nat}{ins:List S}{k j:Nat}{x:Xs}{l:List Fo}(hw:WF n (k+j) l):∀(d:Nat),aO ins (aa l+1+d) k x l=aO ins (aa l+1) k x l
 |0=>rfl
 |d+1=>by rw[<-Nat.add_assoc,kG (n:=n) (aa l+1+d) k j x l hw (by omega),zo hw d]
def xsz(x:Xs):Nat:=aa x.gates+aa x.used+aa x.nots.1
theorem wJ(x:Xs)(g:Ga):xsz (iJ x g).1<=xsz x+2/\(iJ x g).1.nots=x.nots:=by
 unfold iJ;split
 ·refine⟨?_,rfl⟩;show aa (x.gates++_)+aa (x.used++_)+_<=aa x.gates+aa x.used+aa x.nots.1+2;simp only[zqa,zrk];omega
 ·refine⟨?_,rfl⟩;show aa (x.gates++_)+aa x.used+_<=aa x.gates+aa x.used+aa x.nots.1+2;simp only[zqa,zrk];omega
theorem Qk(x:Xs)(s:S):xsz (dI x s).1<=xsz x+3:=by
 unfold dI;obtain⟨h,hn⟩:=wJ x ⟨[],3,[s],[],ac⟩;split
 ·exact Nat.le_add_right _ _
 ·unfold xsz at h ⊢;dsimp only;rw[hn]at h;simp only[zqa,zrk];omega
theorem YT(x:Xs)(ins:List S)(n:Nat):xsz (uT x ins n).1<=xsz x+3:=by
 unfold uT;split
 ·exact Qk _ _
 ·exact Nat.le_add_right _ _
theorem IA:∀(f:Nat)(x:Xs)(name:S)(op last:Int)(l:List S),aa l<=f->1<=f->xsz (gI f x name op last l).1<=xsz x+2*f
 |0,_,_,_,_,_,_,h=>by omega
 |f+1,x,name,op,last,l,hl,_=>by
  rw[gI];split
  ·rename_i h8;have h1:=(wJ x ⟨[],op,l.take 8,[],ac⟩).1;have h2:=IA f (iJ x ⟨[],op,l.take 8,[],ac⟩).1 name op last ((iJ x ⟨[],op,l.take 8,[],ac⟩).2::l.drop 8) (by rw[zrt,List.length_drop];omega) (by omega);omega
  ·have h1:=(wJ x ⟨name,last,l,[],ac⟩).1;omega
theorem oG{n:Nat}{ins:List S}:∀(f k j:Nat)(x:Xs)(l:List Fo),WF n (k+j) l->aa l<f ->
 xsz (aO ins f k x l).1+2*k+5*(aO ins f k x l).2.2.length<=xsz x+5*aa l
 |0,_,_,_,_,_,h=>by omega
 |f+1,0,j,x,l,hw,_=>by rw[aO];dsimp only;omega
 |f+1,k+1,j,x,[],hw,_=>by rw[Nat.add_right_comm]at hw;exact(JX hw).elim
 |f+1,k+1,j,x,fo::l,hw,hf=>by
  rw[Nat.add_right_comm]at hw;unfold WF at hw;rw[zrt]at hf;rw[aO];rcases hw with⟨w1,w2,w3⟩|⟨w1,w2,w3⟩
  ·rw[if_pos w1];have a:=oG (ins:=ins) f k j (uT x ins fo.lit).1 l w3 (by omega);have b:=YT x ins fo.lit;rw[zrt];dsimp only;omega
  ·rw[if_neg (by rcases w1 with h|h<;>rw[h]<;>decide)];obtain⟨a1,a2,a3⟩:=jE (ins:=ins) f fo.kids (k+j) x l w3 (by omega);have a4:=oG (ins:=ins) f fo.kids (k+j) x l w3 (by omega);obtain⟨q,hq⟩:∃q,q=aO ins f fo.kids x l:=⟨_,rfl⟩;rw[<-hq]at a1 a2 a3 a4 ⊢;have m:=IA (aa q.2.1) q.1 [] (opF fo) (opF fo) q.2.1 (zrb _) (by omega);have b:=oG (ins:=ins) f k j (gI (aa q.2.1) q.1 [] (opF fo) (opF fo) q.2.1).1 q.2.2 a2 (by omega);rw[zrt];dsimp only;omega
theorem Be(p:S->Bool):∀rows:List S,bH (rows.filter p)+bH (rows.filter λr=> !p r)=bH rows
 |[]=>rfl
 |r::rows=>by
  have ih:=Be p rows;rw[List.filter_cons,List.filter_cons,dQ];cases hp:p r with
  |true=>rw[if_pos rfl,if_neg (by decide:¬(!true)=ab),dQ];omega
  |false=>rw[if_neg (by decide:¬ac=ab),if_pos (by rfl:(!false)=ab),dQ];omega
theorem JY(l:List Fo):aa (qX l)<=aa l:=by
 match l with
 |[]=>exact zrb _
 |[f]=>show aa (if f.kind=1 then []else [f])<=1;split<;>simp
 |_::_::_=>exact zrb _
theorem DI(l:List Li)(rest:List Fo):aa (yZ l rest)<=1+aa l+aa rest:=by
 have:=JY rest;unfold yZ;rw[zqa,zqa,zra];split
 ·simp only[zrk];omega
 ·simp only[List.length_nil];omega
theorem DJ(row:S):aa (aX row)<=aa row:=by show aa (bf 0 row)<=_;rw[qG];exact List.countP_le_length
theorem DK:∀rows:List S,aa (rows.flatMap λr=>yZ (aX r) [])<=bH rows
 |[]=>zrb _
 |r::rows=>by have ih:=DK rows;have h:=DI (aX r) [];have e:aa (aX r)=zU r:=qG 0 r;rw[List.flatMap_cons,zqa,dQ];simp only[List.length_nil]at h;omega
theorem sQ:∀(f:Nat)(rows:List S),(∀r∈rows,aa r<=8)->bH rows<f->aa (vM f rows)<=10*bH rows+1
 |0,_,_,h=>by omega
 |f+1,rows,hn,hs=>by
  unfold vM;by_cases h0:rows=[]
  ·rw[if_pos h0];simp
  rw[if_neg h0];by_cases h1:rows.any kw=ab
  ·rw[if_pos h1];simp
  rw[if_neg h1];obtain⟨r0,rs,rfl⟩:∃r0 rs,rows=r0::rs:=by
   cases rows with
   |nil=>exact absurd rfl h0
   |cons a b=>exact⟨a,b,rfl⟩
  have hdl:∀ {rows:List S} {l:List Li},(∀r∈rows,aa r<=8)->∀r∈aS rows l,aa r<=8:=λh r hr=>by obtain⟨q,hq,rfl⟩:=zrh.1 hr;rw[xJ];exact h q hq
  by_cases h2:bz (r0::rs)≠[]
  ·rw[if_pos h2];obtain⟨x,cs,hc⟩:∃x cs,bz (r0::rs)=x::cs:=by
    cases hcc:bz (r0::rs)with
    |nil=>exact absurd hcc h2
    |cons a b=>exact⟨a,b,rfl⟩
   have hx:x∈aX r0:=(List.mem_filter.1 (show x∈bz (r0::rs) by rw[hc];simp)).1;have hsz:bH (aS (r0::rs) (bz (r0::rs)))<bH (r0::rs):=by rw[hc];exact iy hx
   have ih:=sQ f (aS (r0::rs) (bz (r0::rs))) (hdl hn) (by omega);have ha:=DI (bz (r0::rs)) (vM f (aS (r0::rs) (bz (r0::rs))));have hcl:aa (bz (r0::rs))<=8:=Nat.le_trans (List.length_filter_le _ _) (Nat.le_trans (DJ r0) (hn r0 (by simp)));omega
  ·rw[if_neg h2];by_cases h3:(jZ (r0::rs)).2<2
   ·rw[if_pos h3,zrt];have:=DK (r0::rs);omega
   ·rw[if_neg h3];obtain⟨x,hx⟩:∃x,x=(jZ (r0::rs)).1:=⟨_,rfl⟩;rw[<-hx];have hcnt:2<=iW (r0::rs) x:=by
     rcases Dp (r0::rs)with⟨h,_⟩|⟨_,h⟩
     ·omega
     ·rw[hx];omega
    obtain⟨q0,qs,hq⟩:∃q0 qs,(r0::rs).filter (jc x)=q0::qs:=by
     cases hf:(r0::rs).filter (jc x)with
     |nil=>exfalso;unfold iW at hcnt;rw[List.countP_eq_length_filter,hf]at hcnt;simp at hcnt
     |cons a b=>exact⟨a,b,rfl⟩
    have hq0:x∈aX q0:=by
     have:q0∈(r0::rs).filter (jc x):=by rw[hq];simp
     exact lw (List.mem_filter.1 this).2
    have s1:bH (aS ((r0::rs).filter (jc x)) [x])<bH ((r0::rs).filter (jc x)):=by rw[hq];exact iy hq0
    have s2:=Be (jc x) (r0::rs);have i1:=sQ f (aS ((r0::rs).filter (jc x)) [x]) (hdl λr hr=>hn r (List.mem_filter.1 hr).1) (by omega);have i2:=sQ f ((r0::rs).filter λr=> !jc x r) (λr hr=>hn r (List.mem_filter.1 hr).1) (by omega);have ha:=DI [x] (vM f (aS ((r0::rs).filter (jc x)) [x]));rw[zrt,zqa];simp only[zrk]at ha;omega
theorem DL:∀(rows acc:List S),aa (rows.foldl (λl r=>if l.contains r=ab then l else l++[r]) acc)<=aa acc+aa rows
 |[],acc=>by simp
 |r::rows,acc=>by
  rw[List.foldl_cons];have:=DL rows (if acc.contains r=ab then acc else acc++[r]);refine Nat.le_trans this ?_;split
  ·simp only[zrt];omega
  ·simp only[zrt,zqa,zrk,List.length_nil];omega
theorem zq{m:Nat}:∀rows:List S,(∀r∈rows,aa r<=m)->bH rows<=(m+1)*aa rows
 |[],_=>Nat.zero_le _
 |r::rows,h=>by have ih:=zq rows λq hq=>h q (by simp[hq]);have h1:=h r (by simp);have h2:zU r<=aa r:=List.countP_le_length;rw[dQ,zrt,Nat.mul_add];omega
theorem JZ{rows:List S}(h1:aa rows<=128)(h2:∀r∈rows,aa r<=8):aa (PS (bJ rows))<=11521:=by
 have hu:=DL rows [];have hm:∀r∈bJ rows,aa r<=8:=λr hr=>by
  rcases lX rows [] r hr with h|h
  ·cases h
  ·exact h2 r h
 have hs:=zq (bJ rows) hm;have hl:aa (bJ rows)<=128:=Nat.le_trans hu (by simpa using h1);have hf:=sQ (bH (bJ rows)+1) (bJ rows) hm (by omega);show aa (vM _ _)<=_;omega
theorem Uu{x:Xs}{g:Ga}(h1:aa g.rows<=128)(h2:∀r∈g.rows,aa r=aa g.ins)(h3:aa g.ins<=8):xsz (jW x g)<=xsz x+60000:=by
 have hl:=JZ (rows:=g.rows) h1 λr hr=>by rw[h2 r hr];exact h3
 have hw:=y7 (n:=aa g.ins) (bH (bJ g.rows)+1) (bJ g.rows) (λr hr=>by
  rcases lX g.rows [] r hr with h|h
  ·cases h
  ·exact h2 r h) (by omega)
 unfold jW;have hp:∀g',xsz (iJ x g').1<=xsz x+60000:=λg'=>by have:=(wJ x g').1;omega
 cases hf:PS (bJ g.rows)with
 |nil=>dsimp only;omega
 |cons fo l =>
  rw[hf,zrt]at hl;dsimp only;split
  ·exact hp _
  ·split
   ·exact hp _
   ·split
    ·exact hp _
    ·rename_i k0 k1 k2;have hwf:WF (aa g.ins) 1 (fo::l):=by
      have e:vM (bH (bJ g.rows)+1) (bJ g.rows)=fo::l:=hf;rw[e]at hw;rcases hw with⟨_,h⟩|⟨_,fo',h,h'⟩|⟨_,_,h⟩
      ·injection h with h _;rw[h]at k0;exact absurd rfl k0
      ·injection h' with h' _;rw[h']at k1;exact absurd h k1
      ·exact h
     unfold WF at hwf;rcases hwf with⟨w1,_⟩|⟨w1,w2,w3⟩
     ·exact absurd w1 k2
     ·obtain⟨a1,a2,a3⟩:=jE (ins:=g.ins) (aa l+1) fo.kids 0 x l w3 (by omega);have a4:=oG (ins:=g.ins) (aa l+1) fo.kids 0 x l w3 (by omega);have m:=IA (aO g.ins (aa l+1) fo.kids x l).2.1.length (aO g.ins (aa l+1) fo.kids x l).1 g.name (opF fo) (fF g.off (opF fo)) (aO g.ins (aa l+1) fo.kids x l).2.1 (zrb _) (by omega);omega
def nlX(x:Xs):Prop:=aa x.nots.1=aa x.nots.2
theorem zt{x:Xs}(g:Ga)(h:nlX x):nlX (iJ x g).1:=by unfold nlX;rw[(wJ x g).2];exact h
theorem Ql{x:Xs}(s:S)(h:nlX x):nlX (dI x s).1:=by
 unfold dI;split
 ·exact h
 ·show aa (x.nots.1++[s])=aa (x.nots.2++_);simp only[zqa,zrk];have:aa x.nots.1=aa x.nots.2:=h;omega
theorem Vs{x:Xs}(ins:List S)(n:Nat)(h:nlX x):nlX (uT x ins n).1:=by
 unfold uT;split
 ·exact Ql _ h
 ·exact h
theorem DN:∀(f:Nat) {x:Xs} (name:S) (op last:Int) (l:List S),nlX x->nlX (gI f x name op last l).1
 |0,x,name,op,last,l,h=>zt _ h
 |f+1,x,name,op,last,l,h=>by
  rw[gI];split
  ·exact DN f name op last _ (zt _ h)
  ·exact zt _ h
theorem qL{ins:List S}:∀(f k:Nat) {x:Xs} (l:List Fo),nlX x->nlX (aO ins f k x l).1
 |0,_,_,_,h=>by rw[aO];exact h
 |f+1,0,_,_,h=>by rw[aO];exact h
 |f+1,k+1,_,[],h=>by rw[aO];exact h
 |f+1,k+1,x,fo::l,h=>by
  rw[aO];split
  ·exact qL f k l (Vs ins fo.lit h)
  ·exact qL f k _ (DN _ _ _ _ _ (qL f fo.kids l h))
def nI(ins:List S)(x:Xs)(fo:Fo)(l:List Fo):Xs×S×List Fo :=
 if fo.kind=2 then((uT x ins fo.lit).1,(uT x ins fo.lit).2,l)
 else((gI (aO ins (aa l+1) fo.kids x l).2.1.length (aO ins (aa l+1) fo.kids x l).1 [] (opF fo) (opF fo) (aO ins (aa l+1) fo.kids x l).2.1).1,(gI (aO ins (aa l+1) fo.kids x l).2.1.length (aO ins (aa l+1) fo.kids x l).1 [] (opF fo) (opF fo) (aO ins (aa l+1) fo.kids x l).2.1).2,(aO ins (aa l+1) fo.kids x l).2.2)
theorem Bf{n:Nat}{ins:List S}{k j F:Nat}{x:Xs}{fo:Fo}{l:List Fo}(hw:WF n (k+1+j) (fo::l))(hF:aa l+1<F) :
 aO ins F (k + 1) x (fo :: l) = ((aO ins F k (nI ins x fo l).1 (nI ins x fo l).2.2).1,(nI ins x fo l).2.1 :: (aO ins F k (nI ins x fo l).1 (nI ins x fo l).2.2).2.1,(aO ins F k (nI ins x fo l).1 (nI ins x fo l).2.2).2.2)
  /\ WF n (k+j) (nI ins x fo l).2.2/\(nI ins x fo l).2.2.length<=aa l:=by
 obtain⟨f,rfl⟩:∃f,F=f+1:=⟨F-1,by omega⟩;rw[Nat.add_right_comm]at hw;unfold WF at hw;unfold nI;rcases hw with⟨w1,w2,w3⟩|⟨w1,w2,w3⟩
 ·rw[if_pos w1];dsimp only;refine⟨?_,w3,zrb _⟩;rw[kG (n:=n) f k j _ l w3 (by omega),aO,if_pos w1]
 ·have hn:¬fo.kind=2:=by rcases w1 with h|h<;>rw[h]<;>decide
  rw[if_neg hn];obtain⟨d,hd⟩:∃d,f=aa l+1+d:=⟨f-(aa l+1),by omega⟩;have hfu:aO ins f fo.kids x l=aO ins (aa l+1) fo.kids x l:=by rw[hd];exact zo (n:=n) (j:=k+j) w3 d
  obtain⟨a1,a2,a3⟩:=jE (n:=n) (ins:=ins) (aa l+1) fo.kids (k+j) x l w3 (by omega);dsimp only;refine⟨?_,a2,by omega⟩;rw[kG (n:=n) f k j _ _ a2 (by omega),aO,if_neg hn,hfu]
theorem Xa{n:Nat}{ins:List S}{j:Nat}{x:Xs}{fo:Fo}{l:List Fo}(hw:WF n (1+j) (fo::l)):xsz (nI ins x fo l).1+5*(nI ins x fo l).2.2.length<=xsz x+5*(aa l+1):=by have h:=oG (ins:=ins) (aa l+2) 1 j x (fo::l) hw (by simp);have hs:=(Bf (ins:=ins) (F:=aa l+2) (x:=x) (k:=0) (j:=j) (n:=n) (by rw[Nat.zero_add];exact hw) (by omega)).1;rw[hs,zrt]at h;rw[aO]at h;dsimp only at h;omega
theorem Xb{ins:List S}{x:Xs}(fo:Fo)(l:List Fo)(h:nlX x):nlX (nI ins x fo l).1:=by
 unfold nI;split
 ·exact Vs _ _ h
 ·exact DN _ _ _ _ _ (qL _ _ _ h)
theorem Uw[MO](c:UInt8):Ev TE 323 [vb c] (.bool (P9 c)):=by have e1:ar ((32:Int)<(c.toNat:Int))=ar (32<c.toNat):=decide_eq_decide.2 (by omega);have e2:ar ((c.toNat:Int)<=126)=ar (c.toNat<=126):=decide_eq_decide.2 (by omega);refine ai Tryz.func323 rfl (by simp[nts]) (vm ?_);simp only[wq.1,seval,Tryz.results323,e1,e2];exact aC.eq rfl rfl
def Vt:S:=[61,40,41,44]
def Xc:S:=[61,40,41,44,35]
theorem Ux(c:UInt8):Vt.contains c=zg c:=by unfold Vt zg;simp only[List.contains_cons,List.contains_nil,Bool.or_false,Bool.or_assoc]
theorem Xd(c:UInt8):Xc.contains c=(zg c||c==35):=by unfold Xc zg;simp only[List.contains_cons,List.contains_nil,Bool.or_false,Bool.or_assoc]
theorem Qm[MO](c:UInt8):Ev TE 322 [vb c] (.bool (nG c)):=by
 have h:=E9 Xc c.toNat (by have:=c.toNat_lt;omega);rw[UInt8.ofNat_toNat]at h;refine ai Tryz.func322 rfl (by simp[nts]) (vm ?_);simp only[wq.1,seval,Tryz.results322];refine ag.ev (Uw c) rfl ?_;unfold nG;cases hg:P9 c with
 |false=>simp only[wq.1,seval];refine⟨vi 0,?_⟩;simp only[wq.1,Int.reduceLT];exact aC.dat rfl
 |true=>simp only[wq.1,seval];refine ag.ev h rfl ?_;simp only[wq.1,seval];refine aC.eq rfl ?_;rw[CZ,Xd]
def zu(p:Nat):S->Option (Option Tk×Nat)
 |[]=>al (aq,0)
 |c::r =>
  if c=35 then al (aq,D9 (· != 10) (c::r))
  else if FW c=ab then al (aq,1)
  else if zg c=ab then al (al ⟨1,[c],p⟩,1)
  else if nG c=ab then al (al ⟨0,(c::r).takeWhile nG,p⟩,D9 nG (c::r))
  else aq
theorem J3{n p:Nat}{c:UInt8}{r:S}:tkN (n+1) p (c::r)=match zu p (c::r)with
 |none=>([],al p)
 |some (o,m)=>(o.toList++(tkN n (p+m) ((c::r).drop m)).1,(tkN n (p+m) ((c::r).drop m)).2):=by
 rw[tkN,zu];by_cases h1:c=35
 ·rw[if_pos h1,if_pos h1,C9];rfl
 rw[if_neg h1,if_neg h1];by_cases h2:FW c=ab
 ·rw[if_pos h2,if_pos h2];rfl
 rw[if_neg h2,if_neg h2];by_cases h3:zg c=ab
 ·rw[if_pos h3,if_pos h3];rfl
 rw[if_neg h3,if_neg h3];by_cases h4:nG c=ab
 ·rw[if_pos h4,if_pos h4,C9];rfl
 rw[if_neg h4,if_neg h4]
theorem Qo{p:Nat}{c:UInt8}{r:S}{o:Option Tk}{m:Nat}(h:zu p (c::r)=al (o,m)):1<=m/\m<=aa (c::r):=by
 have hw:∀q:UInt8->Bool,q c=ab->1<=D9 q (c::r)/\D9 q (c::r)<=aa (c::r):=λq hq=>by unfold D9;refine⟨by rw[List.takeWhile_cons,if_pos hq];simp,(List.takeWhile_sublist _).length_le⟩
 have h1l:1<=aa (c::r):=by simp
 rw[zu]at h;split at h
 ·rename_i h1;have:=hw (· != 10) (by rw[h1];decide);injection h with h;injection h with _ h;rw[<-h];exact this
 ·split at h
  ·injection h with h;injection h with _ h;rw[<-h];exact⟨zrb _,h1l⟩
  ·split at h
   ·injection h with h;injection h with _ h;rw[<-h];exact⟨zrb _,h1l⟩
   ·split at h
    ·rename_i h4;injection h with h;injection h with _ h;rw[<-h];exact hw _ h4
    ·cases h
abbrev Xe(a:Nat):V:= .iface 193 (.agg [vi a])
theorem Xf[MO](k:Int)(s:S)(a:Nat){h:H}{R:AEnd->H->(Nat->Bool)->Prop}(hr:∀X,R (.pan (Xe a)) (h++X) (λ_=>ac)):ag TE 320 [vi k,.str s,vi a,vi 0] h R:=by refine ak Tryz.func320 rfl (by simp[nts]) (vm ?_);simp only[wq.1,seval,Tryz.results320];refine⟨by simp,?_⟩;simp only[XE.seq];exact bZ (R:=R) rfl (hr _)
theorem Uy{s:S}{a:Nat}{c:UInt8}{r:S}(hr:s.drop a=c::r):∃ha:a<aa s,s[a]=c:=by
 have ha:a<aa s:=by have:=congrArg List.length hr;rw[List.length_drop,zrt]at this;omega
 refine⟨ha,?_⟩;have:=List.drop_eq_getElem_cons ha;rw[hr]at this;injection this with h1 _;exact h1.symm
theorem Qp(c:UInt8):ar (0<=Lib.indexByte [32,9,13,10] c)=FW c:=by rw[Jr];unfold FW;simp only[List.contains_cons,List.contains_nil,Bool.or_false,Bool.or_assoc]
theorem Uz(c:UInt8):ar (0<=Lib.indexByte [61,40,41,44] c)=zg c:=by rw[Jr];exact Ux c
theorem zy[MO](s:S)(a:Nat)(c:UInt8)(r:S)(hr:s.drop a=c::r)(hs:aa s<=1000000000):ag TE 317 [.agg [],.str s,vi a] [] (λae _ _=>match zu a (c::r)with
 |some (o,m)=>ae= .ret (.tup [tkO o,vi m])
 |none=>ae= .pan (Xe a)):=by
 have hM:=mLx;obtain⟨ha,hc⟩:=Uy hr;have hln:=Wl s a (by omega) hs;have hib:=E9 [32,9,13,10] c.toNat (by have:=c.toNat_lt;omega);have him:=E9 [61,40,41,44] c.toNat (by have:=c.toNat_lt;omega);rw[UInt8.ofNat_toNat]at hib him;have hrn:=Vd s a 322 nG (by omega) hs (by simp[ens]) Qm;rw[hr]at hln hrn;have e35:((c.toNat:Int)==35)=(c==35):=Wj c 35;have hlen:aa (c::r)=aa s-a:=by rw[<-hr,List.length_drop]
 have hpos:D9 nG (c::r)<=aa (c::r):=(List.takeWhile_sublist _).length_le;obtain⟨R,hR⟩:∃R,R=zu a (c::r):=⟨_,rfl⟩;rw[<-hR];rw[zu]at hR;refine ak Tryz.func317 rfl (by simp[nts]) (vm ?_);simp only[wq.1,seval,Tryz.results317,OO ha,hc,e35];refine⟨⟨by omega,by omega⟩,vcB.mk (λh1=> ?_) (λh1=> ?_)⟩
 ·rw[if_pos (by simpa using h1)]at hR;subst hR;simp only[wq.1,seval];refine ag.ev hln rfl ?_;simp only[wq.1,seval];refine ag.ev (O3 _) rfl ?_;simp only[wq.1,seval]
 rw[if_neg (by simpa using h1)]at hR;simp only[wq.1,seval];refine ag.ev hib rfl ?_;simp only[wq.1,seval,Qp];refine vcB.mk (λh2=> ?_) (λh2=> ?_)
 ·rw[if_pos h2]at hR;subst hR;simp only[wq.1,Nat.reduceLT];refine ag.ev (O3 _) rfl ?_;simp only[wq.1,↓reduceIte,Nat.reduceEqDiff,Nat.reduceLT,Nat.reduceAdd,Int.reduceNeg,reduceCtorEq];rfl
 rw[if_neg (by rw[h2];decide)]at hR;simp only[wq.1,seval];refine ag.ev him rfl ?_;simp only[wq.1,seval,Uz];refine vcB.mk (λh3=> ?_) (λh3=> ?_)
 ·rw[if_pos h3]at hR;subst hR;have h:=Ve 1 s a 1 (by decide) (by omega) hs;rw[hr]at h;simp only[wq.1,seval];refine ag.ev h rfl ?_;simp only[wq.1,seval];rfl
 rw[if_neg (by rw[h3];decide)]at hR;by_cases h4:nG c=ab
 ·rw[if_pos h4]at hR;subst hR;have h:=Ve 0 s a (D9 nG (c::r)) (by unfold D9;rw[List.takeWhile_cons,if_pos h4];simp) (by omega) hs;rw[hr]at h;have ht:(c::r).take (D9 nG (c::r))=(c::r).takeWhile nG:=by
   unfold D9
   conv=>lhs;rw[<-List.takeWhile_append_dropWhile (p:=nG) (l:=c::r)]
   rw[List.take_append_of_le_length (by simp)];simp
  rw[ht]at h;simp only[wq.1,seval];refine ag.ev hrn rfl ?_;simp only[wq.1,seval];refine ag.ev h rfl ?_;simp only[wq.1,seval];rfl
 ·rw[if_neg h4]at hR;subst hR;have h0:D9 nG (c::r)=0:=by
   unfold D9;rw[List.takeWhile_cons,if_neg h4];rfl
  rw[h0]at hrn;simp only[wq.1,seval];refine ag.ev hrn rfl ?_;simp only[wq.1,seval];refine Xf _ _ _ λX=> ?_;simp only[wq.1,fG];simp only[XE.seq];exact bZ (R:=λae _ _=>ae=AEnd.pan (Xe a)) rfl rfl
end Go.Proofs.YthaijohbpdabfaaGreatDoor
