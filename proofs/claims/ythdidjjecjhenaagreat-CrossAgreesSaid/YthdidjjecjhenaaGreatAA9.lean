/- Lemmas for this claim, part A9: each holds under what it names. -/
import Derived.Test.YthdidjjecjhenaaGreatAA8
set_option linter.all false
namespace Go.Abs
open Go Go.RowKit
open List renaming length → aa, replicate → aD
open Bool renaming true → ab, false → am
open Option renaming some → ar, none → aL
open Decidable renaming decide → aM
open Go.IntKind renaming wrap → a5
open Go.Result renaming andThen → a8
open Go.Abs.V renaming drops → aE, dat → a6, dats → a7
section
variable{e:E}{n:Nat}{r:Option Nat}{o:Oper}{f:Fr}{h:H}{Kn:Fr->H->Prop}{Q:XE->Fr->H->Prop}
variable{x y:Operand}{q re:TI}
theorem pY{t xt el:TypeId}(ha:IsAppend e o x y t xt el q re)(hxc:(f.ev e x).sc)(hyc:(f.ev e y).sc)
 {ex:Bool} {k:Nat} {es:List V} (hx:(f.ev e x).sv= .is ex k es) (hst:Ei e.P xt el (f.ev e y).sv=ab) {cs:List V} (hy:lu h re.size (f.ev e y).sv=ar (0,cs)) (hyf:pK re.size (f.ev e y).sv=ab)
 (hk:Kn (f.put o.dst (.is ex k es)) h):Eff e n r o f h Kn Q:=by
 obtain⟨⟨ts,hop,ht0,ht1⟩,hti,hkind,htie,hzf,hzl,hpos⟩:=ha;refine lh (v:= .is ex k es) (je λok pl w ev hs hr=> ?_) hk;obtain⟨i,d,z,hT⟩:=aW hti;have hd:=hT.slice hkind;subst hd;obtain⟨ie,de,ze,hE⟩:=aW htie;obtain⟨rx,ix,dx,zx,hX,hxi⟩:=I4 hst;have hxv:=(hr x (by simp[hop,Op.operands,Call.operands])).sv hxc;have hyv:=(hr y (by simp[hop,Op.operands,Call.operands])).sv hyc;obtain⟨news,hn1,hn2,hn3,hn4⟩:=pM hs hyv hy hyf;have hnews:news=#[]:=by have:=hn3.length;rw[hn4,Nat.zero_mul]at this;exact Array.toList_eq_nil_iff.1 (zse this)
 subst hnews;rw[hx]at hxv;have hxv0:=hxv;simp only[VRel]at hxv;obtain⟨base,cp,hbase,hlen,hmax,hex,hpl⟩:=hxv;have hrun:=iC (P:=e.P) (w:=w) (ty:=o.type) ht0 ht1 hT hE hX hxi base (aa es) cp 0 (ev y) #[] (λw'=>hn1 w') (hn2 w (λ_=>rfl)) (by omega) (w':=w) (by
  cases base with
  |none=>exact .inl ⟨rfl,rfl⟩
  |some a=>exact .inr ⟨a,rfl,by simp[storeCells]⟩)
 refine⟨ev x,?_,hxv0⟩;rw[fJ hop,hbase];rw[Nat.add_zero]at hrun;exact iT hrun
variable{c:Code}
theorem iL{r:Option Nat}(Pf:Fr->Prop)(h0:H)(h1:(∀f',Pf f'->awp e n r c Q f' h0)->awp e n r c Q f h)(h2:∀f',Pf f'->awp e n r c Q f' h0):awp e n r c Q f h:=h1 h2
end
section
variable{e:E}{n:Nat}{r:Option Nat}{o:Oper}{f:Fr}{h:H}{Kn:Fr->H->Prop}{Q:XE->Fr->H->Prop}
end
section
variable{e:E}{n:Nat}{r:Option Nat}{ops:Array Oper}{Q:XE->Fr->H->Prop}{ok:Nat->Prop}{pl0:Nat->Option Nat}{w0:World}
variable{f:Fr}{pl:Nat->Option Nat}{w:World}{a:Act}
theorem SSim.unput{h:H}{d:Option Tmp}{v:Value}(s:SSim e n ok pl0 w0 f h pl w (a.put d v)):SSim e n ok pl0 w0 (f.put d .any) h pl w a:=by
 cases d with
 |none=>exact s
 |some i =>
  refine⟨s.hs,s.kp,?_,λj=> ?_,s.dfr⟩
  ·have:=s.size;simpa [Act.put]using this
  ·by_cases hj:j=i
   ·subst hj;have:(f.put (ar j) .any).t j= .any:=by simp[Fr.put]
    rw[this];simp only[VRel]
   ·have h1:(f.put (ar i) .any).t j=f.t j:=by simp[Fr.put,hj]
    rw[h1];have h2:=s.val j;simpa [Act.put,Array.getElem?_setIfInBounds_ne (Ne.symm hj)]using h2
end
section
variable{e:E}{n:Nat}{r:Option Nat}{ops:Array Oper}{Q:XE->Fr->H->Prop}{ok:Nat->Prop}{pl0:Nat->Option Nat}{w0:World}{h:H}
def kH(o:Oper):Bool:=match o.op with | .alloc _=>ab|_=>am
def o6(e:E)(n:Nat)(ops:Array Oper)(h:H)(o:Oper)(v:V)(f:Fr):Prop :=
 (kH o=ab/\o.guard=aL/\ku n o.dst=ab/\v= .any)\/(kH o=am/\nz e n ops h o v f)
variable{o:Oper}{v:V}{f:Fr}
theorem o6.put(hy:o6 e n ops h o v f){dst:Option Tmp}{u:V}(hd:∀d,dst=ar d->d∉o.looksAt ops):o6 e n ops h o v (f.put dst u) :=
 hy.imp id λh=>⟨h.1,h.2.put hd⟩
variable{dst:Option Tmp}
theorem o6.unput{u:V}(hy:o6 e n ops h o v (f.put dst u))(hd:∀d,dst=ar d->d∉o.looksAt ops):o6 e n ops h o v f :=
 hy.imp id λh=>⟨h.1,h.2.unput hd⟩
def AB(e:E)(n:Nat)(ops:Array Oper)(h:H)(i:Nat)(Kn:Fr->Prop)(f:Fr):Prop :=
 match ops[i]? with
 |none=>Kn f
 |some o=>∃v,o6 e n ops h o v f/\Kn (f.put o.dst v)
variable{i:Nat}
theorem LM{K K':Fr->Prop}(hh:∀f,K f->K' f)(hq:AB e n ops h i K f):AB e n ops h i K' f:=by
 unfold AB at *;split
 ·exact hh _ (by simpa [*]using hq)
 ·rename_i o ho;simp only[ho]at hq;obtain⟨v,h1,h2⟩:=hq;exact⟨v,h1,hh _ h2⟩
variable{oi:Oper}
theorem OQ{j:Nat}{oj:Oper}(hj:ops[j]? =ar oj)(hap:oi.apart ops oj=ab){K:Fr->Prop}{f:Fr}
 (hy:o6 e n ops h oi v f) (hq:AB e n ops h j K (f.put oi.dst v)) :
 AB e n ops h j (λf'=>o6 e n ops h oi v f'/\K (f'.put oi.dst v)) f:=by
 obtain⟨h1,h2,h3⟩:=Oper.apart_spec hap;unfold AB at *;simp only[hj]at *;obtain⟨u,hu,hn⟩:=hq;exact⟨u,hu.unput h1,hy.put h3,by rw[<-Fr.put_comm f v u h2];exact hn⟩
def tY(e:E)(n:Nat)(ops:Array Oper)(h:H)(Q:Fr->Prop):List Oper->Fr->Prop
 |[],f=>Q f
 |o::rest,f=>∃v,o6 e n ops h o v f/\tY e n ops h Q rest (f.put o.dst v)
def EN(e:E)(n:Nat)(ops:Array Oper)(h:H)(last:Nat)(Q:Fr->Prop):Nat->Array Bool->Fr->Prop
 |0,listed,f=>Region.ready .any ops listed=[last]/\Q f
 |fuel+1,listed,f=>Region.ready .any ops listed≠[]/\(Region.ready .any ops listed=[last]->Q f) /\
  ∀i∈Region.ready .any ops listed,i≠last->AB e n ops h i (EN e n ops h last Q fuel (listed.setIfInBounds i ab)) f
variable{last:Nat}
theorem EO{Q:Fr->Prop}(hi:ops[i]? =ar oi)(hil:i≠last) :
 ∀(fuel:Nat)(listed:Array Bool)(f:Fr),
  (∀j oj,ops[j]? =ar oj->j≠i->listed.getD j ab=am->(∀e∈oj.after,Region.binds .any e=ab->e.on≠i)->oi.apart ops oj=ab) ->
  i∈Region.ready .any ops listed->o6 e n ops h oi v f ->
  EN e n ops h last Q fuel (listed.setIfInBounds i ab) (f.put oi.dst v)->EN e n ops h last Q (fuel+1) listed f:=by
 have own:∀ {K:Fr->Prop} {f:Fr},o6 e n ops h oi v f->K (f.put oi.dst v)->AB e n ops h i K f:=by intro K f hy hk;unfold AB;rw[hi];exact⟨v,hy,hk⟩
 have one:∀ {listed:Array Bool} {R:Prop},i∈Region.ready .any ops listed->Region.ready .any ops listed=[last]->R:=by intro listed R hr h;rw[h]at hr;exact absurd (by simpa using hr) hil
 intro fuel
 induction fuel with
 |zero =>
  intro listed f _ hr hy H;refine⟨λh=>(by rw[h]at hr;cases hr),λh=>one hr h,λj hj hjl=> ?_⟩;by_cases hji:j=i
  ·subst hji;exact own hy H
  ·have:=ready_mono hj hji;rw[H.1]at this;exact absurd (by simpa using this) hjl
 |succ fuel ih =>
  intro listed f hfree hr hy H;refine⟨λh=>(by rw[h]at hr;cases hr),λh=>one hr h,λj hj hjl=> ?_⟩;by_cases hji:j=i
  ·subst hji;exact own hy H
  ·have h1:=H.2.2 j (ready_mono hj hji) hjl;obtain⟨hjun,oj,hoj,hall⟩:=mem_ready.1 hj;have hnot:∀e∈oj.after,Region.binds .any e=ab->e.on≠i:=λe he hb heq=>by
    have h1:=hall e he hb;have h0:=(mem_ready.1 hr).1;rw[heq]at h1;rcases Nat.lt_or_ge i listed.size with h'|h'
    ·simp[h']at h0 h1;rw[h0]at h1;cases h1
    ·simp[Array.getElem?_eq_none h']at h1
   have h2:=OQ hoj (hfree j oj hoj hji hjun hnot) hy h1;have hfree':∀k ok,ops[k]? =ar ok->k≠i->(listed.setIfInBounds j ab).getD k ab=am ->
    (∀e∈ok.after,Region.binds .any e=ab->e.on≠i)->oi.apart ops ok=ab:=λk ok hk hki hun hno=>by
    refine hfree k ok hk hki ?_ hno;by_cases hjk:j=k
    ·subst hjk;exact hjun
    ·rw[getD_set_ne ab hjk]at hun;exact hun
   refine LM (λa' h3=>ih (listed.setIfInBounds j ab) a' hfree' (ready_mono hr (Ne.symm hji)) h3.1 ?_) h2;rw[Array.setIfInBounds_comm _ _ hji];exact h3.2
def EP(ops:Array Oper)(listed:Array Bool):Prop:=∀i o,ops[i]? =ar o->listed.getD i am=ab->∀e∈o.after,Region.binds .any e=ab->listed.getD e.on am=ab
variable{listed:Array Bool}
theorem EP.set(hc:EP ops listed){i:Nat}(hi:i∈Region.ready .any ops listed):EP ops (listed.setIfInBounds i ab):=by
 intro j o ho hl e he hb;refine getD_set_true ?_;by_cases hji:j=i
 ·subst hji;obtain⟨_,o',ho',hall⟩:=mem_ready.1 hi;rw[ho]at ho';cases ho';exact hall e he hb
 ·rw[getD_set_ne am (Ne.symm hji)]at hl;exact hc j o ho hl e he hb
theorem EP.none{m:Nat}:EP ops (Array.replicate m am):=by
 intro i o _ hl;exfalso;rcases Nat.lt_or_ge i m with h|h
 ·simp[h]at hl
 ·simp[h]at hl
variable{pl pl':Nat->Option Nat}{w w':World}
theorem HSim.recx{ok ok':Nat->Prop}{h h':H}(hs:HSim e ok pl h w)(x:CExt (λ_=>am) (cx ok pl w) (cx ok' pl' w'))
 (fresh:∀b,w'.heap.size<=b->ok' b) (lt:∀i b,pl' i=ar b->b<w'.heap.size) (okl:∀i b,pl' i=ar b->ok' b) (inj:∀i j b,pl' i=ar b->pl' j=ar b->i=j)
 (obj:∀i b,pl' i=ar b->∃o,h'[i]? =ar o/\OAt (cx ok' pl' w') b o) (bare:∀i o,h'[i]? =ar o->pl' i=aL->o= .dead\/o= .cells []):HSim e ok' pl' h' w' where
 fresh:=fresh
 lt:=lt
 okl:=okl
 inj:=inj
 obj:=obj
 bare:=bare
 glob g v hg:=VRel.mono x _ _ (hs.glob g v hg)
 exa g cs hg:=by
  obtain⟨h1,cs',ty,fz,h2,h3⟩:=hs.exa g cs hg;have:=x.dat g (bH h2) h1;exact⟨this.1,cs',ty,fz,this.2.trans h2,h3⟩
structure Hid(e:E)(n:Nat)(ok:Nat->Prop)(pl0:Nat->Option Nat)(w0:World)(f:Fr)(h:H)(pl:Nat->Option Nat)(w:World)(a:Act)(d:Tmp)(cs:List V)(b:Nat):Prop where
 s:SSim e n (λx=>ok x/\x≠b) pl0 w0 f h pl w a
 ptr:a.tmps.getD d undef= .pointer (ar ⟨b,0,aL⟩)
 ob:OAt (cx ok (dI pl (aa h) b) w) b (.cells cs)
 ge:w0.heap.size<=b
 lt:b<w.heap.size
 okb:ok b
 npl:∀i,pl i≠ar b
 dn:d<n
variable{a:Act}
theorem Hid.cext{d:Tmp}{cs:List V}{b:Nat}(k:Hid e n ok pl0 w0 f h pl w a d cs b){w':World}(x:WExt w w') :
 CExt (λ_=>am) (cx (λx=>ok x/\x≠b) pl w) (cx ok (dI pl (aa h) b) w'):=by
 refine⟨λb' hb' hok=>⟨⟨hok.1.1,λi hi=> ?_⟩,x.same b' hb'⟩,λi b' _ hi=> ?_,λb' arr' el' fz hb'=>⟨arr',fz,(x.same b' (bH hb')).trans hb',rfl⟩⟩
 ·simp only[dI]at hi;split at hi
  ·cases hi;exact hok.1.2 rfl
  ·exact hok.2 i hi
 ·have:=k.s.hs.pl_lt hi;simp only[cx,dI];rw[if_neg (by omega)];exact hi
theorem AQ.wpIn(hq:AQ e o (f.ev e) h v)(s:SSim e n ok pl0 w0 f h pl w a){K':Act->World->Prop}{Q':Exit->Act->World->Prop}
 (hk:∀x w',WExt w w'->VRel (cx ok pl w') v x->K' (a.put o.dst x) w'):o.wpIn (RF r) 0 e.P a w K' Q':=by
 have:=hq ok pl w a.eval s.hs s.evs;refine⟨λg _=>jg r g,?_⟩;have hnd:o.semAt (RF r).round a.eval=execOp a.eval o:=by
  rw[fO];refine Oper.semAt_eq r a.eval o λc hc=> ?_;unfold execOp at this;rw[hc]at this;simp only[Sem.run_bind]at this
  revert this
  cases(resolve a.eval c o.type).run e.P w<;>simp[kN,a8]
 rw[hnd]
 revert this
 cases(execOp a.eval o).run e.P w with
 |halt x w'=>simp[kN]
 |ok nx w' =>
  cases nx<;>simp only[kN,Oper.uponIn]<;>try(intro hf;exact hf.elim)
  case value x =>
   rintro⟨hx,hv⟩;exact hk _ _ hx hv
  case skip =>
   rintro⟨hx,hv⟩;exact hk _ _ hx hv
  case enter g args =>
   intro hc;refine⟨λhd'=>(by rw[jV]at hd';cases hd'),dQ (hc.mono ?_)⟩;rintro en w'' ⟨x,rfl,hx,hv⟩;exact hk _ _ hx hv
structure AlOk(P:Program)(n:Nat)(ops:Array Oper)(ia:Nat)(d:Tmp)(q:TI):Prop where
 op:∃o t,ops[ia]? =ar o/\o.op= .alloc t/\o.guard=aL/\o.dst=ar d/\ti P t=ar q
 fit:q.zero.fit=ab
 ne:ia≠ops.size-1
 dn:d<n
 oth:∀j o,ops[j]? =ar o->j≠ia->kH o=am/\o.dst≠ar d
def LSt(e:E)(n:Nat)(ok:Nat->Prop)(pl0:Nat->Option Nat)(w0:World)(h:H)(ia:Nat)(d:Tmp)(q:TI)(listed:Array Bool)(f:Fr)(pl:Nat->Option Nat)(w:World)(a:Act):Prop :=
 (listed.getD ia am=am/\SSim e n ok pl0 w0 f h pl w a)\/(listed.getD ia am=ab/\∃b,Hid e n ok pl0 w0 f h pl w a d q.zero.vc b)
variable{q:TI}
theorem LSt.alloc{ia:Nat}{d:Tmp}(ha:AlOk e.P n ops ia d q){listed:Array Bool}(hsz:ia<listed.size){f:Fr}{pl:Nat->Option Nat}{w:World}{a:Act}(k:LSt e n ok pl0 w0 h ia d q listed f pl w a)
 (hun:listed.getD ia ab=am) {K':Act->World->Prop} {Q':Exit->Act->World->Prop}
 (hk:∀a' w',LSt e n ok pl0 w0 h ia d q (listed.setIfInBounds ia ab) (f.put (ar d) .any) pl w' a'->K' a' w'):wpOpIn (RF r) 0 e.P ops Q' ia K' a w:=by
 obtain⟨o,t,ho,hop,hg,hdst,hq⟩:=ha.op;have hl0:listed.getD ia am=am:=by simp only[Array.getD_eq_getD_getElem?,Array.getElem?_eq_getElem hsz,Option.getD_some]at hun ⊢;exact hun
 have hl1:(listed.setIfInBounds ia ab).getD ia am=ab:=by simp[hsz]
 rcases k with⟨_,s⟩|⟨hl,_⟩
 ·unfold wpOpIn;rw[ho];dsimp only;have hgd:gd ops f o=ar ab:=by unfold gd;rw[hg]
  rw[if_pos (uZ s.val hgd)];obtain⟨i,d',z,hT⟩:=aW hq;have hf:=ha.fit;have hz:VList (cx ok pl w) q.zero.vc z.cells.toList:=by
   rw[hT.zv]at hf ⊢;exact(gJ _ z).vc hf
  obtain⟨h1,h2⟩:=yz s.hs hz t (WExt.refl w);have hrun:(execOp a.eval o).run e.P w= .ok (.value (.pointer (ar ⟨w.heap.size,0,aL⟩))) (w.alloc (.cells z.cells t)):=by
   have:(Instr.alloc t ab (.tuple #[])).run e.P w= .ok (.pointer (ar ⟨w.heap.size,0,aL⟩)) (w.alloc (.cells z.cells t)):=by unfold Instr.alloc;simp only[Sem.run_bind,hT.run_zero,a8];rfl
   have h3:execOp a.eval o=(do pure (Next.value (<-Instr.alloc t ab (.tuple #[])))):=by simp[execOp,hop]
   rw[h3];exact iT this
  have xw:=WExt.alloc w (.cells z.cells t);refine⟨λg _=>jg r g,?_⟩;have hnd:o.semAt (RF r).round a.eval=execOp a.eval o:=by rw[fO];exact Oper.semAt_eq r a.eval o λc hc=>by rw[hop]at hc;cases hc
  rw[hnd,hrun];simp only[Oper.uponIn];refine hk _ _ (.inr ⟨hl1,w.heap.size,?_⟩);rw[hdst];have npl:∀i,pl i≠ar w.heap.size:=λi hi=>by have:=s.hs.lt i _ hi;omega
  have x:CExt (λ_=>am) (cx ok pl w) (cx (λx=>ok x/\x≠w.heap.size) pl (w.alloc (.cells z.cells t))):=by refine⟨λb' hb' hok=>⟨⟨⟨hok.1,?_⟩,hok.2⟩,xw.same b' hb'⟩,λi b' _ hi=>hi,λb' arr' el' fz hb'=>⟨arr',fz,(xw.same b' (bH hb')).trans hb',rfl⟩⟩;have hb':b'<w.heap.size:=hb';omega
  have hsz2:(w.alloc (.cells z.cells t)).heap.size=w.heap.size+1:=by rw[World.alloc];simp
  have hs':HSim e (λx=>ok x/\x≠w.heap.size) pl h (w.alloc (.cells z.cells t)):=by refine s.hs.recx x (λb' hb'=>⟨s.hs.fresh b' (by omega),by omega⟩) (λi b' hi=>by have:=s.hs.lt i b' hi;omega) (λi b' hi=>⟨s.hs.okl i b' hi,λhh=>npl i (by rw[hi,hh])⟩) s.hs.inj ?_ s.hs.bare;intro i b' hi;obtain⟨o',h3,h4⟩:=s.hs.obj i b' hi;exact⟨o',h3,OAt.mono x (xw.same b' (s.hs.lt i b' hi)) h4⟩
  have kp':=s.kp.trans (xw.keeps s.hs);refine⟨⟨hs',kp'.weaken (q:=(f.put (ar d) V.any).k) (λi hi=>by simpa [Fr.put]using hi),?_,λj=> ?_,G8.mono (λi b' hi=>x.pl i b' rfl hi) s.dfr⟩,?_,?_,s.kp.size,by omega,s.hs.fresh _ (zrb _),npl,ha.dn⟩
  ·have:=s.size;simpa [Act.put]using this
  ·by_cases hj:j=d
   ·subst hj;have:(f.put (ar j) V.any).t j= .any:=by simp[Fr.put]
    rw[this];simp only[VRel]
   ·have e1:(f.put (ar d) V.any).t j=f.t j:=by simp[Fr.put,hj]
    rw[e1];have e2:(a.put (ar d) (.pointer (ar ⟨w.heap.size,0,aL⟩))).tmps.getD j undef=a.tmps.getD j undef:=by
     simp[Act.put,Array.getElem?_setIfInBounds_ne (Ne.symm hj)]
    rw[e2];exact VRel.mono x _ _ (s.val j)
  ·have hdn:d<a.tmps.size:=by rw[s.size];exact ha.dn
   simp[Act.put,hdn]
  ·obtain⟨o',h3,h4⟩:=h1.obj (aa h) w.heap.size (by simp[dI]);have:o'= .cells q.zero.vc:=by rw[zsb (zrb _)]at h3;simpa using h3.symm
   subst this;exact h4
 ·rw[hl0]at hl;cases hl
def mg(e:E)(n:Nat)(ops:Array Oper)(h:H)(Q:Fr->Prop):List Oper->Fr->Prop
 |[],f=>Q f
 |o::rest,f=>match kH o with
  |true=>o.guard=aL/\ku n o.dst=ab/\mg e n ops h Q rest (f.put o.dst .any)
  |false=>match gd ops f o with
   |none=>False
   |some g=>ku n o.dst=ab /\
    match kG o.op with
    |true=>match o.op with
     | .call {callee:= .value fx,args,..}=>match mf e (f.ev e) fx args with
      |some (q,vs)=>Aq e g q vs (fK (f.ev e) fx args) o.dst (mg e n ops h Q rest) f
      |none=>False
     |_=>False
    |false=>goQ g (wG e.P o (f.ev e) h) o.dst (mg e n ops h Q rest) f
theorem jX{Q:Fr->Prop}:∀(l:List Oper)(f:Fr),mg e n ops h Q l f->tY e n ops h Q l f
 |[],f,hv=>hv
 |o::rest,f,hv=>by
  simp only[mg]at hv;cases hal:kH o with
  |true=>rw[hal]at hv;obtain⟨h1,h2,h3⟩:=hv;exact⟨_,.inl ⟨hal,h1,h2,rfl⟩,jX rest _ h3⟩
  |false =>
   rw[hal]at hv;dsimp only at hv;cases hg:gd ops f o with
   |none=>rw[hg]at hv;exact hv.elim
   |some g =>
    rw[hg]at hv;obtain⟨hd,hv⟩:=hv;cases he:kG o.op with
    |true =>
     rw[he]at hv;dsimp only at hv;split at hv
     ·rename_i fx args ts hop;split at hv
      ·rename_i q vs hon;obtain⟨rv,h1,h2⟩:=hv;exact⟨_,.inr ⟨hal,hd,g,rv,hg,λhgt=>AQ.call hop hon (h1 hgt).1 (h1 hgt).2.1 (h1 hgt).2.2.1 (h1 hgt).2.2.2,rfl⟩,jX rest _ h2⟩
      ·exact hv.elim
     ·exact hv.elim
    |false=>rw[he]at hv;dsimp only at hv;obtain⟨h1,h2⟩:=hv;exact⟨_,.inr ⟨hal,hd,g,_,hg,λhgt=>oC (h1 hgt),rfl⟩,jX rest _ h2⟩
end
section
variable{e:E}{n:Nat}{r:Option Nat}{ops:Array Oper}{Q:XE->Fr->H->Prop}{ok:Nat->Prop}{pl0:Nat->Option Nat}{w0:World}{h:H}
def Xx(ops:Array Oper)(last:Nat):List Nat->Array Bool->Bool
 |[],listed=>Region.ready .any ops listed==[last]
 |k::ks,listed=>(Region.ready .any ops listed).contains k&&k != last&&Region.free .any ops listed k&&Xx ops last ks (listed.setIfInBounds k ab)
def rY(ops:Array Oper)(ks:List Nat):List Oper:=ks.filterMap λk=>ops[k]?
theorem oJ{last:Nat}{Q:Fr->Prop}:∀(ks:List Nat)(listed:Array Bool)(f:Fr),Xx ops last ks listed=ab->tY e n ops h Q (rY ops ks) f->EN e n ops h last Q (aa ks) listed f
 |[],_,_,hB,h=>⟨by simpa [Xx]using hB,h⟩
 |k::ks,listed,f,hB,hh=>by
  simp only[Xx,zqf]at hB;obtain⟨⟨⟨hr,hne⟩,hf⟩,hB'⟩:=hB;obtain⟨_,o,h0,_⟩:=mem_ready.1 (show k∈Region.ready .any ops listed by simpa using hr);have e1:rY ops (k::ks)=o::rY ops ks:=by simp[rY,h0]
  rw[e1]at hh;obtain⟨v,hy,hK⟩:=hh;exact EO h0 (by simpa using hne) (aa ks) listed f (Region.free_spec h0 hf) (by simpa using hr) hy (oJ ks _ _ hB' hK)
def dep(ops:Array Oper)(i j:Nat):Bool:=match ops[i]? with
 |some o=>o.after.any λe=>Region.binds .any e&&e.on==j
 |none=>am
variable{i:Nat}
theorem C9{j:Nat}(h:dep ops i j=ab):∃o,ops[i]? =ar o/\∃e∈o.after,Region.binds .any e=ab/\e.on=j:=by
 unfold dep at h;split at h
 ·rename_i o ho;rw[Array.any_eq_true]at h;obtain⟨q,hq,h3⟩:=h;rw[zqf,beq_iff_eq]at h3;exact⟨o,ho,_,Array.getElem_mem hq,h3.1,h3.2⟩
 ·cases h
def Dc(ops:Array Oper)(tk pre:List Nat)(last:Nat):Bool :=
 (pre.all λi=>(last::pre).any λj=>aM (i<j)&&dep ops j i)&&(List.range ops.size).all λi=>tk.contains i||pre.contains i||i==last||dep ops i last
structure LI(ops:Array Oper)(tk pre:List Nat)(last:Nat)(listed:Array Bool):Prop where
 clos:EP ops listed
 size:listed.size=ops.size
 took:∀i∈tk,i<ops.size->listed.getD i am=ab
 tail:∀i,i∉tk->i∉pre->listed.getD i am=am
variable{tk pre:List Nat}{last:Nat}{listed:Array Bool}
theorem LI.all(k:LI ops tk pre last listed)(hB:Dc ops tk pre last=ab)(hr:last∈Region.ready .any ops listed):∀(m i:Nat),m=ops.size-i->i∈pre->listed.getD i am=ab:=by
 intro m
 induction m using Nat.strongRecOn with
 |_ m ih =>
  intro i hm hi;unfold Dc at hB;rw[zqf]at hB;have h1:=zrs.1 hB.1 i hi;obtain⟨j,hj,h2⟩:=List.any_eq_true.1 h1;rw[zqf,zqb]at h2;obtain⟨hij,h2⟩:=h2;obtain⟨o,ho,e,he,hb,hon⟩:=C9 h2;have hjs:=(Array.getElem?_eq_some_iff.1 ho).1;rw[<-hon];rcases zrj.1 hj with rfl|hj
  ·obtain⟨_,o',ho',hall⟩:=mem_ready.1 hr;rw[ho]at ho';cases ho';exact hall e he hb
  ·exact k.clos j o ho (ih (ops.size-j) (by omega) j rfl hj) e he hb
theorem OT(hi:i<listed.size)(d d':Bool):listed.getD i d=listed.getD i d':=by simp[hi]
theorem LI.one(k:LI ops tk pre last listed)(hB:Dc ops tk pre last=ab)(hl:last∉tk/\last∉pre)(hr:last∈Region.ready .any ops listed):Region.ready .any ops listed=[last]:=by
 have hall:∀j∈Region.ready .any ops listed,j=last:=by
  intro j hj;obtain⟨h0,o,ho,hdep⟩:=mem_ready.1 hj;have hlt:=(Array.getElem?_eq_some_iff.1 ho).1;have hun:listed.getD j am=am:=by rw[OT (by rw[k.size];exact hlt) am ab];exact h0
  have hB2:=hB;unfold Dc at hB2;rw[zqf]at hB2;have h2:=zrs.1 hB2.2 j (by simpa using hlt);simp only[Bool.or_eq_true,List.contains_iff_mem,beq_iff_eq]at h2;rcases h2 with((h2|h2)|h2)|h2
  ·rw[k.took j h2 hlt]at hun;cases hun
  ·rw[k.all hB hr _ j rfl h2]at hun;cases hun
  ·exact h2
  ·obtain⟨o',ho',e,he,hb,hon⟩:=C9 h2;rw[ho]at ho';cases ho';have:=hdep e he hb;rw[hon,k.tail last hl.1 hl.2]at this;cases this
 have hnd:(Region.ready .any ops listed).Nodup:=by unfold Region.ready;exact List.Pairwise.filter _ List.nodup_range
 match hm:Region.ready .any ops listed with
 |[]=>rw[hm]at hr;cases hr
 |[x]=>rw[hall x (by rw[hm];simp)]
 |x::y::l=>exfalso;rw[hm]at hnd;have h1:=hall x (by rw[hm];simp);have h2:=hall y (by rw[hm];simp);simp[h1,h2]at hnd
def WO(ops:Array Oper)(tk pre:List Nat):Array Bool:=((List.range ops.size).map λi=>tk.contains i||pre.contains i).toArray
theorem LI.mid(k:LI ops tk pre last listed)(hB:Dc ops tk pre last=ab)(hr:last∈Region.ready .any ops listed):listed=WO ops tk pre:=by
 apply Array.ext
 ·simp[WO,k.size]
 ·intro i h1 h2;have hi:i<ops.size:=by rw[<-k.size];exact h1
  have e1:(WO ops tk pre)[i]=(tk.contains i||pre.contains i):=by simp[WO]
  have e2:listed[i]=listed.getD i am:=by simp[h1]
  rw[e1,e2];by_cases ht:i∈tk
  ·rw[k.took i ht hi];simp[ht]
  ·by_cases hp:i∈pre
   ·rw[k.all hB hr _ i rfl hp];simp[hp]
   ·rw[k.tail i ht hp];simp[ht,hp]
theorem iM{P:Program}:∀(p:Plan)(fuel k:Nat)(listed:Array Bool),(bZ P ops p fuel listed=ab->bZ P ops p (fuel+k) listed=ab)/\(bZ.planAlts P ops p fuel listed=ab->bZ.planAlts P ops p (fuel+k) listed=ab)
 | .fin,fuel,k,listed=>by
  refine⟨λh=> ?_,λh=> ?_⟩
  ·simpa [bZ]using h
  ·simp[bZ.planAlts]at h
 | .take i p,fuel,k,listed=>by
  refine⟨λh=> ?_,λh=> ?_⟩
  ·cases fuel with
   |zero=>simp[bZ]at h
   |succ fuel =>
    rw[show fuel+1+k=(fuel+k)+1 by omega];simp only[bZ]at h ⊢;cases ho:ops[i]? with
    |none=>rw[ho]at h;simp at h
    |some o=>rw[ho]at h;dsimp only at h ⊢;rw[zqf]at h ⊢;exact⟨h.1,(iM p fuel k _).1 h.2⟩
  ·simp[bZ.planAlts]at h
 | .one i p,fuel,k,listed=>by
  refine⟨λh=> ?_,λh=> ?_⟩
  ·cases fuel with
   |zero=>simp[bZ]at h
   |succ fuel=>rw[show fuel+1+k=(fuel+k)+1 by omega];simp only[bZ]at h ⊢;rw[zqf]at h ⊢;exact⟨h.1,(iM p fuel k _).1 h.2⟩
  ·simp only[bZ.planAlts]at h ⊢;exact(iM p fuel k _).1 h
 | .alt i p q,fuel,k,listed=>by
  refine⟨λh=> ?_,λh=> ?_⟩
  ·cases fuel with
   |zero=>simp[bZ]at h
   |succ fuel=>rw[show fuel+1+k=(fuel+k)+1 by omega];simp only[bZ]at h ⊢;rw[zqf,zqf]at h ⊢;exact⟨⟨h.1.1,(iM p fuel k _).1 h.1.2⟩,(iM q fuel k _).2 h.2⟩
  ·simp only[bZ.planAlts]at h ⊢;rw[zqf]at h ⊢;exact⟨(iM p fuel k _).1 h.1,(iM q fuel k _).2 h.2⟩
theorem LI.step(k:LI ops tk pre last listed)(hB:Dc ops tk pre last=ab)(hl:last∉tk/\last∉pre){i:Nat}(hi:i∈Region.ready .any ops listed)(hil:i≠last):LI ops tk pre last (listed.setIfInBounds i ab):=by
 obtain⟨h0,o,ho,hdep⟩:=mem_ready.1 hi;have hlt:=(Array.getElem?_eq_some_iff.1 ho).1;refine⟨k.clos.set hi,by simpa using k.size,λj hj hjs=>getD_set_true (k.took j hj hjs),λj h1 h2=> ?_⟩;by_cases hji:i=j
 ·subst hji;exfalso;have hB2:=hB;unfold Dc at hB2;rw[zqf]at hB2;have h3:=zrs.1 hB2.2 i (by simpa using hlt);simp only[Bool.or_eq_true,List.contains_iff_mem,beq_iff_eq]at h3;rcases h3 with((h3|h3)|h3)|h3
  ·exact h1 h3
  ·exact h2 h3
  ·exact hil h3
  ·obtain⟨o',ho',e,he,hb,hon⟩:=C9 h3;rw[ho]at ho';cases ho';have:=hdep e he hb;rw[hon,k.tail last hl.1 hl.2]at this;cases this
 ·rw[getD_set_ne am hji];exact k.tail j h1 h2
theorem OU(hna:∀(j:Nat)(o:Oper),ops[j]? =ar o->kH o=am)(hQ:∀v f h,¬Q (.pan v) f h)(hpl:kP ops=ab){tk pre:List Nat}{last fp:Nat}{p:Plan}(hB:Dc ops tk pre last=ab)(hl:last∉tk/\last∉pre)(hp:bZ e.P ops p fp (WO ops tk pre)=ab):∀(fuel:Nat)(listed:Array Bool)(f:Fr),
 EN e n ops h last (λf1=>iD e n ops Q p f1 h) fuel listed f->LI ops tk pre last listed->∀pl w a,SSim e n ok pl0 w0 f h pl w a->wpAnyIn (RF r) 0 e.P .any ops (iR e n ok pl0 w0 Q) (fp+fuel) listed a w:=by
 have lastly:∀(fuel:Nat)(listed:Array Bool)(f:Fr),iD e n ops Q p f h->LI ops tk pre last listed->last∈Region.ready .any ops listed->∀pl w a,SSim e n ok pl0 w0 f h pl w a->wpAnyIn (RF r) 0 e.P .any ops (iR e n ok pl0 w0 Q) (fp+fuel) listed a w:=by intro fuel listed f hv k hr pl w a s;have e1:=k.mid hB hr;subst e1;exact(gK hQ hpl p).1 (fp+fuel) _ f h ((iM p fp fuel _).1 hp) hv pl w a s
 intro fuel
 induction fuel with
 |zero=>intro listed f hL k pl w a s;exact lastly 0 listed f hL.2 k (by rw[hL.1];simp) pl w a s
 |succ fuel ih =>
  intro listed f hL k pl w a s;by_cases hlr:last∈Region.ready .any ops listed
  ·exact lastly (fuel+1) listed f (hL.2.1 (k.one hB hl hlr)) k hlr pl w a s
  ·rw[show fp+(fuel+1)=(fp+fuel)+1 by omega];refine⟨λh0=>absurd h0 hL.1,λi hi=> ?_⟩;have hil:i≠last:=λhh=>hlr (hh▸hi);have h1:=hL.2.2 i hi hil;obtain⟨hun,o,ho,_⟩:=mem_ready.1 hi;unfold AB at h1;rw[ho]at h1;obtain⟨v,hy,hn⟩:=h1;have k':=k.step hB hl hi hil;rcases hy with⟨h2,_⟩|⟨_,hd,g,v',hg,hv,rfl⟩
   ·rw[hna i o ho]at h2;cases h2
   ·unfold wpOpIn;rw[ho];dsimp only;have hw:=uZ s.val hg;cases g with
    |true=>rw[if_pos hw];exact(hv rfl).wpIn s λx w' hx hr=>ih _ _ hn k' pl w' _ ((s.next0 (s.hs.wext hx) (hx.keeps s.hs)).put hd hr)
    |false=>rw[if_neg (by rw[hw];simp)];exact⟨λg _=>jg r g,ih _ _ hn k' pl w _ (s.put hd (lw (λhf=>by cases hf) (λ_=>rfl)))⟩
def vH(P:Program)(ops:Array Oper):List Nat->Array Bool->Bool
 |[],_=>ab
 |i::is,listed=>(match ops[i]? with|some o=>rD P o.op|none=>am)&&(Region.ready .any ops listed).contains i&&Region.free .any ops listed i&&vH P ops is (listed.setIfInBounds i ab)
def nH(listed:Array Bool):List Nat->Array Bool
 |[]=>listed
 |i::is=>nH (listed.setIfInBounds i ab) is
def lI(e:E)(n:Nat)(ops:Array Oper)(Q:XE->Fr->H->Prop)(K:Fr->H->Prop):List Nat->Fr->H->Prop
 |[],f,h=>K f h
 |i::is,f,h=>GX e n ops i (lI e n ops Q K is) Q f h
theorem xG(hQ:∀v f h,¬Q (.pan v) f h)(hpl:kP ops=ab){K:Fr->H->Prop}{fuel:Nat}:∀(tk:List Nat)(listed:Array Bool)(f:Fr)(h:H),vH e.P ops tk listed=ab->lI e n ops Q K tk f h ->
 (∀f h pl w a,K f h->SSim e n ok pl0 w0 f h pl w a->wpAnyIn (RF r) 0 e.P .any ops (iR e n ok pl0 w0 Q) fuel (nH listed tk) a w)->∀pl w a,SSim e n ok pl0 w0 f h pl w a->wpAnyIn (RF r) 0 e.P .any ops (iR e n ok pl0 w0 Q) (fuel+aa tk) listed a w
 |[],listed,f,h,_,hv,hk,pl,w,a,s=>hk f h pl w a hv s
 |i::is,listed,f,h,ht,hv,hk,pl,w,a,s=>by
  simp only[vH,zqf]at ht;obtain⟨⟨⟨h1,h2⟩,h3⟩,h4⟩:=ht;cases ho:ops[i]? with
  |none=>rw[ho]at h1;cases h1
  |some o=>rw[ho]at h1;obtain⟨x,f',hy,s',hk'⟩:=rW ho h1 hv s;refine mQ h1 ho hpl ?_ (fuel+aa is) listed a w (Region.free_spec ho h3) (by simpa using h2) hy (xG hQ hpl is _ f' h h4 hk' hk pl w _ s');rintro c a w ⟨pl',f',h',xe,_,hx,hq⟩;cases xe<;>first|exact hx.elim|exact(hQ _ _ _ hq).elim
def oK(P:Program)(ops:Array Oper)(tk pre:List Nat)(last:Nat)(p:Plan):Bool :=
 (ops.all λo=> !kH o)&&kP ops&&vH P ops tk (Array.replicate ops.size am)&&Xx ops last pre (nH (Array.replicate ops.size am) tk)&&Dc ops tk pre last &&
 (!tk.contains last&& !pre.contains last)&&bZ P ops p (ops.size-aa tk-aa pre) (WO ops tk pre)&&aM (aa tk+aa pre<=ops.size)
theorem tZ{tk:List Nat}{P:Program}:∀(is:List Nat)(listed:Array Bool),vH P ops is listed=ab->EP ops listed->listed.size=ops.size->(∀i∈tk,i∉is->i<ops.size->listed.getD i am=ab)->(∀i,i∉tk->listed.getD i am=am)->(∀i∈is,i∈tk) ->
 EP ops (nH listed is)/\(nH listed is).size=ops.size/\(∀i∈tk,i<ops.size->(nH listed is).getD i am=ab)/\(∀i,i∉tk->(nH listed is).getD i am=am)
 |[],listed,_,hc,hs,ht,hn,_=>⟨hc,hs,λi hi hl=>ht i hi (by simp) hl,hn⟩
 |i::is,listed,hk,hc,hs,ht,hn,hm=>by
  simp only[vH,zqf]at hk;obtain⟨⟨⟨_,h2⟩,_⟩,h4⟩:=hk;refine tZ is _ h4 (hc.set (by simpa using h2)) (by simpa using hs) (λj hj hji hjs=> ?_) (λj hj=> ?_) (λj hj=>hm j (by simp[hj]))
  ·by_cases hij:i=j
   ·subst hij;have:i<listed.size:=by omega
    simp[this]
   ·exact getD_set_true (ht j hj (by simp[hji,Ne.symm hij]) hjs)
  ·have hij:i≠j:=λhh=>by subst hh;exact hj (hm i (by simp))
   rw[getD_set_ne am hij];exact hn j hj
theorem OV(hm:e.P.follows .mixedOrders=ab){id:Nat}{f:Fr}(tk pre:List Nat)(last:Nat)(p:Plan)(R:Fr->H->Prop)(hB:oK e.P ops tk pre last p=ab)
 (hv:lI e n ops (nC R) (λf h=>mg e n ops h (λf1=>iD e n ops (nC R) p f1 h) (rY ops pre) f) tk f h) (hk:∀f h,R f h->Q .normal f h):awp e n r (.region id ops ab) Q f h:=by
 intro ok pl0 w0 pl w a s;unfold oK at hB;simp only[zqf,Bool.not_eq_true',zqb]at hB;obtain⟨⟨⟨⟨⟨⟨⟨b1,b2⟩,b3⟩,b4⟩,b5⟩,b6⟩,b7⟩,b8⟩:=hB;have hna:∀(j:Nat)(o:Oper),ops[j]? =ar o->kH o=am:=λj o ho=>by
  have h1:=Array.all_eq_true.1 b1;obtain⟨hl,rfl⟩:=Array.getElem?_eq_some_iff.1 ho;simpa using h1 j hl
 have hl:last∉tk/\last∉pre:=⟨by simpa using b6.1,by simpa using b6.2⟩;have x:WExt w {w with drawn:=w.drawn+1}:=WExt.drew w;obtain⟨c1,c2,c3,c4⟩:=tZ (ops:=ops) (tk:=tk) tk (Array.replicate ops.size am) b3 EP.none (by simp) (λi hi hni=>absurd hi hni) (λi hi=>by
  rcases Nat.lt_or_ge i ops.size with h'|h'<;>simp[h']) (λi hi=>hi)
 have li:LI ops tk pre last (nH (Array.replicate ops.size am) tk):=⟨c1,c2,c3,λi h1 _=>c4 i h1⟩;have hQ:∀v f h,¬nC R (.pan v) f h:=λv f h hh=>hh;have:=xG (r:=r) (ok:=ok) (pl0:=pl0) (w0:=w0) (n:=n) (e:=e) (Q:=nC R) (fuel:=ops.size-aa tk-aa pre+aa pre) hQ b2 tk (Array.replicate ops.size am) f h b3 hv (λf h pl w a hK s=>by
  have hL:=oJ (e:=e) (n:=n) (h:=h) pre (nH (Array.replicate ops.size am) tk) f b4 (jX _ _ hK);exact OU (r:=r) hna hQ b2 b5 hl b7 _ _ _ hL li pl w a s) pl _ a (s.next0 (s.hs.wext x) (x.keeps s.hs))
 rw [show ops.size - aa tk - aa pre + aa pre + aa tk = ops.size by omega] at this;refine wpIn_mono (wpIn_region_any hm this) ?_;rintro ex a' w' ⟨pl',f',h',xe,s',hx,hq⟩;cases xe <;> first
  |exact⟨pl',f',h',_,s',hx,hk _ _ hq⟩
  |exact hq.elim
end
section
variable{e:E}{n:Nat}{r:Option Nat}{ops:Array Oper}{h:H}{Q:XE->Fr->H->Prop}
theorem rZ(ops:Array Oper):∀k:Nat,rY ops (List.range k)=ops.toList.take k
 |0=>rfl
 |k+1=>by
  have ih:=rZ ops k;unfold rY at ih ⊢;rw[List.range_succ,List.filterMap_append,ih,zrg]
  congr 1
  rw[List.filterMap_cons,List.filterMap_nil,Array.getElem?_toList];cases ops[k]? <;>rfl
theorem yR{K:Fr->Prop}:∀(l:List Oper)(f:Fr),(∀o∈l,kH o=am)->iJ e n ops h K l f->mg e n ops h K l f
 |[],_,_,hv=>hv
 |o::rest,f,ha,hv=>by
  have h0:=ha o (by simp);have hr:=λf'=>yR (K:=K) rest f' λo' ho'=>ha o' (by simp[ho']);simp only[mg,h0];simp only[iJ]at hv;cases hg:gd ops f o with
  |none=>rw[hg]at hv;exact hv.elim
  |some g =>
   rw[hg]at hv;refine⟨hv.1,?_⟩;have hv:=hv.2;cases he:kG o.op with
   |false=>rw[he]at hv;exact⟨hv.1,hr _ hv.2⟩
   |true =>
    rw[he]at hv;simp only at hv ⊢;split at hv
    ·rename_i fx args ats heq;split at hv
     ·rename_i q vs hc;obtain⟨rv,h1,h2⟩:=hv;simp only[heq,hc];exact⟨rv,h1,hr _ h2⟩
     ·exact hv.elim
    ·exact hv.elim
theorem nI(hm:e.P.follows .mixedOrders=ab){id:Nat}{f:Fr}(k:Nat)(p:Plan)(R:Fr->H->Prop)(hB:oK e.P ops [] (List.range k) k p=ab)
 (hv:∀K:Fr->Prop,(∀f1,iD e n ops (nC R) p f1 h->K f1)->iJ e n ops h K (ops.toList.take k) f) (hk:∀f h,R f h->Q .normal f h):awp e n r (.region id ops ab) Q f h:=by
 refine OV hm [] (List.range k) k p R hB ?_ hk;simp only[lI];rw[rZ];refine yR _ _ (λo ho=> ?_) (hv _ λf1 h=>h);unfold oK at hB;simp only[zqf]at hB;have b1:=Array.all_eq_true.1 hB.1.1.1.1.1.1.1;obtain⟨i,hi,rfl⟩:=List.getElem_of_mem (zsh ho);have:=b1 i (by simpa using hi);simpa using this
end
section
variable{e:E}{h:H}
theorem ag.fresh{g:FuncId}{args:List V}{R:AEnd->H->(Nat->Bool)->Prop}(hc:ag e g args h λae h' p=>(∀i,i<aa h->p i=am)/\R ae h' (λ_=>am)):ag e g args h R :=
 λok pl w vs hs hl=>(hc ok pl w vs hs hl).mono λen w' ⟨p,pl',h',ae,h1,h2,h3,h4,h5⟩ =>
  ⟨λ_=>am,pl',h',ae,h1,⟨h2.os,h2.tape,h2.output,h2.size,h2.same,h2.loc,λi b _ hi=>h2.keep i b (h4 i (hs.pl_lt hi)) hi,h2.row⟩,h3,h5⟩
end
section
variable{e:E}{n:Nat}{r:Option Nat}{o:Oper}{f:Fr}{h:H}{Kn:Fr->H->Prop}{Q:XE->Fr->H->Prop}
end
section
variable{e:E}{n:Nat}
def DRs(c:C):List Deferred->List (FuncId×List V)->Prop
 |[],[]=>True
 |d::ds,x::l=>(∃(cs azs:Array Value),d={target:= .fn (.func x.1) cs,args:=azs}/\VList c x.2 (azs++cs).toList)/\DRs c ds l
 |_,_=>False
variable{ok:Nat->Prop}{pl pl':Nat->Option Nat}{w w':World}
theorem DRs.keeps{p:Nat->Bool}(k:Keeps p pl w pl' w'):∀ {ds:List Deferred} {l:List (FuncId×List V)},DRs (cx ok pl w) ds l->(∀x∈l,aE p x.2=x.2)->DRs (cx ok pl' w') ds l
 |[],[],_,_=>trivial
 |[],_::_,h,_=>h.elim
 |_::_,[],h,_=>h.elim
 |d::ds,x::l,⟨⟨cs,azs,h1,h2⟩,h3⟩,hd=>by
  refine⟨⟨cs,azs,h1,?_⟩,h3.keeps k λy hy=>hd y (by simp[hy])⟩;have:=VList.mdrop k.cext _ _ h2
  rwa [hd x (by simp)]at this
theorem VList.app{c:C}:∀ {l m:List V} {x y:List Value},VList c l x->VList c m y->VList c (l++m) (x++y):=λh1 h2=>VList.append h1 h2
end
section
variable{e:E}{n:Nat}{r:Option Nat}{o:Oper}{f:Fr}{h:H}{K:Fr->H->Prop}{Q:XE->Fr->H->Prop}
end
def bl(n k:Nat):Array Bool:=((List.range n).map λi=>k.testBit i).toArray
noncomputable def AL : Code -> Nat -> List (Array Oper)
 | .region i ops _,k=>if i==k then [ops]else []
 | .seq a b,k=>AL a k++AL b k
 | .cond _ a b,k=>AL a k++AL b k
 | .loop a,k=>AL a k
 | .block _ a,k=>AL a k
 |_,_=>[]
noncomputable def LP(f:Func)(k:Nat):Array Oper:=match f.body with
 |some c=>(AL c k).headD #[]
 |none=>#[]
section
variable{P:Program}{ops:Array Oper}{i k:Nat}{p q:Plan}{L L':Array Bool}
theorem Xy(h0:(Region.ready .any ops L==i::q.heads)=ab)(hL:L.setIfInBounds i ab=L')(hp:bZ P ops p k L'=ab)(hq:bZ.planAlts P ops q k L=ab):bZ P ops (.alt i p q) (k+1) L=ab:=by unfold bZ;dsimp only;rw[h0,hL,hp,hq];rfl
theorem okA(hp:bZ P ops p k L'=ab)(hq:bZ.planAlts P ops q k L=ab)(h0:(Region.ready .any ops L==i::q.heads)=ab:=by decide +kernel)(hL:L.setIfInBounds i ab=L':=by decide +kernel):bZ P ops (.alt i p q) (k+1) L=ab:=Xy h0 hL hp hq
end
section
variable{e:E}{n:Nat}
end
def Xz(ops:Array Oper):Bool:=(List.range ops.size).all λi=>match ops[i]? with
 |some o=>o.after.all λq=> !(Region.binds .any q)||aM (q.on<i)
 |none=>ab
section
variable{e:E}{n:Nat}{r:Option Nat}{ops:Array Oper}{Q:XE->Fr->H->Prop}{ok:Nat->Prop}{pl0:Nat->Option Nat}{w0:World}
theorem OW(hB:Xz ops=ab){listed:Array Bool}(hs:listed.size=ops.size)(hr:Region.ready .any ops listed=[]):∀(k i:Nat),i<k->i<ops.size->listed.getD i am=ab:=by
 intro k
 induction k with
 |zero=>intro i hi;exact absurd hi (Nat.not_lt_zero _)
 |succ k ih =>
  intro i hik hi;apply Classical.byContradiction;intro hn;have hn:listed.getD i am=am:=by simpa using hn
  have:i∈Region.ready .any ops listed:=by
   refine mem_ready.2 ⟨?_,ops[i],by simp[hi],λq hq hb=> ?_⟩
   ·have:i<listed.size:=by omega
    simpa [Array.getD,this]using hn
   ·have h1:=zrs.1 hB i (by simpa using hi);have hio:ops[i]? =ar ops[i]:=by simp[hi]
    rw[hio]at h1;dsimp only at h1;have h2:=(Array.all_eq_true_iff_forall_mem.1 h1) q hq;rw[hb]at h2;simp only[Bool.not_true,Bool.false_or,zqb]at h2;exact ih q.on (by omega) (by omega)
  rw[hr]at this;cases this
def EQ(L:Array Bool):Nat:=L.toList.countP (!·)
variable{L:Array Bool}{i:Nat}
theorem Bl(h:i<L.size)(hl:L.getD i ab=am):EQ L=EQ (L.setIfInBounds i ab)+1:=by
 have hi:i<aa L.toList:=by simpa using h
 have hg:L.toList[i]=am:=by simpa [Array.getD,h]using hl
 unfold EQ;rw[Array.toList_setIfInBounds,List.countP_set hi,hg];have:0<L.toList.countP (!·):=List.countP_pos_iff.2 ⟨L.toList[i],zqu hi,by rw[hg];rfl⟩;rw[if_pos (show(!false)=ab from rfl),if_neg (show ¬(!true)=ab by decide)];omega
theorem XA(I:Array Bool->Fr->H->Prop)
 (hstep:∀L f h i,EP ops L->I L f h->i∈Region.ready .any ops L->GX e n ops i (λf' h'=>I (L.setIfInBounds i ab) f' h') Q f h)
 (hend:∀L f h,L.size=ops.size->I L f h->Region.ready .any ops L=[]->Q .normal f h) :
 ∀(fuel:Nat)(L:Array Bool)(f:Fr)(h:H),L.size=ops.size->EP ops L->EQ L<=fuel->I L f h->∀pl w a,SSim e n ok pl0 w0 f h pl w a->wpAnyIn (RF r) 0 e.P .any ops (iR e n ok pl0 w0 Q) fuel L a w:=by
 intro fuel
 induction fuel with
 |zero =>
  intro L f h hs hc hu hI pl w a s;have hr:Region.ready .any ops L=[]:=by
   match hm:Region.ready .any ops L with
   |[]=>rfl
   |i::_=>obtain⟨h0,o,ho,_⟩:=mem_ready.1 (show i∈Region.ready .any ops L by rw[hm];simp);have hlt:=(Array.getElem?_eq_some_iff.1 ho).1;have:=Bl (L:=L) (i:=i) (by omega) h0;omega
  exact wpAnyIn_done hr ⟨pl,f,h,.normal,s,trivial,hend L f h hs hI hr⟩ 0
 |succ fuel ih =>
  intro L f h hs hc hu hI pl w a s;by_cases hr:Region.ready .any ops L=[]
  ·exact wpAnyIn_done hr ⟨pl,f,h,.normal,s,trivial,hend L f h hs hI hr⟩ (fuel+1)
  ·refine⟨λh0=>absurd h0 hr,λi hi=> ?_⟩;obtain⟨h0,o,ho,_⟩:=mem_ready.1 hi;have hlt:=(Array.getElem?_eq_some_iff.1 ho).1;have hun:=Bl (L:=L) (i:=i) (by omega) h0;exact vg (hstep L f h i hc hI hi) (λf h pl w a s hk=>ih _ f h (by simpa using hs) (hc.set hi) (by omega) hk pl w a s) s
def XB(ops:Array Oper)(i:Nat)(l:List Nat):Bool:=match ops[i]? with
 |some o=>l.all λj=>o.after.any λq=>Region.binds .any q&&(q.on==j)
 |none=>am
theorem aT(hi:i∈Region.ready .any ops L){l:List Nat}(hl:XB ops i l=ab):∀j∈l,L.getD j am=ab:=by intro j hj;obtain⟨_,o,ho,hall⟩:=mem_ready.1 hi;unfold XB at hl;rw[ho]at hl;have h1:=zrs.1 hl j hj;rw[Array.any_eq_true]at h1;obtain⟨q,hq,h3⟩:=h1;rw[zqf,beq_iff_eq]at h3;rw[<-h3.2];have hmem:o.after[q]∈o.after:=Array.getElem_mem hq;have:=hall _ hmem h3.1;simpa using this
theorem jG(hi:i∈Region.ready .any ops L):L.getD i am=am:=by
 obtain⟨h0,o,ho,_⟩:=mem_ready.1 hi;rcases Nat.lt_or_ge i L.size with h|h
 ·simpa [Array.getD,h]using h0
 ·simp[Array.getD,Nat.not_lt.2 h]
theorem Df(hi:i∈Region.ready .any ops L):i<ops.size:=by obtain⟨_,o,ho,_⟩:=mem_ready.1 hi;exact(Array.getElem?_eq_some_iff.1 ho).1
theorem kV(hi:i∈Region.ready .any ops L):i<L.size:=by
 obtain⟨h0,o,ho,_⟩:=mem_ready.1 hi;rcases Nat.lt_or_ge i L.size with h|h
 ·exact h
 ·simp[Array.getD,Nat.not_lt.2 h]at h0
theorem Dh(hm:e.P.follows .mixedOrders=ab){id:Nat}(I:Array Bool->Fr->H->Prop){f:Fr}{h:H}(hB:Xz ops=ab)
 (h0:I (Array.replicate ops.size am) f h)
 (hstep:∀L f h i,EP ops L->I L f h->i∈Region.ready .any ops L->GX e n ops i (λf' h'=>I (L.setIfInBounds i ab) f' h') Q f h)
 (hend:∀L f h,(∀i,i<ops.size->L.getD i am=ab)->I L f h->Q .normal f h):awp e n r (.region id ops ab) Q f h:=by
 intro ok pl0 w0 pl w a s;have x : WExt w { w with drawn := w.drawn + 1 } := WExt.drew w;have := XA (e := e) (n := n) (r := r) (ops := ops) (Q := Q) (ok := ok) (pl0 := pl0) (w0 := w0) I hstep
  (λL f h hs hI hr=>hend L f h (λi hi=>OW hB hs hr (i+1) i (Nat.lt_succ_self i) hi) hI)
  ops.size (Array.replicate ops.size am) f h (by simp) EP.none (by unfold EQ;exact Nat.le_trans (List.countP_le_length) (by simp)) h0 pl _ a (s.next0 (s.hs.wext x) (x.keeps s.hs))
 exact wpIn_region_any hm this
def FA(L:Array Bool)(f:Fr)(l:List (Nat×Nat×V)):Prop:=∀q∈l,L.getD q.1 am=ab->f.t q.2.1=q.2.2
variable{f:Fr}{l:List (Nat×Nat×V)}{v:V}
theorem FA.put{d:Nat}(hf:FA L f l)
 (h1:∀q∈l,q.1=i->q.2.1=d/\q.2.2=v) (h2:∀q∈l,q.2.1=d->q.1=i):FA (L.setIfInBounds i ab) (f.put (ar d) v) l:=by
 intro q hq hl;by_cases hqi:q.1=i
 ·obtain⟨e1,e2⟩:=h1 q hq hqi;rw[e1,e2];simp[Fr.put]
 ·have hqd:q.2.1≠d:=λh=>hqi (h2 q hq h);rw[getD_set_ne am (Ne.symm hqi)]at hl;have:=hf q hq hl;simpa [Fr.put,hqd]using this
theorem FA.skip(hf:FA L f l)(h1:∀q∈l,q.1≠i):FA (L.setIfInBounds i ab) f l:=by intro q hq hl;rw[getD_set_ne am (Ne.symm (h1 q hq))]at hl;exact hf q hq hl
theorem FA.none{m:Nat}:FA (Array.replicate m am) f l:=by
 intro q _ hl;exfalso;rcases Nat.lt_or_ge q.1 m with h|h
 ·simp[h]at hl
 ·simp[h]at hl
end
variable{L:Array Bool}{f:Fr}{l:List (Nat×Nat×V)}
theorem FAz(h:FA L f l)(i d:Nat)(v:V)(hm:(i,d,v)∈l)(hl:L.getD i am=ab):f.t d=v:=h (i,d,v) hm hl
section
variable{e:E}{n:Nat}{r:Option Nat}{o:Oper}{f:Fr}{h:H}{Kn:Fr->H->Prop}{Q:XE->Fr->H->Prop}
end
section
variable{e:E}{n:Nat}{r:Option Nat}{o:Oper}{f:Fr}{h:H}{Kn:Fr->H->Prop}{Q:XE->Fr->H->Prop}
end
section
variable{e:E}{n:Nat}{r:Option Nat}{ops:Array Oper}{h:H}{Q:XE->Fr->H->Prop}
variable{o:Oper}
theorem AQ.lend{fx:Operand}{args:Array Operand}{ts:Array TypeId}(hop:o.op= .call {callee:= .value fx,args:=args,argTypes:=ts}){ρ:Operand->V}{g:FuncId}{vs vs':List V}{rv:V}
 (hon:mf e ρ fx args=ar (g,vs)) (hsc:fK ρ fx args) (hen:au e.P g=ab) (hr:aj e h vs vs') (hv:Ev e g vs' rv) (hp:rv.plain=ab):AQ e o ρ h rv:=by
 intro ok pl w ev hs hre;obtain⟨xs,hrun,hl⟩:=tq (e:=e) hop hre hon hsc hen;rw[hrun];exact(hv ok w xs hs.lend (hr ok pl w xs hs hl)).mono λen w' ⟨x,h1,h2,h3⟩=>⟨x,h1,h2,h3.plain hp⟩
def AO(e:E)(h:H)(g:Bool)(q:FuncId)(vs:List V)(sc:Prop)(dst:Option Tmp)(Kn:Fr->Prop)(f:Fr):Prop :=
 ∃rv,(g=ab->sc/\au e.P q=ab/\((a7 vs=ab/\Ev e q vs rv)\/∃vs',aj e h vs vs'/\Ev e q vs' rv/\rv.plain=ab))/\Kn (f.put dst (V.guard g rv))
variable{dst:Option Tmp}
theorem AO.mk{q:FuncId}{vs vs':List V}{Kn:Fr->Prop}{rv:V}(hv:Ev e q vs' rv)(h2:au e.P q=ab)(hr:aj e h vs vs')(hp:rv.plain=ab)(hk:Kn (f.put dst rv)):AO e h ab q vs True dst Kn f :=
 ⟨rv,λ_=>⟨trivial,h2,.inr ⟨vs',hr,hv,hp⟩⟩,hk⟩
def gB(e:E)(n:Nat)(ops:Array Oper)(h:H)(Q:Fr->Prop):List Oper->Fr->Prop
 |[],f=>Q f
 |o::rest,f =>
  match gd ops f o with
  |none=>False
  |some g=>ku n o.dst=ab /\
   match kG o.op with
   |true=>match o.op with
    | .call {callee:= .value fx,args,..}=>match mf e (f.ev e) fx args with
     |some (q,vs)=>AO e h g q vs (fK (f.ev e) fx args) o.dst (gB e n ops h Q rest) f
     |none=>False
    |_=>False
   |false=>goQ g (wG e.P o (f.ev e) h) o.dst (gB e n ops h Q rest) f
theorem lJ{Q Q':Fr->Prop}{tl:List Oper}(hq:∀f,Q f->tY e n ops h Q' tl f):∀(l:List Oper)(f:Fr),(∀o∈l,kH o=am)->gB e n ops h Q l f->tY e n ops h Q' (l++tl) f
 |[],f,_,hv=>hq f hv
 |o::rest,f,ha,hv=>by
  have hal:=ha o (by simp);have hr:=λf'=>lJ hq rest f' λo' ho'=>ha o' (by simp[ho']);simp only[gB]at hv;cases hg:gd ops f o with
  |none=>rw[hg]at hv;exact hv.elim
  |some g =>
   rw[hg]at hv;obtain⟨hd,hv⟩:=hv;cases he:kG o.op with
   |true =>
    rw[he]at hv;dsimp only at hv;split at hv
    ·rename_i fx args ts hop;split at hv
     ·rename_i q vs hon;obtain⟨rv,h1,h2⟩:=hv;exact⟨_,.inr ⟨hal,hd,g,rv,hg,λhgt=>by
       obtain⟨c1,c2,c3⟩:=h1 hgt;rcases c3 with⟨c3,c4⟩|⟨vs',c3,c4,c5⟩
       ·exact AQ.call hop hon c1 c2 c3 c4
       ·exact AQ.lend hop hon c1 c2 c3 c4 c5,rfl⟩,hr _ h2⟩
     ·exact hv.elim
    ·exact hv.elim
   |false=>rw[he]at hv;dsimp only at hv;obtain⟨h1,h2⟩:=hv;exact⟨_,.inr ⟨hal,hd,g,_,hg,λhgt=>oC (h1 hgt),rfl⟩,hr _ h2⟩
theorem OX(hm:e.P.follows .mixedOrders=ab){id:Nat}{f:Fr}(tk:List Nat)(last:Nat)(p:Plan)(R:Fr->H->Prop)(hB:oK e.P ops tk (List.range last) last p=ab)
 (hv:∀K:H->Fr->Prop,(∀h' f1,iD e n ops (nC R) p f1 h'->K h' f1)->lI e n ops (nC R) (λf h'=>gB e n ops h' (K h') (ops.toList.take last) f) tk f h) (hk:∀f h,R f h->Q .normal f h):awp e n r (.region id ops ab) Q f h:=by
 intro ok pl0 w0 pl w a s;obtain⟨pre,hpre⟩:∃pre,pre=List.range last:=⟨_,rfl⟩;have hv:=hv _ λh' f1 h=>h;rw[<-rZ]at hv;rw[<-hpre]at hB hv;unfold oK at hB;simp only[zqf,Bool.not_eq_true',zqb]at hB;obtain⟨⟨⟨⟨⟨⟨⟨b1,b2⟩,b3⟩,b4⟩,b5⟩,b6⟩,b7⟩,b8⟩:=hB;have hna:∀(j:Nat)(o:Oper),ops[j]? =ar o->kH o=am:=λj o ho=>by
  have h1:=Array.all_eq_true.1 b1;obtain⟨hl,rfl⟩:=Array.getElem?_eq_some_iff.1 ho;simpa using h1 j hl
 have hl:last∉tk/\last∉pre:=⟨by simpa using b6.1,by simpa using b6.2⟩;have x:WExt w {w with drawn:=w.drawn+1}:=WExt.drew w;obtain⟨c1,c2,c3,c4⟩:=tZ (ops:=ops) (tk:=tk) tk (Array.replicate ops.size am) b3 EP.none (by simp) (λi hi hni=>absurd hi hni) (λi hi=>by
  rcases Nat.lt_or_ge i ops.size with h'|h'<;>simp[h']) (λi hi=>hi)
 have li:LI ops tk pre last (nH (Array.replicate ops.size am) tk):=⟨c1,c2,c3,λi h1 _=>c4 i h1⟩;have hQ:∀v f h,¬nC R (.pan v) f h:=λv f h hh=>hh;have:=xG (r:=r) (ok:=ok) (pl0:=pl0) (w0:=w0) (n:=n) (e:=e) (Q:=nC R) (fuel:=ops.size-aa tk-aa pre+aa pre) hQ b2 tk (Array.replicate ops.size am) f h b3 hv (λf h pl w a hK s=>by
  have hL:=oJ (e:=e) (n:=n) (h:=h) pre (nH (Array.replicate ops.size am) tk) f b4 (by
   have:=lJ (tl:=[]) (λf hf=>hf) _ _ (λo ho=> ?_) hK
   ·rw[zqp]at this;exact this
   ·unfold rY at ho;obtain⟨j,_,hj⟩:=List.mem_filterMap.1 ho;exact hna j o hj)
  exact OU (r:=r) hna hQ b2 b5 hl b7 _ _ _ hL li pl w a s) pl _ a (s.next0 (s.hs.wext x) (x.keeps s.hs))
 rw [show ops.size - aa tk - aa pre + aa pre + aa tk = ops.size by omega] at this;refine wpIn_mono (wpIn_region_any hm this) ?_;rintro ex a' w' ⟨pl',f',h',xe,s',hx,hq⟩;cases xe <;> first
  |exact⟨pl',f',h',_,s',hx,hk _ _ hq⟩
  |exact hq.elim
theorem yS(hm:e.P.follows .mixedOrders=ab){id:Nat}{f:Fr}(last:Nat)(p:Plan)(R:Fr->H->Prop)(hB:oK e.P ops [] (List.range last) last p=ab)
 (hv:∀K:Fr->Prop,(∀f1,iD e n ops (nC R) p f1 h->K f1)->gB e n ops h K (ops.toList.take last) f) (hk:∀f h,R f h->Q .normal f h):awp e n r (.region id ops ab) Q f h :=
 OX hm [] last p R hB (λK hK=>hv _ λf1 h=>hK _ f1 h) hk
variable{c:Code}
theorem uf(id j:Nat)(v:V)(hj:(f.t j).drop (λi=> !(i==id))=f.t j)(hr:aH e (vw (·==id) 0 h) (f.t j) v)(hd:f.d=[])
 (hw:awp e n r c Q {f with t:=λi=>if i=j then v else(f.t i).drop (·==id),k:=λi=>f.k i||(i==id)} (rq (·==id) 0 h)):awp e n r c Q f h:=by
 refine CV (·==id) _ (λi=> ?_) (by rw[hd];simp) hw;by_cases hi:i=j
 ·subst hi;exact .inr ⟨hj,by rw[if_pos rfl];exact hr⟩
 ·exact .inl (by rw[if_neg hi])
end
section
variable{P:Program}{w:World}
variable{re:TI}{z ze zx:Value}{kx:IntKind}
theorem xk{ts:Array TypeId}{t xt ty el:TypeId}{r rx:TI}{i ie ix:TypeInfo}{de:TypeDesc}(h0:ts[0]? =ar t)(h1:ts[1]? =ar xt)
 (hT:TIs P t r i (.slice el) z) (hE:TIs P el re ie de ze) (hX:TIs P xt rx ix (.int kx) zx) (hsz:re.size=1)
 (base:Option Addr) (sLen sCap m:Nat) (olds:Array Value)
 (ho:(Builtin.firstCells re.size sLen (.slice base sLen sCap)).run P w.drew= .ok olds w.drew) (hm1:m<=1000000000000) (hle:sLen<=sCap)
 (hg:sCap<sLen+m) (h63:sLen+m<=maxLen) (hb:(sLen+m)*re.bytes<=140737488355328) :
 (Builtin.append_ ts ty #[.slice base sLen sCap,.int .i64 m]).run P w =
  .ok (.slice (ar ⟨w.heap.size,0,aL⟩) (sLen + m) (grownCap w (sLen + m) sCap el))
   (w.drew.alloc (.cells (olds++Builtin.zeroCells ze.cells m++Builtin.zeroCells ze.cells (grownCap w (sLen+m) sCap el-(sLen+m))) el)):=by
 have hn':¬(sLen+m<=sCap):=by omega
 have h48':¬(281474976710656<Builtin.nextslicecap (sLen+m) sCap*re.bytes):=by have:=growslice_fits hg hb;omega
 have hw:a5 .i64 (m:Int)=m:=aV (by omega) (by omega);have hbytes:(typeInfo el).run P w= .ok ie w:=by simp[typeInfo,hE.info]
 have hneg:¬((m:Int)<0):=by omega
 have hbig:¬((281474976710656:Int)<(m:Int)*ie.bytes):=by
  have h1:m*re.bytes<=(sLen+m)*re.bytes:=Nat.mul_le_mul_right _ (by omega);have h2:((m*re.bytes:Nat):Int)<=140737488355328:=by omega
  rw[<-hE.bytes];rw[Int.natCast_mul]at h2;omega
 have h63':¬(9223372036854775807<((sLen:Int)+(m:Int))):=by simp only[maxLen]at h63;omega
 unfold Builtin.append_;simp only[h0,h1,List.getElem?_toArray,List.getElem?_cons_zero,List.getElem?_cons_succ,Sem.run_bind,hT.run_und,a8,hE.run_size,hX.run_und,Sem.run_pure];have hm:m≠0:=by omega
 rw[hsz]at ho;simp[asInt,asIntOf,hw,hneg,hbig,hbytes,a8,hn',h63',hE.bytes▸h48',Question.forced,ho,hE.run_zero,newRow,grownCap,typeInfo,hE.info,hsz,hm]
theorem o7{ts:Array TypeId}{t xt ty el:TypeId}{r rx:TI}{i ie ix:TypeInfo}{de:TypeDesc}(h0:ts[0]? =ar t)(h1:ts[1]? =ar xt)
 (hT:TIs P t r i (.slice el) z) (hE:TIs P el re ie de ze) (hX:TIs P xt rx ix (.int kx) zx) (hsz:re.size=1)
 (base:Option Addr) (sLen sCap m:Nat) (hm1:m<=1000000000000) (hb:(sLen+m)*re.bytes<=140737488355328) (hg:sLen+m<=sCap) {w':World}
 (hs:(base=aL/\w'=w)\/∃a,base=ar a/\(storeCells (a.add (sLen*re.size)) (Builtin.zeroCells ze.cells m).toList).run P w= .ok () w') :
 (Builtin.append_ ts ty #[.slice base sLen sCap,.int .i64 m]).run P w= .ok (.slice base (sLen+m) sCap) w':=by
 have hw:a5 .i64 (m:Int)=m:=aV (by omega) (by omega);have hbytes:(typeInfo el).run P w= .ok ie w:=by simp[typeInfo,hE.info]
 have hneg:¬((m:Int)<0):=by omega
 have hbig:¬((281474976710656:Int)<(m:Int)*ie.bytes):=by
  have h1:m*re.bytes<=(sLen+m)*re.bytes:=Nat.mul_le_mul_right _ (by omega);have h2:((m*re.bytes:Nat):Int)<=140737488355328:=by omega
  rw[<-hE.bytes];rw[Int.natCast_mul]at h2;omega
 unfold Builtin.append_;simp only[h0,h1,List.getElem?_toArray,List.getElem?_cons_zero,List.getElem?_cons_succ,Sem.run_bind,hT.run_und,a8,hE.run_size,hX.run_und,Sem.run_pure];by_cases hm:m=0
 ·subst hm;have hz0:Builtin.zeroCells ze.cells 0=#[]:=by simp[Builtin.zeroCells]
  have hw0:a5 .i64 0=0:=by decide
  rw[hz0]at hs;rcases hs with⟨rfl,rfl⟩|⟨a,rfl,hs⟩
  ·simp[asInt,asIntOf,hw0,hbytes,a8,show sLen<=sCap by omega]
  ·have hs':(storeCells (a.add (sLen*re.size)) []).run P w= .ok () w':=hs;simp[asInt,asIntOf,hw0,hbytes,a8,show sLen<=sCap by omega,hs']
 ·rcases hs with⟨rfl,rfl⟩|⟨a,rfl,hs⟩
  ·simp[asInt,asIntOf,hw,hneg,hbig,hbytes,a8,hg,hE.run_zero,hsz,hm]
  ·simp[asInt,asIntOf,hw,hneg,hbig,hbytes,a8,hg,hE.run_zero,hsz,hm]at hs ⊢;simp[hs,a8]
end
section
variable{e:E}{n:Nat}{r:Option Nat}{o:Oper}{f:Fr}{h:H}{Kn:Fr->H->Prop}{Q:XE->Fr->H->Prop}
variable{x y:Operand}{q re:TI}
theorem o8{t xt el:TypeId}(ha:IsAppend e o x y t xt el q re)(hxc:(f.ev e x).sc)(hyc:(f.ev e y).sc)
 {id len cap:Nat} (hx:(f.ev e x).sv= .ls id re.size 0 len cap) {cs0:List V} (hc:h[id]? =ar (.cells cs0)) (hcl:aa cs0=len*re.size)
 {m:Nat} (hy:(f.ev e y).sv= .int .i64 m) {rx:TI} {kx:IntKind} (hxt:Abs.ti e.P xt=ar rx) (hkx:rx.kind= .int kx) (hm1:m<=1000000000000) (hs1:re.size=1) {zv:V} (hzv:re.zero.vc=[zv]) {cs:List V} (hcs:cs=aD m zv) (h1:dD cs=ab)
 (hbig:len+m<=maxLen) (hbytes:(len+m)*re.bytes<=140737488355328) (hid:∀i∈f.d,(i==id)=am)
 (hk:Kn ((f.drop (·==id)).put o.dst (.ls id re.size 0 (len+m) (len+m))) ((h.map (O.drop (·==id))).set id (.cells (aE (·==id) (cs0++cs))))):Eff e n r o f h Kn Q:=by
 obtain⟨⟨ts,hop,ht0,ht1⟩,hti,hkind,htie,hzf,hzl,hpos⟩:=ha;refine bI ?_ (λc=>by rw[hop];exact λh=>by cases h);intro ok pl w ev hs hr;obtain⟨i,d,z,hT⟩:=aW hti;have hd:=hT.slice hkind;subst hd;obtain⟨ie,de,ze,hE⟩:=aW htie;obtain⟨ix,dx,zx,hX⟩:=aW hxt;have hdx:=hX.int hkx;subst hdx;have hxv:=(hr x (by simp[hop,Op.operands,Call.operands])).sv hxc;have hyv:=(hr y (by simp[hop,Op.operands,Call.operands])).sv hyc;have hx':=hxv;rw[hx]at hx';obtain⟨olds,ho1,ho2,ho3,ho4⟩:=pM (k:=re.size) (n:=len) (cs:=cs0) hs hx' (by
  have:dZ h id=cs0:=by simp[dZ,hc]
  simp only[lu,this];rw[if_pos ⟨trivial,by omega⟩];simp only[List.drop_zero];rw[zqh (by omega)]) rfl
 rw[hy]at hyv;simp only[VRel]at hyv;have hzr:=(gJ (cx ok pl w) ze).vc (by rw[<-hE.zv];exact hzf);rw[<-hE.zv,hzv]at hzr;obtain⟨zc,hzc,hzrel⟩:∃zc,ze.cells.toList=[zc]/\VRel (cx ok pl w) zv zc:=by
  simp only[VList]at hzr;obtain⟨y,ys,h1,h2,rfl⟩:=hzr;exact⟨y,h1,h2⟩
 have hvz:∀k,VList (cx ok pl w) (aD k zv) (aD k zc):=by
  intro k
  induction k with
  |zero=>simp[VList]
  |succ k ih=>simp only[List.replicate_succ,VList];exact⟨_,_,rfl,hzrel,ih⟩
 obtain⟨news,hnews0⟩:∃news,news=Builtin.zeroCells ze.cells m:=⟨_,rfl⟩;have hnz:news.toList=aD m zc:=by
  have:ze.cells=#[zc]:=Array.toList_inj.1 hzc;rw[hnews0];apply List.ext_getElem?;intro j;simp[Builtin.zeroCells,this,List.getElem?_replicate];by_cases hj:j<m
  ·rw[List.getElem?_range hj,if_pos hj];simp[Nat.mod_one]
  ·rw[zsj (by simp;omega),if_neg hj];rfl
 have hn3:VList (cx ok pl w) cs news.toList:=by rw[hcs,hnz];exact hvz m
 have hn4:aa cs=m*re.size:=by rw[hcs,hs1];simp
 simp only[VRel]at hx';obtain⟨base,cp,hbase,hcap,hlen,hmax,hpl⟩:=hx';have hol:=ho3.length;have hnl:=hn3.length;have hidl:id<aa h:=(zqe hc).1;by_cases hroom:len+m<=cp
 ·rcases hpl with hcp|⟨b,arr,el',fz,hb,hbs,harr,hsz⟩
  ·have hm0:m=0:=by omega
   have hl0:len=0:=by omega
   subst hm0;subst hl0;subst hcp;have hcs:cs=[]:=zse (by omega);have hcs0:cs0=[]:=zse (by omega);subst hcs;subst hcs0;have hnews:news.toList=[]:=zse (by omega);have hrun:=o7 (P:=e.P) (w:=w) (ty:=o.type) ht0 ht1 hT hE hX hs1 base 0 0 0 hm1 (by omega) (by omega) (w':=w) (by
    cases base with
    |none=>exact .inl ⟨rfl,rfl⟩
    |some a=>exact .inr ⟨a,rfl,by rw[<-hnews0,hnews];rfl⟩)
   obtain⟨hs',kk⟩:=hs.kill (·==id);have hset:(h.map (O.drop (·==id))).set id (.cells (aE (·==id) ([]++[])))=h.map (O.drop (·==id)):=by
    apply List.ext_getElem?;intro j;by_cases hj:j=id
    ·subst hj;rw[zqt (by simpa using hidl),zqo,hc];simp[O.drop,aE]
    ·rw[zqn (Ne.symm hj)]
   rw[hset]at hk;refine⟨(·==id),_,_,pl,w,.slice base 0 0,.inl ?_,hs',kk,?_,hid,hk⟩
   ·rw[fJ hop,hbase,hyv];exact iT hrun
   ·simp only[VRel];exact⟨base,0,rfl,by omega,by omega,by simp[maxLen],.inl rfl⟩
  ·subst hbs;have hb':pl id=ar b:=hb;obtain⟨ob,hob,hat⟩:=hs.obj id b hb';rw[hc]at hob;cases hob;obtain⟨arr2,el2,fz2,g1,g2,g3,g4⟩:=hat;have harr':w.heap[b]? =ar (.cells arr el' fz):=harr;have g1':w.heap[b]? =ar (.cells arr2 el2 fz2):=g1;rw[harr']at g1';cases g1';have hfit:aa cs0+aa news.toList<=arr.size:=by
    rw[hnl,hcl,hn4,<-Nat.add_mul];have:=Nat.mul_le_mul_right re.size hroom;omega
   have hfit':aa cs0+news.size<=arr.size:=by simpa using hfit
   have hnsz:news.size=aa cs:=by simpa using hnl
   have hst':=lq (P:=e.P) (o:=aa cs0) harr' g2 hfit (hn3.oneCells h1);have hw:=jW (b:=b) news.toList (aa cs0) arr w harr' hfit;obtain⟨w',hw'⟩:∃w',w.setCells b (aa cs0) news.toList=w':=⟨_,rfl⟩;rw[hw']at hst' hw;have hrun:=o7 (P:=e.P) (w:=w) (ty:=o.type) ht0 ht1 hT hE hX hs1 (ar ⟨b,0,aL⟩) len cp m hm1 hbytes hroom (w':=w') (.inr ⟨_,rfl,by
    rw[fQ,Nat.zero_add,<-hcl,<-hnews0];exact hst'⟩)
   have hkk:Keeps (·==id) pl w (λi=>if i=id then ar b else pl i) w':=by
    refine⟨hw.os,hw.tape,hw.output,by rw[hw.size];exact zrb _,λb' hb1 hn'=>hw.same b' (λhe=>hn' id (he▸hb')),λi b' hi=> ?_,λi b' hp hi=> ?_,λb' a1 e1 z1 hb1=> ?_⟩
    ·split at hi
     ·cases hi;exact .inl ⟨id,hb'⟩
     ·exact .inl ⟨i,hi⟩
    ·have:i≠id:=by simpa using hp
     rw[if_neg this];exact hi
    ·by_cases he:b'=b
     ·subst he;rw[harr']at hb1;cases hb1;exact⟨_,_,hw.here,by simp;omega⟩
     ·exact⟨a1,z1,(hw.same b' he).trans hb1,rfl⟩
   have hsize':(arr.toList.take (aa cs0)++news.toList++arr.toList.drop (aa cs0+aa news.toList)).toArray.size=arr.size:=by simp;omega
   have hs' := hs.replace hidl (nb := b) (w' := w') (o' := .cells (aE (· == id) (cs0 ++ cs))) hkk (by rw [hw.size];exact bH harr') (λj hj hjb => hj (hs.inj j id b hjb hb'))
    (λj b' hj hjb=>hw.same b' (λhe=>hj (hs.inj j id b (he▸hjb) hb'))) (by
     refine⟨_,el',fz,hw.here,λj hj=>g2 j (by omega),?_,?_⟩
     ·rw[dN,hsize',zqa];omega
     ·have hq:aa (aE (·==id) (cs0++cs))=aa cs0+aa news.toList:=by rw[dN,zqa];omega
      rw[hq];have e1:(arr.toList.take (aa cs0)++news.toList++arr.toList.drop (aa cs0+aa news.toList)).toArray.toList.take (aa cs0+aa news.toList)=arr.toList.take (aa cs0)++news.toList:=by
       have e2:aa (arr.toList.take (aa cs0)++news.toList)=aa cs0+aa news.toList:=by simp only[zqa,zrl,Array.length_toList];omega
       show(arr.toList.take (aa cs0)++news.toList++arr.toList.drop (aa cs0+aa news.toList)).take (aa cs0+aa news.toList)=_;rw[List.take_append_of_le_length (by omega),zqh (by omega)]
      rw[e1];exact VList.mdrop hkk.cext _ _ (g4.append hn3))
   refine⟨(·==id),_,_,_,w',.slice (ar ⟨b,0,aL⟩) (len+m) cp,.inl ?_,hs',hkk,?_,hid,hk⟩
   ·rw[fJ hop,hbase,hyv];exact iT hrun
   ·simp only[VRel];exact⟨_,cp,rfl,hroom,hroom,hmax,.inr ⟨b,_,el',fz,by simp[cx],rfl,hw.here,by rw[hsize'];omega⟩⟩
 ·have hrun:=xk (P:=e.P) (w:=w) (ty:=o.type) ht0 ht1 hT hE hX hs1 base len cp m olds (by rw[<-hbase];exact ho2 _ (λ_=>rfl)) hm1 (by omega) (by omega) hbig hbytes;rw[<-hnews0]at hrun;obtain⟨cap',hcap'⟩:∃cap',grownCap w (len+m) cp el=cap':=⟨_,rfl⟩;have hge:=grownCap_ge w (len+m) cp el;have hle:=grownCap_le_maxLen w (len+m) cp el hbig;rw[hcap']at hrun hge hle;obtain⟨arr,harr⟩:∃arr,olds++news++Builtin.zeroCells ze.cells (cap'-(len+m))=arr:=⟨_,rfl⟩;rw[harr]at hrun;have hzs:ze.cells.size=re.size:=by have hzr:=(gJ (cx ok pl w) ze).vc (by rw[<-hE.zv];exact hzf);have:=hzr.length;rw[<-hE.zv,hzl]at this;simpa using this
  have hasz:arr.size=cap'*re.size:=by rw[<-harr];simp only[Array.size_append,size_zeroCells,hzs];simp only[Array.length_toList]at hol hnl;rw[hol,hnl,ho4,hn4,<-Nat.add_mul,<-Nat.add_mul];congr 1;omega
  have hlist:arr.toList.take (aa (cs0++cs))=olds.toList++news.toList:=by rw[<-harr];simp only[Array.toList_append];rw[List.take_append_of_le_length (by simp only[zqa];omega),zqh (by simp only[zqa];omega)]
  have x2:=(WExt.drew w).trans (WExt.alloc w.drew (.cells arr el));have hhere:(w.drew.alloc (.cells arr el)).heap[w.heap.size]? =ar (.cells arr el):=World.alloc_heap_new w.drew (.cells arr el);have hkk:Keeps (·==id) pl w (λi=>if i=id then ar w.heap.size else pl i) (w.drew.alloc (.cells arr el)):=by
   refine⟨rfl,rfl,rfl,x2.size,λb' hb1 _=>x2.same b' hb1,λi b' hi=> ?_,λi b' hp hi=> ?_,λb' a1 e1 z1 hb1=>⟨a1,z1,(x2.same b' (bH hb1)).trans hb1,rfl⟩⟩
   ·split at hi
    ·cases hi;exact .inr (zrb _)
    ·exact .inl ⟨i,hi⟩
   ·have:i≠id:=by simpa using hp
    rw[if_neg this];exact hi
  have hs' := hs.replace hidl (nb := w.heap.size) (o' := .cells (aE (· == id) (cs0 ++ cs))) hkk (by simp) (λj hj hjb => by have := hs.lt j _ hjb;omega)
   (λj b' hj hjb=>x2.same b' (hs.lt j b' hjb)) (by
    refine⟨arr,el,(0,0),hhere,λj _=>by simp,?_,?_⟩
    ·rw[dN,hasz,zqa,ho4,hn4,<-Nat.add_mul];exact Nat.mul_le_mul_right _ hge
    ·rw[dN,hlist];exact VList.mdrop hkk.cext _ _ (ho3.append hn3))
  refine⟨(·==id),_,_,_,_,.slice (ar ⟨w.heap.size,0,aL⟩) (len+m) cap',.inl ?_,hs',hkk,?_,hid,hk⟩
  ·rw[fJ hop,hbase,hyv];exact iT hrun
  ·simp only[VRel];exact⟨_,cap',rfl,hge,hge,hle,.inr ⟨w.heap.size,arr,el,(0,0),by simp[cx],rfl,hhere,by rw[hasz];omega⟩⟩
end
end Go.Abs
