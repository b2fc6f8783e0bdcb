/- Lemmas for this claim, part A9: each holds under what it names. -/
import Derived.Test.YthdidjjecjhenaaGreatA8
set_option linter.unusedVariables false
set_option linter.unusedSimpArgs false
namespace Go.Abs
open Go Go.RowKit
section
variable{e:E}{n:Nat}{r:Option Nat}{o:Oper}{f:Fr}{h:H}{Kn:Fr->H->Prop}{Q:XE->Fr->H->Prop}
variable{c:Code}
theorem iU{r:Option Nat}(Pf:Fr->Prop)(h0:H)(h1:(∀f',Pf f'->awp e n r c Q f' h0)->awp e n r c Q f h)(h2:∀f',Pf f'->awp e n r c Q f' h0):awp e n r c Q f h:=h1 h2
end
section
variable{e:E}{n:Nat}{r:Option Nat}{o:Oper}{f:Fr}{h:H}{Kn:Fr->H->Prop}{Q:XE->Fr->H->Prop}
end
section
variable{e:E}{n:Nat}{r:Option Nat}{ops:Array Oper}{Q:XE->Fr->H->Prop}{ok:Nat->Prop}{pl0:Nat->Option Nat}{w0:World}
variable{f:Fr}{pl:Nat->Option Nat}{w:World}{a:Act}
theorem SSim.unput{h:H}{d:Option Tmp}{v:Value}(s:SSim e n ok pl0 w0 f h pl w (a.put d v)):SSim e n ok pl0 w0 (f.put d .any) h pl w a:=by
 cases d with
 |none=>exact s
 |some i =>
  refine⟨s.hs,s.kp,?_,fun j=> ?_,s.dfr⟩
  ·have:=s.size;simpa [Act.put]using this
  ·by_cases hj:j=i
   ·subst hj;have:(f.put (some j) .any).t j= .any:=by simp[Fr.put]
    rw[this];simp only[VRel]
   ·have h1:(f.put (some i) .any).t j=f.t j:=by simp[Fr.put,hj]
    rw[h1];have h2:=s.val j;simpa [Act.put,Array.getElem?_setIfInBounds_ne (Ne.symm hj)]using h2
end
section
variable{e:E}{n:Nat}{r:Option Nat}{ops:Array Oper}{Q:XE->Fr->H->Prop}{ok:Nat->Prop}{pl0:Nat->Option Nat}{w0:World}{h:H}
def ku(o:Oper):Bool:=match o.op with | .alloc _=>true|_=>false
def oQ(e:E)(n:Nat)(ops:Array Oper)(h:H)(o:Oper)(v:V)(f:Fr):Prop :=
 (ku o=true/\o.guard=none/\jU n o.dst=true/\v= .any)\/(ku o=false/\mW e n ops h o v f)
variable{o:Oper}{v:V}{f:Fr}
theorem oQ.put(hy:oQ e n ops h o v f){dst:Option Tmp}{u:V}(hd:∀d,dst=some d->d∉o.looksAt ops):oQ e n ops h o v (f.put dst u) :=
 hy.imp id fun h=>⟨h.1,h.2.put hd⟩
variable{dst:Option Tmp}
theorem oQ.unput{u:V}(hy:oQ e n ops h o v (f.put dst u))(hd:∀d,dst=some d->d∉o.looksAt ops):oQ e n ops h o v f :=
 hy.imp id fun h=>⟨h.1,h.2.unput hd⟩
def zT(e:E)(n:Nat)(ops:Array Oper)(h:H)(i:Nat)(Kn:Fr->Prop)(f:Fr):Prop :=
 match ops[i]? with
 |none=>Kn f
 |some o=>∃v,oQ e n ops h o v f/\Kn (f.put o.dst v)
variable{i:Nat}
theorem KQ{K K':Fr->Prop}(hh:∀f,K f->K' f)(hq:zT e n ops h i K f):zT e n ops h i K' f:=by
 unfold zT at *;split
 ·exact hh _ (by simpa [*]using hq)
 ·rename_i o ho;simp only[ho]at hq;obtain⟨v,h1,h2⟩:=hq;exact⟨v,h1,hh _ h2⟩
variable{oi:Oper}
theorem Oe{j:Nat}{oj:Oper}(hj:ops[j]? =some oj)(hap:oi.apart ops oj=true){K:Fr->Prop}{f:Fr}
 (hy:oQ e n ops h oi v f) (hq:zT e n ops h j K (f.put oi.dst v)) :
 zT e n ops h j (fun f'=>oQ e n ops h oi v f'/\K (f'.put oi.dst v)) f:=by
 obtain⟨h1,h2,h3⟩:=Oper.apart_spec hap;unfold zT at *;simp only[hj]at *;obtain⟨u,hu,hn⟩:=hq;exact⟨u,hu.unput h1,hy.put h3,by rw[<-Fr.put_comm f v u h2];exact hn⟩
def sU(e:E)(n:Nat)(ops:Array Oper)(h:H)(Q:Fr->Prop):List Oper->Fr->Prop
 |[],f=>Q f
 |o::rest,f=>∃v,oQ e n ops h o v f/\sU e n ops h Q rest (f.put o.dst v)
def En(e:E)(n:Nat)(ops:Array Oper)(h:H)(last:Nat)(Q:Fr->Prop):Nat->Array Bool->Fr->Prop
 |0,listed,f=>Region.ready .any ops listed=[last]/\Q f
 |fuel+1,listed,f=>Region.ready .any ops listed≠[]/\(Region.ready .any ops listed=[last]->Q f) /\
  ∀i∈Region.ready .any ops listed,i≠last->zT e n ops h i (En e n ops h last Q fuel (listed.setIfInBounds i true)) f
variable{last:Nat}
theorem Eo{Q:Fr->Prop}(hi:ops[i]? =some oi)(hil:i≠last) :
 ∀(fuel:Nat)(listed:Array Bool)(f:Fr),
  (∀j oj,ops[j]? =some oj->j≠i->listed.getD j true=false->(∀e∈oj.after,Region.binds .any e=true->e.on≠i)->oi.apart ops oj=true) ->
  i∈Region.ready .any ops listed->oQ e n ops h oi v f ->
  En e n ops h last Q fuel (listed.setIfInBounds i true) (f.put oi.dst v)->En e n ops h last Q (fuel+1) listed f:=by
 have own:∀ {K:Fr->Prop} {f:Fr},oQ e n ops h oi v f->K (f.put oi.dst v)->zT e n ops h i K f:=by intro K f hy hk;unfold zT;rw[hi];exact⟨v,hy,hk⟩
 have one:∀ {listed:Array Bool} {R:Prop},i∈Region.ready .any ops listed->Region.ready .any ops listed=[last]->R:=by intro listed R hr h;rw[h]at hr;exact absurd (by simpa using hr) hil
 intro fuel
 induction fuel with
 |zero =>
  intro listed f _ hr hy H;refine⟨fun h=>(by rw[h]at hr;cases hr),fun h=>one hr h,fun j hj hjl=> ?_⟩;by_cases hji:j=i
  ·subst hji;exact own hy H
  ·have:=ready_mono hj hji;rw[H.1]at this;exact absurd (by simpa using this) hjl
 |succ fuel ih =>
  intro listed f hfree hr hy H;refine⟨fun h=>(by rw[h]at hr;cases hr),fun h=>one hr h,fun j hj hjl=> ?_⟩;by_cases hji:j=i
  ·subst hji;exact own hy H
  ·have h1:=H.2.2 j (ready_mono hj hji) hjl;obtain⟨hjun,oj,hoj,hall⟩:=mem_ready.1 hj;have hnot:∀e∈oj.after,Region.binds .any e=true->e.on≠i:=fun e he hb heq=>by
    have h1:=hall e he hb;have h0:=(mem_ready.1 hr).1;rw[heq]at h1;rcases Nat.lt_or_ge i listed.size with h'|h'
    ·simp[h']at h0 h1;rw[h0]at h1;cases h1
    ·simp[Array.getElem?_eq_none h']at h1
   have h2:=Oe hoj (hfree j oj hoj hji hjun hnot) hy h1;have hfree':∀k ok,ops[k]? =some ok->k≠i->(listed.setIfInBounds j true).getD k true=false ->
    (∀e∈ok.after,Region.binds .any e=true->e.on≠i)->oi.apart ops ok=true:=fun k ok hk hki hun hno=>by
    refine hfree k ok hk hki ?_ hno;by_cases hjk:j=k
    ·subst hjk;exact hjun
    ·rw[getD_set_ne true hjk]at hun;exact hun
   refine KQ (fun a' h3=>ih (listed.setIfInBounds j true) a' hfree' (ready_mono hr (Ne.symm hji)) h3.1 ?_) h2;rw[Array.setIfInBounds_comm _ _ hji];exact h3.2
def Ep(ops:Array Oper)(listed:Array Bool):Prop:=∀i o,ops[i]? =some o->listed.getD i false=true->∀e∈o.after,Region.binds .any e=true->listed.getD e.on false=true
variable{listed:Array Bool}
theorem Ep.set(hc:Ep ops listed){i:Nat}(hi:i∈Region.ready .any ops listed):Ep ops (listed.setIfInBounds i true):=by
 intro j o ho hl e he hb;refine getD_set_true ?_;by_cases hji:j=i
 ·subst hji;obtain⟨_,o',ho',hall⟩:=mem_ready.1 hi;rw[ho]at ho';cases ho';exact hall e he hb
 ·rw[getD_set_ne false (Ne.symm hji)]at hl;exact hc j o ho hl e he hb
theorem Ep.none{m:Nat}:Ep ops (Array.replicate m false):=by
 intro i o _ hl;exfalso;rcases Nat.lt_or_ge i m with h|h
 ·simp[h]at hl
 ·simp[h]at hl
variable{pl pl':Nat->Option Nat}{w w':World}
theorem HSim.recx{ok ok':Nat->Prop}{h h':H}(hs:HSim e ok pl h w)(x:CExt (fun _=>false) (cx ok pl w) (cx ok' pl' w'))
 (fresh:∀b,w'.heap.size<=b->ok' b) (lt:∀i b,pl' i=some b->b<w'.heap.size) (okl:∀i b,pl' i=some b->ok' b) (inj:∀i j b,pl' i=some b->pl' j=some b->i=j)
 (obj:∀i b,pl' i=some b->∃o,h'[i]? =some o/\OAt (cx ok' pl' w') b o) (bare:∀i o,h'[i]? =some o->pl' i=none->o= .dead\/o= .cells []):HSim e ok' pl' h' w' where
 fresh:=fresh
 lt:=lt
 okl:=okl
 inj:=inj
 obj:=obj
 bare:=bare
 glob g v hg:=VRel.mono x _ _ (hs.glob g v hg)
 exa g cs hg:=by
  obtain⟨h1,cs',ty,fz,h2,h3⟩:=hs.exa g cs hg;have:=x.dat g (bF h2) h1;exact⟨this.1,cs',ty,fz,this.2.trans h2,h3⟩
structure Hid(e:E)(n:Nat)(ok:Nat->Prop)(pl0:Nat->Option Nat)(w0:World)(f:Fr)(h:H)(pl:Nat->Option Nat)(w:World)(a:Act)(d:Tmp)(cs:List V)(b:Nat):Prop where
 s:SSim e n (fun x=>ok x/\x≠b) pl0 w0 f h pl w a
 ptr:a.tmps.getD d undef= .pointer (some ⟨b,0,none⟩)
 ob:OAt (cx ok (dD pl h.length b) w) b (.cells cs)
 ge:w0.heap.size<=b
 lt:b<w.heap.size
 okb:ok b
 npl:∀i,pl i≠some b
 dn:d<n
variable{a:Act}
theorem Hid.cext{d:Tmp}{cs:List V}{b:Nat}(k:Hid e n ok pl0 w0 f h pl w a d cs b){w':World}(x:WExt w w') :
 CExt (fun _=>false) (cx (fun x=>ok x/\x≠b) pl w) (cx ok (dD pl h.length b) w'):=by
 refine⟨fun b' hb' hok=>⟨⟨hok.1.1,fun i hi=> ?_⟩,x.same b' hb'⟩,fun i b' _ hi=> ?_,fun b' arr' el' fz hb'=>⟨arr',fz,(x.same b' (bF hb')).trans hb',rfl⟩⟩
 ·simp only[dD]at hi;split at hi
  ·cases hi;exact hok.1.2 rfl
  ·exact hok.2 i hi
 ·have:=k.s.hs.pl_lt hi;simp only[cx,dD];rw[if_neg (by omega)];exact hi
theorem AQ.wpIn(hq:AQ e o (f.ev e) h v)(s:SSim e n ok pl0 w0 f h pl w a){K':Act->World->Prop}{Q':Exit->Act->World->Prop}
 (hk:∀x w',WExt w w'->VRel (cx ok pl w') v x->K' (a.put o.dst x) w'):o.wpIn (RF r) 0 e.P a w K' Q':=by
 have:=hq ok pl w a.eval s.hs s.evs;refine⟨fun g _=>iR r g,?_⟩;have hnd:o.semAt (RF r).round a.eval=execOp a.eval o:=by
  rw[fB];refine Oper.semAt_eq r a.eval o fun c hc=> ?_;unfold execOp at this;rw[hc]at this;simp only[Sem.run_bind]at this
  revert this
  cases(resolve a.eval c o.type).run e.P w<;>simp[kF,Result.andThen]
 rw[hnd]
 revert this
 cases(execOp a.eval o).run e.P w with
 |halt x w'=>simp[kF]
 |ok nx w' =>
  cases nx<;>simp only[kF,Oper.uponIn]<;>try(intro hf;exact hf.elim)
  case value x =>
   rintro⟨hx,hv⟩;exact hk _ _ hx hv
  case skip =>
   rintro⟨hx,hv⟩;exact hk _ _ hx hv
  case enter g args =>
   intro hc;refine⟨fun hd'=>(by rw[jP]at hd';cases hd'),dJ (hc.mono ?_)⟩;rintro en w'' ⟨x,rfl,hx,hv⟩;exact hk _ _ hx hv
structure AlOk(P:Program)(n:Nat)(ops:Array Oper)(ia:Nat)(d:Tmp)(q:TI):Prop where
 op:∃o t,ops[ia]? =some o/\o.op= .alloc t/\o.guard=none/\o.dst=some d/\ti P t=some q
 fit:q.zero.fit=true
 ne:ia≠ops.size-1
 dn:d<n
 oth:∀j o,ops[j]? =some o->j≠ia->ku o=false/\o.dst≠some d
def LSt(e:E)(n:Nat)(ok:Nat->Prop)(pl0:Nat->Option Nat)(w0:World)(h:H)(ia:Nat)(d:Tmp)(q:TI)(listed:Array Bool)(f:Fr)(pl:Nat->Option Nat)(w:World)(a:Act):Prop :=
 (listed.getD ia false=false/\SSim e n ok pl0 w0 f h pl w a)\/(listed.getD ia false=true/\∃b,Hid e n ok pl0 w0 f h pl w a d q.zero.vc b)
theorem LSt.alloc{ia:Nat}{d:Tmp}{q:TI}(ha:AlOk e.P n ops ia d q){listed:Array Bool}(hsz:ia<listed.size){f:Fr}{pl:Nat->Option Nat}{w:World}{a:Act}(k:LSt e n ok pl0 w0 h ia d q listed f pl w a)
 (hun:listed.getD ia true=false) {K':Act->World->Prop} {Q':Exit->Act->World->Prop}
 (hk:∀a' w',LSt e n ok pl0 w0 h ia d q (listed.setIfInBounds ia true) (f.put (some d) .any) pl w' a'->K' a' w'):wpOpIn (RF r) 0 e.P ops Q' ia K' a w:=by
 obtain⟨o,t,ho,hop,hg,hdst,hq⟩:=ha.op;have hl0:listed.getD ia false=false:=by simp only[Array.getD_eq_getD_getElem?,Array.getElem?_eq_getElem hsz,Option.getD_some]at hun ⊢;exact hun
 have hl1:(listed.setIfInBounds ia true).getD ia false=true:=by simp[hsz]
 rcases k with⟨_,s⟩|⟨hl,_⟩
 ·unfold wpOpIn;rw[ho];dsimp only;have hgd:gd ops f o=some true:=by unfold gd;rw[hg]
  rw[if_pos (uG s.val hgd)];obtain⟨i,d',z,hT⟩:=aT hq;have hf:=ha.fit;have hz:VList (cx ok pl w) q.zero.vc z.cells.toList:=by
   rw[hT.zv]at hf ⊢;exact(fZ _ z).vc hf
  obtain⟨h1,h2⟩:=xP s.hs hz t (WExt.refl w);have hrun:(execOp a.eval o).run e.P w= .ok (.value (.pointer (some ⟨w.heap.size,0,none⟩))) (w.alloc (.cells z.cells t)):=by
   have:(Instr.alloc t true (.tuple #[])).run e.P w= .ok (.pointer (some ⟨w.heap.size,0,none⟩)) (w.alloc (.cells z.cells t)):=by unfold Instr.alloc;simp only[Sem.run_bind,hT.run_zero,Result.andThen];rfl
   have h3:execOp a.eval o=(do pure (Next.value (<-Instr.alloc t true (.tuple #[])))):=by simp[execOp,hop]
   rw[h3];exact iQ this
  have xw:=WExt.alloc w (.cells z.cells t);refine⟨fun g _=>iR r g,?_⟩;have hnd:o.semAt (RF r).round a.eval=execOp a.eval o:=by rw[fB];exact Oper.semAt_eq r a.eval o fun c hc=>by rw[hop]at hc;cases hc
  rw[hnd,hrun];simp only[Oper.uponIn];refine hk _ _ (.inr ⟨hl1,w.heap.size,?_⟩);rw[hdst];have npl:∀i,pl i≠some w.heap.size:=fun i hi=>by have:=s.hs.lt i _ hi;omega
  have x:CExt (fun _=>false) (cx ok pl w) (cx (fun x=>ok x/\x≠w.heap.size) pl (w.alloc (.cells z.cells t))):=by refine⟨fun b' hb' hok=>⟨⟨⟨hok.1,?_⟩,hok.2⟩,xw.same b' hb'⟩,fun i b' _ hi=>hi,fun b' arr' el' fz hb'=>⟨arr',fz,(xw.same b' (bF hb')).trans hb',rfl⟩⟩;have hb':b'<w.heap.size:=hb';omega
  have hsz2:(w.alloc (.cells z.cells t)).heap.size=w.heap.size+1:=by rw[World.alloc];simp
  have hs':HSim e (fun x=>ok x/\x≠w.heap.size) pl h (w.alloc (.cells z.cells t)):=by refine s.hs.recx x (fun b' hb'=>⟨s.hs.fresh b' (by omega),by omega⟩) (fun i b' hi=>by have:=s.hs.lt i b' hi;omega) (fun i b' hi=>⟨s.hs.okl i b' hi,fun hh=>npl i (by rw[hi,hh])⟩) s.hs.inj ?_ s.hs.bare;intro i b' hi;obtain⟨o',h3,h4⟩:=s.hs.obj i b' hi;exact⟨o',h3,OAt.mono x (xw.same b' (s.hs.lt i b' hi)) h4⟩
  have kp':=s.kp.trans (xw.keeps s.hs);refine⟨⟨hs',kp'.weaken (q:=(f.put (some d) V.any).k) (fun i hi=>by simpa [Fr.put]using hi),?_,fun j=> ?_,Gs.mono (fun i b' hi=>x.pl i b' rfl hi) s.dfr⟩,?_,?_,s.kp.size,by omega,s.hs.fresh _ (zrb _),npl,ha.dn⟩
  ·have:=s.size;simpa [Act.put]using this
  ·by_cases hj:j=d
   ·subst hj;have:(f.put (some j) V.any).t j= .any:=by simp[Fr.put]
    rw[this];simp only[VRel]
   ·have e1:(f.put (some d) V.any).t j=f.t j:=by simp[Fr.put,hj]
    rw[e1];have e2:(a.put (some d) (.pointer (some ⟨w.heap.size,0,none⟩))).tmps.getD j undef=a.tmps.getD j undef:=by
     simp[Act.put,Array.getElem?_setIfInBounds_ne (Ne.symm hj)]
    rw[e2];exact VRel.mono x _ _ (s.val j)
  ·have hdn:d<a.tmps.size:=by rw[s.size];exact ha.dn
   simp[Act.put,hdn]
  ·obtain⟨o',h3,h4⟩:=h1.obj h.length w.heap.size (by simp[dD]);have:o'= .cells q.zero.vc:=by rw[zsb (zrb _)]at h3;simpa using h3.symm
   subst this;exact h4
 ·rw[hl0]at hl;cases hl
def lW(e:E)(n:Nat)(ops:Array Oper)(h:H)(Q:Fr->Prop):List Oper->Fr->Prop
 |[],f=>Q f
 |o::rest,f=>match ku o with
  |true=>o.guard=none/\jU n o.dst=true/\lW e n ops h Q rest (f.put o.dst .any)
  |false=>match gd ops f o with
   |none=>False
   |some g=>jU n o.dst=true /\
    match jZ o.op with
    |true=>match o.op with
     | .call {callee:= .value fx,args,..}=>match lV e (f.ev e) fx args with
      |some (q,vs)=>Dz e g q vs (eU (f.ev e) fx args) o.dst (lW e n ops h Q rest) f
      |none=>False
     |_=>False
    |false=>goQ g (vP e.P o (f.ev e) h) o.dst (lW e n ops h Q rest) f
theorem jS{Q:Fr->Prop}:∀(l:List Oper)(f:Fr),lW e n ops h Q l f->sU e n ops h Q l f
 |[],f,hv=>hv
 |o::rest,f,hv=>by
  simp only[lW]at hv;cases hal:ku o with
  |true=>rw[hal]at hv;obtain⟨h1,h2,h3⟩:=hv;exact⟨_,.inl ⟨hal,h1,h2,rfl⟩,jS rest _ h3⟩
  |false =>
   rw[hal]at hv;dsimp only at hv;cases hg:gd ops f o with
   |none=>rw[hg]at hv;exact hv.elim
   |some g =>
    rw[hg]at hv;obtain⟨hd,hv⟩:=hv;cases he:jZ o.op with
    |true =>
     rw[he]at hv;dsimp only at hv;split at hv
     ·rename_i fx args ts hop;split at hv
      ·rename_i q vs hon;obtain⟨rv,h1,h2⟩:=hv;exact⟨_,.inr ⟨hal,hd,g,rv,hg,fun hgt=>AQ.call hop hon (h1 hgt).1 (h1 hgt).2.1 (h1 hgt).2.2.1 (h1 hgt).2.2.2,rfl⟩,jS rest _ h2⟩
      ·exact hv.elim
     ·exact hv.elim
    |false=>rw[he]at hv;dsimp only at hv;obtain⟨h1,h2⟩:=hv;exact⟨_,.inr ⟨hal,hd,g,_,hg,fun hgt=>nY (h1 hgt),rfl⟩,jS rest _ h2⟩
end
section
variable{e:E}{n:Nat}{r:Option Nat}{ops:Array Oper}{Q:XE->Fr->H->Prop}{ok:Nat->Prop}{pl0:Nat->Option Nat}{w0:World}{h:H}
def WU(ops:Array Oper)(last:Nat):List Nat->Array Bool->Bool
 |[],listed=>Region.ready .any ops listed==[last]
 |k::ks,listed=>(Region.ready .any ops listed).contains k&&k != last&&Region.free .any ops listed k&&WU ops last ks (listed.setIfInBounds k true)
def rH(ops:Array Oper)(ks:List Nat):List Oper:=ks.filterMap fun k=>ops[k]?
theorem oC{last:Nat}{Q:Fr->Prop}:∀(ks:List Nat)(listed:Array Bool)(f:Fr),WU ops last ks listed=true->sU e n ops h Q (rH ops ks) f->En e n ops h last Q ks.length listed f
 |[],_,_,hB,h=>⟨by simpa [WU]using hB,h⟩
 |k::ks,listed,f,hB,hh=>by
  simp only[WU,zqf]at hB;obtain⟨⟨⟨hr,hne⟩,hf⟩,hB'⟩:=hB;obtain⟨_,o,h0,_⟩:=mem_ready.1 (show k∈Region.ready .any ops listed by simpa using hr);have e1:rH ops (k::ks)=o::rH ops ks:=by simp[rH,h0]
  rw[e1]at hh;obtain⟨v,hy,hK⟩:=hh;exact Eo h0 (by simpa using hne) ks.length listed f (Region.free_spec h0 hf) (by simpa using hr) hy (oC ks _ _ hB' hK)
def dep(ops:Array Oper)(i j:Nat):Bool:=match ops[i]? with
 |some o=>o.after.any fun e=>Region.binds .any e&&e.on==j
 |none=>false
variable{i:Nat}
theorem BX{j:Nat}(h:dep ops i j=true):∃o,ops[i]? =some o/\∃e∈o.after,Region.binds .any e=true/\e.on=j:=by
 unfold dep at h;split at h
 ·rename_i o ho;rw[Array.any_eq_true]at h;obtain⟨q,hq,h3⟩:=h;rw[zqf,beq_iff_eq]at h3;exact⟨o,ho,_,Array.getElem_mem hq,h3.1,h3.2⟩
 ·cases h
def BZ(ops:Array Oper)(tk pre:List Nat)(last:Nat):Bool :=
 (pre.all fun i=>(last::pre).any fun j=>decide (i<j)&&dep ops j i)&&(List.range ops.size).all fun i=>tk.contains i||pre.contains i||i==last||dep ops i last
structure LI(ops:Array Oper)(tk pre:List Nat)(last:Nat)(listed:Array Bool):Prop where
 clos:Ep ops listed
 size:listed.size=ops.size
 took:∀i∈tk,i<ops.size->listed.getD i false=true
 tail:∀i,i∉tk->i∉pre->listed.getD i false=false
variable{tk pre:List Nat}{last:Nat}{listed:Array Bool}
theorem LI.all(k:LI ops tk pre last listed)(hB:BZ ops tk pre last=true)(hr:last∈Region.ready .any ops listed):∀(m i:Nat),m=ops.size-i->i∈pre->listed.getD i false=true:=by
 intro m
 induction m using Nat.strongRecOn with
 |_ m ih =>
  intro i hm hi;unfold BZ at hB;rw[zqf]at hB;have h1:=zrs.1 hB.1 i hi;obtain⟨j,hj,h2⟩:=List.any_eq_true.1 h1;rw[zqf,zqb]at h2;obtain⟨hij,h2⟩:=h2;obtain⟨o,ho,e,he,hb,hon⟩:=BX h2;have hjs:=(Array.getElem?_eq_some_iff.1 ho).1;rw[<-hon];rcases zrj.1 hj with rfl|hj
  ·obtain⟨_,o',ho',hall⟩:=mem_ready.1 hr;rw[ho]at ho';cases ho';exact hall e he hb
  ·exact k.clos j o ho (ih (ops.size-j) (by omega) j rfl hj) e he hb
theorem Og(hi:i<listed.size)(d d':Bool):listed.getD i d=listed.getD i d':=by simp[hi]
theorem LI.one(k:LI ops tk pre last listed)(hB:BZ ops tk pre last=true)(hl:last∉tk/\last∉pre)(hr:last∈Region.ready .any ops listed):Region.ready .any ops listed=[last]:=by
 have hall:∀j∈Region.ready .any ops listed,j=last:=by
  intro j hj;obtain⟨h0,o,ho,hdep⟩:=mem_ready.1 hj;have hlt:=(Array.getElem?_eq_some_iff.1 ho).1;have hun:listed.getD j false=false:=by rw[Og (by rw[k.size];exact hlt) false true];exact h0
  have hB2:=hB;unfold BZ at hB2;rw[zqf]at hB2;have h2:=zrs.1 hB2.2 j (by simpa using hlt);simp only[Bool.or_eq_true,List.contains_iff_mem,beq_iff_eq]at h2;rcases h2 with((h2|h2)|h2)|h2
  ·rw[k.took j h2 hlt]at hun;cases hun
  ·rw[k.all hB hr _ j rfl h2]at hun;cases hun
  ·exact h2
  ·obtain⟨o',ho',e,he,hb,hon⟩:=BX h2;rw[ho]at ho';cases ho';have:=hdep e he hb;rw[hon,k.tail last hl.1 hl.2]at this;cases this
 have hnd:(Region.ready .any ops listed).Nodup:=by unfold Region.ready;exact List.Pairwise.filter _ List.nodup_range
 match hm:Region.ready .any ops listed with
 |[]=>rw[hm]at hr;cases hr
 |[x]=>rw[hall x (by rw[hm];simp)]
 |x::y::l=>exfalso;rw[hm]at hnd;have h1:=hall x (by rw[hm];simp);have h2:=hall y (by rw[hm];simp);simp[h1,h2]at hnd
def V5(ops:Array Oper)(tk pre:List Nat):Array Bool:=((List.range ops.size).map fun i=>tk.contains i||pre.contains i).toArray
theorem LI.mid(k:LI ops tk pre last listed)(hB:BZ ops tk pre last=true)(hr:last∈Region.ready .any ops listed):listed=V5 ops tk pre:=by
 apply Array.ext
 ·simp[V5,k.size]
 ·intro i h1 h2;have hi:i<ops.size:=by rw[<-k.size];exact h1
  have e1:(V5 ops tk pre)[i]=(tk.contains i||pre.contains i):=by simp[V5]
  have e2:listed[i]=listed.getD i false:=by simp[h1]
  rw[e1,e2];by_cases ht:i∈tk
  ·rw[k.took i ht hi];simp[ht]
  ·by_cases hp:i∈pre
   ·rw[k.all hB hr _ i rfl hp];simp[hp]
   ·rw[k.tail i ht hp];simp[ht,hp]
theorem iw{P:Program}:∀(p:Plan)(fuel k:Nat)(listed:Array Bool),(bW P ops p fuel listed=true->bW P ops p (fuel+k) listed=true)/\(bW.planAlts P ops p fuel listed=true->bW.planAlts P ops p (fuel+k) listed=true)
 | .fin,fuel,k,listed=>by
  refine⟨fun h=> ?_,fun h=> ?_⟩
  ·simpa [bW]using h
  ·simp[bW.planAlts]at h
 | .take i p,fuel,k,listed=>by
  refine⟨fun h=> ?_,fun h=> ?_⟩
  ·cases fuel with
   |zero=>simp[bW]at h
   |succ fuel =>
    rw[show fuel+1+k=(fuel+k)+1 by omega];simp only[bW]at h ⊢;cases ho:ops[i]? with
    |none=>rw[ho]at h;simp at h
    |some o=>rw[ho]at h;dsimp only at h ⊢;rw[zqf]at h ⊢;exact⟨h.1,(iw p fuel k _).1 h.2⟩
  ·simp[bW.planAlts]at h
 | .one i p,fuel,k,listed=>by
  refine⟨fun h=> ?_,fun h=> ?_⟩
  ·cases fuel with
   |zero=>simp[bW]at h
   |succ fuel=>rw[show fuel+1+k=(fuel+k)+1 by omega];simp only[bW]at h ⊢;rw[zqf]at h ⊢;exact⟨h.1,(iw p fuel k _).1 h.2⟩
  ·simp only[bW.planAlts]at h ⊢;exact(iw p fuel k _).1 h
 | .alt i p q,fuel,k,listed=>by
  refine⟨fun h=> ?_,fun h=> ?_⟩
  ·cases fuel with
   |zero=>simp[bW]at h
   |succ fuel=>rw[show fuel+1+k=(fuel+k)+1 by omega];simp only[bW]at h ⊢;rw[zqf,zqf]at h ⊢;exact⟨⟨h.1.1,(iw p fuel k _).1 h.1.2⟩,(iw q fuel k _).2 h.2⟩
  ·simp only[bW.planAlts]at h ⊢;rw[zqf]at h ⊢;exact⟨(iw p fuel k _).1 h.1,(iw q fuel k _).2 h.2⟩
theorem LI.step(k:LI ops tk pre last listed)(hB:BZ ops tk pre last=true)(hl:last∉tk/\last∉pre){i:Nat}(hi:i∈Region.ready .any ops listed)(hil:i≠last):LI ops tk pre last (listed.setIfInBounds i true):=by
 obtain⟨h0,o,ho,hdep⟩:=mem_ready.1 hi;have hlt:=(Array.getElem?_eq_some_iff.1 ho).1;refine⟨k.clos.set hi,by simpa using k.size,fun j hj hjs=>getD_set_true (k.took j hj hjs),fun j h1 h2=> ?_⟩;by_cases hji:i=j
 ·subst hji;exfalso;have hB2:=hB;unfold BZ at hB2;rw[zqf]at hB2;have h3:=zrs.1 hB2.2 i (by simpa using hlt);simp only[Bool.or_eq_true,List.contains_iff_mem,beq_iff_eq]at h3;rcases h3 with((h3|h3)|h3)|h3
  ·exact h1 h3
  ·exact h2 h3
  ·exact hil h3
  ·obtain⟨o',ho',e,he,hb,hon⟩:=BX h3;rw[ho]at ho';cases ho';have:=hdep e he hb;rw[hon,k.tail last hl.1 hl.2]at this;cases this
 ·rw[getD_set_ne false hji];exact k.tail j h1 h2
theorem Oh(hna:∀(j:Nat)(o:Oper),ops[j]? =some o->ku o=false)(hQ:∀v f h,¬Q (.pan v) f h)(hpl:kG ops=true){tk pre:List Nat}{last fp:Nat}{p:Plan}(hB:BZ ops tk pre last=true)(hl:last∉tk/\last∉pre)(hp:bW e.P ops p fp (V5 ops tk pre)=true):∀(fuel:Nat)(listed:Array Bool)(f:Fr),
 En e n ops h last (fun f1=>gU e n ops Q p f1 h) fuel listed f->LI ops tk pre last listed->∀pl w a,SSim e n ok pl0 w0 f h pl w a->wpAnyIn (RF r) 0 e.P .any ops (iE e n ok pl0 w0 Q) (fp+fuel) listed a w:=by
 have lastly:∀(fuel:Nat)(listed:Array Bool)(f:Fr),gU e n ops Q p f h->LI ops tk pre last listed->last∈Region.ready .any ops listed->∀pl w a,SSim e n ok pl0 w0 f h pl w a->wpAnyIn (RF r) 0 e.P .any ops (iE e n ok pl0 w0 Q) (fp+fuel) listed a w:=by intro fuel listed f hv k hr pl w a s;have e1:=k.mid hB hr;subst e1;exact(gm hQ hpl p).1 (fp+fuel) _ f h ((iw p fp fuel _).1 hp) hv pl w a s
 intro fuel
 induction fuel with
 |zero=>intro listed f hL k pl w a s;exact lastly 0 listed f hL.2 k (by rw[hL.1];simp) pl w a s
 |succ fuel ih =>
  intro listed f hL k pl w a s;by_cases hlr:last∈Region.ready .any ops listed
  ·exact lastly (fuel+1) listed f (hL.2.1 (k.one hB hl hlr)) k hlr pl w a s
  ·rw[show fp+(fuel+1)=(fp+fuel)+1 by omega];refine⟨fun h0=>absurd h0 hL.1,fun i hi=> ?_⟩;have hil:i≠last:=fun hh=>hlr (hh▸hi);have h1:=hL.2.2 i hi hil;obtain⟨hun,o,ho,_⟩:=mem_ready.1 hi;unfold zT at h1;rw[ho]at h1;obtain⟨v,hy,hn⟩:=h1;have k':=k.step hB hl hi hil;rcases hy with⟨h2,_⟩|⟨_,hd,g,v',hg,hv,rfl⟩
   ·rw[hna i o ho]at h2;cases h2
   ·unfold wpOpIn;rw[ho];dsimp only;have hw:=uG s.val hg;cases g with
    |true=>rw[if_pos hw];exact(hv rfl).wpIn s fun x w' hx hr=>ih _ _ hn k' pl w' _ ((s.next0 (s.hs.wext hx) (hx.keeps s.hs)).put hd hr)
    |false=>rw[if_neg (by rw[hw];simp)];exact⟨fun g _=>iR r g,ih _ _ hn k' pl w _ (s.put hd (kW (fun hf=>by cases hf) (fun _=>rfl)))⟩
def uS(P:Program)(ops:Array Oper):List Nat->Array Bool->Bool
 |[],_=>true
 |i::is,listed=>(match ops[i]? with|some o=>qU P o.op|none=>false)&&(Region.ready .any ops listed).contains i&&Region.free .any ops listed i&&uS P ops is (listed.setIfInBounds i true)
def ng(listed:Array Bool):List Nat->Array Bool
 |[]=>listed
 |i::is=>ng (listed.setIfInBounds i true) is
def lh(e:E)(n:Nat)(ops:Array Oper)(Q:XE->Fr->H->Prop)(K:Fr->H->Prop):List Nat->Fr->H->Prop
 |[],f,h=>K f h
 |i::is,f,h=>Gj e n ops i (lh e n ops Q K is) Q f h
theorem wR(hQ:∀v f h,¬Q (.pan v) f h)(hpl:kG ops=true){K:Fr->H->Prop}{fuel:Nat}:∀(tk:List Nat)(listed:Array Bool)(f:Fr)(h:H),uS e.P ops tk listed=true->lh e n ops Q K tk f h ->
 (∀f h pl w a,K f h->SSim e n ok pl0 w0 f h pl w a->wpAnyIn (RF r) 0 e.P .any ops (iE e n ok pl0 w0 Q) fuel (ng listed tk) a w)->∀pl w a,SSim e n ok pl0 w0 f h pl w a->wpAnyIn (RF r) 0 e.P .any ops (iE e n ok pl0 w0 Q) (fuel+tk.length) listed a w
 |[],listed,f,h,_,hv,hk,pl,w,a,s=>hk f h pl w a hv s
 |i::is,listed,f,h,ht,hv,hk,pl,w,a,s=>by
  simp only[uS,zqf]at ht;obtain⟨⟨⟨h1,h2⟩,h3⟩,h4⟩:=ht;cases ho:ops[i]? with
  |none=>rw[ho]at h1;cases h1
  |some o=>rw[ho]at h1;obtain⟨x,f',hy,s',hk'⟩:=rF ho h1 hv s;refine mD h1 ho hpl ?_ (fuel+is.length) listed a w (Region.free_spec ho h3) (by simpa using h2) hy (wR hQ hpl is _ f' h h4 hk' hk pl w _ s');rintro c a w ⟨pl',f',h',xe,_,hx,hq⟩;cases xe<;>first|exact hx.elim|exact(hQ _ _ _ hq).elim
def oD(P:Program)(ops:Array Oper)(tk pre:List Nat)(last:Nat)(p:Plan):Bool :=
 (ops.all fun o=> !ku o)&&kG ops&&uS P ops tk (Array.replicate ops.size false)&&WU ops last pre (ng (Array.replicate ops.size false) tk)&&BZ ops tk pre last &&
 (!tk.contains last&& !pre.contains last)&&bW P ops p (ops.size-tk.length-pre.length) (V5 ops tk pre)&&decide (tk.length+pre.length<=ops.size)
theorem sV{tk:List Nat}{P:Program}:∀(is:List Nat)(listed:Array Bool),uS P ops is listed=true->Ep ops listed->listed.size=ops.size->(∀i∈tk,i∉is->i<ops.size->listed.getD i false=true)->(∀i,i∉tk->listed.getD i false=false)->(∀i∈is,i∈tk) ->
 Ep ops (ng listed is)/\(ng listed is).size=ops.size/\(∀i∈tk,i<ops.size->(ng listed is).getD i false=true)/\(∀i,i∉tk->(ng listed is).getD i false=false)
 |[],listed,_,hc,hs,ht,hn,_=>⟨hc,hs,fun i hi hl=>ht i hi (by simp) hl,hn⟩
 |i::is,listed,hk,hc,hs,ht,hn,hm=>by
  simp only[uS,zqf]at hk;obtain⟨⟨⟨_,h2⟩,_⟩,h4⟩:=hk;refine sV is _ h4 (hc.set (by simpa using h2)) (by simpa using hs) (fun j hj hji hjs=> ?_) (fun j hj=> ?_) (fun j hj=>hm j (by simp[hj]))
  ·by_cases hij:i=j
   ·subst hij;have:i<listed.size:=by omega
    simp[this]
   ·exact getD_set_true (ht j hj (by simp[hji,Ne.symm hij]) hjs)
  ·have hij:i≠j:=fun hh=>by subst hh;exact hj (hm i (by simp))
   rw[getD_set_ne false hij];exact hn j hj
theorem Oi(hm:e.P.follows .mixedOrders=true){id:Nat}{f:Fr}(tk pre:List Nat)(last:Nat)(p:Plan)(R:Fr->H->Prop)(hB:oD e.P ops tk pre last p=true)
 (hv:lh e n ops (mX R) (fun f h=>lW e n ops h (fun f1=>gU e n ops (mX R) p f1 h) (rH ops pre) f) tk f h) (hk:∀f h,R f h->Q .normal f h):awp e n r (.region id ops true) Q f h:=by
 intro ok pl0 w0 pl w a s;unfold oD at hB;simp only[zqf,Bool.not_eq_true',zqb]at hB;obtain⟨⟨⟨⟨⟨⟨⟨b1,b2⟩,b3⟩,b4⟩,b5⟩,b6⟩,b7⟩,b8⟩:=hB;have hna:∀(j:Nat)(o:Oper),ops[j]? =some o->ku o=false:=fun j o ho=>by
  have h1:=Array.all_eq_true.1 b1;obtain⟨hl,rfl⟩:=Array.getElem?_eq_some_iff.1 ho;simpa using h1 j hl
 have hl:last∉tk/\last∉pre:=⟨by simpa using b6.1,by simpa using b6.2⟩;have x:WExt w {w with drawn:=w.drawn+1}:=WExt.drew w;obtain⟨c1,c2,c3,c4⟩:=sV (ops:=ops) (tk:=tk) tk (Array.replicate ops.size false) b3 Ep.none (by simp) (fun i hi hni=>absurd hi hni) (fun i hi=>by
  rcases Nat.lt_or_ge i ops.size with h'|h'<;>simp[h']) (fun i hi=>hi)
 have li:LI ops tk pre last (ng (Array.replicate ops.size false) tk):=⟨c1,c2,c3,fun i h1 _=>c4 i h1⟩;have hQ:∀v f h,¬mX R (.pan v) f h:=fun v f h hh=>hh;have:=wR (r:=r) (ok:=ok) (pl0:=pl0) (w0:=w0) (n:=n) (e:=e) (Q:=mX R) (fuel:=ops.size-tk.length-pre.length+pre.length) hQ b2 tk (Array.replicate ops.size false) f h b3 hv (fun f h pl w a hK s=>by
  have hL:=oC (e:=e) (n:=n) (h:=h) pre (ng (Array.replicate ops.size false) tk) f b4 (jS _ _ hK);exact Oh (r:=r) hna hQ b2 b5 hl b7 _ _ _ hL li pl w a s) pl _ a (s.next0 (s.hs.wext x) (x.keeps s.hs))
 rw [show ops.size - tk.length - pre.length + pre.length + tk.length = ops.size by omega] at this;refine wpIn_mono (wpIn_region_any hm this) ?_;rintro ex a' w' ⟨pl',f',h',xe,s',hx,hq⟩;cases xe <;> first
  |exact⟨pl',f',h',_,s',hx,hk _ _ hq⟩
  |exact hq.elim
end
section
variable{e:E}{n:Nat}{r:Option Nat}{ops:Array Oper}{h:H}{Q:XE->Fr->H->Prop}
theorem rJ(ops:Array Oper):∀k:Nat,rH ops (List.range k)=ops.toList.take k
 |0=>rfl
 |k+1=>by
  have ih:=rJ ops k;unfold rH at ih ⊢;rw[List.range_succ,List.filterMap_append,ih,zrg]
  congr 1
  rw[List.filterMap_cons,List.filterMap_nil,Array.getElem?_toList];cases ops[k]? <;>rfl
theorem yz{K:Fr->Prop}:∀(l:List Oper)(f:Fr),(∀o∈l,ku o=false)->ig e n ops h K l f->lW e n ops h K l f
 |[],_,_,hv=>hv
 |o::rest,f,ha,hv=>by
  have h0:=ha o (by simp);have hr:=fun f'=>yz (K:=K) rest f' fun o' ho'=>ha o' (by simp[ho']);simp only[lW,h0];simp only[ig]at hv;cases hg:gd ops f o with
  |none=>rw[hg]at hv;exact hv.elim
  |some g =>
   rw[hg]at hv;refine⟨hv.1,?_⟩;have hv:=hv.2;cases he:jZ o.op with
   |false=>rw[he]at hv;exact⟨hv.1,hr _ hv.2⟩
   |true =>
    rw[he]at hv;simp only at hv ⊢;split at hv
    ·rename_i fx args ats heq;split at hv
     ·rename_i q vs hc;obtain⟨rv,h1,h2⟩:=hv;simp only[heq,hc];exact⟨rv,h1,hr _ h2⟩
     ·exact hv.elim
    ·exact hv.elim
theorem ny(hm:e.P.follows .mixedOrders=true){id:Nat}{f:Fr}(k:Nat)(p:Plan)(R:Fr->H->Prop)(hB:oD e.P ops [] (List.range k) k p=true)
 (hv:∀K:Fr->Prop,(∀f1,gU e n ops (mX R) p f1 h->K f1)->ig e n ops h K (ops.toList.take k) f) (hk:∀f h,R f h->Q .normal f h):awp e n r (.region id ops true) Q f h:=by
 refine Oi hm [] (List.range k) k p R hB ?_ hk;simp only[lh];rw[rJ];refine yz _ _ (fun o ho=> ?_) (hv _ fun f1 h=>h);unfold oD at hB;simp only[zqf]at hB;have b1:=Array.all_eq_true.1 hB.1.1.1.1.1.1.1;obtain⟨i,hi,rfl⟩:=List.getElem_of_mem (zsh ho);have:=b1 i (by simpa using hi);simpa using this
end
section
variable{e:E}{h:H}
theorem ag.fresh{g:FuncId}{args:List V}{R:AEnd->H->(Nat->Bool)->Prop}(hc:ag e g args h fun ae h' p=>(∀i,i<h.length->p i=false)/\R ae h' (fun _=>false)):ag e g args h R :=
 fun ok pl w vs hs hl=>(hc ok pl w vs hs hl).mono fun en w' ⟨p,pl',h',ae,h1,h2,h3,h4,h5⟩ =>
  ⟨fun _=>false,pl',h',ae,h1,⟨h2.os,h2.tape,h2.output,h2.size,h2.same,h2.loc,fun i b _ hi=>h2.keep i b (h4 i (hs.pl_lt hi)) hi,h2.row⟩,h3,h5⟩
end
section
variable{e:E}{n:Nat}{r:Option Nat}{o:Oper}{f:Fr}{h:H}{Kn:Fr->H->Prop}{Q:XE->Fr->H->Prop}
end
section
variable{e:E}{n:Nat}
def DRs(c:C):List Deferred->List (FuncId×List V)->Prop
 |[],[]=>True
 |d::ds,x::l=>(∃(cs azs:Array Value),d={target:= .fn (.func x.1) cs,args:=azs}/\VList c x.2 (azs++cs).toList)/\DRs c ds l
 |_,_=>False
variable{ok:Nat->Prop}{pl pl':Nat->Option Nat}{w w':World}
theorem DRs.keeps{p:Nat->Bool}(k:Keeps p pl w pl' w'):∀ {ds:List Deferred} {l:List (FuncId×List V)},DRs (cx ok pl w) ds l->(∀x∈l,V.drops p x.2=x.2)->DRs (cx ok pl' w') ds l
 |[],[],_,_=>trivial
 |[],_::_,h,_=>h.elim
 |_::_,[],h,_=>h.elim
 |d::ds,x::l,⟨⟨cs,azs,h1,h2⟩,h3⟩,hd=>by
  refine⟨⟨cs,azs,h1,?_⟩,h3.keeps k fun y hy=>hd y (by simp[hy])⟩;have:=VList.mdrop k.cext _ _ h2
  rwa [hd x (by simp)]at this
theorem VList.app{c:C}:∀ {l m:List V} {x y:List Value},VList c l x->VList c m y->VList c (l++m) (x++y):=fun h1 h2=>VList.append h1 h2
end
section
variable{e:E}{n:Nat}{r:Option Nat}{o:Oper}{f:Fr}{h:H}{K:Fr->H->Prop}{Q:XE->Fr->H->Prop}
end
def bl(n k:Nat):Array Bool:=((List.range n).map fun i=>k.testBit i).toArray
noncomputable def zU : Code -> Nat -> List (Array Oper)
 | .region i ops _,k=>if i==k then [ops]else []
 | .seq a b,k=>zU a k++zU b k
 | .cond _ a b,k=>zU a k++zU b k
 | .loop a,k=>zU a k
 | .block _ a,k=>zU a k
 |_,_=>[]
noncomputable def KR(f:Func)(k:Nat):Array Oper:=match f.body with
 |some c=>(zU c k).headD #[]
 |none=>#[]
section
variable{P:Program}{ops:Array Oper}{i k:Nat}{p q:Plan}{L L':Array Bool}
theorem WV(h0:(Region.ready .any ops L==i::q.heads)=true)(hL:L.setIfInBounds i true=L')(hp:bW P ops p k L'=true)(hq:bW.planAlts P ops q k L=true):bW P ops (.alt i p q) (k+1) L=true:=by unfold bW;dsimp only;rw[h0,hL,hp,hq];rfl
theorem okA(hp:bW P ops p k L'=true)(hq:bW.planAlts P ops q k L=true)(h0:(Region.ready .any ops L==i::q.heads)=true:=by decide +kernel)(hL:L.setIfInBounds i true=L':=by decide +kernel):bW P ops (.alt i p q) (k+1) L=true:=WV h0 hL hp hq
end
section
variable{e:E}{n:Nat}
end
def WW(ops:Array Oper):Bool:=(List.range ops.size).all fun i=>match ops[i]? with
 |some o=>o.after.all fun q=> !(Region.binds .any q)||decide (q.on<i)
 |none=>true
section
variable{e:E}{n:Nat}{r:Option Nat}{ops:Array Oper}{Q:XE->Fr->H->Prop}{ok:Nat->Prop}{pl0:Nat->Option Nat}{w0:World}
theorem Oj(hB:WW ops=true){listed:Array Bool}(hs:listed.size=ops.size)(hr:Region.ready .any ops listed=[]):∀(k i:Nat),i<k->i<ops.size->listed.getD i false=true:=by
 intro k
 induction k with
 |zero=>intro i hi;exact absurd hi (Nat.not_lt_zero _)
 |succ k ih =>
  intro i hik hi;apply Classical.byContradiction;intro hn;have hn:listed.getD i false=false:=by simpa using hn
  have:i∈Region.ready .any ops listed:=by
   refine mem_ready.2 ⟨?_,ops[i],by simp[hi],fun q hq hb=> ?_⟩
   ·have:i<listed.size:=by omega
    simpa [Array.getD,this]using hn
   ·have h1:=zrs.1 hB i (by simpa using hi);have hio:ops[i]? =some ops[i]:=by simp[hi]
    rw[hio]at h1;dsimp only at h1;have h2:=(Array.all_eq_true_iff_forall_mem.1 h1) q hq;rw[hb]at h2;simp only[Bool.not_true,Bool.false_or,zqb]at h2;exact ih q.on (by omega) (by omega)
  rw[hr]at this;cases this
def Es(L:Array Bool):Nat:=L.toList.countP (!·)
variable{L:Array Bool}{i:Nat}
theorem Au(h:i<L.size)(hl:L.getD i true=false):Es L=Es (L.setIfInBounds i true)+1:=by
 have hi:i<L.toList.length:=by simpa using h
 have hg:L.toList[i]=false:=by simpa [Array.getD,h]using hl
 unfold Es;rw[Array.toList_setIfInBounds,List.countP_set hi,hg];have:0<L.toList.countP (!·):=List.countP_pos_iff.2 ⟨L.toList[i],zqu hi,by rw[hg];rfl⟩;rw[if_pos (show(!false)=true from rfl),if_neg (show ¬(!true)=true by decide)];omega
theorem WX(I:Array Bool->Fr->H->Prop)
 (hstep:∀L f h i,Ep ops L->I L f h->i∈Region.ready .any ops L->Gj e n ops i (fun f' h'=>I (L.setIfInBounds i true) f' h') Q f h)
 (hend:∀L f h,L.size=ops.size->I L f h->Region.ready .any ops L=[]->Q .normal f h) :
 ∀(fuel:Nat)(L:Array Bool)(f:Fr)(h:H),L.size=ops.size->Ep ops L->Es L<=fuel->I L f h->∀pl w a,SSim e n ok pl0 w0 f h pl w a->wpAnyIn (RF r) 0 e.P .any ops (iE e n ok pl0 w0 Q) fuel L a w:=by
 intro fuel
 induction fuel with
 |zero =>
  intro L f h hs hc hu hI pl w a s;have hr:Region.ready .any ops L=[]:=by
   match hm:Region.ready .any ops L with
   |[]=>rfl
   |i::_=>obtain⟨h0,o,ho,_⟩:=mem_ready.1 (show i∈Region.ready .any ops L by rw[hm];simp);have hlt:=(Array.getElem?_eq_some_iff.1 ho).1;have:=Au (L:=L) (i:=i) (by omega) h0;omega
  exact wpAnyIn_done hr ⟨pl,f,h,.normal,s,trivial,hend L f h hs hI hr⟩ 0
 |succ fuel ih =>
  intro L f h hs hc hu hI pl w a s;by_cases hr:Region.ready .any ops L=[]
  ·exact wpAnyIn_done hr ⟨pl,f,h,.normal,s,trivial,hend L f h hs hI hr⟩ (fuel+1)
  ·refine⟨fun h0=>absurd h0 hr,fun i hi=> ?_⟩;obtain⟨h0,o,ho,_⟩:=mem_ready.1 hi;have hlt:=(Array.getElem?_eq_some_iff.1 ho).1;have hun:=Au (L:=L) (i:=i) (by omega) h0;exact uI (hstep L f h i hc hI hi) (fun f h pl w a s hk=>ih _ f h (by simpa using hs) (hc.set hi) (by omega) hk pl w a s) s
def WY(ops:Array Oper)(i:Nat)(l:List Nat):Bool:=match ops[i]? with
 |some o=>l.all fun j=>o.after.any fun q=>Region.binds .any q&&(q.on==j)
 |none=>false
theorem aQ(hi:i∈Region.ready .any ops L){l:List Nat}(hl:WY ops i l=true):∀j∈l,L.getD j false=true:=by intro j hj;obtain⟨_,o,ho,hall⟩:=mem_ready.1 hi;unfold WY at hl;rw[ho]at hl;have h1:=zrs.1 hl j hj;rw[Array.any_eq_true]at h1;obtain⟨q,hq,h3⟩:=h1;rw[zqf,beq_iff_eq]at h3;rw[<-h3.2];have hmem:o.after[q]∈o.after:=Array.getElem_mem hq;have:=hall _ hmem h3.1;simpa using this
theorem jk(hi:i∈Region.ready .any ops L):L.getD i false=false:=by
 obtain⟨h0,o,ho,_⟩:=mem_ready.1 hi;rcases Nat.lt_or_ge i L.size with h|h
 ·simpa [Array.getD,h]using h0
 ·simp[Array.getD,Nat.not_lt.2 h]
theorem Cb(hi:i∈Region.ready .any ops L):i<ops.size:=by obtain⟨_,o,ho,_⟩:=mem_ready.1 hi;exact(Array.getElem?_eq_some_iff.1 ho).1
theorem kP(hi:i∈Region.ready .any ops L):i<L.size:=by
 obtain⟨h0,o,ho,_⟩:=mem_ready.1 hi;rcases Nat.lt_or_ge i L.size with h|h
 ·exact h
 ·simp[Array.getD,Nat.not_lt.2 h]at h0
theorem Cc(hm:e.P.follows .mixedOrders=true){id:Nat}(I:Array Bool->Fr->H->Prop){f:Fr}{h:H}(hB:WW ops=true)
 (h0:I (Array.replicate ops.size false) f h)
 (hstep:∀L f h i,Ep ops L->I L f h->i∈Region.ready .any ops L->Gj e n ops i (fun f' h'=>I (L.setIfInBounds i true) f' h') Q f h)
 (hend:∀L f h,(∀i,i<ops.size->L.getD i false=true)->I L f h->Q .normal f h):awp e n r (.region id ops true) Q f h:=by
 intro ok pl0 w0 pl w a s;have x : WExt w { w with drawn := w.drawn + 1 } := WExt.drew w;have := WX (e := e) (n := n) (r := r) (ops := ops) (Q := Q) (ok := ok) (pl0 := pl0) (w0 := w0) I hstep
  (fun L f h hs hI hr=>hend L f h (fun i hi=>Oj hB hs hr (i+1) i (Nat.lt_succ_self i) hi) hI)
  ops.size (Array.replicate ops.size false) f h (by simp) Ep.none (by unfold Es;exact Nat.le_trans (List.countP_le_length) (by simp)) h0 pl _ a (s.next0 (s.hs.wext x) (x.keeps s.hs))
 exact wpIn_region_any hm this
def FA(L:Array Bool)(f:Fr)(l:List (Nat×Nat×V)):Prop:=∀q∈l,L.getD q.1 false=true->f.t q.2.1=q.2.2
variable{f:Fr}{l:List (Nat×Nat×V)}{v:V}
theorem FA.put{d:Nat}(hf:FA L f l)
 (h1:∀q∈l,q.1=i->q.2.1=d/\q.2.2=v) (h2:∀q∈l,q.2.1=d->q.1=i):FA (L.setIfInBounds i true) (f.put (some d) v) l:=by
 intro q hq hl;by_cases hqi:q.1=i
 ·obtain⟨e1,e2⟩:=h1 q hq hqi;rw[e1,e2];simp[Fr.put]
 ·have hqd:q.2.1≠d:=fun h=>hqi (h2 q hq h);rw[getD_set_ne false (Ne.symm hqi)]at hl;have:=hf q hq hl;simpa [Fr.put,hqd]using this
theorem FA.skip(hf:FA L f l)(h1:∀q∈l,q.1≠i):FA (L.setIfInBounds i true) f l:=by intro q hq hl;rw[getD_set_ne false (Ne.symm (h1 q hq))]at hl;exact hf q hq hl
theorem FA.none{m:Nat}:FA (Array.replicate m false) f l:=by
 intro q _ hl;exfalso;rcases Nat.lt_or_ge q.1 m with h|h
 ·simp[h]at hl
 ·simp[h]at hl
end
section
variable{e:E}{n:Nat}{r:Option Nat}{o:Oper}{f:Fr}{h:H}{Kn:Fr->H->Prop}{Q:XE->Fr->H->Prop}
end
section
variable{e:E}{n:Nat}{r:Option Nat}{o:Oper}{f:Fr}{h:H}{Kn:Fr->H->Prop}{Q:XE->Fr->H->Prop}
end
section
variable{e:E}{n:Nat}{r:Option Nat}{ops:Array Oper}{h:H}{Q:XE->Fr->H->Prop}
variable{o:Oper}
theorem AQ.lend{fx:Operand}{args:Array Operand}{ts:Array TypeId}(hop:o.op= .call {callee:= .value fx,args:=args,argTypes:=ts}){ρ:Operand->V}{g:FuncId}{vs vs':List V}{rv:V}
 (hon:lV e ρ fx args=some (g,vs)) (hsc:eU ρ fx args) (hen:au e.P g=true) (hr:aj e h vs vs') (hv:Ev e g vs' rv) (hp:rv.plain=true):AQ e o ρ h rv:=by
 intro ok pl w ev hs hre;obtain⟨xs,hrun,hl⟩:=su (e:=e) hop hre hon hsc hen;rw[hrun];exact(hv ok w xs hs.lend (hr ok pl w xs hs hl)).mono fun en w' ⟨x,h1,h2,h3⟩=>⟨x,h1,h2,h3.plain hp⟩
def zV(e:E)(h:H)(g:Bool)(q:FuncId)(vs:List V)(sc:Prop)(dst:Option Tmp)(Kn:Fr->Prop)(f:Fr):Prop :=
 ∃rv,(g=true->sc/\au e.P q=true/\((V.dats vs=true/\Ev e q vs rv)\/∃vs',aj e h vs vs'/\Ev e q vs' rv/\rv.plain=true))/\Kn (f.put dst (V.guard g rv))
variable{dst:Option Tmp}{f:Fr}
theorem zV.mk{q:FuncId}{vs vs':List V}{Kn:Fr->Prop}{rv:V}(hv:Ev e q vs' rv)(h2:au e.P q=true)(hr:aj e h vs vs')(hp:rv.plain=true)(hk:Kn (f.put dst rv)):zV e h true q vs True dst Kn f :=
 ⟨rv,fun _=>⟨trivial,h2,.inr ⟨vs',hr,hv,hp⟩⟩,hk⟩
def fQ(e:E)(n:Nat)(ops:Array Oper)(h:H)(Q:Fr->Prop):List Oper->Fr->Prop
 |[],f=>Q f
 |o::rest,f =>
  match gd ops f o with
  |none=>False
  |some g=>jU n o.dst=true /\
   match jZ o.op with
   |true=>match o.op with
    | .call {callee:= .value fx,args,..}=>match lV e (f.ev e) fx args with
     |some (q,vs)=>zV e h g q vs (eU (f.ev e) fx args) o.dst (fQ e n ops h Q rest) f
     |none=>False
    |_=>False
   |false=>goQ g (vP e.P o (f.ev e) h) o.dst (fQ e n ops h Q rest) f
theorem lq{Q Q':Fr->Prop}{tl:List Oper}(hq:∀f,Q f->sU e n ops h Q' tl f):∀(l:List Oper)(f:Fr),(∀o∈l,ku o=false)->fQ e n ops h Q l f->sU e n ops h Q' (l++tl) f
 |[],f,_,hv=>hq f hv
 |o::rest,f,ha,hv=>by
  have hal:=ha o (by simp);have hr:=fun f'=>lq hq rest f' fun o' ho'=>ha o' (by simp[ho']);simp only[fQ]at hv;cases hg:gd ops f o with
  |none=>rw[hg]at hv;exact hv.elim
  |some g =>
   rw[hg]at hv;obtain⟨hd,hv⟩:=hv;cases he:jZ o.op with
   |true =>
    rw[he]at hv;dsimp only at hv;split at hv
    ·rename_i fx args ts hop;split at hv
     ·rename_i q vs hon;obtain⟨rv,h1,h2⟩:=hv;exact⟨_,.inr ⟨hal,hd,g,rv,hg,fun hgt=>by
       obtain⟨c1,c2,c3⟩:=h1 hgt;rcases c3 with⟨c3,c4⟩|⟨vs',c3,c4,c5⟩
       ·exact AQ.call hop hon c1 c2 c3 c4
       ·exact AQ.lend hop hon c1 c2 c3 c4 c5,rfl⟩,hr _ h2⟩
     ·exact hv.elim
    ·exact hv.elim
   |false=>rw[he]at hv;dsimp only at hv;obtain⟨h1,h2⟩:=hv;exact⟨_,.inr ⟨hal,hd,g,_,hg,fun hgt=>nY (h1 hgt),rfl⟩,hr _ h2⟩
theorem Ol(hm:e.P.follows .mixedOrders=true){id:Nat}{f:Fr}(tk:List Nat)(last:Nat)(p:Plan)(R:Fr->H->Prop)(hB:oD e.P ops tk (List.range last) last p=true)
 (hv:∀K:H->Fr->Prop,(∀h' f1,gU e n ops (mX R) p f1 h'->K h' f1)->lh e n ops (mX R) (fun f h'=>fQ e n ops h' (K h') (ops.toList.take last) f) tk f h) (hk:∀f h,R f h->Q .normal f h):awp e n r (.region id ops true) Q f h:=by
 intro ok pl0 w0 pl w a s;obtain⟨pre,hpre⟩:∃pre,pre=List.range last:=⟨_,rfl⟩;have hv:=hv _ fun h' f1 h=>h;rw[<-rJ]at hv;rw[<-hpre]at hB hv;unfold oD at hB;simp only[zqf,Bool.not_eq_true',zqb]at hB;obtain⟨⟨⟨⟨⟨⟨⟨b1,b2⟩,b3⟩,b4⟩,b5⟩,b6⟩,b7⟩,b8⟩:=hB;have hna:∀(j:Nat)(o:Oper),ops[j]? =some o->ku o=false:=fun j o ho=>by
  have h1:=Array.all_eq_true.1 b1;obtain⟨hl,rfl⟩:=Array.getElem?_eq_some_iff.1 ho;simpa using h1 j hl
 have hl:last∉tk/\last∉pre:=⟨by simpa using b6.1,by simpa using b6.2⟩;have x:WExt w {w with drawn:=w.drawn+1}:=WExt.drew w;obtain⟨c1,c2,c3,c4⟩:=sV (ops:=ops) (tk:=tk) tk (Array.replicate ops.size false) b3 Ep.none (by simp) (fun i hi hni=>absurd hi hni) (fun i hi=>by
  rcases Nat.lt_or_ge i ops.size with h'|h'<;>simp[h']) (fun i hi=>hi)
 have li:LI ops tk pre last (ng (Array.replicate ops.size false) tk):=⟨c1,c2,c3,fun i h1 _=>c4 i h1⟩;have hQ:∀v f h,¬mX R (.pan v) f h:=fun v f h hh=>hh;have:=wR (r:=r) (ok:=ok) (pl0:=pl0) (w0:=w0) (n:=n) (e:=e) (Q:=mX R) (fuel:=ops.size-tk.length-pre.length+pre.length) hQ b2 tk (Array.replicate ops.size false) f h b3 hv (fun f h pl w a hK s=>by
  have hL:=oC (e:=e) (n:=n) (h:=h) pre (ng (Array.replicate ops.size false) tk) f b4 (by
   have:=lq (tl:=[]) (fun f hf=>hf) _ _ (fun o ho=> ?_) hK
   ·rw[zqp]at this;exact this
   ·unfold rH at ho;obtain⟨j,_,hj⟩:=List.mem_filterMap.1 ho;exact hna j o hj)
  exact Oh (r:=r) hna hQ b2 b5 hl b7 _ _ _ hL li pl w a s) pl _ a (s.next0 (s.hs.wext x) (x.keeps s.hs))
 rw [show ops.size - tk.length - pre.length + pre.length + tk.length = ops.size by omega] at this;refine wpIn_mono (wpIn_region_any hm this) ?_;rintro ex a' w' ⟨pl',f',h',xe,s',hx,hq⟩;cases xe <;> first
  |exact⟨pl',f',h',_,s',hx,hk _ _ hq⟩
  |exact hq.elim
theorem yA(hm:e.P.follows .mixedOrders=true){id:Nat}{f:Fr}(last:Nat)(p:Plan)(R:Fr->H->Prop)(hB:oD e.P ops [] (List.range last) last p=true)
 (hv:∀K:Fr->Prop,(∀f1,gU e n ops (mX R) p f1 h->K f1)->fQ e n ops h K (ops.toList.take last) f) (hk:∀f h,R f h->Q .normal f h):awp e n r (.region id ops true) Q f h :=
 Ol hm [] last p R hB (fun K hK=>hv _ fun f1 h=>hK _ f1 h) hk
variable{c:Code}
theorem yB(id j:Nat)(v:V)(hj:(f.t j).drop (fun i=> !(i==id))=f.t j)(hr:aH e (uK (·==id) 0 h) (f.t j) v)(hd:f.d=[])
 (hw:awp e n r c Q {f with t:=fun i=>if i=j then v else(f.t i).drop (·==id),k:=fun i=>f.k i||(i==id)} (qN (·==id) 0 h)):awp e n r c Q f h:=by
 refine BP (·==id) _ (fun i=> ?_) (by rw[hd];simp) hw;by_cases hi:i=j
 ·subst hi;exact .inr ⟨hj,by rw[if_pos rfl];exact hr⟩
 ·exact .inl (by rw[if_neg hi])
end
section
variable{P:Program}{w:World}
variable{re:TI}{z ze zx:Value}{kx:IntKind}
theorem wJ{ts:Array TypeId}{t xt ty el:TypeId}{r rx:TI}{i ie ix:TypeInfo}{de:TypeDesc}(h0:ts[0]? =some t)(h1:ts[1]? =some xt)
 (hT:TIs P t r i (.slice el) z) (hE:TIs P el re ie de ze) (hX:TIs P xt rx ix (.int kx) zx) (hsz:re.size=1)
 (base:Option Addr) (sLen sCap m:Nat) (olds:Array Value)
 (ho:(Builtin.firstCells re.size sLen (.slice base sLen sCap)).run P w.drew= .ok olds w.drew) (hm1:m<=1000000000000) (hle:sLen<=sCap)
 (hg:sCap<sLen+m) (h63:sLen+m<=maxLen) (hb:(sLen+m)*re.bytes<=140737488355328) :
 (Builtin.append_ ts ty #[.slice base sLen sCap,.int .i64 m]).run P w =
  .ok (.slice (some ⟨w.heap.size,0,none⟩) (sLen + m) (grownCap w (sLen + m) sCap el))
   (w.drew.alloc (.cells (olds++Builtin.zeroCells ze.cells m++Builtin.zeroCells ze.cells (grownCap w (sLen+m) sCap el-(sLen+m))) el)):=by
 have hn':¬(sLen+m<=sCap):=by omega
 have h48':¬(281474976710656<Builtin.nextslicecap (sLen+m) sCap*re.bytes):=by have:=growslice_fits hg hb;omega
 have hw:IntKind.i64.wrap (m:Int)=m:=aU (by omega) (by omega);have hbytes:(typeInfo el).run P w= .ok ie w:=by simp[typeInfo,hE.info]
 have hneg:¬((m:Int)<0):=by omega
 have hbig:¬((281474976710656:Int)<(m:Int)*ie.bytes):=by
  have h1:m*re.bytes<=(sLen+m)*re.bytes:=Nat.mul_le_mul_right _ (by omega);have h2:((m*re.bytes:Nat):Int)<=140737488355328:=by omega
  rw[<-hE.bytes];rw[Int.natCast_mul]at h2;omega
 have h63':¬(9223372036854775807<((sLen:Int)+(m:Int))):=by simp only[maxLen]at h63;omega
 unfold Builtin.append_;simp only[h0,h1,List.getElem?_toArray,List.getElem?_cons_zero,List.getElem?_cons_succ,Sem.run_bind,hT.run_und,Result.andThen,hE.run_size,hX.run_und,Sem.run_pure];have hm:m≠0:=by omega
 rw[hsz]at ho;simp[asInt,asIntOf,hw,hneg,hbig,hbytes,Result.andThen,hn',h63',hE.bytes▸h48',Question.forced,ho,hE.run_zero,newRow,grownCap,typeInfo,hE.info,hsz,hm]
theorem oU{ts:Array TypeId}{t xt ty el:TypeId}{r rx:TI}{i ie ix:TypeInfo}{de:TypeDesc}(h0:ts[0]? =some t)(h1:ts[1]? =some xt)
 (hT:TIs P t r i (.slice el) z) (hE:TIs P el re ie de ze) (hX:TIs P xt rx ix (.int kx) zx) (hsz:re.size=1)
 (base:Option Addr) (sLen sCap m:Nat) (hm1:m<=1000000000000) (hb:(sLen+m)*re.bytes<=140737488355328) (hg:sLen+m<=sCap) {w':World}
 (hs:(base=none/\w'=w)\/∃a,base=some a/\(storeCells (a.add (sLen*re.size)) (Builtin.zeroCells ze.cells m).toList).run P w= .ok () w') :
 (Builtin.append_ ts ty #[.slice base sLen sCap,.int .i64 m]).run P w= .ok (.slice base (sLen+m) sCap) w':=by
 have hw:IntKind.i64.wrap (m:Int)=m:=aU (by omega) (by omega);have hbytes:(typeInfo el).run P w= .ok ie w:=by simp[typeInfo,hE.info]
 have hneg:¬((m:Int)<0):=by omega
 have hbig:¬((281474976710656:Int)<(m:Int)*ie.bytes):=by
  have h1:m*re.bytes<=(sLen+m)*re.bytes:=Nat.mul_le_mul_right _ (by omega);have h2:((m*re.bytes:Nat):Int)<=140737488355328:=by omega
  rw[<-hE.bytes];rw[Int.natCast_mul]at h2;omega
 unfold Builtin.append_;simp only[h0,h1,List.getElem?_toArray,List.getElem?_cons_zero,List.getElem?_cons_succ,Sem.run_bind,hT.run_und,Result.andThen,hE.run_size,hX.run_und,Sem.run_pure];by_cases hm:m=0
 ·subst hm;have hz0:Builtin.zeroCells ze.cells 0=#[]:=by simp[Builtin.zeroCells]
  have hw0:IntKind.i64.wrap 0=0:=by decide
  rw[hz0]at hs;rcases hs with⟨rfl,rfl⟩|⟨a,rfl,hs⟩
  ·simp[asInt,asIntOf,hw0,hbytes,Result.andThen,show sLen<=sCap by omega]
  ·have hs':(storeCells (a.add (sLen*re.size)) []).run P w= .ok () w':=hs;simp[asInt,asIntOf,hw0,hbytes,Result.andThen,show sLen<=sCap by omega,hs']
 ·rcases hs with⟨rfl,rfl⟩|⟨a,rfl,hs⟩
  ·simp[asInt,asIntOf,hw,hneg,hbig,hbytes,Result.andThen,hg,hE.run_zero,hsz,hm]
  ·simp[asInt,asIntOf,hw,hneg,hbig,hbytes,Result.andThen,hg,hE.run_zero,hsz,hm]at hs ⊢;simp[hs,Result.andThen]
end
section
variable{e:E}{n:Nat}{r:Option Nat}{o:Oper}{f:Fr}{h:H}{Kn:Fr->H->Prop}{Q:XE->Fr->H->Prop}
variable{re:TI}
theorem oW{x y:Operand}{t xt el:TypeId}{q:TI}(ha:IsAppend e o x y t xt el q re)(hxc:(f.ev e x).sc)(hyc:(f.ev e y).sc)
 {id len cap:Nat} (hx:(f.ev e x).sv= .ls id re.size 0 len cap) {cs0:List V} (hc:h[id]? =some (.cells cs0)) (hcl:cs0.length=len*re.size)
 {m:Nat} (hy:(f.ev e y).sv= .int .i64 m) {rx:TI} {kx:IntKind} (hxt:Abs.ti e.P xt=some rx) (hkx:rx.kind= .int kx) (hm1:m<=1000000000000) (hs1:re.size=1) {zv:V} (hzv:re.zero.vc=[zv]) {cs:List V} (hcs:cs=List.replicate m zv) (h1:cZ cs=true)
 (hbig:len+m<=maxLen) (hbytes:(len+m)*re.bytes<=140737488355328) (hid:∀i∈f.d,(i==id)=false)
 (hk:Kn ((f.drop (·==id)).put o.dst (.ls id re.size 0 (len+m) (len+m))) ((h.map (O.drop (·==id))).set id (.cells (V.drops (·==id) (cs0++cs))))):Eff e n r o f h Kn Q:=by
 obtain⟨⟨ts,hop,ht0,ht1⟩,hti,hkind,htie,hzf,hzl,hpos⟩:=ha;refine bG ?_ (fun c=>by rw[hop];exact fun h=>by cases h);intro ok pl w ev hs hr;obtain⟨i,d,z,hT⟩:=aT hti;have hd:=hT.slice hkind;subst hd;obtain⟨ie,de,ze,hE⟩:=aT htie;obtain⟨ix,dx,zx,hX⟩:=aT hxt;have hdx:=hX.int hkx;subst hdx;have hxv:=(hr x (by simp[hop,Op.operands,Call.operands])).sv hxc;have hyv:=(hr y (by simp[hop,Op.operands,Call.operands])).sv hyc;have hx':=hxv;rw[hx]at hx';obtain⟨olds,ho1,ho2,ho3,ho4⟩:=rC (k:=re.size) (n:=len) (cs:=cs0) hs hx' (by
  have:dN h id=cs0:=by simp[dN,hc]
  simp only[lU,this];rw[if_pos ⟨trivial,by omega⟩];simp only[List.drop_zero];rw[zqh (by omega)]) rfl
 rw[hy]at hyv;simp only[VRel]at hyv;have hzr:=(fZ (cx ok pl w) ze).vc (by rw[<-hE.zv];exact hzf);rw[<-hE.zv,hzv]at hzr;obtain⟨zc,hzc,hzrel⟩:∃zc,ze.cells.toList=[zc]/\VRel (cx ok pl w) zv zc:=by
  simp only[VList]at hzr;obtain⟨y,ys,h1,h2,rfl⟩:=hzr;exact⟨y,h1,h2⟩
 have hvz:∀k,VList (cx ok pl w) (List.replicate k zv) (List.replicate k zc):=by
  intro k
  induction k with
  |zero=>simp[VList]
  |succ k ih=>simp only[List.replicate_succ,VList];exact⟨_,_,rfl,hzrel,ih⟩
 obtain⟨news,hnews0⟩:∃news,news=Builtin.zeroCells ze.cells m:=⟨_,rfl⟩;have hnz:news.toList=List.replicate m zc:=by
  have:ze.cells=#[zc]:=Array.toList_inj.1 hzc;rw[hnews0];apply List.ext_getElem?;intro j;simp[Builtin.zeroCells,this,List.getElem?_replicate];by_cases hj:j<m
  ·rw[List.getElem?_range hj,if_pos hj];simp[Nat.mod_one]
  ·rw[zsj (by simp;omega),if_neg hj];rfl
 have hn3:VList (cx ok pl w) cs news.toList:=by rw[hcs,hnz];exact hvz m
 have hn4:cs.length=m*re.size:=by rw[hcs,hs1];simp
 simp only[VRel]at hx';obtain⟨base,cp,hbase,hcap,hlen,hmax,hpl⟩:=hx';have hol:=ho3.length;have hnl:=hn3.length;have hidl:id<h.length:=(zqe hc).1;by_cases hroom:len+m<=cp
 ·rcases hpl with hcp|⟨b,arr,el',fz,hb,hbs,harr,hsz⟩
  ·have hm0:m=0:=by omega
   have hl0:len=0:=by omega
   subst hm0;subst hl0;subst hcp;have hcs:cs=[]:=zse (by omega);have hcs0:cs0=[]:=zse (by omega);subst hcs;subst hcs0;have hnews:news.toList=[]:=zse (by omega);have hrun:=oU (P:=e.P) (w:=w) (ty:=o.type) ht0 ht1 hT hE hX hs1 base 0 0 0 hm1 (by omega) (by omega) (w':=w) (by
    cases base with
    |none=>exact .inl ⟨rfl,rfl⟩
    |some a=>exact .inr ⟨a,rfl,by rw[<-hnews0,hnews];rfl⟩)
   obtain⟨hs',kk⟩:=hs.kill (·==id);have hset:(h.map (O.drop (·==id))).set id (.cells (V.drops (·==id) ([]++[])))=h.map (O.drop (·==id)):=by
    apply List.ext_getElem?;intro j;by_cases hj:j=id
    ·subst hj;rw[zqt (by simpa using hidl),zqo,hc];simp[O.drop,V.drops]
    ·rw[zqn (Ne.symm hj)]
   rw[hset]at hk;refine⟨(·==id),_,_,pl,w,.slice base 0 0,.inl ?_,hs',kk,?_,hid,hk⟩
   ·rw[fJ hop,hbase,hyv];exact iQ hrun
   ·simp only[VRel];exact⟨base,0,rfl,by omega,by omega,by simp[maxLen],.inl rfl⟩
  ·subst hbs;have hb':pl id=some b:=hb;obtain⟨ob,hob,hat⟩:=hs.obj id b hb';rw[hc]at hob;cases hob;obtain⟨arr2,el2,fz2,g1,g2,g3,g4⟩:=hat;have harr':w.heap[b]? =some (.cells arr el' fz):=harr;have g1':w.heap[b]? =some (.cells arr2 el2 fz2):=g1;rw[harr']at g1';cases g1';have hfit:cs0.length+news.toList.length<=arr.size:=by
    rw[hnl,hcl,hn4,<-Nat.add_mul];have:=Nat.mul_le_mul_right re.size hroom;omega
   have hfit':cs0.length+news.size<=arr.size:=by simpa using hfit
   have hnsz:news.size=cs.length:=by simpa using hnl
   have hst':=kV (P:=e.P) (o:=cs0.length) harr' g2 hfit (hn3.oneCells h1);have hw:=jQ (b:=b) news.toList cs0.length arr w harr' hfit;obtain⟨w',hw'⟩:∃w',w.setCells b cs0.length news.toList=w':=⟨_,rfl⟩;rw[hw']at hst' hw;have hrun:=oU (P:=e.P) (w:=w) (ty:=o.type) ht0 ht1 hT hE hX hs1 (some ⟨b,0,none⟩) len cp m hm1 hbytes hroom (w':=w') (.inr ⟨_,rfl,by
    rw[fF,Nat.zero_add,<-hcl,<-hnews0];exact hst'⟩)
   have hkk:Keeps (·==id) pl w (fun i=>if i=id then some b else pl i) w':=by
    refine⟨hw.os,hw.tape,hw.output,by rw[hw.size];exact zrb _,fun b' hb1 hn'=>hw.same b' (fun he=>hn' id (he▸hb')),fun i b' hi=> ?_,fun i b' hp hi=> ?_,fun b' a1 e1 z1 hb1=> ?_⟩
    ·split at hi
     ·cases hi;exact .inl ⟨id,hb'⟩
     ·exact .inl ⟨i,hi⟩
    ·have:i≠id:=by simpa using hp
     rw[if_neg this];exact hi
    ·by_cases he:b'=b
     ·subst he;rw[harr']at hb1;cases hb1;exact⟨_,_,hw.here,by simp;omega⟩
     ·exact⟨a1,z1,(hw.same b' he).trans hb1,rfl⟩
   have hsize':(arr.toList.take cs0.length++news.toList++arr.toList.drop (cs0.length+news.toList.length)).toArray.size=arr.size:=by simp;omega
   have hs' := hs.replace hidl (nb := b) (w' := w') (o' := .cells (V.drops (· == id) (cs0 ++ cs))) hkk (by rw [hw.size];exact bF harr') (fun j hj hjb => hj (hs.inj j id b hjb hb'))
    (fun j b' hj hjb=>hw.same b' (fun he=>hj (hs.inj j id b (he▸hjb) hb'))) (by
     refine⟨_,el',fz,hw.here,fun j hj=>g2 j (by omega),?_,?_⟩
     ·rw[dG,hsize',zqa];omega
     ·have hq:(V.drops (·==id) (cs0++cs)).length=cs0.length+news.toList.length:=by rw[dG,zqa];omega
      rw[hq];have e1:(arr.toList.take cs0.length++news.toList++arr.toList.drop (cs0.length+news.toList.length)).toArray.toList.take (cs0.length+news.toList.length)=arr.toList.take cs0.length++news.toList:=by
       have e2:(arr.toList.take cs0.length++news.toList).length=cs0.length+news.toList.length:=by simp only[zqa,zrl,Array.length_toList];omega
       show(arr.toList.take cs0.length++news.toList++arr.toList.drop (cs0.length+news.toList.length)).take (cs0.length+news.toList.length)=_;rw[List.take_append_of_le_length (by omega),zqh (by omega)]
      rw[e1];exact VList.mdrop hkk.cext _ _ (g4.append hn3))
   refine⟨(·==id),_,_,_,w',.slice (some ⟨b,0,none⟩) (len+m) cp,.inl ?_,hs',hkk,?_,hid,hk⟩
   ·rw[fJ hop,hbase,hyv];exact iQ hrun
   ·simp only[VRel];exact⟨_,cp,rfl,hroom,hroom,hmax,.inr ⟨b,_,el',fz,by simp[cx],rfl,hw.here,by rw[hsize'];omega⟩⟩
 ·have hrun:=wJ (P:=e.P) (w:=w) (ty:=o.type) ht0 ht1 hT hE hX hs1 base len cp m olds (by rw[<-hbase];exact ho2 _ (fun _=>rfl)) hm1 (by omega) (by omega) hbig hbytes;rw[<-hnews0]at hrun;obtain⟨cap',hcap'⟩:∃cap',grownCap w (len+m) cp el=cap':=⟨_,rfl⟩;have hge:=grownCap_ge w (len+m) cp el;have hle:=grownCap_le_maxLen w (len+m) cp el hbig;rw[hcap']at hrun hge hle;obtain⟨arr,harr⟩:∃arr,olds++news++Builtin.zeroCells ze.cells (cap'-(len+m))=arr:=⟨_,rfl⟩;rw[harr]at hrun;have hzs:ze.cells.size=re.size:=by have hzr:=(fZ (cx ok pl w) ze).vc (by rw[<-hE.zv];exact hzf);have:=hzr.length;rw[<-hE.zv,hzl]at this;simpa using this
  have hasz:arr.size=cap'*re.size:=by rw[<-harr];simp only[Array.size_append,size_zeroCells,hzs];simp only[Array.length_toList]at hol hnl;rw[hol,hnl,ho4,hn4,<-Nat.add_mul,<-Nat.add_mul];congr 1;omega
  have hlist:arr.toList.take (cs0++cs).length=olds.toList++news.toList:=by rw[<-harr];simp only[Array.toList_append];rw[List.take_append_of_le_length (by simp only[zqa];omega),zqh (by simp only[zqa];omega)]
  have x2:=(WExt.drew w).trans (WExt.alloc w.drew (.cells arr el));have hhere:(w.drew.alloc (.cells arr el)).heap[w.heap.size]? =some (.cells arr el):=World.alloc_heap_new w.drew (.cells arr el);have hkk:Keeps (·==id) pl w (fun i=>if i=id then some w.heap.size else pl i) (w.drew.alloc (.cells arr el)):=by
   refine⟨rfl,rfl,rfl,x2.size,fun b' hb1 _=>x2.same b' hb1,fun i b' hi=> ?_,fun i b' hp hi=> ?_,fun b' a1 e1 z1 hb1=>⟨a1,z1,(x2.same b' (bF hb1)).trans hb1,rfl⟩⟩
   ·split at hi
    ·cases hi;exact .inr (zrb _)
    ·exact .inl ⟨i,hi⟩
   ·have:i≠id:=by simpa using hp
    rw[if_neg this];exact hi
  have hs' := hs.replace hidl (nb := w.heap.size) (o' := .cells (V.drops (· == id) (cs0 ++ cs))) hkk (by simp) (fun j hj hjb => by have := hs.lt j _ hjb;omega)
   (fun j b' hj hjb=>x2.same b' (hs.lt j b' hjb)) (by
    refine⟨arr,el,(0,0),hhere,fun j _=>by simp,?_,?_⟩
    ·rw[dG,hasz,zqa,ho4,hn4,<-Nat.add_mul];exact Nat.mul_le_mul_right _ hge
    ·rw[dG,hlist];exact VList.mdrop hkk.cext _ _ (ho3.append hn3))
  refine⟨(·==id),_,_,_,_,.slice (some ⟨w.heap.size,0,none⟩) (len+m) cap',.inl ?_,hs',hkk,?_,hid,hk⟩
  ·rw[fJ hop,hbase,hyv];exact iQ hrun
  ·simp only[VRel];exact⟨_,cap',rfl,hge,hge,hle,.inr ⟨w.heap.size,arr,el,(0,0),by simp[cx],rfl,hhere,by rw[hasz];omega⟩⟩
end
end Go.Abs
