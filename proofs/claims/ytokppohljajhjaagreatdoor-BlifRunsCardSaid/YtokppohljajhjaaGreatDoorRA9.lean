/- Lemmas for this claim, part A9: each holds under what it names. -/
import Derived.Test.YtokppohljajhjaaGreatDoorRA8
set_option linter.all false
namespace Go.Abs
open Go Go.RowKit
section
variable{e:E}{n:Nat}{r:Option Nat}{ops:Array Oper}{Q:XE->Fr->H->Prop}{ok:Nat->Prop}{pl0:Nat->Option Nat}{w0:World}{h:H}
def dB(o:Oper):Bool:=match o.op with | .alloc _=>true|_=>false
def mM(e:E)(n:Nat)(ops:Array Oper)(h:H)(o:Oper)(v:V)(f:Fr):Prop :=
 (dB o=true/\o.guard=none/\iT n o.dst=true/\v= .any)\/(dB o=false/\kY e n ops h o v f)
theorem mM.put{o:Oper}{v:V}{f:Fr}(hy:mM e n ops h o v f){dst:Option Tmp}{u:V}(hd:∀d,dst=some d->d∉o.looksAt ops):mM e n ops h o v (f.put dst u) :=
 hy.imp id fun h=>⟨h.1,h.2.put hd⟩
theorem mM.unput{o:Oper}{v:V}{f:Fr}{dst:Option Tmp}{u:V}(hy:mM e n ops h o v (f.put dst u))(hd:∀d,dst=some d->d∉o.looksAt ops):mM e n ops h o v f :=
 hy.imp id fun h=>⟨h.1,h.2.unput hd⟩
def uD(e:E)(n:Nat)(ops:Array Oper)(h:H)(i:Nat)(Kn:Fr->Prop)(f:Fr):Prop :=
 match ops[i]? with
 |none=>Kn f
 |some o=>∃v,mM e n ops h o v f/\Kn (f.put o.dst v)
theorem II{i:Nat}{f:Fr}{K K':Fr->Prop}(hh:∀f,K f->K' f)(hq:uD e n ops h i K f):uD e n ops h i K' f:=by
 unfold uD at *;split
 ·exact hh _ (by simpa [*]using hq)
 ·rename_i o ho;simp only[ho]at hq;obtain⟨v,h1,h2⟩:=hq;exact⟨v,h1,hh _ h2⟩
theorem KU{j:Nat}{oi oj:Oper}{v:V}(hj:ops[j]? =some oj)(hap:oi.apart ops oj=true){K:Fr->Prop}{f:Fr}
 (hy:mM e n ops h oi v f) (hq:uD e n ops h j K (f.put oi.dst v)) :
 uD e n ops h j (fun f'=>mM e n ops h oi v f'/\K (f'.put oi.dst v)) f:=by
 obtain⟨h1,h2,h3⟩:=Oper.apart_spec hap;unfold uD at *;simp only[hj]at *;obtain⟨u,hu,hn⟩:=hq;exact⟨u,hu.unput h1,hy.put h3,by rw[<-Fr.put_comm f v u h2];exact hn⟩
def uS(e:E)(n:Nat)(ops:Array Oper)(h:H)(Q:Fr->Prop):List Oper->Fr->Prop
 |[],f=>Q f
 |o::rest,f=>∃v,mM e n ops h o v f/\uS e n ops h Q rest (f.put o.dst v)
def ug(e:E)(n:Nat)(ops:Array Oper)(h:H)(last:Nat)(Q:Fr->Prop):Nat->Array Bool->Fr->Prop
 |0,listed,f=>Region.ready .any ops listed=[last]/\Q f
 |fuel+1,listed,f=>Region.ready .any ops listed≠[]/\(Region.ready .any ops listed=[last]->Q f) /\
  ∀i∈Region.ready .any ops listed,i≠last->uD e n ops h i (ug e n ops h last Q fuel (listed.setIfInBounds i true)) f
theorem uh{last:Nat}{Q:Fr->Prop}{i:Nat}{oi:Oper}{v:V}(hi:ops[i]? =some oi)(hil:i≠last) :
 ∀(fuel:Nat)(listed:Array Bool)(f:Fr),
  (∀j oj,ops[j]? =some oj->j≠i->listed.getD j true=false->(∀e∈oj.after,Region.binds .any e=true->e.on≠i)->oi.apart ops oj=true) ->
  i∈Region.ready .any ops listed->mM e n ops h oi v f ->
  ug e n ops h last Q fuel (listed.setIfInBounds i true) (f.put oi.dst v)->ug e n ops h last Q (fuel+1) listed f:=by
 have own:∀ {K:Fr->Prop} {f:Fr},mM e n ops h oi v f->K (f.put oi.dst v)->uD e n ops h i K f:=by intro K f hy hk;unfold uD;rw[hi];exact⟨v,hy,hk⟩
 have one:∀ {listed:Array Bool} {R:Prop},i∈Region.ready .any ops listed->Region.ready .any ops listed=[last]->R:=by intro listed R hr h;rw[h]at hr;exact absurd (by simpa using hr) hil
 intro fuel
 induction fuel with
 |zero =>
  intro listed f _ hr hy H;refine⟨fun h=>(by rw[h]at hr;cases hr),fun h=>one hr h,fun j hj hjl=> ?_⟩;by_cases hji:j=i
  ·subst hji;exact own hy H
  ·have:=ready_mono hj hji;rw[H.1]at this;exact absurd (by simpa using this) hjl
 |succ fuel ih =>
  intro listed f hfree hr hy H;refine⟨fun h=>(by rw[h]at hr;cases hr),fun h=>one hr h,fun j hj hjl=> ?_⟩;by_cases hji:j=i
  ·subst hji;exact own hy H
  ·have h1:=H.2.2 j (ready_mono hj hji) hjl;obtain⟨hjun,oj,hoj,hall⟩:=mem_ready.1 hj;have hnot:∀e∈oj.after,Region.binds .any e=true->e.on≠i:=fun e he hb heq=>by
    have h1:=hall e he hb;have h0:=(mem_ready.1 hr).1;rw[heq]at h1;rcases Nat.lt_or_ge i listed.size with h'|h'
    ·simp[h']at h0 h1;rw[h0]at h1;cases h1
    ·simp[Array.getElem?_eq_none h']at h1
   have h2:=KU hoj (hfree j oj hoj hji hjun hnot) hy h1;have hfree':∀k ok,ops[k]? =some ok->k≠i->(listed.setIfInBounds j true).getD k true=false ->
    (∀e∈ok.after,Region.binds .any e=true->e.on≠i)->oi.apart ops ok=true:=fun k ok hk hki hun hno=>by
    refine hfree k ok hk hki ?_ hno;by_cases hjk:j=k
    ·subst hjk;exact hjun
    ·rw[getD_set_ne true hjk]at hun;exact hun
   refine II (fun a' h3=>ih (listed.setIfInBounds j true) a' hfree' (ready_mono hr (Ne.symm hji)) h3.1 ?_) h2;rw[Array.setIfInBounds_comm _ _ hji];exact h3.2
def qK(ops:Array Oper)(last:Nat):Nat->Nat->Array Bool->Bool
 |0,_,listed=>Region.ready .any ops listed==[last]
 |fuel+1,k,listed=>(Region.ready .any ops listed).contains k&&k != last&&Region.free .any ops listed k&&qK ops last fuel (k+1) (listed.setIfInBounds k true)
theorem su{last:Nat}{Q:Fr->Prop}:∀(l:List Oper)(k:Nat)(listed:Array Bool)(f:Fr),(∀j,j<l.length->l[j]? =ops[k+j]?) ->
 qK ops last l.length k listed=true->uS e n ops h Q l f->ug e n ops h last Q l.length listed f
 |[],_,_,_,_,hB,h=>⟨by simpa [qK]using hB,h⟩
 |o::l,k,listed,f,hl,hB,hh=>by
  have h0:ops[k]? =some o:=by simpa using(hl 0 (by simp)).symm
  simp only [zrt,qK,zqf] at hB;obtain ⟨⟨⟨hr,hne⟩,hf⟩,hB'⟩ := hB;obtain ⟨v,hy,hK⟩ := hh;exact uh h0 (by simpa using hne) l.length listed f (Region.free_spec h0 hf) (by simpa using hr) hy
   (su l (k+1) _ _ (fun j hj=>by have:=hl (j+1) (by simpa using hj);simpa [Nat.add_assoc,Nat.add_comm 1 j]using this) hB' hK)
def uF(ops:Array Oper)(listed:Array Bool):Prop:=∀i o,ops[i]? =some o->listed.getD i false=true->∀e∈o.after,Region.binds .any e=true->listed.getD e.on false=true
def IJ(ops:Array Oper):Bool:=(List.range (ops.size-1)).all fun i=>(List.range ops.size).any fun j=>decide (i<j)&&match ops[j]? with
 |some o=>o.after.any fun e=>Region.binds .any e&&e.on==i
 |none=>false
theorem Gl(hB:IJ ops=true){listed:Array Bool}(hc:uF ops listed)(hr:ops.size-1∈Region.ready .any ops listed):∀(k i:Nat),k=ops.size-i->i<ops.size-1->listed.getD i false=true:=by
 intro k
 induction k using Nat.strongRecOn with
 |_ k ih =>
  intro i hk hi;have h1:=zrs.1 hB i (by simpa using hi);obtain⟨j,hj,h2⟩:=List.any_eq_true.1 h1;simp only[List.mem_range]at hj;rw[zqf,zqb]at h2;obtain⟨hij,h2⟩:=h2;split at h2
  ·rename_i o ho;rw[Array.any_eq_true]at h2;obtain⟨q,hq,h3⟩:=h2;rw[zqf,beq_iff_eq]at h3;have hmem:o.after[q]∈o.after:=Array.getElem_mem hq;rw[<-h3.2];by_cases hjl:j=ops.size-1
   ·obtain⟨_,o',ho',hall⟩:=mem_ready.1 hr;rw[<-hjl,ho]at ho';cases ho';exact hall _ hmem h3.1
   ·exact hc j o ho (ih (ops.size-j) (by omega) j rfl (by omega)) _ hmem h3.1
  ·cases h2
theorem uF.set{listed:Array Bool}(hc:uF ops listed){i:Nat}(hi:i∈Region.ready .any ops listed):uF ops (listed.setIfInBounds i true):=by
 intro j o ho hl e he hb;refine getD_set_true ?_;by_cases hji:j=i
 ·subst hji;obtain⟨_,o',ho',hall⟩:=mem_ready.1 hi;rw[ho]at ho';cases ho';exact hall e he hb
 ·rw[getD_set_ne false (Ne.symm hji)]at hl;exact hc j o ho hl e he hb
theorem uF.none{m:Nat}:uF ops (Array.replicate m false):=by
 intro i o _ hl;exfalso;rcases Nat.lt_or_ge i m with h|h
 ·simp[h]at hl
 ·simp[h]at hl
theorem Gm(hB:IJ ops=true){listed:Array Bool}(hc:uF ops listed)(hr:ops.size-1∈Region.ready .any ops listed):Region.ready .any ops listed=[ops.size-1]:=by
 have hall:∀j∈Region.ready .any ops listed,j=ops.size-1:=by
  intro j hj;obtain⟨h0,o,ho,_⟩:=mem_ready.1 hj;have hlt:=(Array.getElem?_eq_some_iff.1 ho).1;apply Classical.byContradiction;intro hne;have:=Gl hB hc hr _ j rfl (by omega);rcases Nat.lt_or_ge j listed.size with h'|h'
  ·simp[h']at h0 this;rw[h0]at this;cases this
  ·simp[Array.getElem?_eq_none h']at this
 have hnd:(Region.ready .any ops listed).Nodup:=by unfold Region.ready;exact List.Pairwise.filter _ List.nodup_range
 match hm:Region.ready .any ops listed with
 |[]=>rw[hm]at hr;cases hr
 |[x]=>rw[hall x (by rw[hm];simp)]
 |x::y::l=>exfalso;rw[hm]at hnd;have h1:=hall x (by rw[hm];simp);have h2:=hall y (by rw[hm];simp);simp[h1,h2]at hnd
theorem HSim.recx{ok ok':Nat->Prop}{pl pl':Nat->Option Nat}{h h':H}{w w':World}(hs:HSim e ok pl h w)(x:CExt (fun _=>false) (cx ok pl w) (cx ok' pl' w'))
 (fresh:∀b,w'.heap.size<=b->ok' b) (lt:∀i b,pl' i=some b->b<w'.heap.size) (okl:∀i b,pl' i=some b->ok' b) (inj:∀i j b,pl' i=some b->pl' j=some b->i=j)
 (obj:∀i b,pl' i=some b->∃o,h'[i]? =some o/\OAt (cx ok' pl' w') b o) (bare:∀i o,h'[i]? =some o->pl' i=none->o= .dead\/o= .cells []):HSim e ok' pl' h' w' where
 fresh:=fresh
 lt:=lt
 okl:=okl
 inj:=inj
 obj:=obj
 bare:=bare
 glob g v hg:=VRel.mono x _ _ (hs.glob g v hg)
 exa g cs hg:=by
  obtain⟨h1,cs',ty,fz,h2,h3⟩:=hs.exa g cs hg;have:=x.dat g (aP h2) h1;exact⟨this.1,cs',ty,fz,this.2.trans h2,h3⟩
structure Hid(e:E)(n:Nat)(ok:Nat->Prop)(pl0:Nat->Option Nat)(w0:World)(f:Fr)(h:H)(pl:Nat->Option Nat)(w:World)(a:Act)(d:Tmp)(cs:List V)(b:Nat):Prop where
 s:SSim e n (fun x=>ok x/\x≠b) pl0 w0 f h pl w a
 ptr:a.tmps.getD d undef= .pointer (some ⟨b,0,none⟩)
 ob:OAt (cx ok (bg pl h.length b) w) b (.cells cs)
 ge:w0.heap.size<=b
 lt:b<w.heap.size
 okb:ok b
 npl:∀i,pl i≠some b
 dn:d<n
theorem Hid.cext{f:Fr}{pl:Nat->Option Nat}{w:World}{a:Act}{d:Tmp}{cs:List V}{b:Nat}(k:Hid e n ok pl0 w0 f h pl w a d cs b){w':World}(x:WExt w w') :
 CExt (fun _=>false) (cx (fun x=>ok x/\x≠b) pl w) (cx ok (bg pl h.length b) w'):=by
 refine⟨fun b' hb' hok=>⟨⟨hok.1.1,fun i hi=> ?_⟩,x.same b' hb'⟩,fun i b' _ hi=> ?_,fun b' arr' el' fz hb'=>⟨arr',fz,(x.same b' (aP hb')).trans hb',rfl⟩⟩
 ·simp only[bg]at hi;split at hi
  ·cases hi;exact hok.1.2 rfl
  ·exact hok.2 i hi
 ·have:=k.s.hs.pl_lt hi;simp only[cx,bg];rw[if_neg (by omega)];exact hi
theorem AQ.wpIn{o:Oper}{f:Fr}{v:V}{pl:Nat->Option Nat}{w:World}{a:Act}(hq:AQ e o (f.ev e) h v)(s:SSim e n ok pl0 w0 f h pl w a){K':Act->World->Prop}{Q':Exit->Act->World->Prop}
 (hk:∀x w',WExt w w'->VRel (cx ok pl w') v x->K' (a.put o.dst x) w'):o.wpIn (RF r) 0 e.P a w K' Q':=by
 have:=hq ok pl w a.eval s.hs s.evs;refine⟨fun g _=>dZ r g,?_⟩;have hnd:o.semAt (RF r).round a.eval=execOp a.eval o:=by
  rw[bH];refine Oper.semAt_eq r a.eval o fun c hc=> ?_;unfold execOp at this;rw[hc]at this;simp only[Sem.run_bind]at this
  revert this
  cases(resolve a.eval c o.type).run e.P w<;>simp[jr,Result.andThen]
 rw[hnd]
 revert this
 cases(execOp a.eval o).run e.P w with
 |halt x w'=>simp[jr]
 |ok nx w' =>
  cases nx<;>simp only[jr,Oper.uponIn]<;>try(intro hf;exact hf.elim)
  case value x =>
   rintro⟨hx,hv⟩;exact hk _ _ hx hv
  case skip =>
   rintro⟨hx,hv⟩;exact hk _ _ hx hv
  case enter g args =>
   intro hc;refine⟨fun hd'=>(by rw[fK]at hd';cases hd'),bJ (hc.mono ?_)⟩;rintro en w'' ⟨x,rfl,hx,hv⟩;exact hk _ _ hx hv
structure AlOk(P:Program)(n:Nat)(ops:Array Oper)(ia:Nat)(d:Tmp)(q:TI):Prop where
 op:∃o t,ops[ia]? =some o/\o.op= .alloc t/\o.guard=none/\o.dst=some d/\ti P t=some q
 fit:q.zero.fit=true
 ne:ia≠ops.size-1
 dn:d<n
 oth:∀j o,ops[j]? =some o->j≠ia->dB o=false/\o.dst≠some d
def LSt(e:E)(n:Nat)(ok:Nat->Prop)(pl0:Nat->Option Nat)(w0:World)(h:H)(ia:Nat)(d:Tmp)(q:TI)(listed:Array Bool)(f:Fr)(pl:Nat->Option Nat)(w:World)(a:Act):Prop :=
 (listed.getD ia false=false/\SSim e n ok pl0 w0 f h pl w a)\/(listed.getD ia false=true/\∃b,Hid e n ok pl0 w0 f h pl w a d q.zero.vc b)
theorem LSt.alloc{ia:Nat}{d:Tmp}{q:TI}(ha:AlOk e.P n ops ia d q){listed:Array Bool}(hsz:ia<listed.size){f:Fr}{pl:Nat->Option Nat}{w:World}{a:Act}(k:LSt e n ok pl0 w0 h ia d q listed f pl w a)
 (hun:listed.getD ia true=false) {K':Act->World->Prop} {Q':Exit->Act->World->Prop}
 (hk:∀a' w',LSt e n ok pl0 w0 h ia d q (listed.setIfInBounds ia true) (f.put (some d) .any) pl w' a'->K' a' w'):wpOpIn (RF r) 0 e.P ops Q' ia K' a w:=by
 obtain⟨o,t,ho,hop,hg,hdst,hq⟩:=ha.op;have hl0:listed.getD ia false=false:=by simp only[Array.getD_eq_getD_getElem?,Array.getElem?_eq_getElem hsz,Option.getD_some]at hun ⊢;exact hun
 have hl1:(listed.setIfInBounds ia true).getD ia false=true:=by simp[hsz]
 rcases k with⟨_,s⟩|⟨hl,_⟩
 ·unfold wpOpIn;rw[ho];dsimp only;have hgd:gd ops f o=some true:=by unfold gd;rw[hg]
  rw[if_pos (mW s.val hgd)];obtain⟨i,d',z,hT⟩:=aJ hq;have hf:=ha.fit;have hz:VList (cx ok pl w) q.zero.vc z.cells.toList:=by
   rw[hT.zv]at hf ⊢;exact(eH _ z).vc hf
  obtain⟨h1,h2⟩:=vO s.hs hz t (WExt.refl w);have hrun:(execOp a.eval o).run e.P w= .ok (.value (.pointer (some ⟨w.heap.size,0,none⟩))) (w.alloc (.cells z.cells t)):=by
   have:(Instr.alloc t true (.tuple #[])).run e.P w= .ok (.pointer (some ⟨w.heap.size,0,none⟩)) (w.alloc (.cells z.cells t)):=by unfold Instr.alloc;simp only[Sem.run_bind,hT.run_zero,Result.andThen];rfl
   have h3:execOp a.eval o=(do pure (Next.value (<-Instr.alloc t true (.tuple #[])))):=by simp[execOp,hop]
   rw[h3];exact fP this
  have xw:=WExt.alloc w (.cells z.cells t);refine⟨fun g _=>dZ r g,?_⟩;have hnd:o.semAt (RF r).round a.eval=execOp a.eval o:=by rw[bH];exact Oper.semAt_eq r a.eval o fun c hc=>by rw[hop]at hc;cases hc
  rw[hnd,hrun];simp only[Oper.uponIn];refine hk _ _ (.inr ⟨hl1,w.heap.size,?_⟩);rw[hdst];have npl:∀i,pl i≠some w.heap.size:=fun i hi=>by have:=s.hs.lt i _ hi;omega
  have x:CExt (fun _=>false) (cx ok pl w) (cx (fun x=>ok x/\x≠w.heap.size) pl (w.alloc (.cells z.cells t))):=by refine⟨fun b' hb' hok=>⟨⟨⟨hok.1,?_⟩,hok.2⟩,xw.same b' hb'⟩,fun i b' _ hi=>hi,fun b' arr' el' fz hb'=>⟨arr',fz,(xw.same b' (aP hb')).trans hb',rfl⟩⟩;have hb':b'<w.heap.size:=hb';omega
  have hsz2:(w.alloc (.cells z.cells t)).heap.size=w.heap.size+1:=by rw[World.alloc];simp
  have hs':HSim e (fun x=>ok x/\x≠w.heap.size) pl h (w.alloc (.cells z.cells t)):=by refine s.hs.recx x (fun b' hb'=>⟨s.hs.fresh b' (by omega),by omega⟩) (fun i b' hi=>by have:=s.hs.lt i b' hi;omega) (fun i b' hi=>⟨s.hs.okl i b' hi,fun hh=>npl i (by rw[hi,hh])⟩) s.hs.inj ?_ s.hs.bare;intro i b' hi;obtain⟨o',h3,h4⟩:=s.hs.obj i b' hi;exact⟨o',h3,OAt.mono x (xw.same b' (s.hs.lt i b' hi)) h4⟩
  have kp':=s.kp.trans (xw.keeps s.hs);refine⟨⟨hs',kp'.weaken (q:=(f.put (some d) V.any).k) (fun i hi=>by simpa [Fr.put]using hi),?_,fun j=> ?_,AO.mono (fun i b' hi=>x.pl i b' rfl hi) s.dfr⟩,?_,?_,s.kp.size,by omega,s.hs.fresh _ (zrb _),npl,ha.dn⟩
  ·have:=s.size;simpa [Act.put]using this
  ·by_cases hj:j=d
   ·subst hj;have:(f.put (some j) V.any).t j= .any:=by simp[Fr.put]
    rw[this];simp only[VRel]
   ·have e1:(f.put (some d) V.any).t j=f.t j:=by simp[Fr.put,hj]
    rw[e1];have e2:(a.put (some d) (.pointer (some ⟨w.heap.size,0,none⟩))).tmps.getD j undef=a.tmps.getD j undef:=by
     simp[Act.put,Array.getElem?_setIfInBounds_ne (Ne.symm hj)]
    rw[e2];exact VRel.mono x _ _ (s.val j)
  ·have hdn:d<a.tmps.size:=by rw[s.size];exact ha.dn
   simp[Act.put,hdn]
  ·obtain⟨o',h3,h4⟩:=h1.obj h.length w.heap.size (by simp[bg]);have:o'= .cells q.zero.vc:=by rw[zsb (zrb _)]at h3;simpa using h3.symm
   subst this;exact h4
 ·rw[hl0]at hl;cases hl
theorem BK(hB:IJ ops=true){listed:Array Bool}(hc:uF ops listed)(hr:ops.size-1∈Region.ready .any ops listed):Region.ready .any ops (listed.setIfInBounds (ops.size-1) true)=[]:=by
 refine List.eq_nil_iff_forall_not_mem.2 fun j hj=> ?_;obtain⟨h0,o,ho,_⟩:=mem_ready.1 hj;have hlt:=(Array.getElem?_eq_some_iff.1 ho).1;by_cases hjl:j=ops.size-1
 ·subst hjl;rcases Nat.lt_or_ge (ops.size-1) listed.size with h'|h'
  ·simp[h']at h0
  ·simp[Array.getElem?_eq_none,h']at h0
 ·rw[getD_set_ne true (Ne.symm hjl)]at h0;have:=Gl hB hc hr _ j rfl (by omega);rcases Nat.lt_or_ge j listed.size with h'|h'
  ·simp[h']at h0 this;rw[h0]at this;cases this
  ·simp[Array.getElem?_eq_none h']at this
theorem OW(hna:∀(j:Nat)(o:Oper),ops[j]? =some o->dB o=false)(hB:IJ ops=true):∀(fuel:Nat)(listed:Array Bool)(f:Fr),
 ug e n ops h (ops.size-1) (fun f1=>BA e n ops (ops.size-1) (fun f' h'=>Q .normal f' h') Q f1 h) fuel listed f ->
 uF ops listed->∀pl w a,SSim e n ok pl0 w0 f h pl w a->wpAnyIn (RF r) 0 e.P .any ops (fU e n ok pl0 w0 Q) (fuel+1) listed a w:=by
 have lastly:∀(fuel:Nat)(listed:Array Bool)(f:Fr),BA e n ops (ops.size-1) (fun f' h'=>Q .normal f' h') Q f h->uF ops listed->ops.size-1∈Region.ready .any ops listed ->
  ∀pl w a,SSim e n ok pl0 w0 f h pl w a->wpOpIn (RF r) 0 e.P ops (fU e n ok pl0 w0 Q) (ops.size-1) (wpAnyIn (RF r) 0 e.P .any ops (fU e n ok pl0 w0 Q) fuel (listed.setIfInBounds (ops.size-1) true)) a w:=by
  intro fuel listed f hv hc hr pl w a k;exact rQ hv (fun f' h' pl' w' a' s' hq=>wpAnyIn_done (BK hB hc hr) ⟨pl',f',h',.normal,s',trivial,hq⟩ fuel) k
 intro fuel
 induction fuel with
 |zero =>
  intro listed f hL hc pl w a k;refine⟨fun h0=>(by rw[hL.1]at h0;cases h0),fun i hi=> ?_⟩;have hil:i=ops.size-1:=by rw[hL.1]at hi;simpa using hi
  subst hil;exact lastly _ _ _ hL.2 hc hi pl w a k
 |succ fuel ih =>
  intro listed f hL hc pl w a k;refine⟨fun h0=>absurd h0 hL.1,fun i hi=> ?_⟩;by_cases hil:i=ops.size-1
  ·subst hil;exact lastly _ _ _ (hL.2.1 (Gm hB hc hi)) hc hi pl w a k
  ·have h1:=hL.2.2 i hi hil;obtain⟨hun,o,ho,_⟩:=mem_ready.1 hi;unfold uD at h1;rw[ho]at h1;obtain⟨v,hy,hn⟩:=h1;rcases hy with⟨h2,_⟩|⟨_,hd,g,v',hg,hv,rfl⟩
   ·rw[hna i o ho]at h2;cases h2
   ·unfold wpOpIn;rw[ho];dsimp only;have hw:=mW k.val hg;cases g with
    |true=>rw[if_pos hw];exact(hv rfl).wpIn k fun x w' hx hr=>ih _ _ hn (hc.set hi) pl w' _ ((k.next0 (k.hs.wext hx) (hx.keeps k.hs)).put hd hr)
    |false=>rw[if_neg (by rw[hw];simp)];exact⟨fun g _=>dZ r g,ih _ _ hn (hc.set hi) pl w _ (k.put hd (iI (fun hf=>by cases hf) (fun _=>rfl)))⟩
def dw(e:E)(n:Nat)(ops:Array Oper)(h:H)(Q:Fr->Prop):List Oper->Fr->Prop
 |[],f=>Q f
 |o::rest,f=>match dB o with
  |true=>o.guard=none/\iT n o.dst=true/\dw e n ops h Q rest (f.put o.dst .any)
  |false=>match gd ops f o with
   |none=>False
   |some g=>iT n o.dst=true /\
    match jD o.op with
    |true=>match o.op with
     | .call {callee:= .value fx,args,..}=>match kX e (f.ev e) fx args with
      |some (q,vs)=>F8 e g q vs (dE (f.ev e) fx args) o.dst (dw e n ops h Q rest) f
      |none=>False
     |_=>False
    |false=>goQ g (rF e.P o (f.ev e) h) o.dst (dw e n ops h Q rest) f
theorem dX{Q:Fr->Prop}:∀(l:List Oper)(f:Fr),dw e n ops h Q l f->uS e n ops h Q l f
 |[],f,hv=>hv
 |o::rest,f,hv=>by
  simp only[dw]at hv;cases hal:dB o with
  |true=>rw[hal]at hv;obtain⟨h1,h2,h3⟩:=hv;exact⟨_,.inl ⟨hal,h1,h2,rfl⟩,dX rest _ h3⟩
  |false =>
   rw[hal]at hv;dsimp only at hv;cases hg:gd ops f o with
   |none=>rw[hg]at hv;exact hv.elim
   |some g =>
    rw[hg]at hv;obtain⟨hd,hv⟩:=hv;cases he:jD o.op with
    |true =>
     rw[he]at hv;dsimp only at hv;split at hv
     ·rename_i fx args ts hop;split at hv
      ·rename_i q vs hon;obtain⟨rv,h1,h2⟩:=hv;exact⟨_,.inr ⟨hal,hd,g,rv,hg,fun hgt=>AQ.call hop hon (h1 hgt).1 (h1 hgt).2.1 (h1 hgt).2.2.1 (h1 hgt).2.2.2,rfl⟩,dX rest _ h2⟩
      ·exact hv.elim
     ·exact hv.elim
    |false=>rw[he]at hv;dsimp only at hv;obtain⟨h1,h2⟩:=hv;exact⟨_,.inr ⟨hal,hd,g,_,hg,fun hgt=>lX (h1 hgt),rfl⟩,dX rest _ h2⟩
def Gn(ops:Array Oper):Bool:=decide (0<ops.size)&&IJ ops&&qK ops (ops.size-1) (ops.size-1) 0 (Array.replicate ops.size false)
theorem KW{ops:Array Oper}:∀j,j<(ops.toList.take (ops.size-1)).length->(ops.toList.take (ops.size-1))[j]? =ops[0+j]? :=by intro j hj;rw[zrl]at hj;rw[List.getElem?_take,if_pos (by omega)];simp
theorem oD(hm:e.P.follows .mixedOrders=true){id:Nat}{f:Fr}(hB:(Gn ops&&ops.all fun o=> !dB o)=true)
 (hv:dw e n ops h (fun f1=>BA e n ops (ops.size-1) (fun f' h'=>Q .normal f' h') Q f1 h) (ops.toList.take (ops.size-1)) f):awp e n r (.region id ops true) Q f h:=by
 intro ok pl0 w0 pl w a s;unfold Gn at hB;simp only[zqf,zqb]at hB;obtain⟨⟨⟨hpos,hB1⟩,hB2⟩,hB3⟩:=hB;have x:WExt w {w with drawn:=w.drawn+1}:=WExt.drew w;have hlen:(ops.toList.take (ops.size-1)).length=ops.size-1:=by rw[zrl];simp
 have hL:=su (e:=e) (n:=n) (h:=h) (last:=ops.size-1) (ops.toList.take (ops.size-1)) 0 (Array.replicate ops.size false) f KW (by rw[hlen];exact hB2) (dX _ _ hv);rw[hlen]at hL;have:=OW (r:=r) (ok:=ok) (pl0:=pl0) (w0:=w0) (fun j o ho=>by
  have h1:=Array.all_eq_true.1 hB3;obtain⟨hl,rfl⟩:=Array.getElem?_eq_some_iff.1 ho;simpa using h1 j hl) hB1 _ _ _ hL uF.none pl _ a (s.next0 (s.hs.wext x) (x.keeps s.hs))
 rw[show ops.size-1+1=ops.size by omega]at this;exact wpIn_region_any hm this
end
section
variable{e:E}{n:Nat}{r:Option Nat}{ops:Array Oper}{Q:XE->Fr->H->Prop}{ok:Nat->Prop}{pl0:Nat->Option Nat}{w0:World}{h:H}
def UG(ops:Array Oper)(last:Nat):List Nat->Array Bool->Bool
 |[],listed=>Region.ready .any ops listed==[last]
 |k::ks,listed=>(Region.ready .any ops listed).contains k&&k != last&&Region.free .any ops listed k&&UG ops last ks (listed.setIfInBounds k true)
def zO(ops:Array Oper)(ks:List Nat):List Oper:=ks.filterMap fun k=>ops[k]?
theorem pX{last:Nat}{Q:Fr->Prop}:∀(ks:List Nat)(listed:Array Bool)(f:Fr),UG ops last ks listed=true->uS e n ops h Q (zO ops ks) f->ug e n ops h last Q ks.length listed f
 |[],_,_,hB,h=>⟨by simpa [UG]using hB,h⟩
 |k::ks,listed,f,hB,hh=>by
  simp only[UG,zqf]at hB;obtain⟨⟨⟨hr,hne⟩,hf⟩,hB'⟩:=hB;obtain⟨_,o,h0,_⟩:=mem_ready.1 (show k∈Region.ready .any ops listed by simpa using hr);have e1:zO ops (k::ks)=o::zO ops ks:=by simp[zO,h0]
  rw[e1]at hh;obtain⟨v,hy,hK⟩:=hh;exact uh h0 (by simpa using hne) ks.length listed f (Region.free_spec h0 hf) (by simpa using hr) hy (pX ks _ _ hB' hK)
def dep(ops:Array Oper)(i j:Nat):Bool:=match ops[i]? with
 |some o=>o.after.any fun e=>Region.binds .any e&&e.on==j
 |none=>false
theorem zQ{i j:Nat}(h:dep ops i j=true):∃o,ops[i]? =some o/\∃e∈o.after,Region.binds .any e=true/\e.on=j:=by
 unfold dep at h;split at h
 ·rename_i o ho;rw[Array.any_eq_true]at h;obtain⟨q,hq,h3⟩:=h;rw[zqf,beq_iff_eq]at h3;exact⟨o,ho,_,Array.getElem_mem hq,h3.1,h3.2⟩
 ·cases h
def zS(ops:Array Oper)(tk pre:List Nat)(last:Nat):Bool :=
 (pre.all fun i=>(last::pre).any fun j=>decide (i<j)&&dep ops j i)&&(List.range ops.size).all fun i=>tk.contains i||pre.contains i||i==last||dep ops i last
structure LI(ops:Array Oper)(tk pre:List Nat)(last:Nat)(listed:Array Bool):Prop where
 clos:uF ops listed
 size:listed.size=ops.size
 took:∀i∈tk,i<ops.size->listed.getD i false=true
 tail:∀i,i∉tk->i∉pre->listed.getD i false=false
theorem LI.all{tk pre:List Nat}{last:Nat}{listed:Array Bool}(k:LI ops tk pre last listed)(hB:zS ops tk pre last=true)(hr:last∈Region.ready .any ops listed):∀(m i:Nat),m=ops.size-i->i∈pre->listed.getD i false=true:=by
 intro m
 induction m using Nat.strongRecOn with
 |_ m ih =>
  intro i hm hi;unfold zS at hB;rw[zqf]at hB;have h1:=zrs.1 hB.1 i hi;obtain⟨j,hj,h2⟩:=List.any_eq_true.1 h1;rw[zqf,zqb]at h2;obtain⟨hij,h2⟩:=h2;obtain⟨o,ho,e,he,hb,hon⟩:=zQ h2;have hjs:=(Array.getElem?_eq_some_iff.1 ho).1;rw[<-hon];rcases zrj.1 hj with rfl|hj
  ·obtain⟨_,o',ho',hall⟩:=mem_ready.1 hr;rw[ho]at ho';cases ho';exact hall e he hb
  ·exact k.clos j o ho (ih (ops.size-j) (by omega) j rfl hj) e he hb
theorem KX{listed:Array Bool}{i:Nat}(hi:i<listed.size)(d d':Bool):listed.getD i d=listed.getD i d':=by simp[hi]
theorem LI.one{tk pre:List Nat}{last:Nat}{listed:Array Bool}(k:LI ops tk pre last listed)(hB:zS ops tk pre last=true)(hl:last∉tk/\last∉pre)(hr:last∈Region.ready .any ops listed):Region.ready .any ops listed=[last]:=by
 have hall:∀j∈Region.ready .any ops listed,j=last:=by
  intro j hj;obtain⟨h0,o,ho,hdep⟩:=mem_ready.1 hj;have hlt:=(Array.getElem?_eq_some_iff.1 ho).1;have hun:listed.getD j false=false:=by rw[KX (by rw[k.size];exact hlt) false true];exact h0
  have hB2:=hB;unfold zS at hB2;rw[zqf]at hB2;have h2:=zrs.1 hB2.2 j (by simpa using hlt);simp only[Bool.or_eq_true,List.contains_iff_mem,beq_iff_eq]at h2;rcases h2 with((h2|h2)|h2)|h2
  ·rw[k.took j h2 hlt]at hun;cases hun
  ·rw[k.all hB hr _ j rfl h2]at hun;cases hun
  ·exact h2
  ·obtain⟨o',ho',e,he,hb,hon⟩:=zQ h2;rw[ho]at ho';cases ho';have:=hdep e he hb;rw[hon,k.tail last hl.1 hl.2]at this;cases this
 have hnd:(Region.ready .any ops listed).Nodup:=by unfold Region.ready;exact List.Pairwise.filter _ List.nodup_range
 match hm:Region.ready .any ops listed with
 |[]=>rw[hm]at hr;cases hr
 |[x]=>rw[hall x (by rw[hm];simp)]
 |x::y::l=>exfalso;rw[hm]at hnd;have h1:=hall x (by rw[hm];simp);have h2:=hall y (by rw[hm];simp);simp[h1,h2]at hnd
def Ua(ops:Array Oper)(tk pre:List Nat):Array Bool:=((List.range ops.size).map fun i=>tk.contains i||pre.contains i).toArray
theorem LI.mid{tk pre:List Nat}{last:Nat}{listed:Array Bool}(k:LI ops tk pre last listed)(hB:zS ops tk pre last=true)(hr:last∈Region.ready .any ops listed):listed=Ua ops tk pre:=by
 apply Array.ext
 ·simp[Ua,k.size]
 ·intro i h1 h2;have hi:i<ops.size:=by rw[<-k.size];exact h1
  have e1:(Ua ops tk pre)[i]=(tk.contains i||pre.contains i):=by simp[Ua]
  have e2:listed[i]=listed.getD i false:=by simp[h1]
  rw[e1,e2];by_cases ht:i∈tk
  ·rw[k.took i ht hi];simp[ht]
  ·by_cases hp:i∈pre
   ·rw[k.all hB hr _ i rfl hp];simp[hp]
   ·rw[k.tail i ht hp];simp[ht,hp]
theorem gq{P:Program}:∀(p:Plan)(fuel k:Nat)(listed:Array Bool),(dJ P ops p fuel listed=true->dJ P ops p (fuel+k) listed=true)/\(dJ.planAlts P ops p fuel listed=true->dJ.planAlts P ops p (fuel+k) listed=true)
 | .fin,fuel,k,listed=>by
  refine⟨fun h=> ?_,fun h=> ?_⟩
  ·simpa [dJ]using h
  ·simp[dJ.planAlts]at h
 | .take i p,fuel,k,listed=>by
  refine⟨fun h=> ?_,fun h=> ?_⟩
  ·cases fuel with
   |zero=>simp[dJ]at h
   |succ fuel =>
    rw[show fuel+1+k=(fuel+k)+1 by omega];simp only[dJ]at h ⊢;cases ho:ops[i]? with
    |none=>rw[ho]at h;simp at h
    |some o=>rw[ho]at h;dsimp only at h ⊢;rw[zqf]at h ⊢;exact⟨h.1,(gq p fuel k _).1 h.2⟩
  ·simp[dJ.planAlts]at h
 | .one i p,fuel,k,listed=>by
  refine⟨fun h=> ?_,fun h=> ?_⟩
  ·cases fuel with
   |zero=>simp[dJ]at h
   |succ fuel=>rw[show fuel+1+k=(fuel+k)+1 by omega];simp only[dJ]at h ⊢;rw[zqf]at h ⊢;exact⟨h.1,(gq p fuel k _).1 h.2⟩
  ·simp only[dJ.planAlts]at h ⊢;exact(gq p fuel k _).1 h
 | .alt i p q,fuel,k,listed=>by
  refine⟨fun h=> ?_,fun h=> ?_⟩
  ·cases fuel with
   |zero=>simp[dJ]at h
   |succ fuel=>rw[show fuel+1+k=(fuel+k)+1 by omega];simp only[dJ]at h ⊢;rw[zqf,zqf]at h ⊢;exact⟨⟨h.1.1,(gq p fuel k _).1 h.1.2⟩,(gq q fuel k _).2 h.2⟩
  ·simp only[dJ.planAlts]at h ⊢;rw[zqf]at h ⊢;exact⟨(gq p fuel k _).1 h.1,(gq q fuel k _).2 h.2⟩
theorem LI.step{tk pre:List Nat}{last:Nat}{listed:Array Bool}(k:LI ops tk pre last listed)(hB:zS ops tk pre last=true)(hl:last∉tk/\last∉pre){i:Nat}(hi:i∈Region.ready .any ops listed)(hil:i≠last):LI ops tk pre last (listed.setIfInBounds i true):=by
 obtain⟨h0,o,ho,hdep⟩:=mem_ready.1 hi;have hlt:=(Array.getElem?_eq_some_iff.1 ho).1;refine⟨k.clos.set hi,by simpa using k.size,fun j hj hjs=>getD_set_true (k.took j hj hjs),fun j h1 h2=> ?_⟩;by_cases hji:i=j
 ·subst hji;exfalso;have hB2:=hB;unfold zS at hB2;rw[zqf]at hB2;have h3:=zrs.1 hB2.2 i (by simpa using hlt);simp only[Bool.or_eq_true,List.contains_iff_mem,beq_iff_eq]at h3;rcases h3 with((h3|h3)|h3)|h3
  ·exact h1 h3
  ·exact h2 h3
  ·exact hil h3
  ·obtain⟨o',ho',e,he,hb,hon⟩:=zQ h3;rw[ho]at ho';cases ho';have:=hdep e he hb;rw[hon,k.tail last hl.1 hl.2]at this;cases this
 ·rw[getD_set_ne false hji];exact k.tail j h1 h2
theorem Q7(hna:∀(j:Nat)(o:Oper),ops[j]? =some o->dB o=false)(hQ:∀v f h,¬Q (.pan v) f h)(hpl:mf ops=true){tk pre:List Nat}{last fp:Nat}{p:Plan}(hB:zS ops tk pre last=true)(hl:last∉tk/\last∉pre)(hp:dJ e.P ops p fp (Ua ops tk pre)=true):∀(fuel:Nat)(listed:Array Bool)(f:Fr),
 ug e n ops h last (fun f1=>iq e n ops Q p f1 h) fuel listed f->LI ops tk pre last listed->∀pl w a,SSim e n ok pl0 w0 f h pl w a->wpAnyIn (RF r) 0 e.P .any ops (fU e n ok pl0 w0 Q) (fp+fuel) listed a w:=by
 have lastly:∀(fuel:Nat)(listed:Array Bool)(f:Fr),iq e n ops Q p f h->LI ops tk pre last listed->last∈Region.ready .any ops listed->∀pl w a,SSim e n ok pl0 w0 f h pl w a->wpAnyIn (RF r) 0 e.P .any ops (fU e n ok pl0 w0 Q) (fp+fuel) listed a w:=by intro fuel listed f hv k hr pl w a s;have e1:=k.mid hB hr;subst e1;exact(iJ hQ hpl p).1 (fp+fuel) _ f h ((gq p fp fuel _).1 hp) hv pl w a s
 intro fuel
 induction fuel with
 |zero=>intro listed f hL k pl w a s;exact lastly 0 listed f hL.2 k (by rw[hL.1];simp) pl w a s
 |succ fuel ih =>
  intro listed f hL k pl w a s;by_cases hlr:last∈Region.ready .any ops listed
  ·exact lastly (fuel+1) listed f (hL.2.1 (k.one hB hl hlr)) k hlr pl w a s
  ·rw[show fp+(fuel+1)=(fp+fuel)+1 by omega];refine⟨fun h0=>absurd h0 hL.1,fun i hi=> ?_⟩;have hil:i≠last:=fun hh=>hlr (hh▸hi);have h1:=hL.2.2 i hi hil;obtain⟨hun,o,ho,_⟩:=mem_ready.1 hi;unfold uD at h1;rw[ho]at h1;obtain⟨v,hy,hn⟩:=h1;have k':=k.step hB hl hi hil;rcases hy with⟨h2,_⟩|⟨_,hd,g,v',hg,hv,rfl⟩
   ·rw[hna i o ho]at h2;cases h2
   ·unfold wpOpIn;rw[ho];dsimp only;have hw:=mW s.val hg;cases g with
    |true=>rw[if_pos hw];exact(hv rfl).wpIn s fun x w' hx hr=>ih _ _ hn k' pl w' _ ((s.next0 (s.hs.wext hx) (hx.keeps s.hs)).put hd hr)
    |false=>rw[if_neg (by rw[hw];simp)];exact⟨fun g _=>dZ r g,ih _ _ hn k' pl w _ (s.put hd (iI (fun hf=>by cases hf) (fun _=>rfl)))⟩
def sF(P:Program)(ops:Array Oper):List Nat->Array Bool->Bool
 |[],_=>true
 |i::is,listed=>(match ops[i]? with|some o=>o9 P o.op|none=>false)&&(Region.ready .any ops listed).contains i&&Region.free .any ops listed i&&sF P ops is (listed.setIfInBounds i true)
def nK(listed:Array Bool):List Nat->Array Bool
 |[]=>listed
 |i::is=>nK (listed.setIfInBounds i true) is
def sG(e:E)(n:Nat)(ops:Array Oper)(Q:XE->Fr->H->Prop)(K:Fr->H->Prop):List Nat->Fr->H->Prop
 |[],f,h=>K f h
 |i::is,f,h=>BA e n ops i (sG e n ops Q K is) Q f h
theorem zT(hQ:∀v f h,¬Q (.pan v) f h)(hpl:mf ops=true){K:Fr->H->Prop}{fuel:Nat}:∀(tk:List Nat)(listed:Array Bool)(f:Fr)(h:H),sF e.P ops tk listed=true->sG e n ops Q K tk f h ->
 (∀f h pl w a,K f h->SSim e n ok pl0 w0 f h pl w a->wpAnyIn (RF r) 0 e.P .any ops (fU e n ok pl0 w0 Q) fuel (nK listed tk) a w)->∀pl w a,SSim e n ok pl0 w0 f h pl w a->wpAnyIn (RF r) 0 e.P .any ops (fU e n ok pl0 w0 Q) (fuel+tk.length) listed a w
 |[],listed,f,h,_,hv,hk,pl,w,a,s=>hk f h pl w a hv s
 |i::is,listed,f,h,ht,hv,hk,pl,w,a,s=>by
  simp only[sF,zqf]at ht;obtain⟨⟨⟨h1,h2⟩,h3⟩,h4⟩:=ht;cases ho:ops[i]? with
  |none=>rw[ho]at h1;cases h1
  |some o=>rw[ho]at h1;obtain⟨x,f',hy,s',hk'⟩:=vX ho h1 hv s;refine pg h1 ho hpl ?_ (fuel+is.length) listed a w (Region.free_spec ho h3) (by simpa using h2) hy (zT hQ hpl is _ f' h h4 hk' hk pl w _ s');rintro c a w ⟨pl',f',h',xe,_,hx,hq⟩;cases xe<;>first|exact hx.elim|exact(hQ _ _ _ hq).elim
def sH(P:Program)(ops:Array Oper)(tk pre:List Nat)(last:Nat)(p:Plan):Bool :=
 (ops.all fun o=> !dB o)&&mf ops&&sF P ops tk (Array.replicate ops.size false)&&UG ops last pre (nK (Array.replicate ops.size false) tk)&&zS ops tk pre last &&
 (!tk.contains last&& !pre.contains last)&&dJ P ops p (ops.size-tk.length-pre.length) (Ua ops tk pre)&&decide (tk.length+pre.length<=ops.size)
theorem wG{tk:List Nat}{P:Program}:∀(is:List Nat)(listed:Array Bool),sF P ops is listed=true->uF ops listed->listed.size=ops.size->(∀i∈tk,i∉is->i<ops.size->listed.getD i false=true)->(∀i,i∉tk->listed.getD i false=false)->(∀i∈is,i∈tk) ->
 uF ops (nK listed is)/\(nK listed is).size=ops.size/\(∀i∈tk,i<ops.size->(nK listed is).getD i false=true)/\(∀i,i∉tk->(nK listed is).getD i false=false)
 |[],listed,_,hc,hs,ht,hn,_=>⟨hc,hs,fun i hi hl=>ht i hi (by simp) hl,hn⟩
 |i::is,listed,hk,hc,hs,ht,hn,hm=>by
  simp only[sF,zqf]at hk;obtain⟨⟨⟨_,h2⟩,_⟩,h4⟩:=hk;refine wG is _ h4 (hc.set (by simpa using h2)) (by simpa using hs) (fun j hj hji hjs=> ?_) (fun j hj=> ?_) (fun j hj=>hm j (by simp[hj]))
  ·by_cases hij:i=j
   ·subst hij;have:i<listed.size:=by omega
    simp[this]
   ·exact getD_set_true (ht j hj (by simp[hji,Ne.symm hij]) hjs)
  ·have hij:i≠j:=fun hh=>by subst hh;exact hj (hm i (by simp))
   rw[getD_set_ne false hij];exact hn j hj
theorem KY(hm:e.P.follows .mixedOrders=true){id:Nat}{f:Fr}(tk pre:List Nat)(last:Nat)(p:Plan)(R:Fr->H->Prop)(hB:sH e.P ops tk pre last p=true)
 (hv:sG e n ops (rU R) (fun f h=>dw e n ops h (fun f1=>iq e n ops (rU R) p f1 h) (zO ops pre) f) tk f h) (hk:∀f h,R f h->Q .normal f h):awp e n r (.region id ops true) Q f h:=by
 intro ok pl0 w0 pl w a s;unfold sH at hB;simp only[zqf,Bool.not_eq_true',zqb]at hB;obtain⟨⟨⟨⟨⟨⟨⟨b1,b2⟩,b3⟩,b4⟩,b5⟩,b6⟩,b7⟩,b8⟩:=hB;have hna:∀(j:Nat)(o:Oper),ops[j]? =some o->dB o=false:=fun j o ho=>by
  have h1:=Array.all_eq_true.1 b1;obtain⟨hl,rfl⟩:=Array.getElem?_eq_some_iff.1 ho;simpa using h1 j hl
 have hl:last∉tk/\last∉pre:=⟨by simpa using b6.1,by simpa using b6.2⟩;have x:WExt w {w with drawn:=w.drawn+1}:=WExt.drew w;obtain⟨c1,c2,c3,c4⟩:=wG (ops:=ops) (tk:=tk) tk (Array.replicate ops.size false) b3 uF.none (by simp) (fun i hi hni=>absurd hi hni) (fun i hi=>by
  rcases Nat.lt_or_ge i ops.size with h'|h'<;>simp[h']) (fun i hi=>hi)
 have li:LI ops tk pre last (nK (Array.replicate ops.size false) tk):=⟨c1,c2,c3,fun i h1 _=>c4 i h1⟩;have hQ:∀v f h,¬rU R (.pan v) f h:=fun v f h hh=>hh;have:=zT (r:=r) (ok:=ok) (pl0:=pl0) (w0:=w0) (n:=n) (e:=e) (Q:=rU R) (fuel:=ops.size-tk.length-pre.length+pre.length) hQ b2 tk (Array.replicate ops.size false) f h b3 hv (fun f h pl w a hK s=>by
  have hL:=pX (e:=e) (n:=n) (h:=h) pre (nK (Array.replicate ops.size false) tk) f b4 (dX _ _ hK);exact Q7 (r:=r) hna hQ b2 b5 hl b7 _ _ _ hL li pl w a s) pl _ a (s.next0 (s.hs.wext x) (x.keeps s.hs))
 rw [show ops.size - tk.length - pre.length + pre.length + tk.length = ops.size by omega] at this;refine wpIn_mono (wpIn_region_any hm this) ?_;rintro ex a' w' ⟨pl',f',h',xe,s',hx,hq⟩;cases xe <;> first
  |exact⟨pl',f',h',_,s',hx,hk _ _ hq⟩
  |exact hq.elim
end
section
variable{e:E}{n:Nat}{r:Option Nat}{ops:Array Oper}{h:H}{Q:XE->Fr->H->Prop}
theorem wH(ops:Array Oper):∀k:Nat,zO ops (List.range k)=ops.toList.take k
 |0=>rfl
 |k+1=>by
  have ih:=wH ops k;unfold zO at ih ⊢;rw[List.range_succ,List.filterMap_append,ih,zrg]
  congr 1
  rw[List.filterMap_cons,List.filterMap_nil,Array.getElem?_toList];cases ops[k]? <;>rfl
theorem pY{K:Fr->Prop}:∀(l:List Oper)(f:Fr),(∀o∈l,dB o=false)->fG e n ops h K l f->dw e n ops h K l f
 |[],_,_,hv=>hv
 |o::rest,f,ha,hv=>by
  have h0:=ha o (by simp);have hr:=fun f'=>pY (K:=K) rest f' fun o' ho'=>ha o' (by simp[ho']);simp only[dw,h0];simp only[fG]at hv;cases hg:gd ops f o with
  |none=>rw[hg]at hv;exact hv.elim
  |some g =>
   rw[hg]at hv;refine⟨hv.1,?_⟩;have hv:=hv.2;cases he:jD o.op with
   |false=>rw[he]at hv;exact⟨hv.1,hr _ hv.2⟩
   |true =>
    rw[he]at hv;simp only at hv ⊢;split at hv
    ·rename_i fx args ats heq;split at hv
     ·rename_i q vs hc;obtain⟨rv,h1,h2⟩:=hv;simp only[heq,hc];exact⟨rv,h1,hr _ h2⟩
     ·exact hv.elim
    ·exact hv.elim
theorem KZ(hm:e.P.follows .mixedOrders=true){id:Nat}{f:Fr}(k:Nat)(p:Plan)(R:Fr->H->Prop)(hB:sH e.P ops [] (List.range k) k p=true)
 (hv:∀K:Fr->Prop,(∀f1,iq e n ops (rU R) p f1 h->K f1)->fG e n ops h K (ops.toList.take k) f) (hk:∀f h,R f h->Q .normal f h):awp e n r (.region id ops true) Q f h:=by
 refine KY hm [] (List.range k) k p R hB ?_ hk;simp only[sG];rw[wH];refine pY _ _ (fun o ho=> ?_) (hv _ fun f1 h=>h);unfold sH at hB;simp only[zqf]at hB;have b1:=Array.all_eq_true.1 hB.1.1.1.1.1.1.1;obtain⟨i,hi,rfl⟩:=List.getElem_of_mem (zsh ho);have:=b1 i (by simpa using hi);simpa using this
end
section
variable{e:E}{h:H}
theorem ag.fresh{g:FuncId}{args:List V}{R:AEnd->H->(Nat->Bool)->Prop}(hc:ag e g args h fun ae h' p=>(∀i,i<h.length->p i=false)/\R ae h' (fun _=>false)):ag e g args h R :=
 fun ok pl w vs hs hl=>(hc ok pl w vs hs hl).mono fun en w' ⟨p,pl',h',ae,h1,h2,h3,h4,h5⟩ =>
  ⟨fun _=>false,pl',h',ae,h1,⟨h2.os,h2.tape,h2.output,h2.size,h2.same,h2.loc,fun i b _ hi=>h2.keep i b (h4 i (hs.pl_lt hi)) hi,h2.row⟩,h3,h5⟩
end
section
variable{e:E}{n:Nat}{r:Option Nat}{o:Oper}{f:Fr}{h:H}{Kn:Fr->H->Prop}{Q:XE->Fr->H->Prop}
def Ub(kd:K)(key:V)(ks vs:List V):Option (List V×List V) :=
 match iP kd key ks with
 |some (some n)=>some (ks.eraseIdx n,vs.eraseIdx n)
 |some none=>some (ks,vs)
 |none=>none
theorem dQ{α β:Type}(g:α->β):∀(l:List α)(i:Nat),(l.eraseIdx i).map g=(l.map g).eraseIdx i
 |[],i=>rfl
 |a::l,0=>rfl
 |a::l,i+1=>by simp only[List.eraseIdx_cons_succ,zrd,dQ g l i]
theorem yC{t kt':TypeId}{m k:Operand}{ts:Array TypeId}(hop:o.op= .call {callee:= .builtin .delete,args:=#[m,k],argTypes:=ts})(h0:ts[0]? =some t){id:Nat}(hm:(f.ev e m).sv= .lm id)(hmc:(f.ev e m).sc)(hkc:(f.ev e k).sc)
 {q:TI} (hq:ti e.P t=some q) {kt et:TypeId} (hkd:q.kind= .map kt et) {rk:TI} (hrk:ti e.P kt=some rk) (hko:rk.kind.keyOk (f.ev e k).sv=true)
 {ks vs:List V} (hc:h[id]? =some (.map ks vs)) {ks' vs':List V} (hp:Ub rk.kind (f.ev e k).sv ks vs=some (ks',vs'))
 (hK:Kn (f.put o.dst jo) (h.set id (.map ks' vs'))):Eff e n r o f h Kn Q:=by
 refine aW ?_ (fun c=>by rw[hop];exact fun h=>by cases h);intro ok pl w ev hs hr;obtain⟨i,d,z,hT⟩:=aJ hq;obtain⟨ik,dk,zk,hKT⟩:=aJ hrk;have hd:=hT.map hkd;subst hd;have hmv:=(hr m (by simp[hop,Op.operands,Call.operands])).sv hmc;rw[hm]at hmv;simp only[VRel]at hmv;obtain⟨b,hb,hmb⟩:=hmv;have hkv:=(hr k (by simp[hop,Op.operands,Call.operands])).sv hkc;obtain⟨ob,ho',hat⟩:=hs.obj id b hb;rw[hc]at ho';cases ho';obtain⟨es,clk,h2,h3,h4,hmo⟩:=hat;simp only[cx]at h2;have fin:∀(es':Array MapEntry)(clk':Nat) ,(Builtin.delete_ ts o.type #[ev m,ev k]).run e.P w= .ok (.tuple #[]) {w with heap:=w.heap.setIfInBounds b (.map es' clk')} ->
  VList (cx ok pl w) ks' (es'.toList.map (·.key))->VList (cx ok pl w) vs' (es'.toList.map (·.val))->xQ es' clk' ->
  ∃p v h' pl' w' x,((execOp ev o).run e.P w= .ok (.value x) w'\/((execOp ev o).run e.P w= .ok .skip w'/\x=undef)) /\
   HSim e ok pl' h' w'/\Keeps p pl w pl' w'/\VRel (cx ok pl' w') v x/\(∀i∈f.d,p i=false)/\Kn ((f.drop p).put o.dst v) h':=by
  intro es' clk' hrun g1 g2 g3;have hlt:=aP h2;have hh:({w with heap:=w.heap.setIfInBounds b (.map es' clk')}:World).heap[b]? =some (.map es' clk'):=by simp[hlt]
  obtain ⟨hs',kk⟩ := hs.upd hb (.map ks' vs') (w' := { w with heap := w.heap.setIfInBounds b (.map es' clk') }) rfl rfl rfl (by simp) (fun i hi => by simp [Ne.symm hi]) (fun arr el fz ha => by rw [h2] at ha;cases ha)
   (fun kx=>⟨es',clk',hh,VList.mono kx _ _ g1,VList.mono kx _ _ g2,g3⟩)
  refine⟨fun _=>false,jo,_,pl,_,undef,.inl ?_,hs',kk,nD _,fun _ _=>rfl,by simpa using hK⟩;have h5:execOp ev o=(do pure (Next.value (<-Builtin.delete_ ts o.type #[ev m,ev k]))):=by
   simp[execOp,hop,resolve,invoke,builtin]
  rw[h5];simp only[Sem.run_bind,hrun,Result.andThen];rfl
 have hck:=kU hKT hkv hko es.isEmpty w;unfold Ub at hp;split at hp
 ·rename_i j hj;cases hp;obtain⟨a,h5,en,h6,rfl⟩:=ou (w:=w) hKT hkv ks es.toList _ h3 hj;have hje:es[j]? =some en:=by simpa using h6
  have hjl:j<es.size:=(Array.getElem?_eq_some_iff.1 hje).1;have hel:(es.eraseIdxIfInBounds j).toList=es.toList.eraseIdx j:=by rw[Array.eraseIdxIfInBounds,dif_pos hjl,Array.toList_eraseIdx]
  refine fin (es.eraseIdxIfInBounds j) clk ?_ ?_ ?_ ?_
  ·simp only[Builtin.delete_,h0,show(#[Value.map (some b),ev k]:Array Value)[0]? =some (Value.map (some b))from rfl,show(#[Value.map (some b),ev k]:Array Value)[1]? =some (ev k)from rfl,Sem.run_bind,hT.run_und,Result.andThen,hmb,MapKept.run_getObj_map h2,hck,h5,Nat.zero_add];rw[MapKept.run_setObj_map _ h2];rfl
  ·rw[hel,dQ];exact h3.eraseIdx j
  ·rw[hel,dQ];exact h4.eraseIdx j
  ·refine⟨fun y hy=>hmo.1 y ?_,?_⟩
   ·rw[hel]at hy;exact List.mem_of_mem_eraseIdx hy
   ·rw[hel,dQ];exact hmo.2.sublist (List.eraseIdx_sublist _ _)
 ·rename_i hj;cases hp;obtain⟨a,h5,rfl⟩:=ou (w:=w) hKT hkv ks es.toList _ h3 hj;refine fin es clk ?_ h3 h4 hmo;simp only[Builtin.delete_,h0,show(#[Value.map (some b),ev k]:Array Value)[0]? =some (Value.map (some b))from rfl,show(#[Value.map (some b),ev k]:Array Value)[1]? =some (ev k)from rfl,Sem.run_bind,hT.run_und,Result.andThen,hmb,MapKept.run_getObj_map h2,hck,h5];rw[MapKept.run_setObj_map _ h2];simp only[Sem.run_pure,World.mk.injEq,Result.ok.injEq,and_true,true_and]
 ·cases hp
end
section
variable{e:E}{n:Nat}
def DRs(c:C):List Deferred->List (FuncId×List V)->Prop
 |[],[]=>True
 |d::ds,x::l=>(∃(cs azs:Array Value),d={target:= .fn (.func x.1) cs,args:=azs}/\VList c x.2 (azs++cs).toList)/\DRs c ds l
 |_,_=>False
theorem DRs.keeps{ok:Nat->Prop}{p:Nat->Bool}{pl pl':Nat->Option Nat}{w w':World}(k:Keeps p pl w pl' w'):∀ {ds:List Deferred} {l:List (FuncId×List V)},DRs (cx ok pl w) ds l->(∀x∈l,V.drops p x.2=x.2)->DRs (cx ok pl' w') ds l
 |[],[],_,_=>trivial
 |[],_::_,h,_=>h.elim
 |_::_,[],h,_=>h.elim
 |d::ds,x::l,⟨⟨cs,azs,h1,h2⟩,h3⟩,hd=>by
  refine⟨⟨cs,azs,h1,?_⟩,h3.keeps k fun y hy=>hd y (by simp[hy])⟩;have:=VList.mdrop k.cext _ _ h2
  rwa [hd x (by simp)]at this
theorem VList.app{c:C}:∀ {l m:List V} {x y:List Value},VList c l x->VList c m y->VList c (l++m) (x++y):=fun h1 h2=>VList.append h1 h2
end
section
variable{e:E}{n:Nat}{r:Option Nat}{o:Oper}{f:Fr}{h:H}{K:Fr->H->Prop}{Q:XE->Fr->H->Prop}
theorem OX{t:TypeId}{x:Operand}(hop:o.op= .box t x)(hsc:(f.ev e x).sc)(hf:(f.ev e x).sv.fit=true)
 (hk:K (f.put o.dst (.lp h.length 0)) (h++[.typed t (f.ev e x).sv.vc])):Eff e n r o f h K Q:=by
 refine aW ?_ (fun c=>by rw[hop];exact fun h=>by cases h);intro ok pl w ev hs hr;have h0:=((hr x (by simp[hop,Op.operands])).sv hsc).vc hf;have hzl:=h0.length;simp only[Array.length_toList]at hzl;obtain⟨h1,h2⟩:=yA hs (cs:=(f.ev e x).sv.vc) (arr:=(ev x).cells) (by omega) (by rw[zqh (by simp;omega)];exact h0) t (WExt.refl w);refine⟨fun _=>false,.lp h.length 0,_,_,_,.pointer (some ⟨w.heap.size,0,none⟩),.inl ?_,h1,h2,?_,fun _ _=>rfl,by simpa using hk⟩
 ·have h3:execOp ev o=(do pure (Next.value (<-Instr.box t (ev x)))):=by simp[execOp,hop]
  rw[h3];exact fP rfl
 ·simp only[VRel];exact⟨w.heap.size,by simp[cx,bg],rfl⟩
end
noncomputable def uG : Code -> Nat -> List (Array Oper)
 | .region i ops _,k=>if i==k then [ops]else []
 | .seq a b,k=>uG a k++uG b k
 | .cond _ a b,k=>uG a k++uG b k
 | .loop a,k=>uG a k
 | .block _ a,k=>uG a k
 |_,_=>[]
noncomputable def xY(f:Func)(k:Nat):Array Oper:=match f.body with
 |some c=>(uG c k).headD #[]
 |none=>#[]
section
variable{P:Program}{ops:Array Oper}{i k:Nat}{p q:Plan}{L L':Array Bool}
end
section
variable{e:E}{n:Nat}
end
def UH(ops:Array Oper):Bool:=(List.range ops.size).all fun i=>match ops[i]? with
 |some o=>o.after.all fun q=> !(Region.binds .any q)||decide (q.on<i)
 |none=>true
section
variable{e:E}{n:Nat}{r:Option Nat}{ops:Array Oper}{Q:XE->Fr->H->Prop}{ok:Nat->Prop}{pl0:Nat->Option Nat}{w0:World}
theorem Lc(hB:UH ops=true){listed:Array Bool}(hs:listed.size=ops.size)(hr:Region.ready .any ops listed=[]):∀(k i:Nat),i<k->i<ops.size->listed.getD i false=true:=by
 intro k
 induction k with
 |zero=>intro i hi;exact absurd hi (Nat.not_lt_zero _)
 |succ k ih =>
  intro i hik hi;apply Classical.byContradiction;intro hn;have hn:listed.getD i false=false:=by simpa using hn
  have:i∈Region.ready .any ops listed:=by
   refine mem_ready.2 ⟨?_,ops[i],by simp[hi],fun q hq hb=> ?_⟩
   ·have:i<listed.size:=by omega
    simpa [Array.getD,this]using hn
   ·have h1:=zrs.1 hB i (by simpa using hi);have hio:ops[i]? =some ops[i]:=by simp[hi]
    rw[hio]at h1;dsimp only at h1;have h2:=(Array.all_eq_true_iff_forall_mem.1 h1) q hq;rw[hb]at h2;simp only[Bool.not_true,Bool.false_or,zqb]at h2;exact ih q.on (by omega) (by omega)
  rw[hr]at this;cases this
def BL(L:Array Bool):Nat:=L.toList.countP (!·)
theorem yD{L:Array Bool}{i:Nat}(h:i<L.size)(hl:L.getD i true=false):BL L=BL (L.setIfInBounds i true)+1:=by
 have hi:i<L.toList.length:=by simpa using h
 have hg:L.toList[i]=false:=by simpa [Array.getD,h]using hl
 unfold BL;rw[Array.toList_setIfInBounds,List.countP_set hi,hg];have:0<L.toList.countP (!·):=List.countP_pos_iff.2 ⟨L.toList[i],zqu hi,by rw[hg];rfl⟩;rw[if_pos (show(!false)=true from rfl),if_neg (show ¬(!true)=true by decide)];omega
theorem UI(I:Array Bool->Fr->H->Prop)
 (hstep:∀L f h i,uF ops L->I L f h->i∈Region.ready .any ops L->BA e n ops i (fun f' h'=>I (L.setIfInBounds i true) f' h') Q f h)
 (hend:∀L f h,L.size=ops.size->I L f h->Region.ready .any ops L=[]->Q .normal f h) :
 ∀(fuel:Nat)(L:Array Bool)(f:Fr)(h:H),L.size=ops.size->uF ops L->BL L<=fuel->I L f h->∀pl w a,SSim e n ok pl0 w0 f h pl w a->wpAnyIn (RF r) 0 e.P .any ops (fU e n ok pl0 w0 Q) fuel L a w:=by
 intro fuel
 induction fuel with
 |zero =>
  intro L f h hs hc hu hI pl w a s;have hr:Region.ready .any ops L=[]:=by
   match hm:Region.ready .any ops L with
   |[]=>rfl
   |i::_=>obtain⟨h0,o,ho,_⟩:=mem_ready.1 (show i∈Region.ready .any ops L by rw[hm];simp);have hlt:=(Array.getElem?_eq_some_iff.1 ho).1;have:=yD (L:=L) (i:=i) (by omega) h0;omega
  exact wpAnyIn_done hr ⟨pl,f,h,.normal,s,trivial,hend L f h hs hI hr⟩ 0
 |succ fuel ih =>
  intro L f h hs hc hu hI pl w a s;by_cases hr:Region.ready .any ops L=[]
  ·exact wpAnyIn_done hr ⟨pl,f,h,.normal,s,trivial,hend L f h hs hI hr⟩ (fuel+1)
  ·refine⟨fun h0=>absurd h0 hr,fun i hi=> ?_⟩;obtain⟨h0,o,ho,_⟩:=mem_ready.1 hi;have hlt:=(Array.getElem?_eq_some_iff.1 ho).1;have hun:=yD (L:=L) (i:=i) (by omega) h0;exact rQ (hstep L f h i hc hI hi) (fun f h pl w a s hk=>ih _ f h (by simpa using hs) (hc.set hi) (by omega) hk pl w a s) s
def UJ(ops:Array Oper)(i:Nat)(l:List Nat):Bool:=match ops[i]? with
 |some o=>l.all fun j=>o.after.any fun q=>Region.binds .any q&&(q.on==j)
 |none=>false
theorem aN{L:Array Bool}{i:Nat}(hi:i∈Region.ready .any ops L){l:List Nat}(hl:UJ ops i l=true):∀j∈l,L.getD j false=true:=by intro j hj;obtain⟨_,o,ho,hall⟩:=mem_ready.1 hi;unfold UJ at hl;rw[ho]at hl;have h1:=zrs.1 hl j hj;rw[Array.any_eq_true]at h1;obtain⟨q,hq,h3⟩:=h1;rw[zqf,beq_iff_eq]at h3;rw[<-h3.2];have hmem:o.after[q]∈o.after:=Array.getElem_mem hq;have:=hall _ hmem h3.1;simpa using this
theorem nM{L:Array Bool}{i:Nat}(hi:i∈Region.ready .any ops L):L.getD i false=false:=by
 obtain⟨h0,o,ho,_⟩:=mem_ready.1 hi;rcases Nat.lt_or_ge i L.size with h|h
 ·simpa [Array.getD,h]using h0
 ·simp[Array.getD,Nat.not_lt.2 h]
theorem qL{L:Array Bool}{i:Nat}(hi:i∈Region.ready .any ops L):i<ops.size:=by obtain⟨_,o,ho,_⟩:=mem_ready.1 hi;exact(Array.getElem?_eq_some_iff.1 ho).1
theorem lg{L:Array Bool}{i:Nat}(hi:i∈Region.ready .any ops L):i<L.size:=by
 obtain⟨h0,o,ho,_⟩:=mem_ready.1 hi;rcases Nat.lt_or_ge i L.size with h|h
 ·exact h
 ·simp[Array.getD,Nat.not_lt.2 h]at h0
theorem qM(hm:e.P.follows .mixedOrders=true){id:Nat}(I:Array Bool->Fr->H->Prop){f:Fr}{h:H}(hB:UH ops=true)
 (h0:I (Array.replicate ops.size false) f h)
 (hstep:∀L f h i,uF ops L->I L f h->i∈Region.ready .any ops L->BA e n ops i (fun f' h'=>I (L.setIfInBounds i true) f' h') Q f h)
 (hend:∀L f h,(∀i,i<ops.size->L.getD i false=true)->I L f h->Q .normal f h):awp e n r (.region id ops true) Q f h:=by
 intro ok pl0 w0 pl w a s;have x : WExt w { w with drawn := w.drawn + 1 } := WExt.drew w;have := UI (e := e) (n := n) (r := r) (ops := ops) (Q := Q) (ok := ok) (pl0 := pl0) (w0 := w0) I hstep
  (fun L f h hs hI hr=>hend L f h (fun i hi=>Lc hB hs hr (i+1) i (Nat.lt_succ_self i) hi) hI)
  ops.size (Array.replicate ops.size false) f h (by simp) uF.none (by unfold BL;exact Nat.le_trans (List.countP_le_length) (by simp)) h0 pl _ a (s.next0 (s.hs.wext x) (x.keeps s.hs))
 exact wpIn_region_any hm this
def FA(L:Array Bool)(f:Fr)(l:List (Nat×Nat×V)):Prop:=∀q∈l,L.getD q.1 false=true->f.t q.2.1=q.2.2
theorem FA.put{L:Array Bool}{f:Fr}{l:List (Nat×Nat×V)}{i d:Nat}{v:V}(hf:FA L f l)
 (h1:∀q∈l,q.1=i->q.2.1=d/\q.2.2=v) (h2:∀q∈l,q.2.1=d->q.1=i):FA (L.setIfInBounds i true) (f.put (some d) v) l:=by
 intro q hq hl;by_cases hqi:q.1=i
 ·obtain⟨e1,e2⟩:=h1 q hq hqi;rw[e1,e2];simp[Fr.put]
 ·have hqd:q.2.1≠d:=fun h=>hqi (h2 q hq h);rw[getD_set_ne false (Ne.symm hqi)]at hl;have:=hf q hq hl;simpa [Fr.put,hqd]using this
theorem FA.skip{L:Array Bool}{f:Fr}{l:List (Nat×Nat×V)}{i:Nat}(hf:FA L f l)(h1:∀q∈l,q.1≠i):FA (L.setIfInBounds i true) f l:=by intro q hq hl;rw[getD_set_ne false (Ne.symm (h1 q hq))]at hl;exact hf q hq hl
theorem FA.none{m:Nat}{f:Fr}{l:List (Nat×Nat×V)}:FA (Array.replicate m false) f l:=by
 intro q _ hl;exfalso;rcases Nat.lt_or_ge q.1 m with h|h
 ·simp[h]at hl
 ·simp[h]at hl
end
theorem FAz{L:Array Bool}{f:Fr}{l:List (Nat×Nat×V)}(h:FA L f l)(i d:Nat)(v:V)(hm:(i,d,v)∈l)(hl:L.getD i false=true):f.t d=v:=h (i,d,v) hm hl
section
variable{e:E}{n:Nat}{r:Option Nat}{o:Oper}{f:Fr}{h:H}{Kn:Fr->H->Prop}{Q:XE->Fr->H->Prop}
end
section
variable{e:E}{n:Nat}{r:Option Nat}{o:Oper}{f:Fr}{h:H}{Kn:Fr->H->Prop}{Q:XE->Fr->H->Prop}
end
section
variable{e:E}{n:Nat}{r:Option Nat}{ops:Array Oper}{h:H}{Q:XE->Fr->H->Prop}
theorem AQ.lend{o:Oper}{fx:Operand}{args:Array Operand}{ts:Array TypeId}(hop:o.op= .call {callee:= .value fx,args:=args,argTypes:=ts}){ρ:Operand->V}{g:FuncId}{vs vs':List V}{rv:V}
 (hon:kX e ρ fx args=some (g,vs)) (hsc:dE ρ fx args) (hen:ai e.P g=true) (hr:au e h vs vs') (hv:Ev e g vs' rv) (hp:rv.plain=true):AQ e o ρ h rv:=by
 intro ok pl w ev hs hre;obtain⟨xs,hrun,hl⟩:=qA (e:=e) hop hre hon hsc hen;rw[hrun];exact(hv ok w xs hs.lend (hr ok pl w xs hs hl)).mono fun en w' ⟨x,h1,h2,h3⟩=>⟨x,h1,h2,h3.plain hp⟩
def UK(e:E)(h:H)(g:Bool)(q:FuncId)(vs:List V)(sc:Prop)(dst:Option Tmp)(Kn:Fr->Prop)(f:Fr):Prop :=
 ∃rv,(g=true->sc/\ai e.P q=true/\((V.dats vs=true/\Ev e q vs rv)\/∃vs',au e h vs vs'/\Ev e q vs' rv/\rv.plain=true))/\Kn (f.put dst (V.guard g rv))
theorem UK.mk{q:FuncId}{vs vs':List V}{dst:Option Tmp}{Kn:Fr->Prop}{f:Fr}{rv:V}(hv:Ev e q vs' rv)(h2:ai e.P q=true)(hr:au e h vs vs')(hp:rv.plain=true)(hk:Kn (f.put dst rv)):UK e h true q vs True dst Kn f :=
 ⟨rv,fun _=>⟨trivial,h2,.inr ⟨vs',hr,hv,hp⟩⟩,hk⟩
theorem Ld{c:Code}{f:Fr}(id j:Nat)(v:V)(hj:(f.t j).drop (fun i=> !(i==id))=f.t j)(hr:aA e (vZ (·==id) 0 h) (f.t j) v)(hd:f.d=[])
 (hw:awp e n r c Q {f with t:=fun i=>if i=j then v else(f.t i).drop (·==id),k:=fun i=>f.k i||(i==id)} (rW (·==id) 0 h)):awp e n r c Q f h:=by
 refine Gi (·==id) _ (fun i=> ?_) (by rw[hd];simp) hw;by_cases hi:i=j
 ·subst hi;exact .inr ⟨hj,by rw[if_pos rfl];exact hr⟩
 ·exact .inl (by rw[if_neg hi])
end
section
variable{P:Program}{w:World}
end
section
variable{e:E}{n:Nat}{r:Option Nat}{o:Oper}{f:Fr}{h:H}{Kn:Fr->H->Prop}{Q:XE->Fr->H->Prop}
end
section
variable{e:E}{n:Nat}{r:Option Nat}{ops:Array Oper}{Q:XE->Fr->H->Prop}{ok:Nat->Prop}{pl0:Nat->Option Nat}{w0:World}
end
section
variable{e:E}{n:Nat}{r:Option Nat}{o:Oper}{f:Fr}{h:H}{Kn:Fr->H->Prop}{Q:XE->Fr->H->Prop}
def Le(e:E)(h:H)(k:Nat)(s:V)(m n':Nat)(cs:List V):Prop :=
 ∀ok pl w xv,HSim e ok pl h w->VRel (cx ok pl w) s xv->(Builtin.lenOf xv).run e.P w= .ok m w/\∃news:Array Value,(Builtin.firstCells k n' xv).run e.P w= .ok news w/\VList (cx ok pl w) cs news.toList/\cs.length=n'*k
theorem Le.all{k m:Nat}{s:V}{cs:List V}(he:jq h k s=some (m,cs))(hf:mJ k s=true):Le e h k s m m cs:=fun ok pl w xv hs hv=>by obtain⟨news,h1,h2,h3,h4⟩:=kH (e:=e) hs hv he hf;exact⟨h1 w,news,h2 w (fun _=>rfl),h3,h4⟩
end
def GA(f:Fr)(l:List (Nat×V)):Prop:=∀q∈l,f.t q.1=q.2
theorem GA.put{f:Fr}{l:List (Nat×V)}{d:Nat}{v:V}(h:GA f l)(hd:(l.all fun q=>q.1 != d)=true):GA (f.put (some d) v) l:=fun q hq=>by
 have h1:=zrs.1 hd q hq;have h2:q.1≠d:=by simpa using h1
 have:=h q hq;simpa [Fr.put,h2]using this
theorem FA.put'{L:Array Bool}{f:Fr}{l:List (Nat×Nat×V)}{i d:Nat}{v:V}(hf:FA L f l)(h1:(l.all fun q=>q.1 != i&&q.2.1 != d)=true):FA (L.setIfInBounds i true) (f.put (some d) v) l :=
 hf.put (fun q hq hqi=>by have:=zrs.1 h1 q hq;simp[hqi]at this) (fun q hq hqd=>by have:=zrs.1 h1 q hq;simp[hqd]at this)
def HN(L:Array Bool)(B:H)(ia is:Nat)(zc uc:List V):H:=if L.getD ia false=true then B++[.cells (if L.getD is false=true then uc else zc)]else B
theorem HN.get{L:Array Bool}{B:H}{ia is:Nat}{zc uc:List V}{k:Nat}{o:O}(h:B[k]? =some o):(HN L B ia is zc uc)[k]? =some o:=by
 unfold HN;split
 ·rw[zqj (zqe h).1];exact h
 ·exact h
theorem HN.skip{L:Array Bool}{B:H}{ia is i:Nat}{zc uc:List V}(h1:i≠ia)(h2:i≠is):HN (L.setIfInBounds i true) B ia is zc uc=HN L B ia is zc uc:=by unfold HN;rw[getD_set_ne false h1,getD_set_ne false h2]
theorem qN{L:Array Bool}{i:Nat}(h:i<L.size):(L.setIfInBounds i true).getD i false=true:=by simp[Array.getD,h]
theorem HN.new{L:Array Bool}{B:H}{ia is:Nat}{zc uc:List V}(hs:ia<L.size)(hne:ia≠is)(h:L.getD is false=false):HN (L.setIfInBounds ia true) B ia is zc uc=B++[.cells zc]:=by unfold HN;rw[qN hs,getD_set_ne false hne,h];rfl
theorem HN.fill{L:Array Bool}{B:H}{ia is:Nat}{zc uc:List V}(h:L.getD ia false=true)(hs:is<L.size)(hne:is≠ia):HN (L.setIfInBounds is true) B ia is zc uc=B++[.cells uc]:=by unfold HN;rw[qN hs,getD_set_ne false hne,h];rfl
theorem HN.done{L:Array Bool}{B:H}{ia is:Nat}{zc uc:List V}(h:L.getD ia false=true)(h2:L.getD is false=true):HN L B ia is zc uc=B++[.cells uc]:=by unfold HN;rw[h,h2];rfl
theorem nO{ops:Array Oper}{L:Array Bool}(hc:uF ops L){i:Nat}(hi:L.getD i false=true){l:List Nat}(hl:UJ ops i l=true):∀j∈l,L.getD j false=true:=by
 intro j hj;unfold UJ at hl;split at hl
 ·rename_i o ho;have h1:=zrs.1 hl j hj;rw[Array.any_eq_true]at h1;obtain⟨q,hq,h3⟩:=h1;rw[zqf,beq_iff_eq]at h3;rw[<-h3.2];exact hc i o ho hi _ (Array.getElem_mem hq) h3.1
 ·cases hl
theorem aZ{ops:Array Oper}{L:Array Bool}(hc:uF ops L){i j:Nat}(hj:L.getD j false=false)(hl:UJ ops i [j]=true):L.getD i false=false:=by
 cases h:L.getD i false with
 |false=>rfl
 |true=>rw[nO hc h hl j (by simp)]at hj;cases hj
theorem oG{p:Nat->Bool}:∀v:V,v.dat=true->v.drop p=v
 | .any,_ | .bool _,_ | .int _ _,_ | .str _,_ | .nilp,_ | .ip _,_ | .nils,_ | .is _ _ _,_ | .nilm,_ | .im _ _,_ | .nilf,_ | .nili,_=>by simp[V.drop]
 | .lp _ _,h | .ls _ _ _ _ _,h | .lm _,h | .yd _,h | .row _ _,h=>by simp[V.dat]at h
 | .fn f a b,h=>by simp only[V.dat,zqf]at h;rw[V.drop,dats_drops a h.1,dats_drops b h.2]
 | .iface t e,h=>by rw[V.drop,oG e (by simpa [V.dat]using h)]
 | .agg vs,h=>by rw[V.drop,dats_drops vs (by simpa [V.dat]using h)]
 | .tup vs,h=>by rw[V.drop,dats_drops vs (by simpa [V.dat]using h)]
 | .grd g e,h=>by rw[V.drop,oG e (by simpa [V.dat]using h)]
where dats_drops : ∀ vs : List V,V.dats vs = true -> V.drops p vs = vs
 |[],_=>by rw[V.drops]
 |v::vs,h=>by simp only[V.dats,zqf]at h;rw[V.drops,oG v h.1,dats_drops vs h.2]
theorem FA.drop{L:Array Bool}{f:Fr}{l:List (Nat×Nat×V)}{p:Nat->Bool}(h:FA L f l)(hd:∀q∈l,q.2.2.drop p=q.2.2):FA L (f.drop p) l:=fun q hq hl=>by show(f.t q.2.1).drop p=q.2.2;rw[h q hq hl,hd q hq]
theorem GA.drop{f:Fr}{l:List (Nat×V)}{p:Nat->Bool}(h:GA f l)(hd:∀q∈l,q.2.drop p=q.2):GA (f.drop p) l:=fun q hq=>by show(f.t q.1).drop p=q.2;rw[h q hq,hd q hq]
section
variable{e:E}{n:Nat}{r:Option Nat}{ops:Array Oper}{h:H}{Q:XE->Fr->H->Prop}
end
section
variable{e:E}
theorem ag.frame{g:FuncId}{args:List V}{h Y:H}{R:AEnd->H->(Nat->Bool)->Prop}
 (hc:ag e g args h fun ae h' p=>h'.length=h.length/\Y.map (O.drop fun i=>p i&&decide (i<h.length))=Y/\R ae (h'++Y) (fun i=>p i&&decide (i<h.length)))
 (ha:V.drops (eF h.length) args=args) (hh:h.map (O.drop (eF h.length))=h):ag e g args (h++Y) R:=by
 intro ok pl w vs hs hl;obtain⟨n,hn⟩:∃n,n=h.length:=⟨_,rfl⟩;obtain⟨q,hq⟩:∃q:Nat->Bool,q=fun i=>decide (i<n):=⟨_,rfl⟩;have hqf:(fun j=> !q j)=eF n:=by
  funext j
  rw[hq];show(!decide (j<n))=decide (n<=j);by_cases hj:j<n
  ·simp[hj]
  ·simp[hj];omega
 have hl2:=VList.mdrop (oC q ok pl w) _ _ hl;rw[hqf,hn,ha]at hl2;have hs2:=hs.sub q;have get2:∀i,i<n->(vZ q 0 (h++Y))[i]? =h[i]? :=fun i hi=>by
  rw[iK,zqj (by omega),Nat.zero_add,hqf];have hqi:q i=true:=by rw[hq];simpa using hi
  simp only[hqi,if_true]
  conv=>rhs;rw[<-hh]
  rw[zqo,hn]
 have hs3:HSim e (fun b=>ok b/\∀i,q i=false->pl i≠some b) (fun i=>if q i=true then pl i else none) h w :=
  {hs2 with
   obj:=fun i b hi=>by
    have hi':=hi
    try dsimp only at hi'
    split at hi'
    ·rename_i hqi;have hin:i<n:=by rw[hq]at hqi;simpa using hqi
     obtain⟨o,h1,h2⟩:=hs2.obj i b hi;exact⟨o,by rw[<-get2 i hin];exact h1,h2⟩
    ·cases hi'
   bare:=fun i o ho hi=>hs2.bare i o (by rw[get2 i (by have:=(zqe ho).1;omega)];exact ho) hi}
 refine(hc _ _ w vs hs3 hl2).mono ?_;rintro en w' ⟨p,pl',h',ae,hs',kp,hen,hlen,hY,hR⟩;rw[<-hn]at hlen hY hR;have plge:∀i b,pl' i=some b->i<n:=fun i b hi=>by
  obtain⟨o,ho,_⟩:=hs'.obj i b hi;have:=(zqe ho).1;omega
 have qi:∀ {i},i<n->q i=true:=fun {i} hi=>by rw[hq];simpa using hi
 have qn:∀ {i},¬i<n->q i=false:=fun {i} hi=>by rw[hq];simpa using hi
 obtain⟨pl2,hpl2⟩:∃pl2:Nat->Option Nat,pl2=fun i=>if i<n then pl' i else pl i:=⟨_,rfl⟩
 have p2l:∀ {i},i<n->pl2 i=pl' i:=fun {i} hi=>by rw[hpl2];exact if_pos hi
 have p2g:∀ {i},¬i<n->pl2 i=pl i:=fun {i} hi=>by rw[hpl2];exact if_neg hi
 have kloc:∀i b,pl' i=some b->(∃j,pl j=some b/\j<n)\/w.heap.size<=b:=fun i b hi=>by
  rcases kp.loc i b hi with⟨j,hj⟩|hj
  ·try dsimp only at hj
   split at hj
   ·rename_i hqj;exact .inl ⟨j,hj,by rw[hq]at hqj;simpa using hqj⟩
   ·cases hj
  ·exact .inr hj
 have ksame:∀b,b<w.heap.size->(∀i,i<n->pl i≠some b)->w'.heap[b]? =w.heap[b]? :=fun b hb hno=>kp.same b hb fun i hi=>by
  try dsimp only at hi
  split at hi
  ·rename_i hqi;exact hno i (by rw[hq]at hqi;simpa using hqi) hi
  ·cases hi
 have c1:CExt (fun _=>false) (cx (fun b=>ok b/\∀i,q i=false->pl i≠some b) pl' w') (cx ok pl2 w') :=
  ⟨fun b hb hok=>⟨⟨hok.1.1,fun i hi=>by
   by_cases hin:i<n
   ·rw[p2l hin]at hi;exact hok.2 i hi
   ·rw[p2g hin]at hi;exact hok.1.2 i (qn hin) hi⟩,rfl⟩,
   fun i b _ hi=>by
    have hin:=plge i b hi;show pl2 i=some b;rw[p2l hin];exact hi,
   fun b arr el fz hb=>⟨arr,fz,hb,rfl⟩⟩
 have kk:Keeps (fun i=>p i&&decide (i<n)) pl w pl2 w' :=
  {
   os:=kp.os,tape:=kp.tape,output:=kp.output,size:=kp.size,row:=kp.row
   same:=fun b hb hno=>ksame b hb fun i _=>hno i
   loc:=fun i b hi=>by
    by_cases hin:i<n
    ·rw[p2l hin]at hi;rcases kloc i b hi with⟨j,hj,_⟩|hj
     ·exact .inl ⟨j,hj⟩
     ·exact .inr hj
    ·rw[p2g hin]at hi;exact .inl ⟨i,hi⟩
   keep:=fun i b hp hi=>by
    by_cases hin:i<n
    ·rw[p2l hin];refine kp.keep i b ?_ ?_
     ·simpa [hin]using hp
     ·show(if q i=true then pl i else none)=some b;rw[if_pos (qi hin)];exact hi
    ·rw[p2g hin];exact hi}
 have c2:=kk.cext (ok:=ok);refine⟨_,pl2,h'++Y,ae,?_,kk,?_,hR⟩
 ·exact
  {
   fresh:=fun b hb=>hs.fresh b (Nat.le_trans kp.size hb)
   lt:=fun i b hi=>by
    by_cases hin:i<n
    ·rw[p2l hin]at hi;exact hs'.lt i b hi
    ·rw[p2g hin]at hi;exact Nat.lt_of_lt_of_le (hs.lt i b hi) kp.size
   okl:=fun i b hi=>by
    by_cases hin:i<n
    ·rw[p2l hin]at hi;exact(hs'.okl i b hi).1
    ·rw[p2g hin]at hi;exact hs.okl i b hi
   inj:=fun i j b hi hj=>by
    by_cases hin:i<n
    ·rw[p2l hin]at hi;by_cases hjn:j<n
     ·rw[p2l hjn]at hj;exact hs'.inj i j b hi hj
     ·rw[p2g hjn]at hj;exact absurd hj ((hs'.okl i b hi).2 j (qn hjn))
    ·rw[p2g hin]at hi;by_cases hjn:j<n
     ·rw[p2l hjn]at hj;exact absurd hi ((hs'.okl j b hj).2 i (qn hin))
     ·rw[p2g hjn]at hj;exact hs.inj i j b hi hj
   obj:=fun i b hi=>by
    by_cases hin:i<n
    ·rw[p2l hin]at hi;obtain⟨o,ho,hat⟩:=hs'.obj i b hi;exact⟨o,by rw[zqj (by omega)];exact ho,OAt.mono c1 rfl hat⟩
    ·rw[p2g hin]at hi;obtain⟨o,ho,hat⟩:=hs.obj i b hi;rw[zsb (by omega)]at ho;have hb:=hs.lt i b hi;have hsm:w'.heap[b]? =w.heap[b]? :=ksame b hb fun j hj hjb=>by have:=hs.inj i j b hi hjb;omega
     have hat2:=qx c2 hsm hat;refine⟨o.drop (fun i=>p i&&decide (i<n)),?_,hat2⟩;rw[zsb (by omega),hlen]
     conv=>lhs;rw[<-hY]
     rw[zqo,show i-n=i-h.length by omega,ho];rfl
   bare:=fun i o ho hi=>by
    by_cases hin:i<n
    ·rw[p2l hin]at hi;rw[zqj (by omega)]at ho;exact hs'.bare i o ho hi
    ·rw[p2g hin]at hi;rw[zsb (by omega),hlen]at ho;exact hs.bare i o (by rw[zsb (by omega),show i-h.length=i-n by omega];exact ho) hi
   glob:=fun g v hg=>(hs.glob g v hg).glob_next c2
   exa:=fun g cs hg=>(hs.exa g cs hg).next c2}
 ·revert hen
  cases ae with
  |ret v =>
   cases en <;> first
    |exact fun hen=>VRel.mono c1 _ _ hen
    |exact id
  |pan v =>
   cases en <;> first
    |exact fun⟨x,h1,h2⟩=>⟨x,h1,VRel.mono c1 _ _ h2⟩
    |exact id
end
end Go.Abs
