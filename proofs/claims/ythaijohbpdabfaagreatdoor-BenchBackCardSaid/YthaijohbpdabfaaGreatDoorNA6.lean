/- Lemmas for this claim, part A6: each holds under what it names. -/
import Derived.Test.YthaijohbpdabfaaGreatDoorNA5
set_option linter.all false
namespace Go.Abs
open Go.RowKit
def aG(e:E)(h:H)(v v':V):Prop :=
 ∀ok pl w x,HSim e ok pl h w->VRel (cx ok pl w) v x->VRel (cx ok (fun _=>none) w) v' x
def ay(e:E)(h:H)(vs vs':List V):Prop :=
 ∀ok pl w xs,HSim e ok pl h w->VList (cx ok pl w) vs xs->VList (cx ok (fun _=>none) w) vs' xs
theorem DW(ok:Nat->Prop)(pl:Nat->Option Nat)(w:World):CExt (fun _=>false) (cx ok pl w).data (cx ok (fun _=>none) w) :=
 ⟨fun b hb hok=>⟨⟨hok.1,fun i hi=>(by cases hi)⟩,rfl⟩,fun i b _ hi=>(by cases hi),fun b arr el fz hb=>⟨arr,fz,hb,rfl⟩⟩
section
variable{e:E}{h:H}
theorem aG.dat{v:V}(hd:v.dat=true):aG e h v v :=
 fun ok pl w x hs hv=>VRel.mono (DW ok pl w) _ _ (VRel.todata _ _ hd hv)
theorem aG.eq{v v':V}(hd:v'.dat=true)(h0:v=v'):aG e h v v':=by subst h0;exact aG.dat hd
theorem aG.nils{ex:Bool}{k:Nat}:aG e h .nils (.is ex k []):=by intro ok pl w x hs hv;simp only[VRel]at hv ⊢;exact⟨none,0,hv,zrb _,Nat.zero_le _,fun _=>rfl,.inl trivial⟩
theorem ay.dat{vs:List V}(hd:V.dats vs=true):ay e h vs vs :=
 fun ok pl w x hs hv=>VList.mono (DW ok pl w) _ _ (VList.todata _ _ hd hv)
theorem ay.nil:ay e h [] []:=fun ok pl w x hs hv=>by simpa only[VList]using hv
theorem ay.cons{v v':V}{vs vs':List V}(h1:aG e h v v')(h2:ay e h vs vs'):ay e h (v::vs) (v'::vs'):=by intro ok pl w xs hs hv;simp only[VList]at hv ⊢;obtain⟨y,ys,rfl,h3,h4⟩:=hv;exact⟨y,ys,rfl,h1 ok pl w y hs h3,h2 ok pl w ys hs h4⟩
theorem ay.append{vs vs' us us':List V}(h1:ay e h vs vs')(h2:ay e h us us')(hl:vs.length=vs'.length):ay e h (vs++us) (vs'++us'):=by
 intro ok pl w xs hs hv;have l0:=hv.length;have a:=hv.take vs.length;have b:=hv.dropN vs.length;rw[List.take_left]at a;rw[List.drop_left]at b;have:=(h1 ok pl w _ hs a).append (h2 ok pl w _ hs b)
 rwa [List.take_append_drop]at this
theorem aG.tup{vs vs':List V}(h1:ay e h vs vs'):aG e h (.tup vs) (.tup vs'):=by intro ok pl w x hs hv;simp only[VRel]at hv ⊢;obtain⟨cs,rfl,h2⟩:=hv;exact⟨cs,rfl,h1 ok pl w _ hs h2⟩
theorem aG.agg{vs vs':List V}(h1:ay e h vs vs'):aG e h (.agg vs) (.agg vs'):=by intro ok pl w x hs hv;simp only[VRel]at hv ⊢;obtain⟨cs,rfl,h2⟩:=hv;exact⟨cs,rfl,h1 ok pl w _ hs h2⟩
theorem aG.iface{t:TypeId}{v v':V}(h1:aG e h v v'):aG e h (.iface t v) (.iface t v'):=by intro ok pl w x hs hv;simp only[VRel]at hv ⊢;obtain⟨cs,rfl,h2⟩:=hv;exact⟨cs,rfl,h1 ok pl w _ hs h2⟩
theorem aG.fn{g:Fn}{as as' bs bs':List V}(h1:ay e h as as')(h2:ay e h bs bs'):aG e h (.fn g as bs) (.fn g as' bs'):=by intro ok pl w x hs hv;simp only[VRel]at hv ⊢;obtain⟨fs,cs,rfl,h3,h4⟩:=hv;exact⟨fs,cs,rfl,h1 ok pl w _ hs h3,h2 ok pl w _ hs h4⟩
theorem uy{c:C}{v:V}{xs:List Value}(hf:v.fit=true)(hv:VList c v.vc xs):∃x,x.cells.toList=xs/\VRel c v x:=by
 have one:v.one=true->v.vc=[v]->∃x,x.cells.toList=xs/\VRel c v x:=by intro h1 h2;rw[h2]at hv;simp only[VList]at hv;obtain⟨y,ys,rfl,h3,rfl⟩:=hv;exact⟨y,by rw[h3.one h1],h3⟩
 cases v <;> first
  |exact one (by simpa [V.fit]using hf) rfl
  |skip
 case agg vs=>exact⟨.agg xs.toArray,by simp[Value.cells],by simp only[VRel];exact⟨xs.toArray,rfl,by simpa [V.vc]using hv⟩⟩
theorem mQ{ok:Nat->Prop}{w:World}{b k:Nat}(hb:ok b){arr:Array Value}{el:TypeId}{fz:Nat×Nat}(ha:w.heap[b]? =some (.cells arr el fz)) :
 ∀(es:List V)(off:Nat)(xs:List Value),bZ k es=true->VList (cx ok (fun _=>none) w) (es.flatMap V.vc) xs->(∀(j:Nat) y,xs[j]? =some y->arr[off+j]? =some y) ->
  VElems (cx ok (fun _=>none) w) k es b off
 |[],off,xs,_,_,_=>by simp only[VElems]
 |v::es,off,xs,hf,hv,hx=>by
  simp only[bZ,zqf,beq_iff_eq]at hf;obtain⟨⟨⟨f1,f2⟩,f3⟩,f4⟩:=hf;rw[List.flatMap_cons]at hv;have a:=hv.take v.vc.length;have d:=hv.dropN v.vc.length;rw[List.take_left]at a;rw[List.drop_left]at d;obtain⟨y,h1,h2⟩:=uy f1 a;have hlen:y.cells.size=k:=by
   have:=a.length;rw[<-h1]at this;simpa [f3]using this
  simp only[VElems];refine⟨⟨y,hlen,fun j hj=>⟨⟨hb,fun i hi=>(by cases hi)⟩,?_⟩,h2⟩,?_⟩
  ·have hj':y.cells[j]? =some y.cells[j]:=by simp[hj]
   have h3:(xs.take v.vc.length)[j]? =some y.cells[j]:=by rw[<-h1];simpa using hj'
   have h4:xs[j]? =some y.cells[j]:=by
    rw[List.getElem?_take]at h3;split at h3
    ·exact h3
    ·cases h3
   have:=hx j _ h4;show w.cell? _=_;simp only[World.cell?,ha,hj'];simpa using this
  ·refine mQ hb ha es (off+k) _ f4 d fun j z hz=> ?_;rw[List.getElem?_drop]at hz;have:=hx _ z hz;rw[f3]at this;rw[Nat.add_assoc];exact this
theorem aG.ls{id k len cap:Nat}{cs cs' es:List V}(hc:h[id]? =some (.cells cs))(hr:ay e h cs cs')(hf:bZ k es=true)(hflat:es.flatMap V.vc=cs')(hlen:len=es.length) :
 aG e h (.ls id k 0 len cap) (.is false k es):=by
 intro ok pl w x hs hv;simp only[VRel]at hv ⊢;obtain⟨a,cp,rfl,h1,h2,h3,h4⟩:=hv;refine⟨a,cp,by rw[hlen],by omega,h3,fun hf=>(by cases hf),?_⟩;rcases h4 with h4|⟨b,arr,el,fz,h5,h6,h7,h8⟩
 ·exact .inl (zse (by omega))
 ·refine .inr ⟨b,0,h6,?_⟩;obtain⟨o,ho,hat⟩:=hs.obj id b h5;rw[hc]at ho;cases ho;obtain⟨arr',el',fz',h9,h10,h11,h12⟩:=hat;have h13:w.heap[b]? =some (.cells arr' el' fz'):=h9;have:=hr ok pl w _ hs h12;rw[<-hflat]at this;exact mQ (hs.okl id b h5) h13 es 0 _ hf this fun j y hy=>by
   rw[List.getElem?_take]at hy;split at hy
   ·simpa using hy
   ·cases hy
theorem aG.lp{id off:Nat}{cs cs':List V}{v:V}(hc:h[id]? =some (.cells cs))(hr:ay e h cs cs')(hf:v.fit=true)(hd:v.dat=true)(hpos:0<v.vc.length)(hflat:(cs'.drop off).take v.vc.length=v.vc) :
 aG e h (.lp id off) (.ip v):=by
 intro ok pl w x hs hv;simp only[VRel]at hv ⊢;obtain⟨b,h5,rfl⟩:=hv;obtain⟨o,ho,hat⟩:=hs.obj id b h5;rw[hc]at ho;cases ho;obtain⟨arr',el',fz',h9,h10,h11,h12⟩:=hat;have h13:w.heap[b]? =some (.cells arr' el' fz'):=h9;have h14:=((hr ok pl w _ hs h12).dropN off).take v.vc.length;rw[hflat]at h14;obtain⟨y,h1,h2⟩:=uy hf h14;have hlen:y.cells.size=v.vc.length:=by
  have:=h14.length;rw[<-h1]at this;simpa using this
 refine⟨b,off,y,rfl,fun j hj=>⟨⟨hs.okl id b h5,fun i hi=>(by cases hi)⟩,?_⟩,by omega,h2⟩;have hj':y.cells[j]? =some y.cells[j]:=by simp[hj]
 have h3:y.cells.toList[j]? =some y.cells[j]:=by simpa using hj'
 rw[h1,List.getElem?_take]at h3;split at h3
 ·rw[List.getElem?_drop,List.getElem?_take]at h3;split at h3
  ·rw[hj'];show w.cell? _=_;simp only[World.cell?,h13];simpa using h3
  ·cases h3
 ·cases h3
theorem aG.lm{id:Nat}{ks vs ks' vs':List V}(hc:h[id]? =some (.map ks vs))(h1:ay e h ks ks')(h2:ay e h vs vs'):aG e h (.lm id) (.im ks' vs'):=by intro ok pl w x hs hv;simp only[VRel]at hv ⊢;obtain⟨b,h5,rfl⟩:=hv;obtain⟨o,ho,hat⟩:=hs.obj id b h5;rw[hc]at ho;cases ho;obtain⟨es,clk,h3,h4,h6⟩:=hat;exact⟨b,es,clk,rfl,⟨hs.okl id b h5,fun i hi=>(by cases hi)⟩,h3,h1 ok pl w _ hs h4,h2 ok pl w _ hs h6.1,h6.2⟩
end
def xE(P:Program)(f:Fr)(h:H):ResultVar->PV
 | .tmp t=>(True,f.t t)
 | .cell a t=>PV.and (f.t a).sc (wY P h t (f.t a).sv)
def jR(P:Program)(f:Fr)(h:H):List ResultVar->Prop×List V
 |[]=>(True,[])
 |r::rs=>((xE P f h r).1/\(jR P f h rs).1,(xE P f h r).2::(jR P f h rs).2)
def zo(P:Program)(f:Fr)(h:H):List ResultVar->PV
 |[r]=>xE P f h r
 |rs=>((jR P f h rs).1,.tup (jR P f h rs).2)
section
variable{e:E}{n:Nat}{ok:Nat->Prop}{pl0 pl:Nat->Option Nat}{w0 w:World}{f:Fr}{h:H}{a:Act}
def MJ(tmps:Array Value):ResultVar->Sem Value
 | .tmp t=>pure (tmps.getD t undef)
 | .cell a t=>do loadVar t (<-asAddr (tmps.getD a undef))
theorem MK(hs:HSim e ok pl h w){tmps:Array Value}(hv:∀i,VRel (cx ok pl w) (f.t i) (tmps.getD i undef))(r:ResultVar)(hp:(xE e.P f h r).1) :
 ∃x,(MJ tmps r).run e.P w= .ok x w/\VRel (cx ok pl w) (xE e.P f h r).2 x:=by
 cases r with
 |tmp t=>exact⟨_,rfl,hv t⟩
 |cell a t =>
  simp only[xE,PV.and]at hp;obtain⟨x,h1,h2⟩:=wZ hs (t:=t) ((hv a).sv hp.1) hp.2;refine⟨x,?_,h2⟩;have h1:(Instr.loadAt t (tmps.getD a undef)).run e.P w= .ok x w:=h1;show(do loadVar t (<-asAddr (tmps.getD a undef)):Sem Value).run e.P w=_
  revert h1
  generalize tmps.getD a undef=y;intro h1;unfold Instr.loadAt at h1;cases y<;>try(simp[Instr.sureAddr,stuck,Result.andThen]at h1;done)
  rename_i p;cases p with
  |none=>simp[Instr.sureAddr,stuck,Result.andThen]at h1
  |some p=>simpa [Instr.sureAddr,asAddr]using h1
theorem DX(hs:HSim e ok pl h w){tmps:Array Value}(hv:∀i,VRel (cx ok pl w) (f.t i) (tmps.getD i undef)):∀(rs:List ResultVar),(jR e.P f h rs).1 ->
 ∃xs,(rs.mapM (MJ tmps)).run e.P w= .ok xs w/\VList (cx ok pl w) (jR e.P f h rs).2 xs
 |[],_=>⟨[],rfl,by simp only[jR,VList]⟩
 |r::rs,hp=>by obtain⟨x,h1,h2⟩:=MK hs hv r hp.1;obtain⟨xs,h3,h4⟩:=DX hs hv rs hp.2;exact⟨x::xs,by simp[List.mapM_cons,h1,h3,Result.andThen],by simp only[jR,VList];exact⟨x,xs,rfl,h2,h4⟩⟩
theorem Ir(hs:HSim e ok pl h w){tmps:Array Value}(hv:∀i,VRel (cx ok pl w) (f.t i) (tmps.getD i undef)){fn:Func}(hp:(zo e.P f h fn.results.toList).1) :
 ∃x,(results fn tmps).run e.P w= .ok x w/\VRel (cx ok pl w) (zo e.P f h fn.results.toList).2 x:=by
 have hr : results fn tmps = (do
  let vs <-fn.results.mapM (MJ tmps)
  pure (if h:vs.size=1 then vs[0]else .tuple vs)):=by
  unfold results
  congr 1
 have hall:(jR e.P f h fn.results.toList).1:=by
  revert hp
  cases fn.results.toList with
  |nil=>exact fun hp=>hp
  |cons r rs =>
   cases rs with
   |nil=>exact fun hp=>⟨hp,trivial⟩
   |cons r' rs=>exact fun hp=>hp
 obtain⟨xs,h1,h2⟩:=DX hs hv fn.results.toList hall;have h3:(results fn tmps).run e.P w= .ok (if h:xs.toArray.size=1 then xs.toArray[0]else .tuple xs.toArray) w:=by rw[hr,Array.mapM_eq_mapM_toList];simp only[Sem.run_bind,Sem.run_map,h1,Result.andThen];rfl
 refine⟨_,h3,?_⟩;have hl:=h2.length
 revert hp h2 hl
 cases fn.results.toList with
 |nil=>intro hp h2 hl;simp only[jR,VList]at h2;subst h2;simp only[zo,jR,VRel,VList];exact⟨#[],rfl,rfl⟩
 |cons r rs =>
  cases rs with
  |nil=>intro hp h2 hl;simp only[jR,VList]at h2;obtain⟨y,ys,rfl,h4,rfl⟩:=h2;simpa [zo]using h4
  |cons r' rs =>
   intro hp h2 hl;have:¬xs.toArray.size=1:=by simp[jR]at hl;simp[hl]
   rw[dif_neg this];simp only[zo,VRel];exact⟨_,rfl,by simpa using h2⟩
end
def Fr.init(args:List V):Fr:={t:=fun i=>args.getD i jB}
def kZ:List Nat->H->Option H
 |[],h=>some h
 |i::is,h=>match h[i]? with
  |some (.misc .dfd)=>kZ is (h.set i (.misc .shut))
  |_=>none
def qP(P:Program)(rs:List ResultVar)(R:V->H->(Nat->Bool)->Prop)(f:Fr)(h:H):Prop :=
 match kZ f.d h with
 |some h'=>(zo P f h' rs).1/\R (zo P f h' rs).2 h' f.k
 |none=>False
def zO(P:Program)(rs:List ResultVar)(R:AEnd->H->(Nat->Bool)->Prop):XE->Fr->H->Prop
 | .normal,f,h | .ret,f,h=>qP P rs (fun v=>R (.ret v)) f h
 | .pan v,f,h=>match kZ f.d h with
  |some h'=>R (.pan v) h' f.k
  |none=>False
 |_,_,_=>False
section
variable{e:E}{g:FuncId}{fn:Func}{c:Code}{args:List V}{h:H}{R:AEnd->H->(Nat->Bool)->Prop}
theorem SSim.init(htl:e.tl=[]){ok:Nat->Prop}{pl:Nat->Option Nat}{w:World}{vs:List Value}{n:Nat}(hs:HSim e ok pl h w)(hv:VList (cx ok pl w) args vs)(hn:args.length<=n) :
 SSim e n ok pl w (Fr.init args) h pl w {tmps:=vs.toArray++Array.replicate (n-vs.toArray.size) undef,defers:=[]}:=by
 have hl:=hv.length;refine⟨hs,Keeps.refl pl w,by simp;omega,fun i=> ?_,htl.symm⟩;simp only[Fr.init];by_cases hi:i<args.length
 ·obtain⟨x,h1,h2⟩:=VList.get i (args[i]) hv (by simp[hi]);have h3:args.getD i jB=args[i]:=by simp[zqg,hi]
  have h4:(vs.toArray++Array.replicate (n-vs.toArray.size) undef).getD i undef=x:=by rw[Array.getD_eq_getD_getElem?,Array.getElem?_append_left (by simpa using(by omega:i<vs.length))];simp[h1]
  rw[h3,h4];exact h2
 ·have h3:args.getD i jB=jB:=by simp[zqg,Nat.not_lt.1 hi]
  have h4:(vs.toArray++Array.replicate (n-vs.toArray.size) undef).getD i undef=undef:=by rw[Array.getD_eq_getD_getElem?,Array.getElem?_append_right (by simpa using(by omega:vs.length<=i)),Array.getElem?_replicate];split<;>rfl
  rw[h3,h4];exact oD _
theorem ML(htl:e.tl=[]){ok:Nat->Prop}{pl0:Nat->Option Nat}{w0:World}{n:Nat}{f:Fr}{R':Ending->World->Prop}{u:FrameMode}(hu:u≠ .run){a:Act}{v:V}{x:Value}:∀(is:List Nat)(ds:List Deferred)(h h':H)(pl:Nat->Option Nat)(w:World),
 SSim e n ok pl0 w0 {f with d:=is} h pl w {a with defers:=ds}->VRel (cx ok pl w) v x->kZ is h=some h' ->
 (∀w',SSim e n ok pl0 w0 {f with d:=[]} h' pl w' {a with defers:=[]}->VRel (cx ok pl w') v x->LeavesInM (RF none) 0 e.P fn a.tmps R' [] u w')->LeavesInM (RF none) 0 e.P fn a.tmps R' ds u w
 |[],ds,h,h',pl,w,s,hx,hsh,hk=>by have hd:ds=[]:=Eq.trans s.dfr htl;subst hd;simp only[kZ,Option.some.injEq]at hsh;subst hsh;exact hk w s hx
 |i::is,ds,h,h',pl,w,s,hx,hsh,hk=>by
  obtain⟨b,rest,h1,h2,h3⟩:=s.dfr;have h1:ds=_:=h1;subst h1;have h2:pl i=some b:=h2;simp only[kZ]at hsh;split at hsh
  ·rename_i hc;obtain ⟨o,ho,hat⟩ := s.hs.obj i b h2;rw [hc] at ho;cases ho;have hheap : w.heap[b]? = some (.deferred (some [])) := hat;have hlt := s.hs.lt i b h2;obtain ⟨hs2,k2⟩ := s.hs.upd (w' := w.putObj b (.deferred none)) h2 (.misc .shut) rfl rfl rfl (by simp) (fun j hj => World.putObj_heap_other hj)
    (fun arr el fz hh=>by rw[hheap]at hh;cases hh) (fun k=>World.putObj_heap_same hlt)
   refine⟨hu,.inl ⟨b,_,rfl,run_takeDeferred hheap,?_⟩⟩;have s2:=s.next0 hs2 k2;have h4:Gi (cx ok pl (w.putObj b (.deferred none))) e.tl is rest:=Gi.mono (c:=cx ok pl w) (c':=cx ok pl (w.putObj b (.deferred none))) (fun _ _ hi=>hi) h3;exact ML htl hu is rest _ h' pl _ ⟨s2.hs,s2.kp,s2.size,s2.val,h4⟩ (VRel.mono k2.cext _ _ hx) hsh hk
  ·cases hsh
theorem aj(hf:e.P.funcs[g]? =some fn)(hb:fn.body=some c)(hn:args.length<=fn.ntmps)
 (hv:awp e fn.ntmps none c (zO e.P fn.results.toList R) (Fr.init args) h) (htl:e.tl=[]:=by rfl):ag e g args h R:=by
 intro ok pl w vs hs hl;refine oC (r:=none) (n:=0) (callsIn_of_wp_marks hf hb (gU none g) ?_ rfl);have s0:=SSim.init htl (n:=fn.ntmps) hs hl hn;refine wpIn_mono (hv ok pl w pl w _ s0) ?_;rintro ex a w' ⟨pl',f',h',xe,s,hx,hq⟩;have done:qP e.P fn.results.toList (fun v=>R (.ret v)) f' h'->LeavesInM (RF none) 0 e.P fn a.tmps (fun en w'=>∃p pl' h' ae,HSim e ok pl' h' w'/\Keeps p pl w pl' w'/\Il (cx ok pl' w') ae en/\R ae h' p) a.defers .returning w':=by
  intro hq;unfold qP at hq;split at hq
  ·rename_i h2 hsh;refine ML htl (f:=f') (a:=a) (v:= .any) (x:=undef) (by simp) f'.d a.defers h' h2 pl' w' s (by simp only[VRel]) hsh fun w2 s2 _=> ?_;obtain⟨x,h1,h3⟩:=Ir (f:=f') s2.hs s2.val hq.1;exact⟨x,h1,f'.k,pl',h2,.ret _,s2.hs,s2.kp,h3,hq.2⟩
  ·exact hq.elim
 cases xe<;>cases ex<;>(try(exact hx.elim))<;>(try(exact hq.elim))
 case normal=>exact done hq
 case ret=>exact done hq
 case pan v ch =>
  simp only[zO]at hq;split at hq
  ·rename_i h2 hsh;obtain⟨x,hch,hxr⟩:=hx;exact ML htl (f:=f') (a:=a) (v:=v) (x:=x) (by simp) f'.d a.defers h' h2 pl' w' s hxr hsh fun w2 s2 hr=>⟨f'.k,pl',h2,.pan v,s2.hs,s2.kp,⟨x,hch,hr⟩,hq⟩
  ·exact hq.elim
theorem jS{r:V}(hv:ag e g args [] fun ae h _=>match ae with | .ret v=>aG e h v r | .pan _=>False):Ev e g args r:=by
 intro ok w vs hs hl;refine(hv ok _ w vs hs hl).mono ?_;rintro en w' ⟨p,pl',h',ae,hs',k,he,hr⟩;cases ae with
 |pan v=>exact hr.elim
 |ret v =>
  cases en with
  |returned x=>exact⟨x,rfl,⟨k.os,k.tape,k.output,k.size,fun b hb=>k.same b hb (fun i hi=>by cases hi)⟩,hr ok pl' w' x hs' he⟩
  |panicked ch=>exact he.elim
  |outgrown=>exact he.elim
def Wj(e:E)(r:V)(v:V)(h:H)(_:Nat->Bool):Prop:=aG e h v r
def TJ(e:E)(rs:List ResultVar)(r:V):XE->Fr->H->Prop
 | .normal,f,h | .ret,f,h=>qP e.P rs (Wj e r) f h
 |_,_,_=>False
theorem ak{r:V}(hf:e.P.funcs[g]? =some fn)(hb:fn.body=some c)(hn:args.length<=fn.ntmps)
 (hv:awp e fn.ntmps none c (TJ e fn.results.toList r) (Fr.init args) []) (htl:e.tl=[]:=by rfl):Ev e g args r :=
 jS (aj hf hb hn (aX (fun xe f h hq=>by cases xe<;>first|exact hq|exact hq.elim) hv) htl)
def V.plain1:V->Bool
 | .any | .bool _ | .int _ _ | .str _ | .nilp | .nils | .nilm | .nilf | .nili=>true
 |_=>false
def V.plain:V->Bool
 | .tup vs=>vs.all V.plain1
 |v=>v.plain1
theorem VRel.plain1{c c':C}{v:V}{x:Value}(hp:v.plain1=true)(h:VRel c v x):VRel c' v x:=by cases v<;>simp only[V.plain1,zrm]at hp<;>simpa only[VRel]using h
theorem VList.plain{c c':C}:∀ {vs:List V} {xs:List Value},vs.all V.plain1=true->VList c vs xs->VList c' vs xs
 |[],_,_,h=>by simpa only[VList]using h
 |v::vs,_,hp,h=>by simp only[List.all_cons,zqf]at hp;simp only[VList]at h ⊢;obtain⟨y,ys,rfl,h1,h2⟩:=h;exact⟨y,ys,rfl,h1.plain1 hp.1,h2.plain hp.2⟩
theorem VRel.plain{c c':C}{v:V}{x:Value}(hp:v.plain=true)(h:VRel c v x):VRel c' v x:=by
 cases v
 case tup vs =>
  simp only[VRel]at h ⊢;obtain⟨cs,rfl,h1⟩:=h;exact⟨cs,rfl,h1.plain hp⟩
 all_goals exact VRel.plain1 (by simpa [V.plain]using hp) h
theorem HSim.lend{ok:Nat->Prop}{pl:Nat->Option Nat}{w:World}(hs:HSim e ok pl h w):HSim e ok (fun _=>none) [] w where
 fresh:=hs.fresh
 lt i b hi:=by cases hi
 okl i b hi:=by cases hi
 inj i j b hi:=by cases hi
 obj i b hi:=by cases hi
 bare i o ho:=by simp at ho
 glob g v hg:=aG.dat (h:=h) (v:= .ip v) rfl ok pl w _ hs (hs.glob g v hg)
 exa g cs hg:=by
  obtain⟨h1,h2⟩:=hs.exa g cs hg;exact⟨⟨h1.1,fun i hi=>(by cases hi)⟩,h2⟩
theorem ag.lend{args':List V}{r:V}(hv:Ev e g args' r)(hr:ay e h args args')(hp:r.plain=true)(hk:R (.ret r) h (fun _=>false)):ag e g args h R :=
 fun ok pl w vs hs hl=>(hv ok w vs hs.lend (hr ok pl w vs hs hl)).mono fun en w' ⟨x,h1,h2,h3⟩ =>
  ⟨fun _=>false,pl,h,.ret r,hs.wext h2,h2.keeps hs,by rw[h1];exact h3.plain hp,hk⟩
end
theorem MM{p c:Prop}{v:V}:PV.and p (c,v)=(p/\c,v):=rfl
section
variable{e:E}{n:Nat}{r:Option Nat}{Q:XE->Fr->H->Prop}{f:Fr}{h:H}{ops:Array Oper}
theorem Uw:vc e n r .skip Q f h=Q .normal f h:=rfl
theorem Ux{i:Nat}:vc e n r (.exit i) Q f h=Q (.exit i) f h:=rfl
theorem Wl:vc e n r .ret Q f h=Q .ret f h:=rfl
theorem Wn{x y:Code}:vc e n r (.seq x y) Q f h=vc e n r x (XE.seq (vc e n r y Q) Q) f h:=rfl
theorem Uy{c:Operand}{x y:Code}:vc e n r (.cond c x y) Q f h=(match (f.ev e c).sv with
 | .bool b=>(f.ev e c).sc/\vcB b (vc e n r x Q) (vc e n r y Q) f h
 |_=>False):=rfl
theorem Qw{i:Nat}{x:Code}:vc e n r (.block i x) Q f h=vc e n r x (XE.block i Q) f h:=rfl
theorem MN{i:Nat}{l:List Oper}:vc e n r (.region i l.toArray false) Q f h=qx e n l.toArray Q l f h:=rfl
theorem Qx{i:Nat}{l:List Oper}:vc e n r (.region i l.toArray true) Q f h=(match l.all BD with
 |true=>Region.lexB .any l.toArray=true/\gq e n l.toArray h (Qv Q h) l f
 |false=>awp e n r (.region i l.toArray true) Q f h):=rfl
theorem Uz{c:Code}:vc e n r (.loop c) Q f h=awp e n r (.loop c) Q f h:=rfl
theorem JP{Kn:Fr->H->Prop}:XE.seq Kn Q .normal=Kn:=rfl
theorem Qy{Kn:Fr->H->Prop}{i:Nat}:XE.seq Kn Q (.exit i)=Q (.exit i):=rfl
theorem UA{Kn:Fr->H->Prop}:XE.seq Kn Q .ret=Q .ret:=rfl
theorem DY{i:Nat}:XE.block i Q .normal=Q .normal:=rfl
theorem JQ{i j:Nat}:XE.block i Q (.exit j)=(match j==i with|true=>Q .normal|false=>Q (.exit j)):=rfl
theorem MQ{i:Nat}:XE.block i Q .ret=Q .ret:=rfl
theorem MR:qx e n ops Q [] f h=Q .normal f h:=rfl
theorem JR{d:Option Tmp}{op:Op}{t:TypeId}{p:String}{af:Array Edge}{l:List Oper}:qx e n ops Q (⟨d,op,t,p,af,none⟩::l) f h=(jh n d=true /\
 match jQ op with
 |true=>DR e n ⟨d,op,t,p,af,none⟩ f h (qx e n ops Q l) Q
 |false=>xB true (wH e.P ⟨d,op,t,p,af,none⟩ (f.ev e) h) d (qx e n ops Q l) f h):=by
 simp only[qx,gd]
 congr 1
 cases jQ op
 ·rfl
 ·simp[Gf]
theorem MS{d:Option Tmp}{op:Op}{t:TypeId}{p:String}{af:Array Edge}{g:Nat×Bool}{l:List Oper}:qx e n ops Q (⟨d,op,t,p,af,some g⟩::l) f h=(match gd ops f ⟨d,op,t,p,af,some g⟩with
 |none=>False
 |some q=>jh n d=true /\
  match jQ op with
  |true=>Gf q e n ⟨d,op,t,p,af,none⟩ (qx e n ops Q l) Q f h
  |false=>xB q (wH e.P ⟨d,op,t,p,af,none⟩ (f.ev e) h) d (qx e n ops Q l) f h):=rfl
theorem DZ{Qn:Fr->Prop}{d:Option Tmp}{op:Op}{t:TypeId}{p:String}{af:Array Edge}{l:List Oper}:gq e n ops h Qn (⟨d,op,t,p,af,none⟩::l) f=(jh n d=true /\
 match jQ op with
 |true=>match op with
  | .call {callee:= .value fx,args,..}=>match lT e (f.ev e) fx args with
   |some (q,vs)=>uw e true q vs (dH (f.ev e) fx args) d (gq e n ops h Qn l) f
   |none=>False
  |_=>False
 |false=>goQ true (wH e.P ⟨d,op,t,p,af,none⟩ (f.ev e) h) d (gq e n ops h Qn l) f):=rfl
theorem Gu{Qn:Fr->Prop}{d:Option Tmp}{op:Op}{t:TypeId}{p:String}{af:Array Edge}{g:Nat×Bool}{l:List Oper}:gq e n ops h Qn (⟨d,op,t,p,af,some g⟩::l) f=(match gd ops f ⟨d,op,t,p,af,some g⟩with
 |none=>False
 |some b=>jh n d=true /\
  match jQ op with
  |true=>match op with
   | .call {callee:= .value fx,args,..}=>match lT e (f.ev e) fx args with
    |some (q,vs)=>uw e b q vs (dH (f.ev e) fx args) d (gq e n ops h Qn l) f
    |none=>False
   |_=>False
  |false=>goQ b (wH e.P ⟨d,op,t,p,af,none⟩ (f.ev e) h) d (gq e n ops h Qn l) f):=rfl
theorem MV{dst:Option Tmp}{Kn:Fr->H->Prop}{v:V}:fB dst Kn Q f (.ret v) h (fun _=>false)=Kn (f.put dst v) h:=by simp[fB]
theorem Gv{Qn:Fr->Prop}:gq e n ops h Qn [] f=Qn f:=rfl
theorem Qz{q:Prop}{v:V}{d:Option Tmp}{Kn:Fr->Prop}:goQ true (q,v) d Kn f=(q/\Kn (f.put d v)):=by simp[goQ,V.guard]
theorem MW{q:PV}{d:Option Tmp}{Kn:Fr->Prop}:goQ false q d Kn f=Kn (f.put d (.grd false q.2)):=by simp[goQ,V.guard]
theorem UB{g:Bool}{q:Prop}{v:V}{d:Option Tmp}{Kn:Fr->Prop}:goQ g (q,v) d Kn f=((g=true->q)/\Kn (f.put d (V.guard g v))):=rfl
theorem MX{o:Oper}{Kn:Fr->H->Prop}:Gf true e n o Kn Q f h=DR e n o f h Kn Q:=by simp[Gf]
theorem JS{o:Oper}{Kn:Fr->H->Prop}:Gf false e n o Kn Q f h=MC o.dst Kn f h:=by simp[Gf]
theorem Gf.ev{g:Bool}{d:Option Tmp}{t:TypeId}{p:String}{af:Array Edge}{gu:Option (Nat×Bool)}{fx:Operand}{args:Array Operand}{ts:Array TypeId}{Kn:Fr->H->Prop}{q:FuncId}{vs:List V}{rv:V}
 (hon:lT e (f.ev e) fx args=some (q,vs)) (hsc:g=true->dH (f.ev e) fx args) (hen:ah e.P q=true) (hv:g=true->Ev e q vs rv) (hd:g=true->V.dats vs=true) (hk:Kn (f.put d (V.guard g rv)) h) :
 Gf g e n ⟨d,.call {callee:= .value fx,args:=args,argTypes:=ts},t,p,af,gu⟩ Kn Q f h:=by
 refine⟨fun hg=> ?_,fun hg=> ?_⟩
 ·subst hg;simp only[DR,Ip,hon];refine⟨hsc rfl,hen,ag.ev (hv rfl) (hd rfl) ?_⟩;simpa [fB,V.guard]using hk
 ·subst hg;exact⟨rv,hk⟩
theorem QA{v:V}:f.put none v=f:=rfl
theorem QB{v:Value}:f.ev e (.const v)=Dx v:=rfl
theorem iQ{g:Nat}:f.ev e (.global g)=glv e g:=rfl
theorem UC{g:Nat}:f.ev e (.func g)= .fn (.func g) [] []:=rfl
theorem X5{i:Tmp}{v:V}{j:Tmp}:(f.put (some i) v).t j=if j=i then v else f.t j:=rfl
theorem Wp{j:Tmp}:f.ev e (.tmp j)=f.t j:=rfl
theorem rU{i:Option Tmp}{v:V}:(f.put i v).d=f.d:=by cases i<;>rfl
theorem X6{i:Option Tmp}{v:V}:(f.put i v).k=f.k:=by cases i<;>rfl
theorem Wq{args:List V}{i:Nat}:(Fr.init args).t i=args.getD i jB:=rfl
theorem rV{args:List V}:(Fr.init args).d=[]:=rfl
end
mutual
def V.bnd:V->Prop
 | .str s=>s.length<=maxLen
 | .is _ _ es=>es.length<=maxLen/\V.bnds es
 | .ls _ _ _ len _=>len<=maxLen
 | .ip e=>e.bnd
 | .im ks vs=>V.bnds ks/\V.bnds vs
 | .agg vs=>V.bnds vs
 | .tup vs=>V.bnds vs
 | .iface _ e=>e.bnd
 | .fn _ a b=>V.bnds a/\V.bnds b
 |_=>True
def V.bnds:List V->Prop
 |[]=>True
 |v::vs=>v.bnd/\V.bnds vs
end
mutual
theorem VRel.bnd:∀ {c:C} {v:V} {x:Value},VRel c v x->v.bnd
 |c,.str s,x,h=>by simp only[VRel]at h;obtain⟨_,_,_,h⟩:=h;exact h
 |c,.is ex k es,x,h=>by
  simp only[VRel]at h;obtain⟨a,cp,_,h1,h2,_,h3⟩:=h;refine⟨by omega,?_⟩;rcases h3 with rfl|⟨b,off,_,h3⟩
  ·trivial
  ·exact VElems.bnd h3
 |c,.ls id k off len cap,x,h=>by simp only[VRel]at h;obtain⟨a,cp,_,_,h1,h2,_⟩:=h;simp only[V.bnd];omega
 |c,.ip e,x,h=>by simp only[VRel]at h;obtain⟨_,_,_,_,_,_,h⟩:=h;simp only[V.bnd];exact VRel.bnd h
 |c,.im ks vs,x,h=>by simp only[VRel]at h;obtain⟨_,_,_,_,_,_,h1,h2,_⟩:=h;exact⟨VList.bnd h1,VList.bnd h2⟩
 |c,.agg vs,x,h=>by simp only[VRel]at h;obtain⟨_,_,h⟩:=h;simp only[V.bnd];exact VList.bnd h
 |c,.tup vs,x,h=>by simp only[VRel]at h;obtain⟨_,_,h⟩:=h;simp only[V.bnd];exact VList.bnd h
 |c,.iface t e,x,h=>by simp only[VRel]at h;obtain⟨_,_,h⟩:=h;simp only[V.bnd];exact VRel.bnd h
 |c,.fn f a b,x,h=>by simp only[VRel]at h;obtain⟨_,_,_,h1,h2⟩:=h;exact⟨VList.bnd h1,VList.bnd h2⟩
 |c,.any,x,h|c,.bool _,x,h|c,.int _ _,x,h|c,.nilp,x,h|c,.lp _ _,x,h|c,.nils,x,h|c,.nilm,x,h|c,.lm _,x,h|c,.yd _,x,h|c,.nilf,x,h|c,.nili,x,h|c,.grd _ _,x,h|c,.row _ _,x,h=>by simp only[V.bnd]
theorem VList.bnd:∀ {c:C} {vs:List V} {xs:List Value},VList c vs xs->V.bnds vs
 |c,[],xs,h=>trivial
 |c,v::vs,xs,h=>by simp only[VList]at h;obtain⟨_,_,_,h1,h2⟩:=h;exact⟨VRel.bnd h1,VList.bnd h2⟩
theorem VElems.bnd:∀ {c:C} {k:Nat} {es:List V} {b off:Nat},VElems c k es b off->V.bnds es
 |c,k,[],b,off,h=>trivial
 |c,k,e::es,b,off,h=>by simp only[VElems]at h;obtain⟨⟨_,_,_,h1⟩,h2⟩:=h;exact⟨VRel.bnd h1,VElems.bnd h2⟩
end
theorem Ev.bnd{e:E}{g:FuncId}{args:List V}{r:V}(h:V.bnds args->Ev e g args r):Ev e g args r :=
 fun ok w vs hs hl=>h hl.bnd ok w vs hs hl
theorem ag.bnd{e:E}{g:FuncId}{args:List V}{h:H}{R:AEnd->H->(Nat->Bool)->Prop}(hh:V.bnds args->ag e g args h R):ag e g args h R :=
 fun ok pl w vs hs hl=>hh hl.bnd ok pl w vs hs hl
theorem zQ{n:Int}(h1:-9223372036854775808<=n)(h2:n<9223372036854775808):IntKind.i64.wrap n=n:=by
 have key:IntKind.i64.wrap n=if n%18446744073709551616>=9223372036854775808 then n%18446744073709551616-18446744073709551616 else n%18446744073709551616:=by simp[IntKind.wrap,IntKind.bits,IntKind.signed]
 rw[key];split<;>omega
theorem aB{i:Nat}(h:i<maxLen):IntKind.i64.wrap ((i:Int)+1)=((i+1:Nat):Int):=by have:maxLen=9223372036854775807:=rfl;rw[zQ (by omega) (by omega)];rfl
theorem fP{α β:Type}{f:α->β}{l:List α}{i:Nat}(h:i<l.length)(d:β):(l.map f).getD i d=f l[i]:=by simp[zqg,h]
def aY(P:Program){α:Type}(s:Sem α):Prop:=∀w x w1,s.run P w= .ok x w1->∀w',s.run P w'= .ok x w'
def eH(P:Program){α:Type}(s:Sem α):Prop:=∀w x w1,s.run P w≠ .ok x w1
theorem eH.blind{P:Program}{α:Type}{s:Sem α}(h:eH P s):aY P s:=fun w x w1 hr=>absurd hr (h w x w1)
theorem aY.pure{P:Program}{α:Type}(a:α):aY P (pure a:Sem α):=fun w x w1 h w'=>by rw[Sem.run_pure]at h ⊢;cases h;rfl
theorem eH.stuck{P:Program}{α:Type}(why:String):eH P (stuck why:Sem α):=fun w x w1 h=>by cases h
theorem eH.unsupported{P:Program}{α:Type}(u:Unsupported):eH P (unsupported u:Sem α):=fun w x w1 h=>by cases h
theorem eH.goPanic{P:Program}{α:Type}(v:Value):eH P (goPanic v:Sem α):=fun w x w1 h=>by cases h
theorem aY.bind{P:Program}{α β:Type}{s:Sem α}{f:α->Sem β}(hs:aY P s)(hf:∀a,aY P (f a)):aY P (s >>= f):=fun w x w1 h w'=>by
 rw[Sem.run_bind]at h ⊢;cases hr:s.run P w with
 |ok a w2=>rw[hr]at h;have h2:=hs w a w2 hr;have e:=(h2 w).symm.trans hr;cases e;rw[h2 w'];exact hf a w x w1 h w'
 |halt a b=>rw[hr]at h;cases h
theorem mV{P:Program}{α β:Type}{s:Sem α}{f:α->Sem β}(hf:∀a,eH P (f a)):eH P (s >>= f):=fun w x w1 h=>by
 rw[Sem.run_bind]at h;cases hr:s.run P w with
 |ok a w2=>rw[hr]at h;exact hf a w2 x w1 h
 |halt a b=>rw[hr]at h;cases h
theorem aY.program{P:Program}:aY P program:=fun w x w1 h w'=>by rw[run_program]at h ⊢;cases h;rfl
theorem aY.underlying{P:Program}(t:TypeId):aY P (underlying t):=by
 unfold Go.underlying;refine aY.program.bind fun p=> ?_;split
 ·exact aY.pure _
 ·exact(eH.stuck _).blind
theorem aY.sizeOf{P:Program}(t:TypeId):aY P (sizeOf t):=by
 unfold Go.sizeOf typeInfo;refine aY.bind (aY.program.bind fun p=> ?_) fun _=>aY.pure _;split
 ·exact aY.pure _
 ·exact(eH.stuck _).blind
theorem eH.runtimePanic{P:Program}{α:Type}(e:RuntimeError):eH P (runtimePanic e:Sem α):=by unfold Go.runtimePanic;refine mV fun p=> ?_;cases e<;>first|exact eH.goPanic _|exact mV fun _=>mV fun _=>eH.goPanic _
theorem eH.boundsPanic{P:Program}{α:Type}(k:IntKind)(x y:Int)(c:BoundsCode):eH P (boundsPanic k x y c:Sem α):=by unfold Go.boundsPanic;dsimp only;split<;>exact mV fun _=>eH.runtimePanic _
theorem aY.asIntOf{P:Program}(v:Value):aY P (asIntOf v):=by
 unfold Go.asIntOf;split
 ·exact aY.pure _
 ·exact(eH.unsupported _).blind
 ·exact(eH.stuck _).blind
theorem aY.sureAddr{P:Program}(v:Value):aY P (Instr.sureAddr v):=by
 unfold Instr.sureAddr;split
 ·exact aY.pure _
 all_goals first|exact(eH.runtimePanic _).blind|exact(eH.stuck _).blind|exact(eH.unsupported _).blind
theorem aY.indexAt{P:Program}(t:TypeId)(x i:Value):aY P (Instr.indexAt t x i):=by
 unfold Instr.indexAt
 repeat' first
  |exact aY.pure _
  |exact aY.asIntOf _
  |exact aY.underlying _
  |exact aY.sizeOf _
  |exact aY.sureAddr _
  |exact(eH.stuck _).blind
  |exact(eH.unsupported _).blind
  |exact(eH.boundsPanic _ _ _ _).blind
  |refine aY.bind ?_ (fun _=> ?_)
  |split
  |dsimp only
theorem aY.sliceBound{P:Program}(v:Value)(y:Nat)(c:BoundsCode):aY P (Instr.sliceBound v y c):=by
 unfold Instr.sliceBound;refine(aY.asIntOf v).bind fun ki=> ?_;dsimp only;split
 ·exact aY.pure _
 ·exact(eH.boundsPanic _ _ _ _).blind
theorem aY.sliceBounds{P:Program}(b:Bool)(len cap:Nat)(lo hi mx:Option Value):aY P (Instr.sliceBounds b len cap lo hi mx):=by
 unfold Instr.sliceBounds
 repeat' first
  |exact aY.pure _
  |exact aY.sliceBound _ _ _
  |exact(eH.stuck _).blind
  |refine aY.bind ?_ (fun _=> ?_)
  |split
  |dsimp only
theorem aY.asAddr{P:Program}(v:Value):aY P (asAddr v):=by
 unfold Go.asAddr;split
 all_goals first|exact aY.pure _|exact(eH.runtimePanic _).blind|exact(eH.stuck _).blind|exact(eH.unsupported _).blind
theorem aY.slice{P:Program}(t:TypeId)(x:Value)(lo hi mx:Option Value):aY P (Instr.slice t x lo hi mx):=by
 unfold Instr.slice
 repeat' first
  |exact aY.pure _
  |exact aY.sliceBounds _ _ _ _ _ _
  |exact aY.underlying _
  |exact aY.sizeOf _
  |exact aY.asAddr _
  |exact(eH.stuck _).blind
  |refine aY.bind ?_ (fun _=> ?_)
  |split
  |dsimp only
theorem aY.sliceAt{P:Program}(t:TypeId)(x:Value)(lo hi mx:Option Value):aY P (Instr.sliceAt t x lo hi mx):=by
 unfold Instr.sliceAt;refine(aY.underlying t).bind fun d=> ?_;split
 ·exact(aY.sureAddr _).bind fun _=>(aY.sliceBounds _ _ _ _ _ _).bind fun _=>(aY.sizeOf _).bind fun _=>aY.pure _
 ·exact aY.slice _ _ _ _ _
theorem aY.makeInterface{P:Program}(t:TypeId)(x:Value):aY P (Instr.makeInterface t x):=by
 unfold Instr.makeInterface;refine(aY.underlying t).bind fun d=> ?_;split
 ·exact(eH.stuck _).blind
 ·exact aY.pure _
theorem aY.neg{P:Program}(x:Value):aY P (Op.unary .neg x):=by unfold Op.unary;split<;>first|exact aY.pure _|exact(eH.stuck _).blind|exact(eH.unsupported _).blind|(rename_i h;cases h)
theorem Gw{P:Program}{op:BinOp}(t:TypeId)(k k':IntKind)(x y:Int)(h:op= .add\/op= .sub):aY P (binOp op t (.int k x) (.int k' y)):=by
 rcases h with rfl | rfl <;> (
  unfold binOp;dsimp only;split
  ·exact(eH.stuck _).blind
  ·exact aY.pure _)
theorem ji{P:Program}{c:C}{s:Sem Value}{ev:Operand->Value}{o:Oper}{v:V}(hb:aY P s)(he:execOp ev o=(do pure (Next.value (<-s))))
 (hy:kH P (fun x w'=>WExt c.w w'/\VRel {c with w:=w'} v x) ((execOp ev o).run P c.w)):∃x,(∀w',(execOp ev o).run P w'= .ok (.value x) w')/\VRel c v x:=by
 rw[he]at hy ⊢;rw[Sem.run_bind]at hy;cases hr:s.run P c.w with
 |ok a w2=>have h2:=hb _ a w2 hr;have e:=(h2 c.w).symm.trans hr;cases e;rw[hr]at hy;refine⟨a,fun w'=> ?_,hy.2⟩;rw[Sem.run_bind,h2 w'];rfl
 |halt a b=>rw[hr]at hy;exact hy.elim
def qQ(P:Program):Op->Bool
 | .move _ | .assign _=>true
 | .fieldAddr s _ f=>match P.underlying s with
  |some (.struct fs)=>match fs[f]? with
   |some fd=>match P.info? fd.type with
    |some i=>i.size != 0
    |none=>false
   |none=>false
  |_=>false
 |_=>false
theorem QC{P:Program}{o:Oper}(hp:qQ P o.op=true)(ev:Operand->Value){w:World}{x:Value}(h:(execOp ev o).run P w= .ok (.value x) w)(w':World) :
 (execOp ev o).run P w'= .ok (.value x) w':=by
 cases hop:o.op<;>rw[hop]at hp<;>simp only[qQ,zrm]at hp
 case move y =>
  have e1:execOp ev o=pure (Next.value (ev y)):=by simp[execOp,hop]
  rw[e1]at h ⊢;simp only[Sem.run_pure,Result.ok.injEq,Next.value.injEq,and_true]at h ⊢;exact h
 case assign y =>
  have e1:execOp ev o=pure (Next.value (ev y)):=by simp[execOp,hop]
  rw[e1]at h ⊢;simp only[Sem.run_pure,Result.ok.injEq,Next.value.injEq,and_true]at h ⊢;exact h
 case fieldAddr s y f =>
  have e1:execOp ev o=(do pure (Next.value (<-Instr.fieldAt s (ev y) f))):=by simp[execOp,hop]
  rw[e1]at h ⊢
  revert h
  split at hp
  ·rename_i fs hu;split at hp
   ·rename_i fd hf;split at hp
    ·rename_i i hi;have hsz:¬i.size=0:=by simpa using hp
     unfold Instr.fieldAt underlying;simp only[Sem.run_bind,run_program,Result.andThen,hu,Sem.run_pure,hf];cases ev y<;>simp[Instr.sureAddr,Result.andThen,stuck];rename_i a;cases a<;>simp[Instr.sureAddr,Result.andThen,stuck,fieldPlace,sizeOf,typeInfo,hi,hsz]
    ·cases hp
   ·cases hp
  ·cases hp
def qR:Op->Bool
 | .nilCheck _ | .unOp .neg _ _ | .indexAddr _ _ _ | .slice _ _ _ _ _ | .makeInterface _ _=>true
 | .binOp .add _ _ (.const (.int _ _)) _ | .binOp .sub _ _ (.const (.int _ _)) _=>true
 |_=>false
def qF(P:Program)(o:Op):Bool:=qQ P o||qR o
theorem JU{P:Program}{o:Oper}(hp:qF P o.op=true):(∀c,o.op≠ .call c)/\(∀c,o.op≠ .defer c)/\∀cs b,o.op≠ .select cs b:=by cases hop:o.op<;>rw[hop]at hp<;>simp[qF,qQ,qR]at hp ⊢
def mW(ops:Array Oper):Bool:=ops.toList.all fun o=>match o.op with | .defer _ | .select _ _=>false|_=>true
theorem mX{ops:Array Oper}(h:mW ops=true){j:Nat}{o:Oper}(hj:ops[j]? =some o):(∀c,o.op≠ .defer c)/\∀cs b,o.op≠ .select cs b:=by
 have:o∈ops.toList:=by rw[Array.mem_toList_iff];exact Array.mem_of_getElem? hj
 have:=(zrs.1 h) o this;cases hop:o.op<;>rw[hop]at this<;>simp at this ⊢
section
variable{e:E}{n:Nat}{r:Option Nat}{ops:Array Oper}{md:Region.Mode}{Q:Exit->Act->World->Prop}{P:Program}
theorem rW{i:Nat}{o:Oper}{v:Value}{a:Act}(hp:qF P o.op=true)(hi:ops[i]? =some o)(hy:Yields P ops o v a){K:Act->World->Prop}{w:World}(h:K (a.put o.dst v) w) :
 wpOpIn (RF r) 0 P ops Q i K a w:=by
 unfold Go.wpOpIn;simp only[hi];rcases hy with⟨hw,hv⟩|⟨hw,rfl⟩
 ·rw[if_pos hw];refine⟨fun g _=>gU r g,?_⟩;rw[dP,Oper.semAt_eq r a.eval o (JU hp).2.1,hv w];exact h
 ·rw[if_neg (by rw[hw];simp)];exact⟨fun g _=>gU r g,h⟩
theorem Gx{j:Nat}{oi oj:Oper}{v:Value}(hj:ops[j]? =some oj)(hap:oi.apart ops oj=true)
 (hsi:∀cs b,oi.op≠ .select cs b) (hsj:∀cs b,oj.op≠ .select cs b) (hdj:∀c,oj.op≠ .defer c)
 (hQ:∀c a w,Q (.panic c) (a.put oi.dst v) w->Q (.panic c) a w) {K:Act->World->Prop} {a:Act} {w:World}
 (hy:Yields P ops oi v a) (h:wpOpIn (RF r) 0 P ops Q j K (a.put oi.dst v) w) :
 wpOpIn (RF r) 0 P ops Q j (fun a' w'=>Yields P ops oi v a'/\K (a'.put oi.dst v) w') a w:=by
 obtain⟨h1,h2,h3⟩:=Oper.apart_spec hap;have keep:∀(a:Act),Yields P ops oi v a->∀u,Yields P ops oi v (a.put oj.dst u):=fun a hy u =>
  hy.of_same (execOp_put oi hsi a oj.dst u h3) (wanted_put oi a oj.dst u h3)
 have keepD:∀d,Yields P ops oi v {a with defers:=d::a.defers}:=fun d=>hy.of_same rfl rfl;unfold wpOpIn at *;simp only[hj]at *;rw[wanted_put oj a oi.dst v h1]at h;split
 ·rename_i hw;simp only[hw,if_true]at h;unfold Oper.wpIn at *;refine⟨fun g _=>gU r g,?_⟩;have h:=h.2;rw[dP,Oper.semAt_eq r _ oj hdj,execOp_put oj hsj a oi.dst v h1]at h;rw[dP,Oper.semAt_eq r _ oj hdj];generalize (execOp a.eval oj).run P w=rr at *;cases rr with
  |ok x w' =>
   cases x<;>simp only[Oper.uponIn]at h ⊢
   case value u=>exact⟨keep a hy u,by rw[<-Act.put_comm a v u h2];exact h⟩
   case skip=>exact⟨keep a hy _,by rw[<-Act.put_comm a v undef h2];exact h⟩
   case defer d =>
    refine⟨keep _ (keepD d) _,?_⟩;rw[<-Act.put_comm _ v undef h2,<-Act.put_defers];exact h
   case enter f args =>
    refine⟨h.1,CallsIn.mono h.2 fun e w'' he=> ?_⟩;cases e with
    |returned u=>exact⟨keep a hy u,by rw[<-Act.put_comm a v u h2];exact he⟩
    |panicked c=>exact hQ _ _ _ he
    |outgrown=>exact he
   case row row args=>exact⟨h.1,RowsIn.mono h.2 fun u w'' he=>⟨keep a hy u,by rw[<-Act.put_comm a v u h2];exact he⟩⟩
   case round l f tmps assign body =>
    refine⟨h.1,RoundIn.mono h.2 fun e w'' he=> ?_⟩;cases e with
    |returned u=>exact⟨keep a hy u,by rw[<-Act.put_comm a v u h2];exact he⟩
    |panicked c=>exact hQ _ _ _ he
    |outgrown=>exact he
  |halt x w' =>
   cases x<;>simp only[Oper.uponIn]at h ⊢
   case panic u=>exact hQ _ _ _ h
 ·rename_i hw;simp only[hw]at h;exact⟨fun g _=>gU r g,keep a hy _,by rw[<-Act.put_comm a v undef h2];exact h.2⟩
theorem qG{i:Nat}{oi:Oper}{v:Value}(hp:qF P oi.op=true)(hi:ops[i]? =some oi)(hpl:mW ops=true)
 (hQ:∀c a w,Q (.panic c) (a.put oi.dst v) w->Q (.panic c) a w) :
 ∀(fuel:Nat)(listed:Array Bool)(a:Act)(w:World),
  (∀j oj,ops[j]? =some oj->j≠i->listed.getD j true=false->(∀e∈oj.after,Region.binds md e=true->e.on≠i)->oi.apart ops oj=true) ->
  i∈Region.ready md ops listed->Yields P ops oi v a ->
  wpAnyIn (RF r) 0 P md ops Q fuel (listed.setIfInBounds i true) (a.put oi.dst v) w->wpAnyIn (RF r) 0 P md ops Q (fuel+1) listed a w:=by
 intro fuel
 induction fuel with
 |zero =>
  intro listed a w _ hr hy H;refine⟨fun h=>(by rw[h]at hr;cases hr),fun j hj=> ?_⟩;by_cases hji:j=i
  ·subst hji;exact rW hp hi hy H
  ·have:=ready_mono hj hji;rw[H.1]at this;cases this
 |succ fuel ih =>
  intro listed a w hfree hr hy H;refine⟨fun h=>(by rw[h]at hr;cases hr),fun j hj=> ?_⟩;by_cases hji:j=i
  ·subst hji;exact rW hp hi hy H
  ·have h1:=H.2 j (ready_mono hj hji);obtain⟨hjun,oj,hoj,hall⟩:=mem_ready.1 hj;have hnot:∀e∈oj.after,Region.binds md e=true->e.on≠i:=fun e he hb heq=>by
    have h1:=hall e he hb;have h0:=(mem_ready.1 hr).1;rw[heq]at h1;rcases Nat.lt_or_ge i listed.size with h'|h'
    ·simp[h']at h0 h1;rw[h0]at h1;cases h1
    ·simp[Array.getElem?_eq_none h']at h1
   have h2:=Gx hoj (hfree j oj hoj hji hjun hnot) (mX hpl hi).2 (mX hpl hoj).2 (mX hpl hoj).1 hQ hy h1;have hfree':∀k ok,ops[k]? =some ok->k≠i->(listed.setIfInBounds j true).getD k true=false ->
    (∀e∈ok.after,Region.binds md e=true->e.on≠i)->oi.apart ops ok=true:=fun k ok hk hki hun hno=>by
    refine hfree k ok hk hki ?_ hno;by_cases hjk:j=k
    ·subst hjk;exact hjun
    ·rw[getD_set_ne true hjk]at hun;exact hun
   refine wpOpIn_mono (fun a' w' h3=>ih (listed.setIfInBounds j true) a' w' hfree' (ready_mono hr (Ne.symm hji)) h3.1 ?_) h2;rw[Array.setIfInBounds_comm _ _ hji];exact h3.2
end
inductive Plan where
 |fin
 |take (i:Nat) (p:Plan)
 |one (i:Nat) (p:Plan)
 |alt (i:Nat) (p:Plan) (q:Plan)
def tkZ:List Nat->Plan->Plan
 |[],p=>p
 |k::l,p=> .take k (tkZ l p)
def onZ:List Nat->Plan->Plan
 |[],p=>p
 |k::l,p=> .one k (onZ l p)
def Plan.heads:Plan->List Nat
 | .one i _=>[i]
 | .alt i _ q=>i::q.heads
 |_=>[]
def dI(P:Program)(ops:Array Oper):Plan->Nat->Array Bool->Bool
 | .fin,_,listed=>(Region.ready .any ops listed).isEmpty
 | .take i p,fuel,listed=>match fuel,ops[i]? with
  |fuel+1,some o=>qF P o.op&&(Region.ready .any ops listed).contains i&&Region.free .any ops listed i&&dI P ops p fuel (listed.setIfInBounds i true)
  |_,_=>false
 | .one i p,fuel,listed=>match fuel with
  |fuel+1=>(Region.ready .any ops listed==[i])&&dI P ops p fuel (listed.setIfInBounds i true)
  |_=>false
 | .alt i p q,fuel,listed=>match fuel with
  |fuel+1=>(Region.ready .any ops listed==i::q.heads)&&dI P ops p fuel (listed.setIfInBounds i true)&&planAlts P ops q fuel listed
  |_=>false
where planAlts (P : Program) (ops : Array Oper) : Plan -> Nat -> Array Bool -> Bool
 | .one i p,fuel,listed=>dI P ops p fuel (listed.setIfInBounds i true)
 | .alt i p q,fuel,listed=>dI P ops p fuel (listed.setIfInBounds i true)&&planAlts P ops q fuel listed
 |_,_,_=>false
def D5(e:E)(n:Nat)(ops:Array Oper)(i:Nat)(Kn:Fr->H->Prop)(Q:XE->Fr->H->Prop)(f:Fr)(h:H):Prop :=
 match ops[i]? with
 |some o=>match gd ops f o with
  |none=>False
  |some g=>jh n o.dst=true /\
   match jQ o.op with
   |true=>Gf g e n o Kn Q f h
   |false=>xB g (wH e.P o (f.ev e) h) o.dst Kn f h
 |none=>False
def gy(e:E)(n:Nat)(ops:Array Oper)(Q:XE->Fr->H->Prop):Plan->Fr->H->Prop
 | .fin,f,h=>Q .normal f h
 | .take i p,f,h=>D5 e n ops i (gy e n ops Q p) Q f h
 | .one i p,f,h=>D5 e n ops i (gy e n ops Q p) Q f h
 | .alt i p q,f,h=>D5 e n ops i (gy e n ops Q p) Q f h/\gy e n ops Q q f h
section
variable{e:E}{n:Nat}{r:Option Nat}{ops:Array Oper}{Q:XE->Fr->H->Prop}{ok:Nat->Prop}{pl0:Nat->Option Nat}{w0:World}
theorem uz{i:Nat}{Kn:Fr->H->Prop}{f:Fr}{h:H}(hv:D5 e n ops i Kn Q f h){K':Act->World->Prop}
 (hk:∀f h pl w a,SSim e n ok pl0 w0 f h pl w a->Kn f h->K' a w) {pl:Nat->Option Nat} {w:World} {a:Act} (s:SSim e n ok pl0 w0 f h pl w a) :
 wpOpIn (RF r) 0 e.P ops (iq e n ok pl0 w0 Q) i K' a w:=by
 unfold D5 at hv;unfold wpOpIn;split at hv
 ·rename_i o ho;simp only[ho];cases hg:gd ops f o with
  |none=>rw[hg]at hv;exact hv.elim
  |some g =>
   rw[hg]at hv;obtain⟨hd,hv⟩:=hv;have hw:=qO s.val hg;have nx:∀a' w',LQ e n ok pl0 w0 Kn a' w'->K' a' w':=fun a' w' ⟨pl',f',h',s',hk'⟩=>hk _ _ _ _ _ s' hk';cases he:jQ o.op with
   |true =>
    rw[he]at hv;dsimp only at hv;cases g with
    |true=>rw[if_pos hw];exact Oper.wpIn_mono nx (BA (r:=r) (hv.1 rfl) ok pl0 w0 pl w a s hd)
    |false=>rw[if_neg (by rw[hw];simp)];obtain⟨v,hv'⟩:=hv.2 rfl;exact⟨fun g _=>gU r g,hk _ _ _ _ _ (s.put hd (iP (g:=false) (v:=v) (fun hf=>by cases hf) (fun _=>rfl))) hv'⟩
   |false =>
    rw[he]at hv;dsimp only at hv;obtain⟨hc,hk'⟩:=hv;cases g with
    |true=>rw[if_pos hw];exact Oper.wpIn_mono nx (jM (K:=Kn) (oz (hc rfl)) hk' ok pl0 w0 pl w a s hd)
    |false=>rw[if_neg (by rw[hw];simp)];exact⟨fun g _=>gU r g,hk _ _ _ _ _ (s.put hd (iP (fun hf=>by cases hf) (fun _=>rfl))) hk'⟩
 ·exact hv.elim
theorem xF{i:Nat}{o:Oper}(ho:ops[i]? =some o)(hp:qF e.P o.op=true){Kn:Fr->H->Prop}{f:Fr}{h:H}(hv:D5 e n ops i Kn Q f h){pl:Nat->Option Nat}{w:World}{a:Act}(s:SSim e n ok pl0 w0 f h pl w a) :
 ∃x f',Yields e.P ops o x a/\SSim e n ok pl0 w0 f' h pl w (a.put o.dst x)/\Kn f' h:=by
 unfold D5 at hv;rw[ho]at hv;dsimp only at hv;cases hg:gd ops f o with
 |none=>rw[hg]at hv;exact hv.elim
 |some g =>
  rw[hg]at hv;obtain⟨hd,hv⟩:=hv;have hw:=qO s.val hg;have he:jQ o.op=false:=by
   have hp':=hp;cases hop:o.op with
   |binOp op t x y u=>rw[hop]at hp';cases op<;>simp[qF,qQ,qR]at hp'<;>rfl
   |_=>rw[hop]at hp';simp[qF,qQ,qR,jQ]at hp' ⊢
  rw[he]at hv;dsimp only at hv;obtain⟨hc,hk'⟩:=hv;cases g with
  |true =>
   have this:=oz (e:=e) (hc rfl) ok pl w a.eval s.hs s.evs;have hq:(wH e.P o (f.ev e) h).1:=hc rfl;have hrun:∃x,(∀w',(execOp a.eval o).run e.P w'= .ok (.value x) w')/\VRel (cx ok pl w) (wH e.P o (f.ev e) h).2 x:=by
    unfold qF at hp;rw[Bool.or_eq_true]at hp;rcases hp with hp|hp
    ·suffices hh:∃x,(execOp a.eval o).run e.P w= .ok (.value x) w/\VRel (cx ok pl w) (wH e.P o (f.ev e) h).2 x by
      obtain⟨x,h1,h2⟩:=hh;exact⟨x,QC hp a.eval h1,h2⟩
     revert this
     cases hop:o.op<;>rw[hop]at hp<;>simp only[qQ,zrm]at hp
     case move y =>
      have e1:execOp a.eval o=pure (Next.value (a.eval y)):=by simp[execOp,hop]
      rw[e1];rintro⟨_,hv⟩;exact⟨_,rfl,hv⟩
     case assign y =>
      have e1:execOp a.eval o=pure (Next.value (a.eval y)):=by simp[execOp,hop]
      rw[e1];rintro⟨_,hv⟩;exact⟨_,rfl,hv⟩
     case fieldAddr st y fi =>
      intro this;simp only[wH,hop,PV.and]at hq ⊢;have h1:=(s.ev y).sv hq.1;obtain⟨x,hx1,hx2⟩:=qE (P:=e.P) (t:=st) (f:=fi) h1 hq.2;have e1:execOp a.eval o=(do pure (Next.value (<-Instr.fieldAt st (a.eval y) fi))):=by simp[execOp,hop]
      exact⟨x,by rw[e1];exact fU hx1,hx2⟩
    ·cases hop:o.op with
     |nilCheck y =>
      simp only[wH,hop]at hq ⊢;have key:(f.ev e y).sc->(∃ad,a.eval y= .pointer (some ad))->VRel (cx ok pl w) (f.ev e y).sv (a.eval y)->∃x,(∀w',(execOp a.eval o).run e.P w'= .ok (.value x) w')/\VRel (cx ok pl w) (f.ev e y).sv x:=by
       rintro _ ⟨ad,h1⟩ h2;exact⟨a.eval y,fun w'=>by simp[execOp,hop,h1],h2⟩
      split at hq
      ·rename_i id off hx;have h1:=(s.ev y).sv hq;have h2:=h1;rw[hx]at h1;simp only[VRel]at h1;obtain⟨b,_,h4⟩:=h1;have:=key hq ⟨_,h4⟩ h2;rw[hx]at this;exact this
      ·rename_i ee hx;have h1:=(s.ev y).sv hq;have h2:=h1;rw[hx]at h1;simp only[VRel]at h1;obtain⟨b,off,ev2,h4,_⟩:=h1;have:=key hq ⟨_,h4⟩ h2;rw[hx]at this;exact this
      ·exact hq.elim
     |unOp op t y=>rw[hop]at hp;cases op<;>simp[qR]at hp;exact ji (c:=cx ok pl w) (s:=Op.unary .neg (a.eval y)) (aY.neg _) (by simp[execOp,hop]) this
     |indexAddr t y i=>exact ji (c:=cx ok pl w) (s:=Instr.indexAt t (a.eval y) (a.eval i)) (aY.indexAt _ _ _) (by simp[execOp,hop]) this
     |slice t y lo hi mx=>exact ji (c:=cx ok pl w) (s:=Instr.sliceAt t (a.eval y) (lo.map a.eval) (hi.map a.eval) (mx.map a.eval)) (aY.sliceAt _ _ _ _ _) (by simp[execOp,hop]) this
     |makeInterface t y=>exact ji (c:=cx ok pl w) (s:=Instr.makeInterface t (a.eval y)) (aY.makeInterface _ _) (by simp[execOp,hop]) this
     |binOp op t y z u =>
      rw[hop]at hp;obtain⟨hop2,k',n',hz⟩:(op= .add\/op= .sub)/\∃k' n',z= .const (.int k' n'):=by
       unfold qR at hp;split at hp<;>first|(rename_i hx;cases hx;done)|skip
       all_goals first|(rename_i hx;cases hx;exact⟨.inl rfl,_,_,rfl⟩)|(rename_i hx;cases hx;exact⟨.inr rfl,_,_,rfl⟩)|cases hp
      subst hz;have hq2:(AZ e.P op t (f.ev e y).sv (f.ev e (.const (.int k' n'))).sv).1/\(f.ev e y).sc:=by
       rcases hop2 with rfl|rfl<;>(simp only[wH,hop,PV.and]at hq;have hq9:=hq.2;change (zL e.P _ t _ (.int k' n')).1 at hq9;rw[JI]at hq9;exact⟨hq9,hq.1.1⟩)
      have h1:=(s.ev y).sv hq2.2;have hev:a.eval (.const (.int k' n'))= .int k' n':=rfl;have hblind:aY e.P (do eqGuard op t y (.const (.int k' n')) (a.eval y) (a.eval (.const (.int k' n')));binOp op t (a.eval y) (a.eval (.const (.int k' n')))):=by
       have hg:∀w',(eqGuard op t y (.const (.int k' n')) (a.eval y) (a.eval (.const (.int k' n')))).run e.P w'= .ok () w':=fun w'=>qL w' (.inl ⟨by rw[hev];simp,by rw[hev];simp⟩);refine aY.bind (fun w x w1 hr w'=> ?_) fun _=> ?_
       ·cases x;exact hg w'
       ·rw[hev];have hq3:=hq2.1;have hcv:(f.ev e (.const (.int k' n'))).sv= .int k' n':=rfl;rw[hcv]at hq3;unfold AZ at hq3;cases hvy:(f.ev e y).sv with
        |int k m=>rw[hvy]at h1;simp only[VRel]at h1;rw[h1];exact Gw _ _ _ _ _ hop2
        |_ =>
         rw[hvy]at hq3;exfalso
         revert hq3
         rcases hop2 with rfl|rfl<;>(dsimp only;split<;>first|exact fun h=>h|(split<;>exact fun h=>h))
      exact ji (c:=cx ok pl w) hblind (by simp[execOp,hop]) this
     |_=>rw[hop]at hp;simp[qR]at hp
   obtain⟨x,hx1,hx2⟩:=hrun;exact⟨x,_,.inl ⟨hw,hx1⟩,s.put hd hx2,hk'⟩
  |false=>exact⟨undef,_,.inr ⟨hw,rfl⟩,s.put hd (iP (fun hf=>by cases hf) (fun _=>rfl)),hk'⟩
theorem iR(hQ:∀v f h,¬Q (.pan v) f h)(hpl:mW ops=true):∀(p:Plan),
 (∀(fuel:Nat)(listed:Array Bool)(f:Fr)(h:H),dI e.P ops p fuel listed=true->gy e n ops Q p f h->∀pl w a,SSim e n ok pl0 w0 f h pl w a->wpAnyIn (RF r) 0 e.P .any ops (iq e n ok pl0 w0 Q) fuel listed a w) /\
 (∀(fuel:Nat)(listed:Array Bool)(f:Fr)(h:H),dI.planAlts e.P ops p fuel listed=true->gy e n ops Q p f h->∀pl w a,SSim e n ok pl0 w0 f h pl w a ->
  ∀i∈p.heads,wpOpIn (RF r) 0 e.P ops (iq e n ok pl0 w0 Q) i (wpAnyIn (RF r) 0 e.P .any ops (iq e n ok pl0 w0 Q) fuel (listed.setIfInBounds i true)) a w)
 | .fin=>by refine⟨fun fuel listed f h hp hv pl w a s=> ?_,fun fuel listed f h hp hv pl w a s i hi=>(by simp[Plan.heads]at hi)⟩;simp only[dI,List.isEmpty_iff]at hp;exact wpAnyIn_done hp ⟨pl,f,h,.normal,s,trivial,hv⟩ fuel
 | .take i p=>by
  refine⟨fun fuel listed f h hp hv pl w a s=> ?_,fun fuel listed f h hp hv pl w a s i hi=>(by simp[Plan.heads]at hi)⟩;simp only[dI]at hp;split at hp
  ·rename_i fuel o ho;simp only[zqf]at hp;obtain⟨⟨⟨h1,h2⟩,h3⟩,h4⟩:=hp;obtain⟨x,f',hy,s',hk⟩:=xF ho h1 hv s;refine qG h1 ho hpl ?_ fuel listed a w (Region.free_spec ho h3) (by simpa using h2) hy ((iR hQ hpl p).1 fuel _ f' h h4 hk pl w _ s');rintro c a w ⟨pl',f',h',xe,_,hx,hq⟩;cases xe<;>first|exact hx.elim|exact(hQ _ _ _ hq).elim
  ·cases hp
 | .one i p=>by
  refine⟨fun fuel listed f h hp hv pl w a s=> ?_,fun fuel listed f h hp hv pl w a s j hj=> ?_⟩
  ·simp only[dI]at hp;split at hp
   ·rename_i fuel;simp only[zqf,beq_iff_eq]at hp;refine⟨fun h0=>(by rw[hp.1]at h0;cases h0),fun j hj=> ?_⟩;rw[hp.1]at hj;simp only[zrc]at hj;subst hj;exact uz hv (fun f h pl w a s hk=>(iR hQ hpl p).1 fuel _ f h hp.2 hk pl w a s) s
   ·cases hp
  ·simp only[dI.planAlts]at hp;simp only[Plan.heads,zrc]at hj;subst hj;exact uz hv (fun f h pl w a s hk=>(iR hQ hpl p).1 fuel _ f h hp hk pl w a s) s
 | .alt i p q=>by
  refine⟨fun fuel listed f h hp hv pl w a s=> ?_,fun fuel listed f h hp hv pl w a s j hj=> ?_⟩
  ·simp only[dI]at hp;split at hp
   ·rename_i fuel;simp only[zqf,beq_iff_eq]at hp;obtain⟨⟨h1,h2⟩,h3⟩:=hp;refine⟨fun h0=>(by rw[h1]at h0;cases h0),fun j hj=> ?_⟩;rw[h1]at hj;rcases zrj.1 hj with rfl|hj
    ·exact uz hv.1 (fun f h pl w a s hk=>(iR hQ hpl p).1 fuel _ f h h2 hk pl w a s) s
    ·exact(iR hQ hpl q).2 fuel listed f h h3 hv.2 pl w a s j hj
   ·cases hp
  ·simp only[dI.planAlts,zqf]at hp;rcases zrj.1 hj with rfl|hj
   ·exact uz hv.1 (fun f h pl w a s hk=>(iR hQ hpl p).1 fuel _ f h hp.1 hk pl w a s) s
   ·exact(iR hQ hpl q).2 fuel listed f h hp.2 hv.2 pl w a s j hj
def qy(R:Fr->H->Prop):XE->Fr->H->Prop
 | .normal=>R
 |_=>fun _ _=>False
theorem dW(hm:e.P.follows .mixedOrders=true){id:Nat}(p:Plan)(R:Fr->H->Prop){f:Fr}{h:H}(hp:dI e.P ops p ops.size (Array.replicate ops.size false)=true)(hpl:mW ops=true)
 (hv:gy e n ops (qy R) p f h) (hk:∀f h,R f h->Q .normal f h):awp e n r (.region id ops true) Q f h:=by
 intro ok pl0 w0 pl w a s;have x : WExt w { w with drawn := w.drawn + 1 } := WExt.drew w;have := (iR (e := e) (n := n) (r := r) (ops := ops) (Q := qy R) (ok := ok) (pl0 := pl0) (w0 := w0) (fun v f h hh => hh) hpl p).1 ops.size _ f h hp hv pl _ a (s.next0 (s.hs.wext x) (x.keeps s.hs));refine wpIn_mono (wpIn_region_any hm this) ?_;rintro ex a' w' ⟨pl',f',h',xe,s',hx,hq⟩;cases xe <;> first
  |exact⟨pl',f',h',_,s',hx,hk _ _ hq⟩
  |exact hq.elim
theorem lU.mk{b:Bool}{l:List UInt8}{pos id:Nat}{dst:Option Tmp}{Kn:Fr->H->Prop}{f:Fr}{h:H}(h1:b=true->lU true l pos id dst Kn f h)(h2:b=false->lU false l pos id dst Kn f h):lU b l pos id dst Kn f h:=by
 cases b
 ·exact h2 rfl
 ·exact h1 rfl
theorem D6{p:Nat->Bool}{cs:List V}:(O.cells cs).drop p= .cells (V.drops p cs):=rfl
theorem JV{p:Nat->Bool}{ks vs:List V}:(O.map ks vs).drop p= .map (V.drops p ks) (V.drops p vs):=rfl
theorem Gy{p:Nat->Bool}{m:Misc}:(O.misc m).drop p= .misc m:=rfl
theorem D7{p:Nat->Bool}{T:TypeId}{cs:List V}:(O.typed T cs).drop p= .typed T (V.drops p cs):=rfl
theorem Gz{p:Nat->Bool}:O.dead.drop p= .dead:=rfl
theorem BF(v:V):V.guard false v= .grd false v:=rfl
theorem BG(g g' b want:Bool):Bq (V.guard g (V.guard g' (.bool b))) want=some (g&&g'&&(b==want)):=by cases g<;>cases g'<;>cases want<;>cases b<;>rfl
theorem BH(g g' g'' b want:Bool):Bq (V.guard g (V.guard g' (V.guard g'' (.bool b)))) want=some (g&&g'&&g''&&(b==want)):=by cases g<;>cases g'<;>cases g''<;>cases want<;>cases b<;>rfl
theorem Ws{f:Fr}{p:Nat->Bool}{i:Nat}:(f.drop p).t i=(f.t i).drop p:=rfl
theorem Wu{f:Fr}{p:Nat->Bool}:(f.drop p).d=f.d:=rfl
theorem aJ{p:Nat->Bool}{l:List (List UInt8)}:V.drops p (l.map V.str)=l.map V.str:=by
 induction l with
 |nil=>rfl
 |cons a l ih=>simp only[zrd,V.drops,V.drop,ih]
theorem xG{l:List (List UInt8)}:bZ 1 (l.map V.str)=true:=by
 induction l with
 |nil=>rfl
 |cons a l ih=>simp[bZ,ih,V.fit,V.one,V.dat,V.vc]
theorem D8{l:List (List UInt8)}:(l.map V.str).flatMap V.vc=l.map V.str:=by
 induction l with
 |nil=>rfl
 |cons a l ih=>simp only[zrd,List.flatMap_cons,ih,V.vc,List.singleton_append]
theorem ax{l:List (List UInt8)}:V.dats (l.map V.str)=true:=by
 induction l with
 |nil=>rfl
 |cons a l ih=>simp only[zrd,V.dats,ih,V.dat,zre]
theorem aV{h:H}{id len cap:Nat}{l:List (List UInt8)}(hc:h[id]? =some (.cells (l.map V.str)))(hl:len=l.length):aG e h (.ls id 1 0 len cap) (.is false 1 (l.map V.str)) :=
 aG.ls hc (ay.dat ax) xG D8 (by simpa using hl)
theorem GG{i:Nat}{Kn:Fr->H->Prop}{f:Fr}{h:H}:D5 e n ops i Kn Q f h=(match ops[i]? with
 |some o=>match gd ops f o with
  |none=>False
  |some g=>jh n o.dst=true /\
   match jQ o.op with
   |true=>Gf g e n o Kn Q f h
   |false=>xB g (wH e.P o (f.ev e) h) o.dst Kn f h
 |none=>False):=rfl
theorem JW{f:Fr}{h:H}:gy e n ops Q .fin f h=Q .normal f h:=rfl
theorem GH{i:Nat}{p:Plan}{f:Fr}{h:H}:gy e n ops Q (.take i p) f h=D5 e n ops i (gy e n ops Q p) Q f h:=rfl
theorem JX{i:Nat}{p:Plan}{f:Fr}{h:H}:gy e n ops Q (.one i p) f h=D5 e n ops i (gy e n ops Q p) Q f h:=rfl
theorem JY{i:Nat}{p q:Plan}{f:Fr}{h:H}:gy e n ops Q (.alt i p q) f h=(D5 e n ops i (gy e n ops Q p) Q f h/\gy e n ops Q q f h):=rfl
end
section
variable{e:E}{n:Nat}{r:Option Nat}{f:Fr}{h:H}{Q:XE->Fr->H->Prop}
theorem D9{g:Operand}{ps:Array Tmp}{asg body:Code}:vc e n r (.rangeFunc g ps asg body) Q f h=awp e n r (.rangeFunc g ps asg body) Q f h:=rfl
theorem Wv{p:Nat->Bool}:(f.drop p).k=fun i=>f.k i||p i:=rfl
theorem Wx{args:List V}:(Fr.init args).k=fun _=>false:=rfl
end
def VLe(v v':V):Prop:=∀c x,VRel c v x->VRel c v' x
def bW(vs vs':List V):Prop:=∀c xs,VList c vs xs->VList c vs' xs
theorem VLe.refl(v:V):VLe v v:=fun _ _ h=>h
theorem bW.nil:bW [] []:=fun _ _ h=>h
theorem bW.refl(vs:List V):bW vs vs:=fun _ _ h=>h
theorem bW.cons{v v':V}{vs vs':List V}(h1:VLe v v')(h2:bW vs vs'):bW (v::vs) (v'::vs'):=by intro c xs h;simp only[VList]at h ⊢;obtain⟨y,ys,rfl,h3,h4⟩:=h;exact⟨y,ys,rfl,h1 c y h3,h2 c ys h4⟩
theorem VLe.exact{k:Nat}{es:List V}:VLe (.is true k es) (.is false k es):=by intro c x h;simp only[VRel]at h ⊢;obtain⟨a,cp,h1,h2,h3,h4,h5⟩:=h;exact⟨a,cp,h1,h2,h3,fun hf=>(by cases hf),h5⟩
theorem VLe.nils{x:Bool}{k:Nat}:VLe .nils (.is x k []):=by intro c x h;simp only[VRel]at h ⊢;exact⟨none,0,h,zrb _,Nat.zero_le _,fun _=>rfl,.inl trivial⟩
theorem VLe.agg{vs vs':List V}(h1:bW vs vs'):VLe (.agg vs) (.agg vs'):=by intro c x h;simp only[VRel]at h ⊢;obtain⟨cs,rfl,h2⟩:=h;exact⟨cs,rfl,h1 c _ h2⟩
theorem Ev.le{e:E}{g:FuncId}{args args':List V}{r:V}(h:bW args args')(hv:Ev e g args' r):Ev e g args r :=
 fun ok w vs hs hl=>hv ok w vs hs (h _ _ hl)
def MZ(id:Nat)(S:Option Code->H->(Nat->Bool)->Prop)(xe:XE)(f2:Fr)(h2:H):Prop :=
 match xe.jump,h2[id]? with
 |some j,some (.loop t n ps asg body st pend)=>f2.k id=false/\S j (h2.set id (.loop t n ps asg body (if j.isNone then .ready else .done) j)) f2.k
 |_,_=>False
def Iu(e:E)(n:Nat)(l id:Nat)(body:Code)(S:Option Code->H->(Nat->Bool)->Prop)(f1:Fr)(h1:H):Prop :=
 match h1[id]? with
 |some (.loop t n' ps asg body' .ready pend)=>f1.k id=false/\awp e n (some l) body (MZ id S) f1 (h1.set id (.loop t n' ps asg body' .busy pend))
 |_=>False
def V5(e:E)(id:Nat)(vs:List V)(h:H)(S:Option Code->H->(Nat->Bool)->Prop):Prop :=
 ∃t n' ps asg body pend,h[id]? =some (.loop t n' ps asg body .ready pend)/\vs.length=ps.size/\(ps.toList.all fun p=>decide (p<n'))=true /\
  ∀l,awp e n' (some l) asg (XE.seq (Iu e n' l id body S) (fun _ _ _=>False)) (jP {t:=t} ps.toList vs) h
section
variable{e:E}{n:Nat}{f:Fr}{h:H}{Q:XE->Fr->H->Prop}
theorem oH{n' id:Nat}{t:Nat->V}{ps:Array Tmp}{asg body:Code}{dst:Option Tmp}{Kn:Fr->H->Prop}{vs:List V}{S:Option Code->H->(Nat->Bool)->Prop}
 (hg:∀l,awp e n' (some l) asg (XE.seq (Iu e n' l id body S) (fun _ _ _=>False)) (jP {t:=t} ps.toList vs) h)
 (hk:∀j h' p,p id=false->S j h' p->(∀i∈f.d,p i=false)/\Kn ((f.drop p).put dst (.bool j.isNone)) h'):TF e n' id t ps asg body dst Kn f vs h:=by
 intro l;refine aX ?_ (hg l);intro xe f1 h1 hq;cases xe<;>try exact hq
 unfold XE.seq Iu at hq;unfold XE.seq Io;dsimp only at hq ⊢;split at hq
 ·rename_i t1 n1 ps1 asg1 body1 pend1 hc;rw[hc];refine⟨hq.1,aX ?_ hq.2⟩;intro xe f2 h2 hq2;unfold MZ at hq2;unfold LZ;split at hq2
  ·rename_i j t2 n2 ps2 asg2 body2 st2 pend2 hj hc2;rw[hj,hc2];dsimp only;obtain⟨g1,g2⟩:=hk j _ _ hq2.1 hq2.2;exact⟨⟨hq2.1,g1⟩,g2⟩
  ·exact hq2.elim
 ·exact hq.elim
def YG(e:E)(q:FuncId)(first captured:List V)(items:List (List V)):Prop :=
 ∀(id:Nat)(h:H)(I:Nat->H->(Nat->Bool)->Prop)(Stop:Option Code->H->(Nat->Bool)->Prop),I 0 h (fun _=>false) ->
  (∀i h' k (hi:i<items.length),k id=false->I i h' k->V5 e id items[i] h' fun j h'' p=>match j with
   |none=>I (i+1) h'' (fun i=>k i||p i)
   |some c=>Stop (some c) h'' (fun i=>k i||p i)) ->
  ag e q (first++[.yd id]++captured) h fun ae h' p=>p id=false/\match ae with
   | .ret _=>I items.length h' p\/∃c,Stop (some c) h' p
   | .pan _=>False
end
inductive Sh where
 |str
 |bool
 |int (k:IntKind)
 |slice (e:Sh)
 |struct (fs:List Sh)
mutual
def Sh.size:Sh->Nat
 | .str | .bool | .int _ | .slice _=>1
 | .struct fs=>Sh.sizes fs
def Sh.sizes:List Sh->Nat
 |[]=>0
 |s::ss=>s.size+Sh.sizes ss
end
def YH (P : Program) (e : TypeId) (i : Nat) : Field := { name := "", type := e, offset := i * P.cellsOf e, embedded := false, tag := "", pkgPath := "", byteOffset := 0 }
def jT(P:Program)(t:TypeId):Option (List Field):=match P.underlying t with
 |some (.struct gs)=>some gs.toList
 |some (.array n e)=>some ((List.range n).map (YH P e))
 |_=>none
mutual
/-- Is a type of this shape? -/
def Sh.ok(P:Program):Sh->TypeId->Bool
 | .str,t=>match P.underlying t with|some .string=>true|_=>false
 | .bool,t=>match P.underlying t with|some .bool=>true|_=>false
 | .int k,t=>match P.underlying t with|some (.int k')=>k'==k|_=>false
 | .slice e,t=>match P.underlying t with|some (.slice u)=>P.cellsOf u==e.size&&decide (0<e.size)&&e.ok P u|_=>false
 | .struct fs,t=>match jT P t with|some gs=>P.cellsOf t==Sh.sizes fs&&Sh.oks P fs gs 0|none=>false
def Sh.oks(P:Program):List Sh->List Field->Nat->Bool
 |[],[],_=>true
 |s::ss,g::gs,off=>g.offset==off&&P.cellsOf g.type==s.size&&s.ok P g.type&&Sh.oks P ss gs (off+s.size)
 |_,_,_=>false
end
mutual
def Sh.Is:Sh->V->Prop
 | .str,v=>∃s,v= .str s
 | .bool,v=>∃b,v= .bool b
 | .int k,v=>∃n,v= .int k n/\(Lit.int k n).wf=true
 | .slice e,v=>∃es,v= .is false e.size es/\∀x∈es,Sh.Is e x
 | .struct fs,v=>∃vs,v= .agg (vs.flatMap V.vc)/\Sh.Iss fs vs
def Sh.Iss:List Sh->List V->Prop
 |[],vs=>vs=[]
 |s::ss,vs=>∃u us,vs=u::us/\Sh.Is s u/\Sh.Iss ss us
end
theorem rX{α β:Type}{f:α->Option β}:∀ {l:List α} {r:List β},l.mapM f=some r->r.length=l.length/\∀(i:Nat) x,l[i]? =some x->∃y,f x=some y/\r[i]? =some y
 |[],r,h=>by simp at h;subst h;simp
 |a::l,r,h=>by
  rw[List.mapM_cons]at h;simp only[Option.bind_eq_bind,Option.bind_eq_some_iff,Option.pure_def,Option.some.injEq]at h;obtain⟨y,h1,ys,h2,rfl⟩:=h;obtain⟨h3,h4⟩:=rX h2;refine⟨by simp[h3],fun i x hx=> ?_⟩;cases i with
  |zero=>simp at hx;subst hx;exact⟨y,h1,rfl⟩
  |succ i=>simpa using h4 i x (by simpa using hx)
abbrev cw(w:World):C:=cx (fun _=>True) (fun _=>none) w
structure Took(c:C)(sh:Sh)(v:V)(cs:List Value):Prop where
 is:sh.Is v
 fit:v.fit=true
 dat:v.dat=true
 len:v.vc.length=sh.size
 rel:VList c v.vc cs
theorem Took.one{c:C}{sh:Sh}{v:V}{x:Value}(h1:sh.Is v)(h2:v.one=true)(hd:v.dat=true)(hs:sh.size=1)(hr:VRel c v x):Took c sh v [x]:=by
 have hv:v.vc=[v]:=by cases v<;>first|rfl|simp[V.one]at h2
 refine⟨h1,by simp[V.fit,h2],hd,by rw[hv,hs];rfl,?_⟩;rw[hv];simp only[VList];exact⟨x,[],rfl,hr,rfl⟩
theorem Ea:∀ {vs:List V},(∀v∈vs,V.dats v.vc=true)->V.dats (vs.flatMap V.vc)=true
 |[],_=>rfl
 |v::vs,h=>by
  have app:∀(a b:List V),V.dats (a++b)=(V.dats a&&V.dats b):=by
   intro a b
   induction a with
   |nil=>rfl
   |cons x a ih=>simp only[List.cons_append,V.dats,ih,Bool.and_assoc]
  rw[List.flatMap_cons,app,h v (by simp),Ea fun u hu=>h u (by simp[hu])];rfl
theorem Wy{v:V}(h:v.dat=true):V.dats v.vc=true:=by cases v<;>first|(simp only[V.vc,V.dats,h,zre];done)|(simp only[V.dat]at h;exact h)
section
variable{H:Type}{enc:TypeId×Value->H}{P:Program}{w:World}
theorem GI{fuel:Nat}{t:TypeId}{gs:List Field}{cs:List Value}{d:DataW H}{ps:List MemPlace}(hu:jT P t=some gs)(h:DataW.trod enc P w 0 (fun _=>true) true (fuel+1) t cs=some (d,ps)) :
 cs.length=P.cellsOf t/\∃xs,(gs.mapM fun f=>DataW.trod enc P w 0 (fun _=>true) true fuel f.type ((cs.drop f.offset).take (P.cellsOf f.type)))=some xs/\d= .agg (xs.map (·.1)):=by
 unfold jT at hu;unfold DataW.trod at h;split at hu
 ·rename_i gs' hu';cases hu;rw[hu']at h;dsimp only at h;split at h
  ·rename_i hlen2;rw[Option.map_eq_some_iff]at h;obtain⟨xs,hxs,hd⟩:=h;exact⟨hlen2,xs,hxs,by cases hd;rfl⟩
  ·cases h
 ·rename_i n e hu';cases hu;rw[hu']at h;dsimp only at h;split at h
  ·rename_i hlen2;rw[Option.map_eq_some_iff]at h;obtain⟨xs,hxs,hd⟩:=h;refine⟨hlen2,xs,?_,by cases hd;rfl⟩;rw[List.mapM_map];exact hxs
  ·cases h
 ·cases hu
end
end Go.Abs
