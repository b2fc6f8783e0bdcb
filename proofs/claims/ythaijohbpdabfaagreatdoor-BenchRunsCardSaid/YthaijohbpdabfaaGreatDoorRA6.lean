/- Lemmas for this claim, part A6: each holds under what it names. -/
import Derived.Test.YthaijohbpdabfaaGreatDoorRA5
set_option linter.all false
namespace Go.Abs
open Go.RowKit
open List renaming length → aa, replicate → ao
open Bool renaming true → ab, false → ac
open Option renaming some → al, none → aq
open Decidable renaming decide → ar
open Go.IntKind renaming wrap → aD
open Go.Result renaming andThen → aM
open Go.Abs.V renaming drops → ap, dat → aE, dats → aL
def aC(e:E)(h:H)(v v':V):Prop :=
 ∀ok pl w x,HSim e ok pl h w->VRel (cx ok pl w) v x->VRel (cx ok (λ_=>aq) w) v' x
def au(e:E)(h:H)(vs vs':List V):Prop :=
 ∀ok pl w xs,HSim e ok pl h w->VList (cx ok pl w) vs xs->VList (cx ok (λ_=>aq) w) vs' xs
theorem EX(ok:Nat->Prop)(pl:Nat->Option Nat)(w:World):CExt (λ_=>ac) (cx ok pl w).data (cx ok (λ_=>aq) w) :=
 ⟨λb hb hok=>⟨⟨hok.1,λi hi=>(by cases hi)⟩,rfl⟩,λi b _ hi=>(by cases hi),λb arr el fz hb=>⟨arr,fz,hb,rfl⟩⟩
section
variable{e:E}{h:H}
theorem aC.dat{v:V}(hd:v.dat=ab):aC e h v v :=
 λok pl w x hs hv=>VRel.mono (EX ok pl w) _ _ (VRel.todata _ _ hd hv)
theorem aC.eq{v v':V}(hd:v'.dat=ab)(h0:v=v'):aC e h v v':=by subst h0;exact aC.dat hd
theorem aC.nils{ex:Bool}{k:Nat}:aC e h .nils (.is ex k []):=by intro ok pl w x hs hv;simp only[VRel]at hv ⊢;exact⟨aq,0,hv,zrb _,Nat.zero_le _,λ_=>rfl,.inl trivial⟩
theorem au.dat{vs:List V}(hd:aL vs=ab):au e h vs vs :=
 λok pl w x hs hv=>VList.mono (EX ok pl w) _ _ (VList.todata _ _ hd hv)
theorem au.nil:au e h [] []:=λok pl w x hs hv=>by simpa only[VList]using hv
theorem au.cons{v v':V}{vs vs':List V}(h1:aC e h v v')(h2:au e h vs vs'):au e h (v::vs) (v'::vs'):=by intro ok pl w xs hs hv;simp only[VList]at hv ⊢;obtain⟨y,ys,rfl,h3,h4⟩:=hv;exact⟨y,ys,rfl,h1 ok pl w y hs h3,h2 ok pl w ys hs h4⟩
theorem au.append{vs vs' us us':List V}(h1:au e h vs vs')(h2:au e h us us')(hl:aa vs=aa vs'):au e h (vs++us) (vs'++us'):=by
 intro ok pl w xs hs hv;have l0:=hv.length;have a:=hv.take (aa vs);have b:=hv.dropN (aa vs);rw[List.take_left]at a;rw[List.drop_left]at b;have:=(h1 ok pl w _ hs a).append (h2 ok pl w _ hs b)
 rwa [List.take_append_drop]at this
theorem aC.tup{vs vs':List V}(h1:au e h vs vs'):aC e h (.tup vs) (.tup vs'):=by intro ok pl w x hs hv;simp only[VRel]at hv ⊢;obtain⟨cs,rfl,h2⟩:=hv;exact⟨cs,rfl,h1 ok pl w _ hs h2⟩
theorem aC.agg{vs vs':List V}(h1:au e h vs vs'):aC e h (.agg vs) (.agg vs'):=by intro ok pl w x hs hv;simp only[VRel]at hv ⊢;obtain⟨cs,rfl,h2⟩:=hv;exact⟨cs,rfl,h1 ok pl w _ hs h2⟩
theorem aC.iface{t:TypeId}{v v':V}(h1:aC e h v v'):aC e h (.iface t v) (.iface t v'):=by intro ok pl w x hs hv;simp only[VRel]at hv ⊢;obtain⟨cs,rfl,h2⟩:=hv;exact⟨cs,rfl,h1 ok pl w _ hs h2⟩
theorem aC.fn{g:Fn}{as as' bs bs':List V}(h1:au e h as as')(h2:au e h bs bs'):aC e h (.fn g as bs) (.fn g as' bs'):=by intro ok pl w x hs hv;simp only[VRel]at hv ⊢;obtain⟨fs,cs,rfl,h3,h4⟩:=hv;exact⟨fs,cs,rfl,h1 ok pl w _ hs h3,h2 ok pl w _ hs h4⟩
theorem vS{c:C}{v:V}{xs:List Value}(hf:v.fit=ab)(hv:VList c v.vc xs):∃x,x.cells.toList=xs/\VRel c v x:=by
 have one:v.one=ab->v.vc=[v]->∃x,x.cells.toList=xs/\VRel c v x:=by intro h1 h2;rw[h2]at hv;simp only[VList]at hv;obtain⟨y,ys,rfl,h3,rfl⟩:=hv;exact⟨y,by rw[h3.one h1],h3⟩
 cases v <;> first
  |exact one (by simpa [V.fit]using hf) rfl
  |skip
 case agg vs=>exact⟨.agg xs.toArray,by simp[Value.cells],by simp only[VRel];exact⟨xs.toArray,rfl,by simpa [V.vc]using hv⟩⟩
theorem nX{ok:Nat->Prop}{w:World}{b k:Nat}(hb:ok b){arr:Array Value}{el:TypeId}{fz:Nat×Nat}(ha:w.heap[b]? =al (.cells arr el fz)) :
 ∀(es:List V)(off:Nat)(xs:List Value),bV k es=ab->VList (cx ok (λ_=>aq) w) (es.flatMap V.vc) xs->(∀(j:Nat) y,xs[j]? =al y->arr[off+j]? =al y) ->
  VElems (cx ok (λ_=>aq) w) k es b off
 |[],off,xs,_,_,_=>by simp only[VElems]
 |v::es,off,xs,hf,hv,hx=>by
  simp only[bV,zqf,beq_iff_eq]at hf;obtain⟨⟨⟨f1,f2⟩,f3⟩,f4⟩:=hf;rw[List.flatMap_cons]at hv;have a:=hv.take (aa v.vc);have d:=hv.dropN (aa v.vc);rw[List.take_left]at a;rw[List.drop_left]at d;obtain⟨y,h1,h2⟩:=vS f1 a;have hlen:y.cells.size=k:=by
   have:=a.length;rw[<-h1]at this;simpa [f3]using this
  simp only[VElems];refine⟨⟨y,hlen,λj hj=>⟨⟨hb,λi hi=>(by cases hi)⟩,?_⟩,h2⟩,?_⟩
  ·have hj':y.cells[j]? =al y.cells[j]:=by simp[hj]
   have h3:(xs.take (aa v.vc))[j]? =al y.cells[j]:=by rw[<-h1];simpa using hj'
   have h4:xs[j]? =al y.cells[j]:=by
    rw[List.getElem?_take]at h3;split at h3
    ·exact h3
    ·cases h3
   have:=hx j _ h4;show w.cell? _=_;simp only[World.cell?,ha,hj'];simpa using this
  ·refine nX hb ha es (off+k) _ f4 d λj z hz=> ?_;rw[List.getElem?_drop]at hz;have:=hx _ z hz;rw[f3]at this;rw[Nat.add_assoc];exact this
theorem aC.ls{id k len cap:Nat}{cs cs' es:List V}(hc:h[id]? =al (.cells cs))(hr:au e h cs cs')(hf:bV k es=ab)(hflat:es.flatMap V.vc=cs')(hlen:len=aa es) :
 aC e h (.ls id k 0 len cap) (.is ac k es):=by
 intro ok pl w x hs hv;simp only[VRel]at hv ⊢;obtain⟨a,cp,rfl,h1,h2,h3,h4⟩:=hv;refine⟨a,cp,by rw[hlen],by omega,h3,λhf=>(by cases hf),?_⟩;rcases h4 with h4|⟨b,arr,el,fz,h5,h6,h7,h8⟩
 ·exact .inl (zse (by omega))
 ·refine .inr ⟨b,0,h6,?_⟩;obtain⟨o,ho,hat⟩:=hs.obj id b h5;rw[hc]at ho;cases ho;obtain⟨arr',el',fz',h9,h10,h11,h12⟩:=hat;have h13:w.heap[b]? =al (.cells arr' el' fz'):=h9;have:=hr ok pl w _ hs h12;rw[<-hflat]at this;exact nX (hs.okl id b h5) h13 es 0 _ hf this λj y hy=>by
   rw[List.getElem?_take]at hy;split at hy
   ·simpa using hy
   ·cases hy
theorem aC.lp{id off:Nat}{cs cs':List V}{v:V}(hc:h[id]? =al (.cells cs))(hr:au e h cs cs')(hf:v.fit=ab)(hd:v.dat=ab)(hpos:0<aa v.vc)(hflat:(cs'.drop off).take (aa v.vc)=v.vc) :
 aC e h (.lp id off) (.ip v):=by
 intro ok pl w x hs hv;simp only[VRel]at hv ⊢;obtain⟨b,h5,rfl⟩:=hv;obtain⟨o,ho,hat⟩:=hs.obj id b h5;rw[hc]at ho;cases ho;obtain⟨arr',el',fz',h9,h10,h11,h12⟩:=hat;have h13:w.heap[b]? =al (.cells arr' el' fz'):=h9;have h14:=((hr ok pl w _ hs h12).dropN off).take (aa v.vc);rw[hflat]at h14;obtain⟨y,h1,h2⟩:=vS hf h14;have hlen:y.cells.size=aa v.vc:=by
  have:=h14.length;rw[<-h1]at this;simpa using this
 refine⟨b,off,y,rfl,λj hj=>⟨⟨hs.okl id b h5,λi hi=>(by cases hi)⟩,?_⟩,by omega,h2⟩;have hj':y.cells[j]? =al y.cells[j]:=by simp[hj]
 have h3:y.cells.toList[j]? =al y.cells[j]:=by simpa using hj'
 rw[h1,List.getElem?_take]at h3;split at h3
 ·rw[List.getElem?_drop,List.getElem?_take]at h3;split at h3
  ·rw[hj'];show w.cell? _=_;simp only[World.cell?,h13];simpa using h3
  ·cases h3
 ·cases h3
theorem aC.lm{id:Nat}{ks vs ks' vs':List V}(hc:h[id]? =al (.map ks vs))(h1:au e h ks ks')(h2:au e h vs vs'):aC e h (.lm id) (.im ks' vs'):=by intro ok pl w x hs hv;simp only[VRel]at hv ⊢;obtain⟨b,h5,rfl⟩:=hv;obtain⟨o,ho,hat⟩:=hs.obj id b h5;rw[hc]at ho;cases ho;obtain⟨es,clk,h3,h4,h6⟩:=hat;exact⟨b,es,clk,rfl,⟨hs.okl id b h5,λi hi=>(by cases hi)⟩,h3,h1 ok pl w _ hs h4,h2 ok pl w _ hs h6.1,h6.2⟩
end
def yP(P:Program)(f:Fr)(h:H):ResultVar->PV
 | .tmp t=>(True,f.t t)
 | .cell a t=>PV.and (f.t a).sc (yB P h t (f.t a).sv)
def kM(P:Program)(f:Fr)(h:H):List ResultVar->Prop×List V
 |[]=>(True,[])
 |r::rs=>((yP P f h r).1/\(kM P f h rs).1,(yP P f h r).2::(kM P f h rs).2)
def AL(P:Program)(f:Fr)(h:H):List ResultVar->PV
 |[r]=>yP P f h r
 |rs=>((kM P f h rs).1,.tup (kM P f h rs).2)
section
variable{e:E}{n:Nat}{ok:Nat->Prop}{pl0 pl:Nat->Option Nat}{w0 w:World}{f:Fr}{h:H}{a:Act}
def OT(tmps:Array Value):ResultVar->Sem Value
 | .tmp t=>pure (tmps.getD t undef)
 | .cell a t=>do loadVar t (<-asAddr (tmps.getD a undef))
theorem OU(hs:HSim e ok pl h w){tmps:Array Value}(hv:∀i,VRel (cx ok pl w) (f.t i) (tmps.getD i undef))(r:ResultVar)(hp:(yP e.P f h r).1) :
 ∃x,(OT tmps r).run e.P w= .ok x w/\VRel (cx ok pl w) (yP e.P f h r).2 x:=by
 cases r with
 |tmp t=>exact⟨_,rfl,hv t⟩
 |cell a t =>
  simp only[yP,PV.and]at hp;obtain⟨x,h1,h2⟩:=yC hs (t:=t) ((hv a).sv hp.1) hp.2;refine⟨x,?_,h2⟩;have h1:(Instr.loadAt t (tmps.getD a undef)).run e.P w= .ok x w:=h1;show(do loadVar t (<-asAddr (tmps.getD a undef)):Sem Value).run e.P w=_
  revert h1
  generalize tmps.getD a undef=y;intro h1;unfold Instr.loadAt at h1;cases y<;>try(simp[Instr.sureAddr,stuck,aM]at h1;done)
  rename_i p;cases p with
  |none=>simp[Instr.sureAddr,stuck,aM]at h1
  |some p=>simpa [Instr.sureAddr,asAddr]using h1
theorem EY(hs:HSim e ok pl h w){tmps:Array Value}(hv:∀i,VRel (cx ok pl w) (f.t i) (tmps.getD i undef)):∀(rs:List ResultVar),(kM e.P f h rs).1 ->
 ∃xs,(rs.mapM (OT tmps)).run e.P w= .ok xs w/\VList (cx ok pl w) (kM e.P f h rs).2 xs
 |[],_=>⟨[],rfl,by simp only[kM,VList]⟩
 |r::rs,hp=>by obtain⟨x,h1,h2⟩:=OU hs hv r hp.1;obtain⟨xs,h3,h4⟩:=EY hs hv rs hp.2;exact⟨x::xs,by simp[List.mapM_cons,h1,h3,aM],by simp only[kM,VList];exact⟨x,xs,rfl,h2,h4⟩⟩
theorem JK(hs:HSim e ok pl h w){tmps:Array Value}(hv:∀i,VRel (cx ok pl w) (f.t i) (tmps.getD i undef)){fn:Func}(hp:(AL e.P f h fn.results.toList).1) :
 ∃x,(results fn tmps).run e.P w= .ok x w/\VRel (cx ok pl w) (AL e.P f h fn.results.toList).2 x:=by
 have hr : results fn tmps = (do
  let vs <-fn.results.mapM (OT tmps)
  pure (if h:vs.size=1 then vs[0]else .tuple vs)):=by
  unfold results
  congr 1
 have hall:(kM e.P f h fn.results.toList).1:=by
  revert hp
  cases fn.results.toList with
  |nil=>exact λhp=>hp
  |cons r rs =>
   cases rs with
   |nil=>exact λhp=>⟨hp,trivial⟩
   |cons r' rs=>exact λhp=>hp
 obtain⟨xs,h1,h2⟩:=EY hs hv fn.results.toList hall;have h3:(results fn tmps).run e.P w= .ok (if h:xs.toArray.size=1 then xs.toArray[0]else .tuple xs.toArray) w:=by rw[hr,Array.mapM_eq_mapM_toList];simp only[Sem.run_bind,Sem.run_map,h1,aM];rfl
 refine⟨_,h3,?_⟩;have hl:=h2.length
 revert hp h2 hl
 cases fn.results.toList with
 |nil=>intro hp h2 hl;simp only[kM,VList]at h2;subst h2;simp only[AL,kM,VRel,VList];exact⟨#[],rfl,rfl⟩
 |cons r rs =>
  cases rs with
  |nil=>intro hp h2 hl;simp only[kM,VList]at h2;obtain⟨y,ys,rfl,h4,rfl⟩:=h2;simpa [AL]using h4
  |cons r' rs =>
   intro hp h2 hl;have:¬xs.toArray.size=1:=by simp[kM]at hl;simp[hl]
   rw[dif_neg this];simp only[AL,VRel];exact⟨_,rfl,by simpa using h2⟩
end
def Fr.init(args:List V):Fr:={t:=λi=>args.getD i jR}
def mD:List Nat->H->Option H
 |[],h=>al h
 |i::is,h=>match h[i]? with
  |some (.misc .dfd)=>mD is (h.set i (.misc .shut))
  |_=>aq
def su(P:Program)(rs:List ResultVar)(R:V->H->(Nat->Bool)->Prop)(f:Fr)(h:H):Prop :=
 match mD f.d h with
 |some h'=>(AL P f h' rs).1/\R (AL P f h' rs).2 h' f.k
 |none=>False
def Bj(P:Program)(rs:List ResultVar)(R:AEnd->H->(Nat->Bool)->Prop):XE->Fr->H->Prop
 | .normal,f,h | .ret,f,h=>su P rs (λv=>R (.ret v)) f h
 | .pan v,f,h=>match mD f.d h with
  |some h'=>R (.pan v) h' f.k
  |none=>False
 |_,_,_=>False
section
variable{e:E}{g:FuncId}{fn:Func}{c:Code}{args:List V}{h:H}{R:AEnd->H->(Nat->Bool)->Prop}
theorem SSim.init(htl:e.tl=[]){ok:Nat->Prop}{pl:Nat->Option Nat}{w:World}{vs:List Value}{n:Nat}(hs:HSim e ok pl h w)(hv:VList (cx ok pl w) args vs)(hn:aa args<=n) :
 SSim e n ok pl w (Fr.init args) h pl w {tmps:=vs.toArray++Array.replicate (n-vs.toArray.size) undef,defers:=[]}:=by
 have hl:=hv.length;refine⟨hs,Keeps.refl pl w,by simp;omega,λi=> ?_,htl.symm⟩;simp only[Fr.init];by_cases hi:i<aa args
 ·obtain⟨x,h1,h2⟩:=VList.get i (args[i]) hv (by simp[hi]);have h3:args.getD i jR=args[i]:=by simp[zqg,hi]
  have h4:(vs.toArray++Array.replicate (n-vs.toArray.size) undef).getD i undef=x:=by rw[Array.getD_eq_getD_getElem?,Array.getElem?_append_left (by simpa using(by omega:i<aa vs))];simp[h1]
  rw[h3,h4];exact h2
 ·have h3:args.getD i jR=jR:=by simp[zqg,Nat.not_lt.1 hi]
  have h4:(vs.toArray++Array.replicate (n-vs.toArray.size) undef).getD i undef=undef:=by rw[Array.getD_eq_getD_getElem?,Array.getElem?_append_right (by simpa using(by omega:aa vs<=i)),Array.getElem?_replicate];split<;>rfl
  rw[h3,h4];exact pG _
theorem OV(htl:e.tl=[]){ok:Nat->Prop}{pl0:Nat->Option Nat}{w0:World}{n:Nat}{f:Fr}{R':Ending->World->Prop}{u:FrameMode}(hu:u≠ .run){a:Act}{v:V}{x:Value}:∀(is:List Nat)(ds:List Deferred)(h h':H)(pl:Nat->Option Nat)(w:World),
 SSim e n ok pl0 w0 {f with d:=is} h pl w {a with defers:=ds}->VRel (cx ok pl w) v x->mD is h=al h' ->
 (∀w',SSim e n ok pl0 w0 {f with d:=[]} h' pl w' {a with defers:=[]}->VRel (cx ok pl w') v x->LeavesInM (RF aq) 0 e.P fn a.tmps R' [] u w')->LeavesInM (RF aq) 0 e.P fn a.tmps R' ds u w
 |[],ds,h,h',pl,w,s,hx,hsh,hk=>by have hd:ds=[]:=Eq.trans s.dfr htl;subst hd;simp only[mD,Option.some.injEq]at hsh;subst hsh;exact hk w s hx
 |i::is,ds,h,h',pl,w,s,hx,hsh,hk=>by
  obtain⟨b,rest,h1,h2,h3⟩:=s.dfr;have h1:ds=_:=h1;subst h1;have h2:pl i=al b:=h2;simp only[mD]at hsh;split at hsh
  ·rename_i hc;obtain ⟨o,ho,hat⟩ := s.hs.obj i b h2;rw [hc] at ho;cases ho;have hheap : w.heap[b]? = al (.deferred (al [])) := hat;have hlt := s.hs.lt i b h2;obtain ⟨hs2,k2⟩ := s.hs.upd (w' := w.putObj b (.deferred aq)) h2 (.misc .shut) rfl rfl rfl (by simp) (λj hj => World.putObj_heap_other hj)
    (λarr el fz hh=>by rw[hheap]at hh;cases hh) (λk=>World.putObj_heap_same hlt)
   refine⟨hu,.inl ⟨b,_,rfl,run_takeDeferred hheap,?_⟩⟩;have s2:=s.next0 hs2 k2;have h4:Il (cx ok pl (w.putObj b (.deferred aq))) e.tl is rest:=Il.mono (c:=cx ok pl w) (c':=cx ok pl (w.putObj b (.deferred aq))) (λ_ _ hi=>hi) h3;exact OV htl hu is rest _ h' pl _ ⟨s2.hs,s2.kp,s2.size,s2.val,h4⟩ (VRel.mono k2.cext _ _ hx) hsh hk
  ·cases hsh
theorem aj(hf:e.P.funcs[g]? =al fn)(hb:fn.body=al c)(hn:aa args<=fn.ntmps)
 (hv:awp e fn.ntmps aq c (Bj e.P fn.results.toList R) (Fr.init args) h) (htl:e.tl=[]:=by rfl):ag e g args h R:=by
 intro ok pl w vs hs hl;refine pF (r:=aq) (n:=0) (callsIn_of_wp_marks hf hb (iD aq g) ?_ rfl);have s0:=SSim.init htl (n:=fn.ntmps) hs hl hn;refine wpIn_mono (hv ok pl w pl w _ s0) ?_;rintro ex a w' ⟨pl',f',h',xe,s,hx,hq⟩;have done:su e.P fn.results.toList (λv=>R (.ret v)) f' h'->LeavesInM (RF aq) 0 e.P fn a.tmps (λen w'=>∃p pl' h' ae,HSim e ok pl' h' w'/\Keeps p pl w pl' w'/\JG (cx ok pl' w') ae en/\R ae h' p) a.defers .returning w':=by
  intro hq;unfold su at hq;split at hq
  ·rename_i h2 hsh;refine OV htl (f:=f') (a:=a) (v:= .any) (x:=undef) (by simp) f'.d a.defers h' h2 pl' w' s (by simp only[VRel]) hsh λw2 s2 _=> ?_;obtain⟨x,h1,h3⟩:=JK (f:=f') s2.hs s2.val hq.1;exact⟨x,h1,f'.k,pl',h2,.ret _,s2.hs,s2.kp,h3,hq.2⟩
  ·exact hq.elim
 cases xe<;>cases ex<;>(try(exact hx.elim))<;>(try(exact hq.elim))
 case normal=>exact done hq
 case ret=>exact done hq
 case pan v ch =>
  simp only[Bj]at hq;split at hq
  ·rename_i h2 hsh;obtain⟨x,hch,hxr⟩:=hx;exact OV htl (f:=f') (a:=a) (v:=v) (x:=x) (by simp) f'.d a.defers h' h2 pl' w' s hxr hsh λw2 s2 hr=>⟨f'.k,pl',h2,.pan v,s2.hs,s2.kp,⟨x,hch,hr⟩,hq⟩
  ·exact hq.elim
theorem kN{r:V}(hv:ag e g args [] λae h _=>match ae with | .ret v=>aC e h v r | .pan _=>False):Ev e g args r:=by
 intro ok w vs hs hl;refine(hv ok _ w vs hs hl).mono ?_;rintro en w' ⟨p,pl',h',ae,hs',k,he,hr⟩;cases ae with
 |pan v=>exact hr.elim
 |ret v =>
  cases en with
  |returned x=>exact⟨x,rfl,⟨k.os,k.tape,k.output,k.size,λb hb=>k.same b hb (λi hi=>by cases hi)⟩,hr ok pl' w' x hs' he⟩
  |panicked ch=>exact he.elim
  |outgrown=>exact he.elim
def YK(e:E)(r:V)(v:V)(h:H)(_:Nat->Bool):Prop:=aC e h v r
def VV(e:E)(rs:List ResultVar)(r:V):XE->Fr->H->Prop
 | .normal,f,h | .ret,f,h=>su e.P rs (YK e r) f h
 |_,_,_=>False
theorem ai{r:V}(hf:e.P.funcs[g]? =al fn)(hb:fn.body=al c)(hn:aa args<=fn.ntmps)
 (hv:awp e fn.ntmps aq c (VV e fn.results.toList r) (Fr.init args) []) (htl:e.tl=[]:=by rfl):Ev e g args r :=
 kN (aj hf hb hn (bf (λxe f h hq=>by cases xe<;>first|exact hq|exact hq.elim) hv) htl)
def V.plain1:V->Bool
 | .any | .bool _ | .int _ _ | .str _ | .nilp | .nils | .nilm | .nilf | .nili=>ab
 |_=>ac
def V.plain:V->Bool
 | .tup vs=>vs.all V.plain1
 |v=>v.plain1
theorem VRel.plain1{c c':C}{v:V}{x:Value}(hp:v.plain1=ab)(h:VRel c v x):VRel c' v x:=by cases v<;>simp only[V.plain1,zrm]at hp<;>simpa only[VRel]using h
theorem VList.plain{c c':C}:∀ {vs:List V} {xs:List Value},vs.all V.plain1=ab->VList c vs xs->VList c' vs xs
 |[],_,_,h=>by simpa only[VList]using h
 |v::vs,_,hp,h=>by simp only[List.all_cons,zqf]at hp;simp only[VList]at h ⊢;obtain⟨y,ys,rfl,h1,h2⟩:=h;exact⟨y,ys,rfl,h1.plain1 hp.1,h2.plain hp.2⟩
theorem VRel.plain{c c':C}{v:V}{x:Value}(hp:v.plain=ab)(h:VRel c v x):VRel c' v x:=by
 cases v
 case tup vs =>
  simp only[VRel]at h ⊢;obtain⟨cs,rfl,h1⟩:=h;exact⟨cs,rfl,h1.plain hp⟩
 all_goals exact VRel.plain1 (by simpa [V.plain]using hp) h
theorem HSim.lend{ok:Nat->Prop}{pl:Nat->Option Nat}{w:World}(hs:HSim e ok pl h w):HSim e ok (λ_=>aq) [] w where
 fresh:=hs.fresh
 lt i b hi:=by cases hi
 okl i b hi:=by cases hi
 inj i j b hi:=by cases hi
 obj i b hi:=by cases hi
 bare i o ho:=by simp at ho
 glob g v hg:=aC.dat (h:=h) (v:= .ip v) rfl ok pl w _ hs (hs.glob g v hg)
 exa g cs hg:=by
  obtain⟨h1,h2⟩:=hs.exa g cs hg;exact⟨⟨h1.1,λi hi=>(by cases hi)⟩,h2⟩
theorem ag.lend{args':List V}{r:V}(hv:Ev e g args' r)(hr:au e h args args')(hp:r.plain=ab)(hk:R (.ret r) h (λ_=>ac)):ag e g args h R :=
 λok pl w vs hs hl=>(hv ok w vs hs.lend (hr ok pl w vs hs hl)).mono λen w' ⟨x,h1,h2,h3⟩ =>
  ⟨λ_=>ac,pl,h,.ret r,hs.wext h2,h2.keeps hs,by rw[h1];exact h3.plain hp,hk⟩
end
theorem OW{p c:Prop}{v:V}:PV.and p (c,v)=(p/\c,v):=rfl
section
variable{e:E}{n:Nat}{r:Option Nat}{Q:XE->Fr->H->Prop}{f:Fr}{h:H}{ops:Array Oper}
theorem WN:vc e n r .skip Q f h=Q .normal f h:=rfl
theorem WO{i:Nat}:vc e n r (.exit i) Q f h=Q (.exit i) f h:=rfl
theorem YL:vc e n r .ret Q f h=Q .ret f h:=rfl
theorem YM{x y:Code}:vc e n r (.seq x y) Q f h=vc e n r x (XE.seq (vc e n r y Q) Q) f h:=rfl
theorem WP{c:Operand}{x y:Code}:vc e n r (.cond c x y) Q f h=(match (f.ev e c).sv with
 | .bool b=>(f.ev e c).sc/\vcB b (vc e n r x Q) (vc e n r y Q) f h
 |_=>False):=rfl
theorem TM{i:Nat}{x:Code}:vc e n r (.block i x) Q f h=vc e n r x (XE.block i Q) f h:=rfl
theorem OX{i:Nat}{l:List Oper}:vc e n r (.region i l.toArray ac) Q f h=ru e n l.toArray Q l f h:=rfl
theorem TN{i:Nat}{l:List Oper}:vc e n r (.region i l.toArray ab) Q f h=(match l.all Dn with
 |true=>Region.lexB .any l.toArray=ab/\gX e n l.toArray h (TL Q h) l f
 |false=>awp e n r (.region i l.toArray ab) Q f h):=rfl
theorem WQ{c:Code}:vc e n r (.loop c) Q f h=awp e n r (.loop c) Q f h:=rfl
theorem MB{Kn:Fr->H->Prop}:XE.seq Kn Q .normal=Kn:=rfl
theorem TP{Kn:Fr->H->Prop}{i:Nat}:XE.seq Kn Q (.exit i)=Q (.exit i):=rfl
theorem WR{Kn:Fr->H->Prop}:XE.seq Kn Q .ret=Q .ret:=rfl
theorem EZ{i:Nat}:XE.block i Q .normal=Q .normal:=rfl
theorem MC{i j:Nat}:XE.block i Q (.exit j)=(match j==i with|true=>Q .normal|false=>Q (.exit j)):=rfl
theorem OY{i:Nat}:XE.block i Q .ret=Q .ret:=rfl
theorem OZ:ru e n ops Q [] f h=Q .normal f h:=rfl
theorem MF{d:Option Tmp}{op:Op}{t:TypeId}{p:String}{af:Array Edge}{l:List Oper}:ru e n ops Q (⟨d,op,t,p,af,aq⟩::l) f h=(jF n d=ab /\
 match kL op with
 |true=>ER e n ⟨d,op,t,p,af,aq⟩ f h (ru e n ops Q l) Q
 |false=>yN ab (xX e.P ⟨d,op,t,p,af,aq⟩ (f.ev e) h) d (ru e n ops Q l) f h):=by
 simp only[ru,gd]
 congr 1
 cases kL op
 ·rfl
 ·simp[ET]
theorem O0{d:Option Tmp}{op:Op}{t:TypeId}{p:String}{af:Array Edge}{g:Nat×Bool}{l:List Oper}:ru e n ops Q (⟨d,op,t,p,af,al g⟩::l) f h=(match gd ops f ⟨d,op,t,p,af,al g⟩with
 |none=>False
 |some q=>jF n d=ab /\
  match kL op with
  |true=>ET q e n ⟨d,op,t,p,af,aq⟩ (ru e n ops Q l) Q f h
  |false=>yN q (xX e.P ⟨d,op,t,p,af,aq⟩ (f.ev e) h) d (ru e n ops Q l) f h):=rfl
theorem E5{Qn:Fr->Prop}{d:Option Tmp}{op:Op}{t:TypeId}{p:String}{af:Array Edge}{l:List Oper}:gX e n ops h Qn (⟨d,op,t,p,af,aq⟩::l) f=(jF n d=ab /\
 match kL op with
 |true=>match op with
  | .call {callee:= .value fx,args,..}=>match ni e (f.ev e) fx args with
   |some (q,vs)=>uh e ab q vs (dX (f.ev e) fx args) d (gX e n ops h Qn l) f
   |none=>False
  |_=>False
 |false=>goQ ab (xX e.P ⟨d,op,t,p,af,aq⟩ (f.ev e) h) d (gX e n ops h Qn l) f):=rfl
theorem IA{Qn:Fr->Prop}{d:Option Tmp}{op:Op}{t:TypeId}{p:String}{af:Array Edge}{g:Nat×Bool}{l:List Oper}:gX e n ops h Qn (⟨d,op,t,p,af,al g⟩::l) f=(match gd ops f ⟨d,op,t,p,af,al g⟩with
 |none=>False
 |some b=>jF n d=ab /\
  match kL op with
  |true=>match op with
   | .call {callee:= .value fx,args,..}=>match ni e (f.ev e) fx args with
    |some (q,vs)=>uh e b q vs (dX (f.ev e) fx args) d (gX e n ops h Qn l) f
    |none=>False
   |_=>False
  |false=>goQ b (xX e.P ⟨d,op,t,p,af,aq⟩ (f.ev e) h) d (gX e n ops h Qn l) f):=rfl
theorem O1{dst:Option Tmp}{Kn:Fr->H->Prop}{v:V}:fO dst Kn Q f (.ret v) h (λ_=>ac)=Kn (f.put dst v) h:=by simp[fO]
theorem IB{Qn:Fr->Prop}:gX e n ops h Qn [] f=Qn f:=rfl
theorem TQ{q:Prop}{v:V}{d:Option Tmp}{Kn:Fr->Prop}:goQ ab (q,v) d Kn f=(q/\Kn (f.put d v)):=by simp[goQ,V.guard]
theorem O3{q:PV}{d:Option Tmp}{Kn:Fr->Prop}:goQ ac q d Kn f=Kn (f.put d (.grd ac q.2)):=by simp[goQ,V.guard]
theorem WT{g:Bool}{q:Prop}{v:V}{d:Option Tmp}{Kn:Fr->Prop}:goQ g (q,v) d Kn f=((g=ab->q)/\Kn (f.put d (V.guard g v))):=rfl
theorem O4{o:Oper}{Kn:Fr->H->Prop}:ET ab e n o Kn Q f h=ER e n o f h Kn Q:=by simp[ET]
theorem MG{o:Oper}{Kn:Fr->H->Prop}:ET ac e n o Kn Q f h=OI o.dst Kn f h:=by simp[ET]
theorem ET.ev{g:Bool}{d:Option Tmp}{t:TypeId}{p:String}{af:Array Edge}{gu:Option (Nat×Bool)}{fx:Operand}{args:Array Operand}{ts:Array TypeId}{Kn:Fr->H->Prop}{q:FuncId}{vs:List V}{rv:V}
 (hon:ni e (f.ev e) fx args=al (q,vs)) (hsc:g=ab->dX (f.ev e) fx args) (hen:ah e.P q=ab) (hv:g=ab->Ev e q vs rv) (hd:g=ab->aL vs=ab) (hk:Kn (f.put d (V.guard g rv)) h) :
 ET g e n ⟨d,.call {callee:= .value fx,args:=args,argTypes:=ts},t,p,af,gu⟩ Kn Q f h:=by
 refine⟨λhg=> ?_,λhg=> ?_⟩
 ·subst hg;simp only[ER,JI,hon];refine⟨hsc rfl,hen,ag.ev (hv rfl) (hd rfl) ?_⟩;simpa [fO,V.guard]using hk
 ·subst hg;exact⟨rv,hk⟩
theorem TR{v:V}:f.put aq v=f:=rfl
theorem TT{v:Value}:f.ev e (.const v)=EH v:=rfl
theorem jh{g:Nat}:f.ev e (.global g)=glv e g:=rfl
theorem WU{g:Nat}:f.ev e (.func g)= .fn (.func g) [] []:=rfl
theorem zae{i:Tmp}{v:V}{j:Tmp}:(f.put (al i) v).t j=if j=i then v else f.t j:=rfl
theorem YN{j:Tmp}:f.ev e (.tmp j)=f.t j:=rfl
theorem ui{i:Option Tmp}{v:V}:(f.put i v).d=f.d:=by cases i<;>rfl
theorem zaf{i:Option Tmp}{v:V}:(f.put i v).k=f.k:=by cases i<;>rfl
theorem YO{args:List V}{i:Nat}:(Fr.init args).t i=args.getD i jR:=rfl
theorem uj{args:List V}:(Fr.init args).d=[]:=rfl
end
mutual
def V.bnd:V->Prop
 | .str s=>aa s<=maxLen
 | .is _ _ es=>aa es<=maxLen/\V.bnds es
 | .ls _ _ _ len _=>len<=maxLen
 | .ip e=>e.bnd
 | .im ks vs=>V.bnds ks/\V.bnds vs
 | .agg vs=>V.bnds vs
 | .tup vs=>V.bnds vs
 | .iface _ e=>e.bnd
 | .fn _ a b=>V.bnds a/\V.bnds b
 |_=>True
def V.bnds:List V->Prop
 |[]=>True
 |v::vs=>v.bnd/\V.bnds vs
end
mutual
theorem VRel.bnd:∀ {c:C} {v:V} {x:Value},VRel c v x->v.bnd
 |c,.str s,x,h=>by simp only[VRel]at h;obtain⟨_,_,_,h⟩:=h;exact h
 |c,.is ex k es,x,h=>by
  simp only[VRel]at h;obtain⟨a,cp,_,h1,h2,_,h3⟩:=h;refine⟨by omega,?_⟩;rcases h3 with rfl|⟨b,off,_,h3⟩
  ·trivial
  ·exact VElems.bnd h3
 |c,.ls id k off len cap,x,h=>by simp only[VRel]at h;obtain⟨a,cp,_,_,h1,h2,_⟩:=h;simp only[V.bnd];omega
 |c,.ip e,x,h=>by simp only[VRel]at h;obtain⟨_,_,_,_,_,_,h⟩:=h;simp only[V.bnd];exact VRel.bnd h
 |c,.im ks vs,x,h=>by simp only[VRel]at h;obtain⟨_,_,_,_,_,_,h1,h2,_⟩:=h;exact⟨VList.bnd h1,VList.bnd h2⟩
 |c,.agg vs,x,h=>by simp only[VRel]at h;obtain⟨_,_,h⟩:=h;simp only[V.bnd];exact VList.bnd h
 |c,.tup vs,x,h=>by simp only[VRel]at h;obtain⟨_,_,h⟩:=h;simp only[V.bnd];exact VList.bnd h
 |c,.iface t e,x,h=>by simp only[VRel]at h;obtain⟨_,_,h⟩:=h;simp only[V.bnd];exact VRel.bnd h
 |c,.fn f a b,x,h=>by simp only[VRel]at h;obtain⟨_,_,_,h1,h2⟩:=h;exact⟨VList.bnd h1,VList.bnd h2⟩
 |c,.any,x,h|c,.bool _,x,h|c,.int _ _,x,h|c,.nilp,x,h|c,.lp _ _,x,h|c,.nils,x,h|c,.nilm,x,h|c,.lm _,x,h|c,.yd _,x,h|c,.nilf,x,h|c,.nili,x,h|c,.grd _ _,x,h|c,.row _ _,x,h=>by simp only[V.bnd]
theorem VList.bnd:∀ {c:C} {vs:List V} {xs:List Value},VList c vs xs->V.bnds vs
 |c,[],xs,h=>trivial
 |c,v::vs,xs,h=>by simp only[VList]at h;obtain⟨_,_,_,h1,h2⟩:=h;exact⟨VRel.bnd h1,VList.bnd h2⟩
theorem VElems.bnd:∀ {c:C} {k:Nat} {es:List V} {b off:Nat},VElems c k es b off->V.bnds es
 |c,k,[],b,off,h=>trivial
 |c,k,e::es,b,off,h=>by simp only[VElems]at h;obtain⟨⟨_,_,_,h1⟩,h2⟩:=h;exact⟨VRel.bnd h1,VElems.bnd h2⟩
end
theorem Ev.bnd{e:E}{g:FuncId}{args:List V}{r:V}(h:V.bnds args->Ev e g args r):Ev e g args r :=
 λok w vs hs hl=>h hl.bnd ok w vs hs hl
theorem ag.bnd{e:E}{g:FuncId}{args:List V}{h:H}{R:AEnd->H->(Nat->Bool)->Prop}(hh:V.bnds args->ag e g args h R):ag e g args h R :=
 λok pl w vs hs hl=>hh hl.bnd ok pl w vs hs hl
theorem yQ{n:Int}(h1:-9223372036854775808<=n)(h2:n<9223372036854775808):aD .i64 n=n:=by
 have key:aD .i64 n=if n%18446744073709551616>=9223372036854775808 then n%18446744073709551616-18446744073709551616 else n%18446744073709551616:=by simp[IntKind.wrap,IntKind.bits,IntKind.signed]
 rw[key];split<;>omega
theorem aA{i:Nat}(h:i<maxLen):aD .i64 ((i:Int)+1)=((i+1:Nat):Int):=by have:maxLen=9223372036854775807:=rfl;rw[yQ (by omega) (by omega)];rfl
theorem fG{α β:Type}{f:α->β}{l:List α}{i:Nat}(h:i<aa l)(d:β):(l.map f).getD i d=f l[i]:=by simp[zqg,h]
def bn(P:Program){α:Type}(s:Sem α):Prop:=∀w x w1,s.run P w= .ok x w1->∀w',s.run P w'= .ok x w'
def fF(P:Program){α:Type}(s:Sem α):Prop:=∀w x w1,s.run P w≠ .ok x w1
theorem fF.blind{P:Program}{α:Type}{s:Sem α}(h:fF P s):bn P s:=λw x w1 hr=>absurd hr (h w x w1)
theorem bn.pure{P:Program}{α:Type}(a:α):bn P (pure a:Sem α):=λw x w1 h w'=>by rw[Sem.run_pure]at h ⊢;cases h;rfl
theorem fF.stuck{P:Program}{α:Type}(why:String):fF P (stuck why:Sem α):=λw x w1 h=>by cases h
theorem fF.unsupported{P:Program}{α:Type}(u:Unsupported):fF P (unsupported u:Sem α):=λw x w1 h=>by cases h
theorem fF.goPanic{P:Program}{α:Type}(v:Value):fF P (goPanic v:Sem α):=λw x w1 h=>by cases h
theorem bn.bind{P:Program}{α β:Type}{s:Sem α}{f:α->Sem β}(hs:bn P s)(hf:∀a,bn P (f a)):bn P (s >>= f):=λw x w1 h w'=>by
 rw[Sem.run_bind]at h ⊢;cases hr:s.run P w with
 |ok a w2=>rw[hr]at h;have h2:=hs w a w2 hr;have e:=(h2 w).symm.trans hr;cases e;rw[h2 w'];exact hf a w x w1 h w'
 |halt a b=>rw[hr]at h;cases h
theorem nY{P:Program}{α β:Type}{s:Sem α}{f:α->Sem β}(hf:∀a,fF P (f a)):fF P (s >>= f):=λw x w1 h=>by
 rw[Sem.run_bind]at h;cases hr:s.run P w with
 |ok a w2=>rw[hr]at h;exact hf a w2 x w1 h
 |halt a b=>rw[hr]at h;cases h
theorem bn.program{P:Program}:bn P program:=λw x w1 h w'=>by rw[run_program]at h ⊢;cases h;rfl
theorem bn.underlying{P:Program}(t:TypeId):bn P (underlying t):=by
 unfold Go.underlying;refine bn.program.bind λp=> ?_;split
 ·exact bn.pure _
 ·exact(fF.stuck _).blind
theorem bn.sizeOf{P:Program}(t:TypeId):bn P (sizeOf t):=by
 unfold Go.sizeOf typeInfo;refine bn.bind (bn.program.bind λp=> ?_) λ_=>bn.pure _;split
 ·exact bn.pure _
 ·exact(fF.stuck _).blind
theorem fF.runtimePanic{P:Program}{α:Type}(e:RuntimeError):fF P (runtimePanic e:Sem α):=by unfold Go.runtimePanic;refine nY λp=> ?_;cases e<;>first|exact fF.goPanic _|exact nY λ_=>nY λ_=>fF.goPanic _
theorem fF.boundsPanic{P:Program}{α:Type}(k:IntKind)(x y:Int)(c:BoundsCode):fF P (boundsPanic k x y c:Sem α):=by unfold Go.boundsPanic;dsimp only;split<;>exact nY λ_=>fF.runtimePanic _
theorem bn.asIntOf{P:Program}(v:Value):bn P (asIntOf v):=by
 unfold Go.asIntOf;split
 ·exact bn.pure _
 ·exact(fF.unsupported _).blind
 ·exact(fF.stuck _).blind
theorem bn.sureAddr{P:Program}(v:Value):bn P (Instr.sureAddr v):=by
 unfold Instr.sureAddr;split
 ·exact bn.pure _
 all_goals first|exact(fF.runtimePanic _).blind|exact(fF.stuck _).blind|exact(fF.unsupported _).blind
theorem bn.indexAt{P:Program}(t:TypeId)(x i:Value):bn P (Instr.indexAt t x i):=by
 unfold Instr.indexAt
 repeat' first
  |exact bn.pure _
  |exact bn.asIntOf _
  |exact bn.underlying _
  |exact bn.sizeOf _
  |exact bn.sureAddr _
  |exact(fF.stuck _).blind
  |exact(fF.unsupported _).blind
  |exact(fF.boundsPanic _ _ _ _).blind
  |refine bn.bind ?_ (λ_=> ?_)
  |split
  |dsimp only
theorem bn.sliceBound{P:Program}(v:Value)(y:Nat)(c:BoundsCode):bn P (Instr.sliceBound v y c):=by
 unfold Instr.sliceBound;refine(bn.asIntOf v).bind λki=> ?_;dsimp only;split
 ·exact bn.pure _
 ·exact(fF.boundsPanic _ _ _ _).blind
theorem bn.sliceBounds{P:Program}(b:Bool)(len cap:Nat)(lo hi mx:Option Value):bn P (Instr.sliceBounds b len cap lo hi mx):=by
 unfold Instr.sliceBounds
 repeat' first
  |exact bn.pure _
  |exact bn.sliceBound _ _ _
  |exact(fF.stuck _).blind
  |refine bn.bind ?_ (λ_=> ?_)
  |split
  |dsimp only
theorem bn.asAddr{P:Program}(v:Value):bn P (asAddr v):=by
 unfold Go.asAddr;split
 all_goals first|exact bn.pure _|exact(fF.runtimePanic _).blind|exact(fF.stuck _).blind|exact(fF.unsupported _).blind
theorem bn.slice{P:Program}(t:TypeId)(x:Value)(lo hi mx:Option Value):bn P (Instr.slice t x lo hi mx):=by
 unfold Instr.slice
 repeat' first
  |exact bn.pure _
  |exact bn.sliceBounds _ _ _ _ _ _
  |exact bn.underlying _
  |exact bn.sizeOf _
  |exact bn.asAddr _
  |exact(fF.stuck _).blind
  |refine bn.bind ?_ (λ_=> ?_)
  |split
  |dsimp only
theorem bn.sliceAt{P:Program}(t:TypeId)(x:Value)(lo hi mx:Option Value):bn P (Instr.sliceAt t x lo hi mx):=by
 unfold Instr.sliceAt;refine(bn.underlying t).bind λd=> ?_;split
 ·exact(bn.sureAddr _).bind λ_=>(bn.sliceBounds _ _ _ _ _ _).bind λ_=>(bn.sizeOf _).bind λ_=>bn.pure _
 ·exact bn.slice _ _ _ _ _
theorem bn.makeInterface{P:Program}(t:TypeId)(x:Value):bn P (Instr.makeInterface t x):=by
 unfold Instr.makeInterface;refine(bn.underlying t).bind λd=> ?_;split
 ·exact(fF.stuck _).blind
 ·exact bn.pure _
theorem bn.neg{P:Program}(x:Value):bn P (Op.unary .neg x):=by unfold Op.unary;split<;>first|exact bn.pure _|exact(fF.stuck _).blind|exact(fF.unsupported _).blind|(rename_i h;cases h)
theorem IC{P:Program}{op:BinOp}(t:TypeId)(k k':IntKind)(x y:Int)(h:op= .add\/op= .sub):bn P (binOp op t (.int k x) (.int k' y)):=by
 rcases h with rfl | rfl <;> (
  unfold binOp;dsimp only;split
  ·exact(fF.stuck _).blind
  ·exact bn.pure _)
theorem jG{P:Program}{c:C}{s:Sem Value}{ev:Operand->Value}{o:Oper}{v:V}(hb:bn P s)(he:execOp ev o=(do pure (Next.value (<-s))))
 (hy:lL P (λx w'=>WExt c.w w'/\VRel {c with w:=w'} v x) ((execOp ev o).run P c.w)):∃x,(∀w',(execOp ev o).run P w'= .ok (.value x) w')/\VRel c v x:=by
 rw[he]at hy ⊢;rw[Sem.run_bind]at hy;cases hr:s.run P c.w with
 |ok a w2=>have h2:=hb _ a w2 hr;have e:=(h2 c.w).symm.trans hr;cases e;rw[hr]at hy;refine⟨a,λw'=> ?_,hy.2⟩;rw[Sem.run_bind,h2 w'];rfl
 |halt a b=>rw[hr]at hy;exact hy.elim
def sF(P:Program):Op->Bool
 | .move _ | .assign _=>ab
 | .fieldAddr s _ f=>match P.underlying s with
  |some (.struct fs)=>match fs[f]? with
   |some fd=>match P.info? fd.type with
    |some i=>i.size != 0
    |none=>ac
   |none=>ac
  |_=>ac
 |_=>ac
theorem TU{P:Program}{o:Oper}(hp:sF P o.op=ab)(ev:Operand->Value){w:World}{x:Value}(h:(execOp ev o).run P w= .ok (.value x) w)(w':World) :
 (execOp ev o).run P w'= .ok (.value x) w':=by
 cases hop:o.op<;>rw[hop]at hp<;>simp only[sF,zrm]at hp
 case move y =>
  have e1:execOp ev o=pure (Next.value (ev y)):=by simp[execOp,hop]
  rw[e1]at h ⊢;simp only[Sem.run_pure,Result.ok.injEq,Next.value.injEq,and_true]at h ⊢;exact h
 case assign y =>
  have e1:execOp ev o=pure (Next.value (ev y)):=by simp[execOp,hop]
  rw[e1]at h ⊢;simp only[Sem.run_pure,Result.ok.injEq,Next.value.injEq,and_true]at h ⊢;exact h
 case fieldAddr s y f =>
  have e1:execOp ev o=(do pure (Next.value (<-Instr.fieldAt s (ev y) f))):=by simp[execOp,hop]
  rw[e1]at h ⊢
  revert h
  split at hp
  ·rename_i fs hu;split at hp
   ·rename_i fd hf;split at hp
    ·rename_i i hi;have hsz:¬i.size=0:=by simpa using hp
     unfold Instr.fieldAt underlying;simp only[Sem.run_bind,run_program,aM,hu,Sem.run_pure,hf];cases ev y<;>simp[Instr.sureAddr,aM,stuck];rename_i a;cases a<;>simp[Instr.sureAddr,aM,stuck,fieldPlace,sizeOf,typeInfo,hi,hsz]
    ·cases hp
   ·cases hp
  ·cases hp
def sG:Op->Bool
 | .nilCheck _ | .unOp .neg _ _ | .indexAddr _ _ _ | .slice _ _ _ _ _ | .makeInterface _ _=>ab
 | .binOp .add _ _ (.const (.int _ _)) _ | .binOp .sub _ _ (.const (.int _ _)) _=>ab
 |_=>ac
def rO(P:Program)(o:Op):Bool:=sF P o||sG o
theorem MH{P:Program}{o:Oper}(hp:rO P o.op=ab):(∀c,o.op≠ .call c)/\(∀c,o.op≠ .defer c)/\∀cs b,o.op≠ .select cs b:=by cases hop:o.op<;>rw[hop]at hp<;>simp[rO,sF,sG]at hp ⊢
def nZ(ops:Array Oper):Bool:=ops.toList.all λo=>match o.op with | .defer _ | .select _ _=>ac|_=>ab
theorem og{ops:Array Oper}(h:nZ ops=ab){j:Nat}{o:Oper}(hj:ops[j]? =al o):(∀c,o.op≠ .defer c)/\∀cs b,o.op≠ .select cs b:=by
 have:o∈ops.toList:=by rw[Array.mem_toList_iff];exact Array.mem_of_getElem? hj
 have:=(zrs.1 h) o this;cases hop:o.op<;>rw[hop]at this<;>simp at this ⊢
section
variable{e:E}{n:Nat}{r:Option Nat}{ops:Array Oper}{md:Region.Mode}{Q:Exit->Act->World->Prop}{P:Program}
theorem ul{i:Nat}{o:Oper}{v:Value}{a:Act}(hp:rO P o.op=ab)(hi:ops[i]? =al o)(hy:Yields P ops o v a){K:Act->World->Prop}{w:World}(h:K (a.put o.dst v) w) :
 wpOpIn (RF r) 0 P ops Q i K a w:=by
 unfold Go.wpOpIn;simp only[hi];rcases hy with⟨hw,hv⟩|⟨hw,rfl⟩
 ·rw[if_pos hw];refine⟨λg _=>iD r g,?_⟩;rw[eP,Oper.semAt_eq r a.eval o (MH hp).2.1,hv w];exact h
 ·rw[if_neg (by rw[hw];simp)];exact⟨λg _=>iD r g,h⟩
theorem IE{j:Nat}{oi oj:Oper}{v:Value}(hj:ops[j]? =al oj)(hap:oi.apart ops oj=ab)
 (hsi:∀cs b,oi.op≠ .select cs b) (hsj:∀cs b,oj.op≠ .select cs b) (hdj:∀c,oj.op≠ .defer c)
 (hQ:∀c a w,Q (.panic c) (a.put oi.dst v) w->Q (.panic c) a w) {K:Act->World->Prop} {a:Act} {w:World}
 (hy:Yields P ops oi v a) (h:wpOpIn (RF r) 0 P ops Q j K (a.put oi.dst v) w) :
 wpOpIn (RF r) 0 P ops Q j (λa' w'=>Yields P ops oi v a'/\K (a'.put oi.dst v) w') a w:=by
 obtain⟨h1,h2,h3⟩:=Oper.apart_spec hap;have keep:∀(a:Act),Yields P ops oi v a->∀u,Yields P ops oi v (a.put oj.dst u):=λa hy u =>
  hy.of_same (execOp_put oi hsi a oj.dst u h3) (wanted_put oi a oj.dst u h3)
 have keepD:∀d,Yields P ops oi v {a with defers:=d::a.defers}:=λd=>hy.of_same rfl rfl;unfold wpOpIn at *;simp only[hj]at *;rw[wanted_put oj a oi.dst v h1]at h;split
 ·rename_i hw;simp only[hw,if_true]at h;unfold Oper.wpIn at *;refine⟨λg _=>iD r g,?_⟩;have h:=h.2;rw[eP,Oper.semAt_eq r _ oj hdj,execOp_put oj hsj a oi.dst v h1]at h;rw[eP,Oper.semAt_eq r _ oj hdj];generalize (execOp a.eval oj).run P w=rr at *;cases rr with
  |ok x w' =>
   cases x<;>simp only[Oper.uponIn]at h ⊢
   case value u=>exact⟨keep a hy u,by rw[<-Act.put_comm a v u h2];exact h⟩
   case skip=>exact⟨keep a hy _,by rw[<-Act.put_comm a v undef h2];exact h⟩
   case defer d =>
    refine⟨keep _ (keepD d) _,?_⟩;rw[<-Act.put_comm _ v undef h2,<-Act.put_defers];exact h
   case enter f args =>
    refine⟨h.1,CallsIn.mono h.2 λe w'' he=> ?_⟩;cases e with
    |returned u=>exact⟨keep a hy u,by rw[<-Act.put_comm a v u h2];exact he⟩
    |panicked c=>exact hQ _ _ _ he
    |outgrown=>exact he
   case row row args=>exact⟨h.1,RowsIn.mono h.2 λu w'' he=>⟨keep a hy u,by rw[<-Act.put_comm a v u h2];exact he⟩⟩
   case round l f tmps assign body =>
    refine⟨h.1,RoundIn.mono h.2 λe w'' he=> ?_⟩;cases e with
    |returned u=>exact⟨keep a hy u,by rw[<-Act.put_comm a v u h2];exact he⟩
    |panicked c=>exact hQ _ _ _ he
    |outgrown=>exact he
  |halt x w' =>
   cases x<;>simp only[Oper.uponIn]at h ⊢
   case panic u=>exact hQ _ _ _ h
 ·rename_i hw;simp only[hw]at h;exact⟨λg _=>iD r g,keep a hy _,by rw[<-Act.put_comm a v undef h2];exact h.2⟩
theorem rP{i:Nat}{oi:Oper}{v:Value}(hp:rO P oi.op=ab)(hi:ops[i]? =al oi)(hpl:nZ ops=ab)
 (hQ:∀c a w,Q (.panic c) (a.put oi.dst v) w->Q (.panic c) a w) :
 ∀(fuel:Nat)(listed:Array Bool)(a:Act)(w:World),
  (∀j oj,ops[j]? =al oj->j≠i->listed.getD j ab=ac->(∀e∈oj.after,Region.binds md e=ab->e.on≠i)->oi.apart ops oj=ab) ->
  i∈Region.ready md ops listed->Yields P ops oi v a ->
  wpAnyIn (RF r) 0 P md ops Q fuel (listed.setIfInBounds i ab) (a.put oi.dst v) w->wpAnyIn (RF r) 0 P md ops Q (fuel+1) listed a w:=by
 intro fuel
 induction fuel with
 |zero =>
  intro listed a w _ hr hy H;refine⟨λh=>(by rw[h]at hr;cases hr),λj hj=> ?_⟩;by_cases hji:j=i
  ·subst hji;exact ul hp hi hy H
  ·have:=ready_mono hj hji;rw[H.1]at this;cases this
 |succ fuel ih =>
  intro listed a w hfree hr hy H;refine⟨λh=>(by rw[h]at hr;cases hr),λj hj=> ?_⟩;by_cases hji:j=i
  ·subst hji;exact ul hp hi hy H
  ·have h1:=H.2 j (ready_mono hj hji);obtain⟨hjun,oj,hoj,hall⟩:=mem_ready.1 hj;have hnot:∀e∈oj.after,Region.binds md e=ab->e.on≠i:=λe he hb heq=>by
    have h1:=hall e he hb;have h0:=(mem_ready.1 hr).1;rw[heq]at h1;rcases Nat.lt_or_ge i listed.size with h'|h'
    ·simp[h']at h0 h1;rw[h0]at h1;cases h1
    ·simp[Array.getElem?_eq_none h']at h1
   have h2:=IE hoj (hfree j oj hoj hji hjun hnot) (og hpl hi).2 (og hpl hoj).2 (og hpl hoj).1 hQ hy h1;have hfree':∀k ok,ops[k]? =al ok->k≠i->(listed.setIfInBounds j ab).getD k ab=ac ->
    (∀e∈ok.after,Region.binds md e=ab->e.on≠i)->oi.apart ops ok=ab:=λk ok hk hki hun hno=>by
    refine hfree k ok hk hki ?_ hno;by_cases hjk:j=k
    ·subst hjk;exact hjun
    ·rw[getD_set_ne ab hjk]at hun;exact hun
   refine wpOpIn_mono (λa' w' h3=>ih (listed.setIfInBounds j ab) a' w' hfree' (ready_mono hr (Ne.symm hji)) h3.1 ?_) h2;rw[Array.setIfInBounds_comm _ _ hji];exact h3.2
end
inductive Plan where
 |fin
 |take (i:Nat) (p:Plan)
 |one (i:Nat) (p:Plan)
 |alt (i:Nat) (p:Plan) (q:Plan)
def tkZ:List Nat->Plan->Plan
 |[],p=>p
 |k::l,p=> .take k (tkZ l p)
def onZ:List Nat->Plan->Plan
 |[],p=>p
 |k::l,p=> .one k (onZ l p)
def Plan.heads:Plan->List Nat
 | .one i _=>[i]
 | .alt i _ q=>i::q.heads
 |_=>[]
def dY(P:Program)(ops:Array Oper):Plan->Nat->Array Bool->Bool
 | .fin,_,listed=>(Region.ready .any ops listed).isEmpty
 | .take i p,fuel,listed=>match fuel,ops[i]? with
  |fuel+1,al o=>rO P o.op&&(Region.ready .any ops listed).contains i&&Region.free .any ops listed i&&dY P ops p fuel (listed.setIfInBounds i ab)
  |_,_=>ac
 | .one i p,fuel,listed=>match fuel with
  |fuel+1=>(Region.ready .any ops listed==[i])&&dY P ops p fuel (listed.setIfInBounds i ab)
  |_=>ac
 | .alt i p q,fuel,listed=>match fuel with
  |fuel+1=>(Region.ready .any ops listed==i::q.heads)&&dY P ops p fuel (listed.setIfInBounds i ab)&&planAlts P ops q fuel listed
  |_=>ac
where planAlts (P : Program) (ops : Array Oper) : Plan -> Nat -> Array Bool -> Bool
 | .one i p,fuel,listed=>dY P ops p fuel (listed.setIfInBounds i ab)
 | .alt i p q,fuel,listed=>dY P ops p fuel (listed.setIfInBounds i ab)&&planAlts P ops q fuel listed
 |_,_,_=>ac
def E8(e:E)(n:Nat)(ops:Array Oper)(i:Nat)(Kn:Fr->H->Prop)(Q:XE->Fr->H->Prop)(f:Fr)(h:H):Prop :=
 match ops[i]? with
 |some o=>match gd ops f o with
  |none=>False
  |some g=>jF n o.dst=ab /\
   match kL o.op with
   |true=>ET g e n o Kn Q f h
   |false=>yN g (xX e.P o (f.ev e) h) o.dst Kn f h
 |none=>False
def gY(e:E)(n:Nat)(ops:Array Oper)(Q:XE->Fr->H->Prop):Plan->Fr->H->Prop
 | .fin,f,h=>Q .normal f h
 | .take i p,f,h=>E8 e n ops i (gY e n ops Q p) Q f h
 | .one i p,f,h=>E8 e n ops i (gY e n ops Q p) Q f h
 | .alt i p q,f,h=>E8 e n ops i (gY e n ops Q p) Q f h/\gY e n ops Q q f h
section
variable{e:E}{n:Nat}{r:Option Nat}{ops:Array Oper}{Q:XE->Fr->H->Prop}{ok:Nat->Prop}{pl0:Nat->Option Nat}{w0:World}
theorem vT{i:Nat}{Kn:Fr->H->Prop}{f:Fr}{h:H}(hv:E8 e n ops i Kn Q f h){K':Act->World->Prop}
 (hk:∀f h pl w a,SSim e n ok pl0 w0 f h pl w a->Kn f h->K' a w) {pl:Nat->Option Nat} {w:World} {a:Act} (s:SSim e n ok pl0 w0 f h pl w a) :
 wpOpIn (RF r) 0 e.P ops (iM e n ok pl0 w0 Q) i K' a w:=by
 unfold E8 at hv;unfold wpOpIn;split at hv
 ·rename_i o ho;simp only[ho];cases hg:gd ops f o with
  |none=>rw[hg]at hv;exact hv.elim
  |some g =>
   rw[hg]at hv;obtain⟨hd,hv⟩:=hv;have hw:=rZ s.val hg;have nx:∀a' w',Oq e n ok pl0 w0 Kn a' w'->K' a' w':=λa' w' ⟨pl',f',h',s',hk'⟩=>hk _ _ _ _ _ s' hk';cases he:kL o.op with
   |true =>
    rw[he]at hv;dsimp only at hv;cases g with
    |true=>rw[if_pos hw];exact Oper.wpIn_mono nx (Dj (r:=r) (hv.1 rfl) ok pl0 w0 pl w a s hd)
    |false=>rw[if_neg (by rw[hw];simp)];obtain⟨v,hv'⟩:=hv.2 rfl;exact⟨λg _=>iD r g,hk _ _ _ _ _ (s.put hd (jg (g:=ac) (v:=v) (λhf=>by cases hf) (λ_=>rfl))) hv'⟩
   |false =>
    rw[he]at hv;dsimp only at hv;obtain⟨hc,hk'⟩:=hv;cases g with
    |true=>rw[if_pos hw];exact Oper.wpIn_mono nx (kG (K:=Kn) (pz (hc rfl)) hk' ok pl0 w0 pl w a s hd)
    |false=>rw[if_neg (by rw[hw];simp)];exact⟨λg _=>iD r g,hk _ _ _ _ _ (s.put hd (jg (λhf=>by cases hf) (λ_=>rfl))) hk'⟩
 ·exact hv.elim
theorem yR{i:Nat}{o:Oper}(ho:ops[i]? =al o)(hp:rO e.P o.op=ab){Kn:Fr->H->Prop}{f:Fr}{h:H}(hv:E8 e n ops i Kn Q f h){pl:Nat->Option Nat}{w:World}{a:Act}(s:SSim e n ok pl0 w0 f h pl w a) :
 ∃x f',Yields e.P ops o x a/\SSim e n ok pl0 w0 f' h pl w (a.put o.dst x)/\Kn f' h:=by
 unfold E8 at hv;rw[ho]at hv;dsimp only at hv;cases hg:gd ops f o with
 |none=>rw[hg]at hv;exact hv.elim
 |some g =>
  rw[hg]at hv;obtain⟨hd,hv⟩:=hv;have hw:=rZ s.val hg;have he:kL o.op=ac:=by
   have hp':=hp;cases hop:o.op with
   |binOp op t x y u=>rw[hop]at hp';cases op<;>simp[rO,sF,sG]at hp'<;>rfl
   |_=>rw[hop]at hp';simp[rO,sF,sG,kL]at hp' ⊢
  rw[he]at hv;dsimp only at hv;obtain⟨hc,hk'⟩:=hv;cases g with
  |true =>
   have this:=pz (e:=e) (hc rfl) ok pl w a.eval s.hs s.evs;have hq:(xX e.P o (f.ev e) h).1:=hc rfl;have hrun:∃x,(∀w',(execOp a.eval o).run e.P w'= .ok (.value x) w')/\VRel (cx ok pl w) (xX e.P o (f.ev e) h).2 x:=by
    unfold rO at hp;rw[Bool.or_eq_true]at hp;rcases hp with hp|hp
    ·suffices hh:∃x,(execOp a.eval o).run e.P w= .ok (.value x) w/\VRel (cx ok pl w) (xX e.P o (f.ev e) h).2 x by
      obtain⟨x,h1,h2⟩:=hh;exact⟨x,TU hp a.eval h1,h2⟩
     revert this
     cases hop:o.op<;>rw[hop]at hp<;>simp only[sF,zrm]at hp
     case move y =>
      have e1:execOp a.eval o=pure (Next.value (a.eval y)):=by simp[execOp,hop]
      rw[e1];rintro⟨_,hv⟩;exact⟨_,rfl,hv⟩
     case assign y =>
      have e1:execOp a.eval o=pure (Next.value (a.eval y)):=by simp[execOp,hop]
      rw[e1];rintro⟨_,hv⟩;exact⟨_,rfl,hv⟩
     case fieldAddr st y fi =>
      intro this;simp only[xX,hop,PV.and]at hq ⊢;have h1:=(s.ev y).sv hq.1;obtain⟨x,hx1,hx2⟩:=rM (P:=e.P) (t:=st) (f:=fi) h1 hq.2;have e1:execOp a.eval o=(do pure (Next.value (<-Instr.fieldAt st (a.eval y) fi))):=by simp[execOp,hop]
      exact⟨x,by rw[e1];exact gJ hx1,hx2⟩
    ·cases hop:o.op with
     |nilCheck y =>
      simp only[xX,hop]at hq ⊢;have key:(f.ev e y).sc->(∃ad,a.eval y= .pointer (al ad))->VRel (cx ok pl w) (f.ev e y).sv (a.eval y)->∃x,(∀w',(execOp a.eval o).run e.P w'= .ok (.value x) w')/\VRel (cx ok pl w) (f.ev e y).sv x:=by
       rintro _ ⟨ad,h1⟩ h2;exact⟨a.eval y,λw'=>by simp[execOp,hop,h1],h2⟩
      split at hq
      ·rename_i id off hx;have h1:=(s.ev y).sv hq;have h2:=h1;rw[hx]at h1;simp only[VRel]at h1;obtain⟨b,_,h4⟩:=h1;have:=key hq ⟨_,h4⟩ h2;rw[hx]at this;exact this
      ·rename_i ee hx;have h1:=(s.ev y).sv hq;have h2:=h1;rw[hx]at h1;simp only[VRel]at h1;obtain⟨b,off,ev2,h4,_⟩:=h1;have:=key hq ⟨_,h4⟩ h2;rw[hx]at this;exact this
      ·exact hq.elim
     |unOp op t y=>rw[hop]at hp;cases op<;>simp[sG]at hp;exact jG (c:=cx ok pl w) (s:=Op.unary .neg (a.eval y)) (bn.neg _) (by simp[execOp,hop]) this
     |indexAddr t y i=>exact jG (c:=cx ok pl w) (s:=Instr.indexAt t (a.eval y) (a.eval i)) (bn.indexAt _ _ _) (by simp[execOp,hop]) this
     |slice t y lo hi mx=>exact jG (c:=cx ok pl w) (s:=Instr.sliceAt t (a.eval y) (lo.map a.eval) (hi.map a.eval) (mx.map a.eval)) (bn.sliceAt _ _ _ _ _) (by simp[execOp,hop]) this
     |makeInterface t y=>exact jG (c:=cx ok pl w) (s:=Instr.makeInterface t (a.eval y)) (bn.makeInterface _ _) (by simp[execOp,hop]) this
     |binOp op t y z u =>
      rw[hop]at hp;obtain⟨hop2,k',n',hz⟩:(op= .add\/op= .sub)/\∃k' n',z= .const (.int k' n'):=by
       unfold sG at hp;split at hp<;>first|(rename_i hx;cases hx;done)|skip
       all_goals first|(rename_i hx;cases hx;exact⟨.inl rfl,_,_,rfl⟩)|(rename_i hx;cases hx;exact⟨.inr rfl,_,_,rfl⟩)|cases hp
      subst hz;have hq2:(CG e.P op t (f.ev e y).sv (f.ev e (.const (.int k' n'))).sv).1/\(f.ev e y).sc:=by
       rcases hop2 with rfl|rfl<;>(simp only[xX,hop,PV.and]at hq;have hq9:=hq.2;change (Bg e.P _ t _ (.int k' n')).1 at hq9;rw[L6]at hq9;exact⟨hq9,hq.1.1⟩)
      have h1:=(s.ev y).sv hq2.2;have hev:a.eval (.const (.int k' n'))= .int k' n':=rfl;have hblind:bn e.P (do eqGuard op t y (.const (.int k' n')) (a.eval y) (a.eval (.const (.int k' n')));binOp op t (a.eval y) (a.eval (.const (.int k' n')))):=by
       have hg:∀w',(eqGuard op t y (.const (.int k' n')) (a.eval y) (a.eval (.const (.int k' n')))).run e.P w'= .ok () w':=λw'=>rW w' (.inl ⟨by rw[hev];simp,by rw[hev];simp⟩);refine bn.bind (λw x w1 hr w'=> ?_) λ_=> ?_
       ·cases x;exact hg w'
       ·rw[hev];have hq3:=hq2.1;have hcv:(f.ev e (.const (.int k' n'))).sv= .int k' n':=rfl;rw[hcv]at hq3;unfold CG at hq3;cases hvy:(f.ev e y).sv with
        |int k m=>rw[hvy]at h1;simp only[VRel]at h1;rw[h1];exact IC _ _ _ _ _ hop2
        |_ =>
         rw[hvy]at hq3;exfalso
         revert hq3
         rcases hop2 with rfl|rfl<;>(dsimp only;split<;>first|exact λh=>h|(split<;>exact λh=>h))
      exact jG (c:=cx ok pl w) hblind (by simp[execOp,hop]) this
     |_=>rw[hop]at hp;simp[sG]at hp
   obtain⟨x,hx1,hx2⟩:=hrun;exact⟨x,_,.inl ⟨hw,hx1⟩,s.put hd hx2,hk'⟩
  |false=>exact⟨undef,_,.inr ⟨hw,rfl⟩,s.put hd (jg (λhf=>by cases hf) (λ_=>rfl)),hk'⟩
theorem ji(hQ:∀v f h,¬Q (.pan v) f h)(hpl:nZ ops=ab):∀(p:Plan),
 (∀(fuel:Nat)(listed:Array Bool)(f:Fr)(h:H),dY e.P ops p fuel listed=ab->gY e n ops Q p f h->∀pl w a,SSim e n ok pl0 w0 f h pl w a->wpAnyIn (RF r) 0 e.P .any ops (iM e n ok pl0 w0 Q) fuel listed a w) /\
 (∀(fuel:Nat)(listed:Array Bool)(f:Fr)(h:H),dY.planAlts e.P ops p fuel listed=ab->gY e n ops Q p f h->∀pl w a,SSim e n ok pl0 w0 f h pl w a ->
  ∀i∈p.heads,wpOpIn (RF r) 0 e.P ops (iM e n ok pl0 w0 Q) i (wpAnyIn (RF r) 0 e.P .any ops (iM e n ok pl0 w0 Q) fuel (listed.setIfInBounds i ab)) a w)
 | .fin=>by refine⟨λfuel listed f h hp hv pl w a s=> ?_,λfuel listed f h hp hv pl w a s i hi=>(by simp[Plan.heads]at hi)⟩;simp only[dY,List.isEmpty_iff]at hp;exact wpAnyIn_done hp ⟨pl,f,h,.normal,s,trivial,hv⟩ fuel
 | .take i p=>by
  refine⟨λfuel listed f h hp hv pl w a s=> ?_,λfuel listed f h hp hv pl w a s i hi=>(by simp[Plan.heads]at hi)⟩;simp only[dY]at hp;split at hp
  ·rename_i fuel o ho;simp only[zqf]at hp;obtain⟨⟨⟨h1,h2⟩,h3⟩,h4⟩:=hp;obtain⟨x,f',hy,s',hk⟩:=yR ho h1 hv s;refine rP h1 ho hpl ?_ fuel listed a w (Region.free_spec ho h3) (by simpa using h2) hy ((ji hQ hpl p).1 fuel _ f' h h4 hk pl w _ s');rintro c a w ⟨pl',f',h',xe,_,hx,hq⟩;cases xe<;>first|exact hx.elim|exact(hQ _ _ _ hq).elim
  ·cases hp
 | .one i p=>by
  refine⟨λfuel listed f h hp hv pl w a s=> ?_,λfuel listed f h hp hv pl w a s j hj=> ?_⟩
  ·simp only[dY]at hp;split at hp
   ·rename_i fuel;simp only[zqf,beq_iff_eq]at hp;refine⟨λh0=>(by rw[hp.1]at h0;cases h0),λj hj=> ?_⟩;rw[hp.1]at hj;simp only[zrc]at hj;subst hj;exact vT hv (λf h pl w a s hk=>(ji hQ hpl p).1 fuel _ f h hp.2 hk pl w a s) s
   ·cases hp
  ·simp only[dY.planAlts]at hp;simp only[Plan.heads,zrc]at hj;subst hj;exact vT hv (λf h pl w a s hk=>(ji hQ hpl p).1 fuel _ f h hp hk pl w a s) s
 | .alt i p q=>by
  refine⟨λfuel listed f h hp hv pl w a s=> ?_,λfuel listed f h hp hv pl w a s j hj=> ?_⟩
  ·simp only[dY]at hp;split at hp
   ·rename_i fuel;simp only[zqf,beq_iff_eq]at hp;obtain⟨⟨h1,h2⟩,h3⟩:=hp;refine⟨λh0=>(by rw[h1]at h0;cases h0),λj hj=> ?_⟩;rw[h1]at hj;rcases zrj.1 hj with rfl|hj
    ·exact vT hv.1 (λf h pl w a s hk=>(ji hQ hpl p).1 fuel _ f h h2 hk pl w a s) s
    ·exact(ji hQ hpl q).2 fuel listed f h h3 hv.2 pl w a s j hj
   ·cases hp
  ·simp only[dY.planAlts,zqf]at hp;rcases zrj.1 hj with rfl|hj
   ·exact vT hv.1 (λf h pl w a s hk=>(ji hQ hpl p).1 fuel _ f h hp.1 hk pl w a s) s
   ·exact(ji hQ hpl q).2 fuel listed f h hp.2 hv.2 pl w a s j hj
def ry(R:Fr->H->Prop):XE->Fr->H->Prop
 | .normal=>R
 |_=>λ_ _=>False
theorem dJ(hm:e.P.follows .mixedOrders=ab){id:Nat}(p:Plan)(R:Fr->H->Prop){f:Fr}{h:H}(hp:dY e.P ops p ops.size (Array.replicate ops.size ac)=ab)(hpl:nZ ops=ab)
 (hv:gY e n ops (ry R) p f h) (hk:∀f h,R f h->Q .normal f h):awp e n r (.region id ops ab) Q f h:=by
 intro ok pl0 w0 pl w a s;have x : WExt w { w with drawn := w.drawn + 1 } := WExt.drew w;have := (ji (e := e) (n := n) (r := r) (ops := ops) (Q := ry R) (ok := ok) (pl0 := pl0) (w0 := w0) (λv f h hh => hh) hpl p).1 ops.size _ f h hp hv pl _ a (s.next0 (s.hs.wext x) (x.keeps s.hs));refine wpIn_mono (wpIn_region_any hm this) ?_;rintro ex a' w' ⟨pl',f',h',xe,s',hx,hq⟩;cases xe <;> first
  |exact⟨pl',f',h',_,s',hx,hk _ _ hq⟩
  |exact hq.elim
theorem ny.mk{b:Bool}{l:List UInt8}{pos id:Nat}{dst:Option Tmp}{Kn:Fr->H->Prop}{f:Fr}{h:H}(h1:b=ab->ny ab l pos id dst Kn f h)(h2:b=ac->ny ac l pos id dst Kn f h):ny b l pos id dst Kn f h:=by
 cases b
 ·exact h2 rfl
 ·exact h1 rfl
theorem E9{p:Nat->Bool}{cs:List V}:(O.cells cs).drop p= .cells (ap p cs):=rfl
theorem MI{p:Nat->Bool}{ks vs:List V}:(O.map ks vs).drop p= .map (ap p ks) (ap p vs):=rfl
theorem IG{p:Nat->Bool}{m:Misc}:(O.misc m).drop p= .misc m:=rfl
theorem Fa{p:Nat->Bool}{T:TypeId}{cs:List V}:(O.typed T cs).drop p= .typed T (ap p cs):=rfl
theorem II{p:Nat->Bool}:O.dead.drop p= .dead:=rfl
theorem Dp(v:V):V.guard ac v= .grd ac v:=rfl
theorem Dq(g g' b want:Bool):Df (V.guard g (V.guard g' (.bool b))) want=al (g&&g'&&(b==want)):=by cases g<;>cases g'<;>cases want<;>cases b<;>rfl
theorem Dt(g g' g'' b want:Bool):Df (V.guard g (V.guard g' (V.guard g'' (.bool b)))) want=al (g&&g'&&g''&&(b==want)):=by cases g<;>cases g'<;>cases g''<;>cases want<;>cases b<;>rfl
theorem YP{f:Fr}{p:Nat->Bool}{i:Nat}:(f.drop p).t i=(f.t i).drop p:=rfl
theorem YQ{f:Fr}{p:Nat->Bool}:(f.drop p).d=f.d:=rfl
theorem aN{p:Nat->Bool}{l:List (List UInt8)}:ap p (l.map V.str)=l.map V.str:=by
 induction l with
 |nil=>rfl
 |cons a l ih=>simp only[zrd,ap,V.drop,ih]
theorem yS{l:List (List UInt8)}:bV 1 (l.map V.str)=ab:=by
 induction l with
 |nil=>rfl
 |cons a l ih=>simp[bV,ih,V.fit,V.one,aE,V.vc]
theorem Fb{l:List (List UInt8)}:(l.map V.str).flatMap V.vc=l.map V.str:=by
 induction l with
 |nil=>rfl
 |cons a l ih=>simp only[zrd,List.flatMap_cons,ih,V.vc,List.singleton_append]
theorem ax{l:List (List UInt8)}:aL (l.map V.str)=ab:=by
 induction l with
 |nil=>rfl
 |cons a l ih=>simp only[zrd,aL,ih,aE,zre]
theorem aX{h:H}{id len cap:Nat}{l:List (List UInt8)}(hc:h[id]? =al (.cells (l.map V.str)))(hl:len=aa l):aC e h (.ls id 1 0 len cap) (.is ac 1 (l.map V.str)) :=
 aC.ls hc (au.dat ax) yS Fb (by simpa using hl)
theorem IJ{i:Nat}{Kn:Fr->H->Prop}{f:Fr}{h:H}:E8 e n ops i Kn Q f h=(match ops[i]? with
 |some o=>match gd ops f o with
  |none=>False
  |some g=>jF n o.dst=ab /\
   match kL o.op with
   |true=>ET g e n o Kn Q f h
   |false=>yN g (xX e.P o (f.ev e) h) o.dst Kn f h
 |none=>False):=rfl
theorem MJ{f:Fr}{h:H}:gY e n ops Q .fin f h=Q .normal f h:=rfl
theorem IK{i:Nat}{p:Plan}{f:Fr}{h:H}:gY e n ops Q (.take i p) f h=E8 e n ops i (gY e n ops Q p) Q f h:=rfl
theorem MK{i:Nat}{p:Plan}{f:Fr}{h:H}:gY e n ops Q (.one i p) f h=E8 e n ops i (gY e n ops Q p) Q f h:=rfl
theorem ML{i:Nat}{p q:Plan}{f:Fr}{h:H}:gY e n ops Q (.alt i p q) f h=(E8 e n ops i (gY e n ops Q p) Q f h/\gY e n ops Q q f h):=rfl
end
section
variable{e:E}{n:Nat}{r:Option Nat}{f:Fr}{h:H}{Q:XE->Fr->H->Prop}
theorem Fe{g:Operand}{ps:Array Tmp}{asg body:Code}:vc e n r (.rangeFunc g ps asg body) Q f h=awp e n r (.rangeFunc g ps asg body) Q f h:=rfl
theorem YR{p:Nat->Bool}:(f.drop p).k=λi=>f.k i||p i:=rfl
theorem YS{args:List V}:(Fr.init args).k=λ_=>ac:=rfl
end
def VLe(v v':V):Prop:=∀c x,VRel c v x->VRel c v' x
def dm(vs vs':List V):Prop:=∀c xs,VList c vs xs->VList c vs' xs
theorem VLe.refl(v:V):VLe v v:=λ_ _ h=>h
theorem dm.nil:dm [] []:=λ_ _ h=>h
theorem dm.refl(vs:List V):dm vs vs:=λ_ _ h=>h
theorem dm.cons{v v':V}{vs vs':List V}(h1:VLe v v')(h2:dm vs vs'):dm (v::vs) (v'::vs'):=by intro c xs h;simp only[VList]at h ⊢;obtain⟨y,ys,rfl,h3,h4⟩:=h;exact⟨y,ys,rfl,h1 c y h3,h2 c ys h4⟩
theorem VLe.exact{k:Nat}{es:List V}:VLe (.is ab k es) (.is ac k es):=by intro c x h;simp only[VRel]at h ⊢;obtain⟨a,cp,h1,h2,h3,h4,h5⟩:=h;exact⟨a,cp,h1,h2,h3,λhf=>(by cases hf),h5⟩
theorem VLe.nils{x:Bool}{k:Nat}:VLe .nils (.is x k []):=by intro c x h;simp only[VRel]at h ⊢;exact⟨aq,0,h,zrb _,Nat.zero_le _,λ_=>rfl,.inl trivial⟩
theorem VLe.agg{vs vs':List V}(h1:dm vs vs'):VLe (.agg vs) (.agg vs'):=by intro c x h;simp only[VRel]at h ⊢;obtain⟨cs,rfl,h2⟩:=h;exact⟨cs,rfl,h1 c _ h2⟩
theorem Ev.le{e:E}{g:FuncId}{args args':List V}{r:V}(h:dm args args')(hv:Ev e g args' r):Ev e g args r :=
 λok w vs hs hl=>hv ok w vs hs (h _ _ hl)
def O5(id:Nat)(S:Option Code->H->(Nat->Bool)->Prop)(xe:XE)(f2:Fr)(h2:H):Prop :=
 match xe.jump,h2[id]? with
 |some j,al (.loop t n ps asg body st pend)=>f2.k id=ac/\S j (h2.set id (.loop t n ps asg body (if j.isNone then .ready else .done) j)) f2.k
 |_,_=>False
def JL(e:E)(n:Nat)(l id:Nat)(body:Code)(S:Option Code->H->(Nat->Bool)->Prop)(f1:Fr)(h1:H):Prop :=
 match h1[id]? with
 |some (.loop t n' ps asg body' .ready pend)=>f1.k id=ac/\awp e n (al l) body (O5 id S) f1 (h1.set id (.loop t n' ps asg body' .busy pend))
 |_=>False
def YC(e:E)(id:Nat)(vs:List V)(h:H)(S:Option Code->H->(Nat->Bool)->Prop):Prop :=
 ∃t n' ps asg body pend,h[id]? =al (.loop t n' ps asg body .ready pend)/\aa vs=ps.size/\(ps.toList.all λp=>ar (p<n'))=ab /\
  ∀l,awp e n' (al l) asg (XE.seq (JL e n' l id body S) (λ_ _ _=>False)) (kJ {t:=t} ps.toList vs) h
section
variable{e:E}{n:Nat}{f:Fr}{h:H}{Q:XE->Fr->H->Prop}
theorem pJ{n' id:Nat}{t:Nat->V}{ps:Array Tmp}{asg body:Code}{dst:Option Tmp}{Kn:Fr->H->Prop}{vs:List V}{S:Option Code->H->(Nat->Bool)->Prop}
 (hg:∀l,awp e n' (al l) asg (XE.seq (JL e n' l id body S) (λ_ _ _=>False)) (kJ {t:=t} ps.toList vs) h)
 (hk:∀j h' p,p id=ac->S j h' p->(∀i∈f.d,p i=ac)/\Kn ((f.drop p).put dst (.bool j.isNone)) h'):VT e n' id t ps asg body dst Kn f vs h:=by
 intro l;refine bf ?_ (hg l);intro xe f1 h1 hq;cases xe<;>try exact hq
 unfold XE.seq JL at hq;unfold XE.seq JH;dsimp only at hq ⊢;split at hq
 ·rename_i t1 n1 ps1 asg1 body1 pend1 hc;rw[hc];refine⟨hq.1,bf ?_ hq.2⟩;intro xe f2 h2 hq2;unfold O5 at hq2;unfold Oz;split at hq2
  ·rename_i j t2 n2 ps2 asg2 body2 st2 pend2 hj hc2;rw[hj,hc2];dsimp only;obtain⟨g1,g2⟩:=hk j _ _ hq2.1 hq2.2;exact⟨⟨hq2.1,g1⟩,g2⟩
  ·exact hq2.elim
 ·exact hq.elim
def zaQ(e:E)(q:FuncId)(first captured:List V)(items:List (List V)):Prop :=
 ∀(id:Nat)(h:H)(I:Nat->H->(Nat->Bool)->Prop)(Stop:Option Code->H->(Nat->Bool)->Prop),I 0 h (λ_=>ac) ->
  (∀i h' k (hi:i<aa items),k id=ac->I i h' k->YC e id items[i] h' λj h'' p=>match j with
   |none=>I (i+1) h'' (λi=>k i||p i)
   |some c=>Stop (al c) h'' (λi=>k i||p i)) ->
  ag e q (first++[.yd id]++captured) h λae h' p=>p id=ac/\match ae with
   | .ret _=>I (aa items) h' p\/∃c,Stop (al c) h' p
   | .pan _=>False
end
inductive Sh where
 |str
 |bool
 |int (k:IntKind)
 |slice (e:Sh)
 |struct (fs:List Sh)
mutual
def Sh.size:Sh->Nat
 | .str | .bool | .int _ | .slice _=>1
 | .struct fs=>Sh.sizes fs
def Sh.sizes:List Sh->Nat
 |[]=>0
 |s::ss=>s.size+Sh.sizes ss
end
def zaR (P : Program) (e : TypeId) (i : Nat) : Field := { name := "", type := e, offset := i * P.cellsOf e, embedded := false, tag := "", pkgPath := "", byteOffset := 0 }
def kP(P:Program)(t:TypeId):Option (List Field):=match P.underlying t with
 |some (.struct gs)=>al gs.toList
 |some (.array n e)=>al ((List.range n).map (zaR P e))
 |_=>aq
mutual
/-- Is a type of this shape? -/
def Sh.ok(P:Program):Sh->TypeId->Bool
 | .str,t=>match P.underlying t with|some .string=>ab|_=>ac
 | .bool,t=>match P.underlying t with|some .bool=>ab|_=>ac
 | .int k,t=>match P.underlying t with|some (.int k')=>k'==k|_=>ac
 | .slice e,t=>match P.underlying t with|some (.slice u)=>P.cellsOf u==e.size&&ar (0<e.size)&&e.ok P u|_=>ac
 | .struct fs,t=>match kP P t with|some gs=>P.cellsOf t==Sh.sizes fs&&Sh.oks P fs gs 0|none=>ac
def Sh.oks(P:Program):List Sh->List Field->Nat->Bool
 |[],[],_=>ab
 |s::ss,g::gs,off=>g.offset==off&&P.cellsOf g.type==s.size&&s.ok P g.type&&Sh.oks P ss gs (off+s.size)
 |_,_,_=>ac
end
mutual
def Sh.Is:Sh->V->Prop
 | .str,v=>∃s,v= .str s
 | .bool,v=>∃b,v= .bool b
 | .int k,v=>∃n,v= .int k n/\(Lit.int k n).wf=ab
 | .slice e,v=>∃es,v= .is ac e.size es/\∀x∈es,Sh.Is e x
 | .struct fs,v=>∃vs,v= .agg (vs.flatMap V.vc)/\Sh.Iss fs vs
def Sh.Iss:List Sh->List V->Prop
 |[],vs=>vs=[]
 |s::ss,vs=>∃u us,vs=u::us/\Sh.Is s u/\Sh.Iss ss us
end
theorem um{α β:Type}{f:α->Option β}:∀ {l:List α} {r:List β},l.mapM f=al r->aa r=aa l/\∀(i:Nat) x,l[i]? =al x->∃y,f x=al y/\r[i]? =al y
 |[],r,h=>by simp at h;subst h;simp
 |a::l,r,h=>by
  rw[List.mapM_cons]at h;simp only[Option.bind_eq_bind,Option.bind_eq_some_iff,Option.pure_def,Option.some.injEq]at h;obtain⟨y,h1,ys,h2,rfl⟩:=h;obtain⟨h3,h4⟩:=um h2;refine⟨by simp[h3],λi x hx=> ?_⟩;cases i with
  |zero=>simp at hx;subst hx;exact⟨y,h1,rfl⟩
  |succ i=>simpa using h4 i x (by simpa using hx)
abbrev cw(w:World):C:=cx (λ_=>True) (λ_=>aq) w
structure Took(c:C)(sh:Sh)(v:V)(cs:List Value):Prop where
 is:sh.Is v
 fit:v.fit=ab
 dat:v.dat=ab
 len:aa v.vc=sh.size
 rel:VList c v.vc cs
theorem Took.one{c:C}{sh:Sh}{v:V}{x:Value}(h1:sh.Is v)(h2:v.one=ab)(hd:v.dat=ab)(hs:sh.size=1)(hr:VRel c v x):Took c sh v [x]:=by
 have hv:v.vc=[v]:=by cases v<;>first|rfl|simp[V.one]at h2
 refine⟨h1,by simp[V.fit,h2],hd,by rw[hv,hs];rfl,?_⟩;rw[hv];simp only[VList];exact⟨x,[],rfl,hr,rfl⟩
theorem Ff:∀ {vs:List V},(∀v∈vs,aL v.vc=ab)->aL (vs.flatMap V.vc)=ab
 |[],_=>rfl
 |v::vs,h=>by
  have app:∀(a b:List V),aL (a++b)=(aL a&&aL b):=by
   intro a b
   induction a with
   |nil=>rfl
   |cons x a ih=>simp only[List.cons_append,aL,ih,Bool.and_assoc]
  rw[List.flatMap_cons,app,h v (by simp),Ff λu hu=>h u (by simp[hu])];rfl
theorem YT{v:V}(h:v.dat=ab):aL v.vc=ab:=by cases v<;>first|(simp only[V.vc,aL,h,zre];done)|(simp only[aE]at h;exact h)
section
variable{H:Type}{enc:TypeId×Value->H}{P:Program}{w:World}
theorem IL{fuel:Nat}{t:TypeId}{gs:List Field}{cs:List Value}{d:DataW H}{ps:List MemPlace}(hu:kP P t=al gs)(h:DataW.trod enc P w 0 (λ_=>ab) ab (fuel+1) t cs=al (d,ps)) :
 aa cs=P.cellsOf t/\∃xs,(gs.mapM λf=>DataW.trod enc P w 0 (λ_=>ab) ab fuel f.type ((cs.drop f.offset).take (P.cellsOf f.type)))=al xs/\d= .agg (xs.map (·.1)):=by
 unfold kP at hu;unfold DataW.trod at h;split at hu
 ·rename_i gs' hu';cases hu;rw[hu']at h;dsimp only at h;split at h
  ·rename_i hlen2;rw[Option.map_eq_some_iff]at h;obtain⟨xs,hxs,hd⟩:=h;exact⟨hlen2,xs,hxs,by cases hd;rfl⟩
  ·cases h
 ·rename_i n e hu';cases hu;rw[hu']at h;dsimp only at h;split at h
  ·rename_i hlen2;rw[Option.map_eq_some_iff]at h;obtain⟨xs,hxs,hd⟩:=h;refine⟨hlen2,xs,?_,by cases hd;rfl⟩;rw[List.mapM_map];exact hxs
  ·cases h
 ·cases hu
end
end Go.Abs
