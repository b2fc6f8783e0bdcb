/- Lemmas for this claim, part A9: each holds under what it names. -/
import Derived.Test.YtmlacppmbfbjgaaGreatDoorSA8
import Derived.Test.YtmlacppmbfbjgaaGreatDoorSA7
set_option linter.unusedVariables false
set_option linter.unusedSimpArgs false
namespace Go.Abs
open Go Go.RowKit
section
variable {e:E} {n:Nat} {r:Option Nat} {c:Code} {Q:XE→Fr→H→Prop} {f:Fr} {h:H}
theorem fH (i k:Nat) (hi:f.t i= .nils) (hw:awp e n r c Q {f with t:=fun j=>if j=i then .ls h.length k 0 0 0 else f.t j} (h++[.cells []])):awp e n r c Q f h :=
 jI (Bg (FLe.one i (by rw[hi];exact gJ)) (HLe.refl _) hw)
def aS (k:Nat):Nat→Bool:=fun j=>decide (k≤j)
theorem yf {p : Nat → Bool} : ∀ (h : H) (k m : Nat),(∀ i,i < m → p (k + i) = false) → (iO p k h).take m = (h.map (O.drop p)).take m
 | [],k,m,_=>by simp[iO]
 | o::h,k,0,_=>by simp
 | o::h,k,m+1,hp=>by have h0:=hp 0 (by omega);have ih:=yf h (k+1) m (fun i hi=>by have:=hp (i+1) (by omega);rwa [show k+(i+1)=k+1+i by omega]at this);rw[Nat.add_zero]at h0;simp only[iO,h0,List.take_succ_cons,zrd,ih,zrm,if_false]
theorem KT {h0 : H} {o : O} (i : Nat) (v : V) (hd : ∀ j ∈ f.d,j < h0.length) (hs : (f.t i).drop (fun j => !aS h0.length j) = f.t i) (hr : az e (oU (aS h0.length) 0 (h0 ++ [o])) (f.t i) v)
 (hw:awp e n r c Q {t:=fun j=>if j=i then v.drop (aS h0.length)else((f.t j).drop (aS h0.length)).drop (aS h0.length),d:=f.d,k:=fun j=>f.k j||aS h0.length j||aS h0.length j} ((h0.map (O.drop (aS h0.length))).map (O.drop (aS h0.length)))):awp e n r c Q f (h0++[o]):=by
 refine zq (aS h0.length) (fun j=>if j=i then v else(f.t j).drop (aS h0.length)) (fun j=> ?_) (fun j hj=>by simp[aS,hd j hj]) (Kr (.inr ⟨h0.length,hd,?_⟩))
 ·by_cases hj : j = i
  ·subst hj;rw[if_pos rfl];exact .inr ⟨hs,hr⟩
  ·rw[if_neg hj];exact .inl rfl
 ·have e1 : ((iO (aS h0.length) 0 (h0 ++ [o])).map (O.drop fun i => decide (h0.length ≤ i))).take h0.length = (h0.map (O.drop (aS h0.length))).map (O.drop (aS h0.length)) := by rw [← List.map_take,yf _ 0 h0.length (fun i hi => by simp [aS];omega)];simp only [zql,zrd,List.map_nil];rw [List.take_append_of_le_length (by simp),zqh (by simp)];rfl
  rw[e1];refine Bg (f':={t:=fun j=>if j=i then v.drop (aS h0.length)else((f.t j).drop (aS h0.length)).drop (aS h0.length),d:=f.d,k:=fun j=>f.k j||aS h0.length j||aS h0.length j}) ⟨fun j=> ?_,rfl,rfl⟩ (HLe.refl _) hw;by_cases hj:j=i
  ·subst hj;simp only[Fr.drop,if_true];exact VLe.refl _
  ·simp only[Fr.drop,if_neg hj];exact VLe.refl _
theorem gZ {h0 Y : H} (hd : ∀ j ∈ f.d,j < h0.length)
 (hw:awp e n r c Q (f.drop (aS h0.length)) (h0.map (O.drop (aS h0.length)))):awp e n r c Q f (h0++Y):=by
 refine Kr (.inr ⟨h0.length,hd,?_⟩);have e1:((h0++Y).map (O.drop fun i=>decide (h0.length≤i))).take h0.length=h0.map (O.drop (aS h0.length)):=by
  simp only[zql];rw[List.take_append_of_le_length (by simp),zqh (by simp)];rfl
 rw[e1];exact hw
def Bj (h:H):Prop:=∀p:Nat→Bool,(∀i,i<h.length→p i=false)→h.map (O.drop p)=h
theorem Bj.one {h:H} (hc:Bj h) {j:Nat} (hj:h.length≤j):h.map (O.drop (·==j))=h:=hc _ (fun i hi=>by simp;omega)
theorem Bj.set {h:H} (hc:Bj h) {k:Nat} {o:O} (ho:∀p:Nat→Bool,(∀i,i<h.length→p i=false)→o.drop p=o):Bj (h.set k o):=fun p hp=>by rw[zrn]at hp;rw[List.map_set,hc p hp,ho p hp]
theorem ah.kp {g:FuncId} {args:List V} {R:AEnd→H→(Nat→Bool)→Prop} (p0:Nat→Bool) (hc:ah e g args h fun ae h' p=>(∀i,p i=true→p0 i=true)∧R ae h' p0):ah e g args h R :=
 fun ok pl w vs hs hl=>(hc ok pl w vs hs hl).mono fun en w' ⟨p,pl',h',ae,h1,h2,h3,h4,h5⟩=>⟨p0,pl',h',ae,h1,h2.weaken h4,h3,h5⟩
end
open Go.ChangeShapes
section
variable {H:Type} {enc:TypeId×Value→H} {P:Program} {R:Nat} (M:Meas H P R)
theorem law_contractG {fn : Func} {f : FuncId} {s : ChangeSpec} {shs : List Sh} (hl : laidOutB P = true) (hlen : shs.length = fn.params.size)
 (hok:∀(i:Nat) sh t,shs[i]? =some sh→fn.params[i]? =some t→sh.ok P t=true∧sh.fat P t=true) (hread:(fn.params.toList.all fun t=>P.readableRec t&&decide (t<P.types.size))=true)
 (hres:∃tb,fn.resultTypes=#[tb]∧P.underlying tb=some .bool) (hvars:s.vars=[])
 (hspec:∀ds:List (DataW H),ds.length=shs.length→(s.fn H (ds++[])).results=[.lit (.bool true)]∧(s.fn H (ds++[])).args=ds∧(s.fn H (ds++[])).vars=[])
 (e:E) (heP:e.P=P)  (hev:∀us,Sh.Szs R shs us→Ev e f us (.bool true))
 (W:World) (base:Nat) (args:Array Value) (ds gs:List (DataW H)) (before:List MemPlace)
 (hval:∀(j:Nat) t v,fn.params[j]? =some t→args[j]? =some v→Value.okWide P W .any base t v)
 (hW:DataW.Whole enc P fn.params.toList s.vars false W args.toList ds gs before)
 (hwt:∀(i:Nat) d t,ds[i]? =some d→fn.params.toList[i]? =some t→M.L t d)
 (hgl:∀g v,e.gl g=some v→VRel (cw W) (.ip v) (.pointer (some ⟨g,0,none⟩)))
 (hex:∀g p,e.gx g=some p→∃cs ty fz,W.heap[g]? =some (.cells cs ty fz)∧p cs) :
 Calls P f args W fun e W'=>∃v,e= .returned v∧s.post enc P fn false true false false W args v W':=by
 have hW':=hW;obtain⟨p,q,hA,hV,rfl,hfz,hnd⟩:=hW;rw[hvars]at hV;obtain⟨rfl,rfl⟩:=trodVars_none hV;obtain⟨us,k1,k2⟩:=qI M shs fn.params.toList args.toList ds p (by simpa using hlen) (fun i sh t h1 h2=>hok i sh t h1 (by simpa using h2)) (fun i sh v h1 h2=>by
  have hi:i<fn.params.size:=by have:=(zqe h1).1;omega
  exact xk (hok i sh fn.params[i] h1 (by simp[hi])).1 (hval i fn.params[i] v (by simp[hi]) (by simpa using h2))) hA hwt
 subst heP;have hs:HSim e (fun _=>True) (fun _=>none) [] W:=⟨fun _ _=>trivial,fun i b hi=>(by cases hi),fun i b hi=>(by cases hi),fun i j b hi=>(by cases hi),fun i b hi=>(by cases hi),fun i o ho=>(by simp at ho),fun g v hg=>hgl g v hg,fun g p hg=>⟨⟨trivial,fun i hi=>(by cases hi)⟩,hex g p hg⟩⟩;have hc:=hev us k1 _ W args.toList hs k2;rw[show args.toList.toArray=args from Array.toArray_toList]at hc;refine hc.mono ?_;rintro en W' ⟨x,rfl,hx,hv⟩;simp only[VRel]at hv;subst hv;obtain⟨tb,hr1,hr2⟩:=hres;have hdl:ds.length=shs.length:=by rw[FM hA,hlen];simp
 obtain⟨e1,e2,e3⟩:=hspec ds hdl;refine⟨_,rfl,ds,[],p++[],[],p,[],hW',?_,?_,?_,hx.below.frame _,fun h=>(by cases h)⟩
 ·rw[e1,hr1];exact trodAll_mk1 ⟨1,by simp[DataW.trod,Value.cells,hr2]⟩
 ·rw[e2];exact qG hl hx.below fn.params.toList args.toList ds p hread (fun y hy=>hA.lt y hy) hA
 ·rw[e3,hvars];rfl
theorem Sj {w:World} {g:Nat} {a b:Int} {k:IntKind} {ty:TypeId} {fz:Nat×Nat} (h:w.heap[g]? =some (.cells #[.int k a,.int k b] ty fz)):VRel (cw w) (.ip (.agg [.int k a,.int k b])) (.pointer (some ⟨g,0,none⟩)):=by simp only[VRel,VList];refine⟨g,0,.agg #[.int k a,.int k b],rfl,fun j hj=>⟨⟨trivial,fun i hi=>by cases hi⟩,?_⟩,by simp[Value.cells],_,rfl,_,_,rfl,rfl,_,_,rfl,rfl,rfl⟩;show w.cell? ⟨g,0+j,none⟩=_;unfold World.cell?;simp only[h,Nat.zero_add];rfl
end
section
variable {e:E} {n:Nat} {r:Option Nat} {o:Oper} {f:Fr} {h:H} {Kn:Fr→H→Prop} {Q:XE→Fr→H→Prop}
theorem mV {r:Option Nat} {c:Code} (Pf:Fr→Prop) (h0:H) (h1:(∀f',Pf f'→awp e n r c Q f' h0)→awp e n r c Q f h) (h2:∀f',Pf f'→awp e n r c Q f' h0):awp e n r c Q f h:=h1 h2
end
section
variable {e:E} {n:Nat} {r:Option Nat} {o:Oper} {f:Fr} {h:H} {Kn:Fr→H→Prop} {Q:XE→Fr→H→Prop}
end
section
variable {e:E} {n:Nat} {r:Option Nat} {ops:Array Oper} {Q:XE→Fr→H→Prop} {ok:Nat→Prop} {pl0:Nat→Option Nat} {w0:World}
theorem SSim.unput {f:Fr} {h:H} {pl:Nat→Option Nat} {w:World} {a:Act} {d:Option Tmp} {v:Value} (s:SSim e n ok pl0 w0 f h pl w (a.put d v)):SSim e n ok pl0 w0 (f.put d .any) h pl w a:=by
 cases d with
 | none=>exact s
 | some i =>
  refine⟨s.hs,s.kp,?_,fun j=> ?_,s.dfr⟩
  ·have:=s.size;simpa [Act.put]using this
  ·by_cases hj : j = i
   ·subst hj;have : (f.put (some j) .any).t j = .any := by simp [Fr.put]
    rw[this];simp only[VRel]
   ·have h1 : (f.put (some i) .any).t j = f.t j := by simp [Fr.put,hj]
    rw[h1];have h2:=s.val j;simpa [Act.put,Array.getElem?_setIfInBounds_ne (Ne.symm hj)]using h2
end
section
variable {e:E} {n:Nat} {r:Option Nat} {ops:Array Oper} {Q:XE→Fr→H→Prop} {ok:Nat→Prop} {pl0:Nat→Option Nat} {w0:World} {h:H}
def mW (o:Oper):Bool:=match o.op with | .alloc _=>true | _=>false
def nJ (e:E) (n:Nat) (ops:Array Oper) (h:H) (o:Oper) (v:V) (f:Fr):Prop :=
 (mW o=true∧o.guard=none∧jA n o.dst=true∧v= .any)∨(mW o=false∧lJ e n ops h o v f)
theorem nJ.put {o:Oper} {v:V} {f:Fr} (hy:nJ e n ops h o v f) {dst:Option Tmp} {u:V} (hd:∀d,dst=some d→d∉o.looksAt ops):nJ e n ops h o v (f.put dst u) :=
 hy.imp id fun h=>⟨h.1,h.2.put hd⟩
theorem nJ.unput {o:Oper} {v:V} {f:Fr} {dst:Option Tmp} {u:V} (hy:nJ e n ops h o v (f.put dst u)) (hd:∀d,dst=some d→d∉o.looksAt ops):nJ e n ops h o v f :=
 hy.imp id fun h=>⟨h.1,h.2.unput hd⟩
def xx (e:E) (n:Nat) (ops:Array Oper) (h:H) (i:Nat) (Kn:Fr→Prop) (f:Fr):Prop :=
 match ops[i]? with
 | none=>Kn f
 | some o=>∃v,nJ e n ops h o v f∧Kn (f.put o.dst v)
theorem Iy {i:Nat} {f:Fr} {K K':Fr→Prop} (hh:∀f,K f→K' f) (hq:xx e n ops h i K f):xx e n ops h i K' f:=by
 unfold xx at *;split
 ·exact hh _ (by simpa [*]using hq)
 ·rename_i o ho;simp only[ho]at hq;obtain⟨v,h1,h2⟩:=hq;exact⟨v,h1,hh _ h2⟩
theorem KU {j : Nat} {oi oj : Oper} {v : V} (hj : ops[j]? = some oj) (hap : oi.apart ops oj = true) {K : Fr → Prop} {f : Fr}
 (hy:nJ e n ops h oi v f) (hq:xx e n ops h j K (f.put oi.dst v)) :
 xx e n ops h j (fun f'=>nJ e n ops h oi v f'∧K (f'.put oi.dst v)) f:=by
 obtain⟨h1,h2,h3⟩:=Oper.apart_spec hap;unfold xx at *;simp only[hj]at *;obtain⟨u,hu,hn⟩:=hq;exact⟨u,hu.unput h1,hy.put h3,by rw[←Fr.put_comm f v u h2];exact hn⟩
def zC (e : E) (n : Nat) (ops : Array Oper) (h : H) (Q : Fr → Prop) : List Oper → Fr → Prop
 | [],f=>Q f
 | o::rest,f=>∃v,nJ e n ops h o v f∧zC e n ops h Q rest (f.put o.dst v)
def Bl (e : E) (n : Nat) (ops : Array Oper) (h : H) (last : Nat) (Q : Fr → Prop) : Nat → Array Bool → Fr → Prop
 | 0,listed,f=>Region.ready .any ops listed=[last]∧Q f
 | fuel+1,listed,f=>Region.ready .any ops listed≠[]∧(Region.ready .any ops listed=[last]→Q f) ∧
  ∀i∈Region.ready .any ops listed,i≠last→xx e n ops h i (Bl e n ops h last Q fuel (listed.setIfInBounds i true)) f
theorem Bq {last:Nat} {Q:Fr→Prop} {i:Nat} {oi:Oper} {v:V} (hi:ops[i]? =some oi) (hil:i≠last) :
 ∀(fuel:Nat) (listed:Array Bool) (f:Fr),
  (∀j oj,ops[j]? =some oj→j≠i→listed.getD j true=false→(∀e∈oj.after,Region.binds .any e=true→e.on≠i)→oi.apart ops oj=true) →
  i∈Region.ready .any ops listed→nJ e n ops h oi v f →
  Bl e n ops h last Q fuel (listed.setIfInBounds i true) (f.put oi.dst v)→Bl e n ops h last Q (fuel+1) listed f:=by
 have own:∀ {K:Fr→Prop} {f:Fr},nJ e n ops h oi v f→K (f.put oi.dst v)→xx e n ops h i K f:=by intro K f hy hk;unfold xx;rw[hi];exact⟨v,hy,hk⟩
 have one:∀ {listed:Array Bool} {R:Prop},i∈Region.ready .any ops listed→Region.ready .any ops listed=[last]→R:=by intro listed R hr h;rw[h]at hr;exact absurd (by simpa using hr) hil
 intro fuel
 induction fuel with
 | zero =>
  intro listed f _ hr hy H;refine⟨fun h=>(by rw[h]at hr;cases hr),fun h=>one hr h,fun j hj hjl=> ?_⟩;by_cases hji:j=i
  ·subst hji;exact own hy H
  ·have:=ready_mono hj hji;rw[H.1]at this;exact absurd (by simpa using this) hjl
 | succ fuel ih =>
  intro listed f hfree hr hy H;refine⟨fun h=>(by rw[h]at hr;cases hr),fun h=>one hr h,fun j hj hjl=> ?_⟩;by_cases hji:j=i
  ·subst hji;exact own hy H
  ·have h1:=H.2.2 j (ready_mono hj hji) hjl;obtain⟨hjun,oj,hoj,hall⟩:=mem_ready.1 hj;have hnot:∀e∈oj.after,Region.binds .any e=true→e.on≠i:=fun e he hb heq=>by
    have h1:=hall e he hb;have h0:=(mem_ready.1 hr).1;rw[heq]at h1;rcases Nat.lt_or_ge i listed.size with h' | h'
    ·simp[h']at h0 h1;rw[h0]at h1;cases h1
    ·simp[Array.getElem?_eq_none h']at h1
   have h2:=KU hoj (hfree j oj hoj hji hjun hnot) hy h1;have hfree':∀k ok,ops[k]? =some ok→k≠i→(listed.setIfInBounds j true).getD k true=false →
    (∀e∈ok.after,Region.binds .any e=true→e.on≠i)→oi.apart ops ok=true:=fun k ok hk hki hun hno=>by
    refine hfree k ok hk hki ?_ hno;by_cases hjk:j=k
    ·subst hjk;exact hjun
    ·rw[getD_set_ne true hjk]at hun;exact hun
   refine Iy (fun a' h3=>ih (listed.setIfInBounds j true) a' hfree' (ready_mono hr (Ne.symm hji)) h3.1 ?_) h2;rw[Array.setIfInBounds_comm _ _ hji];exact h3.2
def Ey (ops:Array Oper) (listed:Array Bool):Prop:=∀i o,ops[i]? =some o→listed.getD i false=true→∀e∈o.after,Region.binds .any e=true→listed.getD e.on false=true
theorem Ey.set {listed:Array Bool} (hc:Ey ops listed) {i:Nat} (hi:i∈Region.ready .any ops listed):Ey ops (listed.setIfInBounds i true):=by
 intro j o ho hl e he hb;refine getD_set_true ?_;by_cases hji:j=i
 ·subst hji;obtain⟨_,o',ho',hall⟩:=mem_ready.1 hi;rw[ho]at ho';cases ho';exact hall e he hb
 ·rw[getD_set_ne false (Ne.symm hji)]at hl;exact hc j o ho hl e he hb
theorem Ey.none {m:Nat}:Ey ops (Array.replicate m false):=by
 intro i o _ hl;exfalso;rcases Nat.lt_or_ge i m with h | h
 ·simp[h]at hl
 ·simp[h]at hl
theorem HSim.recx {ok ok' : Nat → Prop} {pl pl' : Nat → Option Nat} {h h' : H} {w w' : World} (hs : HSim e ok pl h w) (x : CExt (fun _ => false) (cx ok pl w) (cx ok' pl' w'))
 (fresh:∀b,w'.heap.size≤b→ok' b) (lt:∀i b,pl' i=some b→b<w'.heap.size) (okl:∀i b,pl' i=some b→ok' b) (inj:∀i j b,pl' i=some b→pl' j=some b→i=j)
 (obj:∀i b,pl' i=some b→∃o,h'[i]? =some o∧OAt (cx ok' pl' w') b o) (bare:∀i o,h'[i]? =some o→pl' i=none→o= .dead∨o= .cells []):HSim e ok' pl' h' w' where
 fresh:=fresh
 lt:=lt
 okl:=okl
 inj:=inj
 obj:=obj
 bare:=bare
 glob g v hg:=VRel.mono x _ _ (hs.glob g v hg)
 exa g cs hg:=by
  obtain⟨h1,cs',ty,fz,h2,h3⟩:=hs.exa g cs hg;have:=x.dat g (aP h2) h1;exact⟨this.1,cs',ty,fz,this.2.trans h2,h3⟩
structure Hid (e : E) (n : Nat) (ok : Nat → Prop) (pl0 : Nat → Option Nat) (w0 : World) (f : Fr) (h : H) (pl : Nat → Option Nat) (w : World) (a : Act) (d : Tmp) (cs : List V) (b : Nat) : Prop where
 s:SSim e n (fun x=>ok x∧x≠b) pl0 w0 f h pl w a
 ptr:a.tmps.getD d undef= .pointer (some ⟨b,0,none⟩)
 ob:OAt (cx ok (bG pl h.length b) w) b (.cells cs)
 ge:w0.heap.size≤b
 lt:b<w.heap.size
 okb:ok b
 npl:∀i,pl i≠some b
 dn:d<n
theorem Hid.cext {f:Fr} {pl:Nat→Option Nat} {w:World} {a:Act} {d:Tmp} {cs:List V} {b:Nat} (k:Hid e n ok pl0 w0 f h pl w a d cs b) {w':World} (x:WExt w w') :
 CExt (fun _=>false) (cx (fun x=>ok x∧x≠b) pl w) (cx ok (bG pl h.length b) w'):=by
 refine⟨fun b' hb' hok=>⟨⟨hok.1.1,fun i hi=> ?_⟩,x.same b' hb'⟩,fun i b' _ hi=> ?_,fun b' arr' el' fz hb'=>⟨arr',fz,(x.same b' (aP hb')).trans hb',rfl⟩⟩
 ·simp only [bG] at hi;split at hi
  ·cases hi;exact hok.1.2 rfl
  ·exact hok.2 i hi
 ·have:=k.s.hs.pl_lt hi;simp only[cx,bG];rw[if_neg (by omega)];exact hi
theorem AQ.wpIn {o : Oper} {f : Fr} {v : V} {pl : Nat → Option Nat} {w : World} {a : Act} (hq : AQ e o (f.ev e) h v) (s : SSim e n ok pl0 w0 f h pl w a) {K' : Act → World → Prop} {Q' : Exit → Act → World → Prop}
 (hk:∀x w',WExt w w'→VRel (cx ok pl w') v x→K' (a.put o.dst x) w'):o.wpIn (RF r) 0 e.P a w K' Q':=by
 have:=hq ok pl w a.eval s.hs s.evs;refine⟨fun g _=>iy r g,?_⟩;have hnd:o.semAt (RF r).round a.eval=execOp a.eval o:=by
  rw[dS];refine Oper.semAt_eq r a.eval o fun c hc=> ?_;unfold execOp at this;rw[hc]at this;simp only[Sem.run_bind]at this
  revert this
  cases(resolve a.eval c o.type).run e.P w<;>simp[jF,Result.andThen]
 rw[hnd]
 revert this
 cases(execOp a.eval o).run e.P w with
 | halt x w'=>simp[jF]
 | ok nx w' =>
  cases nx<;>simp only[jF,Oper.uponIn]<;>try(intro hf;exact hf.elim)
  case value x =>
   rintro⟨hx,hv⟩;exact hk _ _ hx hv
  case skip =>
   rintro⟨hx,hv⟩;exact hk _ _ hx hv
  case enter g args =>
   intro hc;refine⟨fun hd'=>(by rw[jk]at hd';cases hd'),cZ (hc.mono ?_)⟩;rintro en w'' ⟨x,rfl,hx,hv⟩;exact hk _ _ hx hv
structure AlOk (P : Program) (n : Nat) (ops : Array Oper) (ia : Nat) (d : Tmp) (q : TI) : Prop where
 op:∃o t,ops[ia]? =some o∧o.op= .alloc t∧o.guard=none∧o.dst=some d∧ti P t=some q
 fit:q.zero.fit=true
 ne:ia≠ops.size-1
 dn:d<n
 oth:∀j o,ops[j]? =some o→j≠ia→mW o=false∧o.dst≠some d
def LSt (e:E) (n:Nat) (ok:Nat→Prop) (pl0:Nat→Option Nat) (w0:World) (h:H) (ia:Nat) (d:Tmp) (q:TI) (listed:Array Bool) (f:Fr) (pl:Nat→Option Nat) (w:World) (a:Act):Prop :=
 (listed.getD ia false=false∧SSim e n ok pl0 w0 f h pl w a)∨(listed.getD ia false=true∧∃b,Hid e n ok pl0 w0 f h pl w a d q.zero.vc b)
theorem LSt.alloc {ia : Nat} {d : Tmp} {q : TI} (ha : AlOk e.P n ops ia d q) {listed : Array Bool} (hsz : ia < listed.size) {f : Fr} {pl : Nat → Option Nat} {w : World} {a : Act} (k : LSt e n ok pl0 w0 h ia d q listed f pl w a)
 (hun:listed.getD ia true=false) {K':Act→World→Prop} {Q':Exit→Act→World→Prop}
 (hk:∀a' w',LSt e n ok pl0 w0 h ia d q (listed.setIfInBounds ia true) (f.put (some d) .any) pl w' a'→K' a' w'):wpOpIn (RF r) 0 e.P ops Q' ia K' a w:=by
 obtain⟨o,t,ho,hop,hg,hdst,hq⟩:=ha.op;have hl0:listed.getD ia false=false:=by simp only[Array.getD_eq_getD_getElem?,Array.getElem?_eq_getElem hsz,Option.getD_some]at hun ⊢;exact hun
 have hl1:(listed.setIfInBounds ia true).getD ia false=true:=by simp[hsz]
 rcases k with⟨_,s⟩ | ⟨hl,_⟩
 ·unfold wpOpIn;rw [ho];dsimp only;have hgd : gd ops f o = some true := by unfold gd;rw [hg]
  rw[if_pos (rO s.val hgd)];obtain⟨i,d',z,hT⟩:=aH hq;have hf:=ha.fit;have hz:VList (cx ok pl w) q.zero.vc z.cells.toList:=by
   rw[hT.zv]at hf ⊢;exact(dw _ z).vc hf
  obtain⟨h1,h2⟩:=uY s.hs hz t (WExt.refl w);have hrun:(execOp a.eval o).run e.P w= .ok (.value (.pointer (some ⟨w.heap.size,0,none⟩))) (w.alloc (.cells z.cells t)):=by
   have:(Instr.alloc t true (.tuple #[])).run e.P w= .ok (.pointer (some ⟨w.heap.size,0,none⟩)) (w.alloc (.cells z.cells t)):=by unfold Instr.alloc;simp only[Sem.run_bind,hT.run_zero,Result.andThen];rfl
   have h3:execOp a.eval o=(do pure (Next.value (←Instr.alloc t true (.tuple #[])))):=by simp[execOp,hop]
   rw[h3];exact gz this
  have xw:=WExt.alloc w (.cells z.cells t);refine⟨fun g _=>iy r g,?_⟩;have hnd:o.semAt (RF r).round a.eval=execOp a.eval o:=by rw[dS];exact Oper.semAt_eq r a.eval o fun c hc=>by rw[hop]at hc;cases hc
  rw[hnd,hrun];simp only[Oper.uponIn];refine hk _ _ (.inr ⟨hl1,w.heap.size,?_⟩);rw[hdst];have npl:∀i,pl i≠some w.heap.size:=fun i hi=>by have:=s.hs.lt i _ hi;omega
  have x:CExt (fun _=>false) (cx ok pl w) (cx (fun x=>ok x∧x≠w.heap.size) pl (w.alloc (.cells z.cells t))):=by refine⟨fun b' hb' hok=>⟨⟨⟨hok.1,?_⟩,hok.2⟩,xw.same b' hb'⟩,fun i b' _ hi=>hi,fun b' arr' el' fz hb'=>⟨arr',fz,(xw.same b' (aP hb')).trans hb',rfl⟩⟩;have hb':b'<w.heap.size:=hb';omega
  have hsz2:(w.alloc (.cells z.cells t)).heap.size=w.heap.size+1:=by rw[World.alloc];simp
  have hs':HSim e (fun x=>ok x∧x≠w.heap.size) pl h (w.alloc (.cells z.cells t)):=by refine s.hs.recx x (fun b' hb'=>⟨s.hs.fresh b' (by omega),by omega⟩) (fun i b' hi=>by have:=s.hs.lt i b' hi;omega) (fun i b' hi=>⟨s.hs.okl i b' hi,fun hh=>npl i (by rw[hi,hh])⟩) s.hs.inj ?_ s.hs.bare;intro i b' hi;obtain⟨o',h3,h4⟩:=s.hs.obj i b' hi;exact⟨o',h3,OAt.mono x (xw.same b' (s.hs.lt i b' hi)) h4⟩
  have kp':=s.kp.trans (xw.keeps s.hs);refine⟨⟨hs',kp'.weaken (q:=(f.put (some d) V.any).k) (fun i hi=>by simpa [Fr.put]using hi),?_,fun j=> ?_,Hr.mono (fun i b' hi=>x.pl i b' rfl hi) s.dfr⟩,?_,?_,s.kp.size,by omega,s.hs.fresh _ (zrb _),npl,ha.dn⟩
  ·have:=s.size;simpa [Act.put]using this
  ·by_cases hj : j = d
   ·subst hj;have : (f.put (some j) V.any).t j = .any := by simp [Fr.put]
    rw[this];simp only[VRel]
   ·have e1 : (f.put (some d) V.any).t j = f.t j := by simp [Fr.put,hj]
    rw[e1];have e2:(a.put (some d) (.pointer (some ⟨w.heap.size,0,none⟩))).tmps.getD j undef=a.tmps.getD j undef:=by
     simp[Act.put,Array.getElem?_setIfInBounds_ne (Ne.symm hj)]
    rw[e2];exact VRel.mono x _ _ (s.val j)
  ·have hdn : d < a.tmps.size := by rw [s.size];exact ha.dn
   simp[Act.put,hdn]
  ·obtain ⟨o',h3,h4⟩ := h1.obj h.length w.heap.size (by simp [bG]);have : o' = .cells q.zero.vc := by rw [List.getElem?_append_right (zrb _)] at h3;simpa using h3.symm
   subst this;exact h4
 ·rw[hl0]at hl;cases hl
def kM (e : E) (n : Nat) (ops : Array Oper) (h : H) (Q : Fr → Prop) : List Oper → Fr → Prop
 | [],f=>Q f
 | o::rest,f=>match mW o with
  | true=>o.guard=none∧jA n o.dst=true∧kM e n ops h Q rest (f.put o.dst .any)
  | false=>match gd ops f o with
   | none=>False
   | some g=>jA n o.dst=true ∧
    match jT o.op with
    | true=>match o.op with
     | .call {callee:= .value fx,args,..}=>match lI e (f.ev e) fx args with
      | some (q,vs)=>Ef e g q vs (dW (f.ev e) fx args) o.dst (kM e n ops h Q rest) f
      | none=>False
     | _=>False
    | false=>goQ g (uh e.P o (f.ev e) h) o.dst (kM e n ops h Q rest) f
theorem jl {Q : Fr → Prop} : ∀ (l : List Oper) (f : Fr),kM e n ops h Q l f → zC e n ops h Q l f
 | [],f,hv=>hv
 | o::rest,f,hv=>by
  simp only[kM]at hv;cases hal:mW o with
  | true=>rw[hal]at hv;obtain⟨h1,h2,h3⟩:=hv;exact⟨_,.inl ⟨hal,h1,h2,rfl⟩,jl rest _ h3⟩
  | false =>
   rw[hal]at hv;dsimp only at hv;cases hg:gd ops f o with
   | none=>rw[hg]at hv;exact hv.elim
   | some g =>
    rw[hg]at hv;obtain⟨hd,hv⟩:=hv;cases he:jT o.op with
    | true =>
     rw[he]at hv;dsimp only at hv;split at hv
     ·rename_i fx args ts hop;split at hv
      ·rename_i q vs hon;obtain⟨rv,h1,h2⟩:=hv;exact⟨_,.inr ⟨hal,hd,g,rv,hg,fun hgt=>AQ.call hop hon (h1 hgt).1 (h1 hgt).2.1 (h1 hgt).2.2.1 (h1 hgt).2.2.2,rfl⟩,jl rest _ h2⟩
      ·exact hv.elim
     ·exact hv.elim
    | false=>rw[he]at hv;dsimp only at hv;obtain⟨h1,h2⟩:=hv;exact⟨_,.inr ⟨hal,hd,g,_,hg,fun hgt=>nT (h1 hgt),rfl⟩,jl rest _ h2⟩
end
section
variable {e:E} {n:Nat} {r:Option Nat} {ops:Array Oper} {Q:XE→Fr→H→Prop} {ok:Nat→Prop} {pl0:Nat→Option Nat} {w0:World} {h:H}
def U5 (ops : Array Oper) (last : Nat) : List Nat → Array Bool → Bool
 | [],listed=>Region.ready .any ops listed==[last]
 | k::ks,listed=>(Region.ready .any ops listed).contains k&&k != last&&Region.free .any ops listed k&&U5 ops last ks (listed.setIfInBounds k true)
def Ez (ops:Array Oper) (ks:List Nat):List Oper:=ks.filterMap fun k=>ops[k]?
theorem vO {last : Nat} {Q : Fr → Prop} : ∀ (ks : List Nat) (listed : Array Bool) (f : Fr),U5 ops last ks listed = true → zC e n ops h Q (Ez ops ks) f → Bl e n ops h last Q ks.length listed f
 | [],_,_,hB,h=>⟨by simpa [U5]using hB,h⟩
 | k::ks,listed,f,hB,hh=>by
  simp only[U5,zqf]at hB;obtain⟨⟨⟨hr,hne⟩,hf⟩,hB'⟩:=hB;obtain⟨_,o,h0,_⟩:=mem_ready.1 (show k∈Region.ready .any ops listed by simpa using hr);have e1:Ez ops (k::ks)=o::Ez ops ks:=by simp[Ez,h0]
  rw[e1]at hh;obtain⟨v,hy,hK⟩:=hh;exact Bq h0 (by simpa using hne) ks.length listed f (Region.free_spec h0 hf) (by simpa using hr) hy (vO ks _ _ hB' hK)
def dep (ops:Array Oper) (i j:Nat):Bool:=match ops[i]? with
 | some o=>o.after.any fun e=>Region.binds .any e&&e.on==j
 | none=>false
theorem zD {i j:Nat} (h:dep ops i j=true):∃o,ops[i]? =some o∧∃e∈o.after,Region.binds .any e=true∧e.on=j:=by
 unfold dep at h;split at h
 ·rename_i o ho;rw[Array.any_eq_true]at h;obtain⟨q,hq,h3⟩:=h;rw[zqf,beq_iff_eq]at h3;exact⟨o,ho,_,Array.getElem_mem hq,h3.1,h3.2⟩
 ·cases h
def zF (ops:Array Oper) (tk pre:List Nat) (last:Nat):Bool :=
 (pre.all fun i=>(last::pre).any fun j=>decide (i<j)&&dep ops j i)&&(List.range ops.size).all fun i=>tk.contains i||pre.contains i||i==last||dep ops i last
structure LI (ops : Array Oper) (tk pre : List Nat) (last : Nat) (listed : Array Bool) : Prop where
 clos:Ey ops listed
 size:listed.size=ops.size
 took:∀i∈tk,i<ops.size→listed.getD i false=true
 tail:∀i,i∉tk→i∉pre→listed.getD i false=false
theorem LI.all {tk pre:List Nat} {last:Nat} {listed:Array Bool} (k:LI ops tk pre last listed) (hB:zF ops tk pre last=true) (hr:last∈Region.ready .any ops listed):∀(m i:Nat),m=ops.size-i→i∈pre→listed.getD i false=true:=by
 intro m
 induction m using Nat.strongRecOn with
 | _ m ih =>
  intro i hm hi;unfold zF at hB;rw[zqf]at hB;have h1:=zrs.1 hB.1 i hi;obtain⟨j,hj,h2⟩:=List.any_eq_true.1 h1;rw[zqf,zqb]at h2;obtain⟨hij,h2⟩:=h2;obtain⟨o,ho,e,he,hb,hon⟩:=zD h2;have hjs:=(Array.getElem?_eq_some_iff.1 ho).1;rw[←hon];rcases zrj.1 hj with rfl | hj
  ·obtain⟨_,o',ho',hall⟩:=mem_ready.1 hr;rw[ho]at ho';cases ho';exact hall e he hb
  ·exact k.clos j o ho (ih (ops.size-j) (by omega) j rfl hj) e he hb
theorem KW {listed:Array Bool} {i:Nat} (hi:i<listed.size) (d d':Bool):listed.getD i d=listed.getD i d':=by simp[hi]
theorem LI.one {tk pre:List Nat} {last:Nat} {listed:Array Bool} (k:LI ops tk pre last listed) (hB:zF ops tk pre last=true) (hl:last∉tk∧last∉pre) (hr:last∈Region.ready .any ops listed):Region.ready .any ops listed=[last]:=by
 have hall:∀j∈Region.ready .any ops listed,j=last:=by
  intro j hj;obtain⟨h0,o,ho,hdep⟩:=mem_ready.1 hj;have hlt:=(Array.getElem?_eq_some_iff.1 ho).1;have hun:listed.getD j false=false:=by rw[KW (by rw[k.size];exact hlt) false true];exact h0
  have hB2:=hB;unfold zF at hB2;rw[zqf]at hB2;have h2:=zrs.1 hB2.2 j (by simpa using hlt);simp only[Bool.or_eq_true,List.contains_iff_mem,beq_iff_eq]at h2;rcases h2 with((h2 | h2) | h2) | h2
  ·rw[k.took j h2 hlt]at hun;cases hun
  ·rw[k.all hB hr _ j rfl h2]at hun;cases hun
  ·exact h2
  ·obtain⟨o',ho',e,he,hb,hon⟩:=zD h2;rw[ho]at ho';cases ho';have:=hdep e he hb;rw[hon,k.tail last hl.1 hl.2]at this;cases this
 have hnd:(Region.ready .any ops listed).Nodup:=by unfold Region.ready;exact List.Pairwise.filter _ List.nodup_range
 match hm:Region.ready .any ops listed with
 | []=>rw[hm]at hr;cases hr
 | [x]=>rw[hall x (by rw[hm];simp)]
 | x::y::l=>exfalso;rw[hm]at hnd;have h1:=hall x (by rw[hm];simp);have h2:=hall y (by rw[hm];simp);simp[h1,h2]at hnd
def Uy (ops:Array Oper) (tk pre:List Nat):Array Bool:=((List.range ops.size).map fun i=>tk.contains i||pre.contains i).toArray
theorem LI.mid {tk pre:List Nat} {last:Nat} {listed:Array Bool} (k:LI ops tk pre last listed) (hB:zF ops tk pre last=true) (hr:last∈Region.ready .any ops listed):listed=Uy ops tk pre:=by
 apply Array.ext
 ·simp[Uy,k.size]
 ·intro i h1 h2;have hi : i < ops.size := by rw [← k.size];exact h1
  have e1:(Uy ops tk pre)[i]=(tk.contains i||pre.contains i):=by simp[Uy]
  have e2:listed[i]=listed.getD i false:=by simp[h1]
  rw[e1,e2];by_cases ht:i∈tk
  ·rw[k.took i ht hi];simp[ht]
  ·by_cases hp : i ∈ pre
   ·rw[k.all hB hr _ i rfl hp];simp[hp]
   ·rw[k.tail i ht hp];simp[ht,hp]
theorem gI {P : Program} : ∀ (p : Plan) (fuel k : Nat) (listed : Array Bool),(bJ P ops p fuel listed = true → bJ P ops p (fuel + k) listed = true) ∧ (bJ.planAlts P ops p fuel listed = true → bJ.planAlts P ops p (fuel + k) listed = true)
 | .fin,fuel,k,listed=>by
  refine⟨fun h=> ?_,fun h=> ?_⟩
  ·simpa [bJ]using h
  ·simp[bJ.planAlts]at h
 | .take i p,fuel,k,listed=>by
  refine⟨fun h=> ?_,fun h=> ?_⟩
  ·cases fuel with
   | zero=>simp[bJ]at h
   | succ fuel =>
    rw[show fuel+1+k=(fuel+k)+1 by omega];simp only[bJ]at h ⊢;cases ho:ops[i]? with
    | none=>rw[ho]at h;simp at h
    | some o=>rw[ho]at h;dsimp only at h ⊢;rw[zqf]at h ⊢;exact⟨h.1,(gI p fuel k _).1 h.2⟩
  ·simp[bJ.planAlts]at h
 | .one i p,fuel,k,listed=>by
  refine⟨fun h=> ?_,fun h=> ?_⟩
  ·cases fuel with
   | zero=>simp[bJ]at h
   | succ fuel=>rw[show fuel+1+k=(fuel+k)+1 by omega];simp only[bJ]at h ⊢;rw[zqf]at h ⊢;exact⟨h.1,(gI p fuel k _).1 h.2⟩
  ·simp only[bJ.planAlts]at h ⊢;exact(gI p fuel k _).1 h
 | .alt i p q,fuel,k,listed=>by
  refine⟨fun h=> ?_,fun h=> ?_⟩
  ·cases fuel with
   | zero=>simp[bJ]at h
   | succ fuel=>rw[show fuel+1+k=(fuel+k)+1 by omega];simp only[bJ]at h ⊢;rw[zqf,zqf]at h ⊢;exact⟨⟨h.1.1,(gI p fuel k _).1 h.1.2⟩,(gI q fuel k _).2 h.2⟩
  ·simp only[bJ.planAlts]at h ⊢;rw[zqf]at h ⊢;exact⟨(gI p fuel k _).1 h.1,(gI q fuel k _).2 h.2⟩
theorem LI.step {tk pre:List Nat} {last:Nat} {listed:Array Bool} (k:LI ops tk pre last listed) (hB:zF ops tk pre last=true) (hl:last∉tk∧last∉pre) {i:Nat} (hi:i∈Region.ready .any ops listed) (hil:i≠last):LI ops tk pre last (listed.setIfInBounds i true):=by
 obtain⟨h0,o,ho,hdep⟩:=mem_ready.1 hi;have hlt:=(Array.getElem?_eq_some_iff.1 ho).1;refine⟨k.clos.set hi,by simpa using k.size,fun j hj hjs=>getD_set_true (k.took j hj hjs),fun j h1 h2=> ?_⟩;by_cases hji:i=j
 ·subst hji;exfalso;have hB2 := hB;unfold zF at hB2;rw [zqf] at hB2;have h3 := zrs.1 hB2.2 i (by simpa using hlt);simp only [Bool.or_eq_true,List.contains_iff_mem,beq_iff_eq] at h3;rcases h3 with ((h3 | h3) | h3) | h3
  ·exact h1 h3
  ·exact h2 h3
  ·exact hil h3
  ·obtain⟨o',ho',e,he,hb,hon⟩:=zD h3;rw[ho]at ho';cases ho';have:=hdep e he hb;rw[hon,k.tail last hl.1 hl.2]at this;cases this
 ·rw[getD_set_ne false hji];exact k.tail j h1 h2
theorem U6 (hna:∀(j:Nat) (o:Oper),ops[j]? =some o→mW o=false) (hQ:∀v f h,¬Q (.pan v) f h) (hpl:jH ops=true) {tk pre:List Nat} {last fp:Nat} {p:Plan} (hB:zF ops tk pre last=true) (hl:last∉tk∧last∉pre) (hp:bJ e.P ops p fp (Uy ops tk pre)=true):∀(fuel:Nat) (listed:Array Bool) (f:Fr),
 Bl e n ops h last (fun f1=>gQ e n ops Q p f1 h) fuel listed f→LI ops tk pre last listed→∀pl w a,SSim e n ok pl0 w0 f h pl w a→wpAnyIn (RF r) 0 e.P .any ops (gW e n ok pl0 w0 Q) (fp+fuel) listed a w:=by
 have lastly:∀(fuel:Nat) (listed:Array Bool) (f:Fr),gQ e n ops Q p f h→LI ops tk pre last listed→last∈Region.ready .any ops listed→∀pl w a,SSim e n ok pl0 w0 f h pl w a→wpAnyIn (RF r) 0 e.P .any ops (gW e n ok pl0 w0 Q) (fp+fuel) listed a w:=by intro fuel listed f hv k hr pl w a s;have e1:=k.mid hB hr;subst e1;exact(fG hQ hpl p).1 (fp+fuel) _ f h ((gI p fp fuel _).1 hp) hv pl w a s
 intro fuel
 induction fuel with
 | zero=>intro listed f hL k pl w a s;exact lastly 0 listed f hL.2 k (by rw[hL.1];simp) pl w a s
 | succ fuel ih =>
  intro listed f hL k pl w a s;by_cases hlr:last∈Region.ready .any ops listed
  ·exact lastly (fuel+1) listed f (hL.2.1 (k.one hB hl hlr)) k hlr pl w a s
  ·rw [show fp + (fuel + 1) = (fp + fuel) + 1 by omega];refine ⟨fun h0 => absurd h0 hL.1,fun i hi => ?_⟩;have hil : i ≠ last := fun hh => hlr (hh ▸ hi);have h1 := hL.2.2 i hi hil;obtain ⟨hun,o,ho,_⟩ := mem_ready.1 hi;unfold xx at h1;rw [ho] at h1;obtain ⟨v,hy,hn⟩ := h1;have k' := k.step hB hl hi hil;rcases hy with ⟨h2,_⟩ | ⟨_,hd,g,v',hg,hv,rfl⟩
   ·rw[hna i o ho]at h2;cases h2
   ·unfold wpOpIn;rw[ho];dsimp only;have hw:=rO s.val hg;cases g with
    | true=>rw[if_pos hw];exact(hv rfl).wpIn s fun x w' hx hr=>ih _ _ hn k' pl w' _ ((s.next0 (s.hs.wext hx) (hx.keeps s.hs)).put hd hr)
    | false=>rw[if_neg (by rw[hw];simp)];exact⟨fun g _=>iy r g,ih _ _ hn k' pl w _ (s.put hd (jS (fun hf=>by cases hf) (fun _=>rfl)))⟩
def rY (P : Program) (ops : Array Oper) : List Nat → Array Bool → Bool
 | [],_=>true
 | i::is,listed=>(match ops[i]? with | some o=>oZ P o.op | none=>false)&&(Region.ready .any ops listed).contains i&&Region.free .any ops listed i&&rY P ops is (listed.setIfInBounds i true)
def qJ (listed : Array Bool) : List Nat → Array Bool
 | []=>listed
 | i::is=>qJ (listed.setIfInBounds i true) is
def zG (e : E) (n : Nat) (ops : Array Oper) (Q : XE → Fr → H → Prop) (K : Fr → H → Prop) : List Nat → Fr → H → Prop
 | [],f,h=>K f h
 | i::is,f,h=>DR e n ops i (zG e n ops Q K is) Q f h
theorem FP (hQ:∀v f h,¬Q (.pan v) f h) (hpl:jH ops=true) {K:Fr→H→Prop} {fuel:Nat}:∀(tk:List Nat) (listed:Array Bool) (f:Fr) (h:H),rY e.P ops tk listed=true→zG e n ops Q K tk f h →
 (∀f h pl w a,K f h→SSim e n ok pl0 w0 f h pl w a→wpAnyIn (RF r) 0 e.P .any ops (gW e n ok pl0 w0 Q) fuel (qJ listed tk) a w)→∀pl w a,SSim e n ok pl0 w0 f h pl w a→wpAnyIn (RF r) 0 e.P .any ops (gW e n ok pl0 w0 Q) (fuel+tk.length) listed a w
 | [],listed,f,h,_,hv,hk,pl,w,a,s=>hk f h pl w a hv s
 | i::is,listed,f,h,ht,hv,hk,pl,w,a,s=>by
  simp only[rY,zqf]at ht;obtain⟨⟨⟨h1,h2⟩,h3⟩,h4⟩:=ht;cases ho:ops[i]? with
  | none=>rw[ho]at h1;cases h1
  | some o=>rw[ho]at h1;obtain⟨x,f',hy,s',hk'⟩:=pM ho h1 hv s;refine kZ h1 ho hpl ?_ (fuel+is.length) listed a w (Region.free_spec ho h3) (by simpa using h2) hy (FP hQ hpl is _ f' h h4 hk' hk pl w _ s');rintro c a w ⟨pl',f',h',xe,_,hx,hq⟩;cases xe<;>first | exact hx.elim | exact(hQ _ _ _ hq).elim
def zH (P:Program) (ops:Array Oper) (tk pre:List Nat) (last:Nat) (p:Plan):Bool :=
 (ops.all fun o=> !mW o)&&jH ops&&rY P ops tk (Array.replicate ops.size false)&&U5 ops last pre (qJ (Array.replicate ops.size false) tk)&&zF ops tk pre last &&
 (!tk.contains last&& !pre.contains last)&&bJ P ops p (ops.size-tk.length-pre.length) (Uy ops tk pre)&&decide (tk.length+pre.length≤ops.size)
theorem Bv {tk:List Nat} {P:Program}:∀(is:List Nat) (listed:Array Bool),rY P ops is listed=true→Ey ops listed→listed.size=ops.size→(∀i∈tk,i∉is→i<ops.size→listed.getD i false=true)→(∀i,i∉tk→listed.getD i false=false)→(∀i∈is,i∈tk) →
 Ey ops (qJ listed is)∧(qJ listed is).size=ops.size∧(∀i∈tk,i<ops.size→(qJ listed is).getD i false=true)∧(∀i,i∉tk→(qJ listed is).getD i false=false)
 | [],listed,_,hc,hs,ht,hn,_=>⟨hc,hs,fun i hi hl=>ht i hi (by simp) hl,hn⟩
 | i::is,listed,hk,hc,hs,ht,hn,hm=>by
  simp only[rY,zqf]at hk;obtain⟨⟨⟨_,h2⟩,_⟩,h4⟩:=hk;refine Bv is _ h4 (hc.set (by simpa using h2)) (by simpa using hs) (fun j hj hji hjs=> ?_) (fun j hj=> ?_) (fun j hj=>hm j (by simp[hj]))
  ·by_cases hij : i = j
   ·subst hij;have : i < listed.size := by omega
    simp[this]
   ·exact getD_set_true (ht j hj (by simp[hji,Ne.symm hij]) hjs)
  ·have hij : i ≠ j := fun hh => by subst hh;exact hj (hm i (by simp))
   rw[getD_set_ne false hij];exact hn j hj
theorem KX (hm : e.P.follows .mixedOrders = true) {id : Nat} {f : Fr} (tk pre : List Nat) (last : Nat) (p : Plan) (R : Fr → H → Prop) (hB : zH e.P ops tk pre last p = true)
 (hv:zG e n ops (vC R) (fun f h=>kM e n ops h (fun f1=>gQ e n ops (vC R) p f1 h) (Ez ops pre) f) tk f h) (hk:∀f h,R f h→Q .normal f h):awp e n r (.region id ops true) Q f h:=by
 intro ok pl0 w0 pl w a s;unfold zH at hB;simp only[zqf,Bool.not_eq_true',zqb]at hB;obtain⟨⟨⟨⟨⟨⟨⟨b1,b2⟩,b3⟩,b4⟩,b5⟩,b6⟩,b7⟩,b8⟩:=hB;have hna:∀(j:Nat) (o:Oper),ops[j]? =some o→mW o=false:=fun j o ho=>by
  have h1:=Array.all_eq_true.1 b1;obtain⟨hl,rfl⟩:=Array.getElem?_eq_some_iff.1 ho;simpa using h1 j hl
 have hl:last∉tk∧last∉pre:=⟨by simpa using b6.1,by simpa using b6.2⟩;have x:WExt w {w with drawn:=w.drawn+1}:=WExt.drew w;obtain⟨c1,c2,c3,c4⟩:=Bv (ops:=ops) (tk:=tk) tk (Array.replicate ops.size false) b3 Ey.none (by simp) (fun i hi hni=>absurd hi hni) (fun i hi=>by
  rcases Nat.lt_or_ge i ops.size with h' | h'<;>simp[h']) (fun i hi=>hi)
 have li:LI ops tk pre last (qJ (Array.replicate ops.size false) tk):=⟨c1,c2,c3,fun i h1 _=>c4 i h1⟩;have hQ:∀v f h,¬vC R (.pan v) f h:=fun v f h hh=>hh;have:=FP (r:=r) (ok:=ok) (pl0:=pl0) (w0:=w0) (n:=n) (e:=e) (Q:=vC R) (fuel:=ops.size-tk.length-pre.length+pre.length) hQ b2 tk (Array.replicate ops.size false) f h b3 hv (fun f h pl w a hK s=>by
  have hL:=vO (e:=e) (n:=n) (h:=h) pre (qJ (Array.replicate ops.size false) tk) f b4 (jl _ _ hK);exact U6 (r:=r) hna hQ b2 b5 hl b7 _ _ _ hL li pl w a s) pl _ a (s.next0 (s.hs.wext x) (x.keeps s.hs))
 rw [show ops.size - tk.length - pre.length + pre.length + tk.length = ops.size by omega] at this;refine wpIn_mono (wpIn_region_any hm this) ?_;rintro ex a' w' ⟨pl',f',h',xe,s',hx,hq⟩;cases xe <;> first
  | exact⟨pl',f',h',_,s',hx,hk _ _ hq⟩
  | exact hq.elim
end
section
variable {e:E} {n:Nat} {r:Option Nat} {ops:Array Oper} {h:H} {Q:XE→Fr→H→Prop}
theorem vP (ops : Array Oper) : ∀ k : Nat,Ez ops (List.range k) = ops.toList.take k
 | 0=>rfl
 | k+1=>by
  have ih:=vP ops k;unfold Ez at ih ⊢;rw[List.range_succ,List.filterMap_append,ih,zrg]
  congr 1
  rw[List.filterMap_cons,List.filterMap_nil,Array.getElem?_toList];cases ops[k]? <;>rfl
theorem vS {K : Fr → Prop} : ∀ (l : List Oper) (f : Fr),(∀ o ∈ l,mW o = false) → gB e n ops h K l f → kM e n ops h K l f
 | [],_,_,hv=>hv
 | o::rest,f,ha,hv=>by
  have h0:=ha o (by simp);have hr:=fun f'=>vS (K:=K) rest f' fun o' ho'=>ha o' (by simp[ho']);simp only[kM,h0];simp only[gB]at hv;cases hg:gd ops f o with
  | none=>rw[hg]at hv;exact hv.elim
  | some g =>
   rw[hg]at hv;refine⟨hv.1,?_⟩;have hv:=hv.2;cases he:jT o.op with
   | false=>rw[he]at hv;exact⟨hv.1,hr _ hv.2⟩
   | true =>
    rw[he]at hv;simp only at hv ⊢;split at hv
    ·rename_i fx args ats heq;split at hv
     ·rename_i q vs hc;obtain⟨rv,h1,h2⟩:=hv;simp only[heq,hc];exact⟨rv,h1,hr _ h2⟩
     ·exact hv.elim
    ·exact hv.elim
theorem Bz (hm : e.P.follows .mixedOrders = true) {id : Nat} {f : Fr} (k : Nat) (p : Plan) (R : Fr → H → Prop) (hB : zH e.P ops [] (List.range k) k p = true)
 (hv:∀K:Fr→Prop,(∀f1,gQ e n ops (vC R) p f1 h→K f1)→gB e n ops h K (ops.toList.take k) f) (hk:∀f h,R f h→Q .normal f h):awp e n r (.region id ops true) Q f h:=by
 refine KX hm [] (List.range k) k p R hB ?_ hk;simp only[zG];rw[vP];refine vS _ _ (fun o ho=> ?_) (hv _ fun f1 h=>h);unfold zH at hB;simp only[zqf]at hB;have b1:=Array.all_eq_true.1 hB.1.1.1.1.1.1.1;obtain⟨i,hi,rfl⟩:=List.getElem_of_mem (List.mem_of_mem_take ho);have:=b1 i (by simpa using hi);simpa using this
end
section
variable {e:E} {h:H}
theorem ah.fresh {g:FuncId} {args:List V} {R:AEnd→H→(Nat→Bool)→Prop} (hc:ah e g args h fun ae h' p=>(∀i,i<h.length→p i=false)∧R ae h' (fun _=>false)):ah e g args h R :=
 fun ok pl w vs hs hl=>(hc ok pl w vs hs hl).mono fun en w' ⟨p,pl',h',ae,h1,h2,h3,h4,h5⟩ =>
  ⟨fun _=>false,pl',h',ae,h1,⟨h2.os,h2.tape,h2.output,h2.size,h2.same,h2.loc,fun i b _ hi=>h2.keep i b (h4 i (hs.pl_lt hi)) hi,h2.row⟩,h3,h5⟩
end
section
variable {e:E} {n:Nat} {r:Option Nat} {o:Oper} {f:Fr} {h:H} {Kn:Fr→H→Prop} {Q:XE→Fr→H→Prop}
end
section
variable {e:E} {n:Nat}
def DRs (c : C) : List Deferred → List (FuncId × List V) → Prop
 | [],[]=>True
 | d::ds,x::l=>(∃(cs azs:Array Value),d={target:= .fn (.func x.1) cs,args:=azs}∧VList c x.2 (azs++cs).toList)∧DRs c ds l
 | _,_=>False
theorem DRs.keeps {ok : Nat → Prop} {p : Nat → Bool} {pl pl' : Nat → Option Nat} {w w' : World} (k : Keeps p pl w pl' w') : ∀ {ds : List Deferred} {l : List (FuncId × List V)},DRs (cx ok pl w) ds l → (∀ x ∈ l,V.drops p x.2 = x.2) → DRs (cx ok pl' w') ds l
 | [],[],_,_=>trivial
 | [],_::_,h,_=>h.elim
 | _::_,[],h,_=>h.elim
 | d::ds,x::l,⟨⟨cs,azs,h1,h2⟩,h3⟩,hd=>by
  refine⟨⟨cs,azs,h1,?_⟩,h3.keeps k fun y hy=>hd y (by simp[hy])⟩;have:=VList.mdrop k.cext _ _ h2
  rwa [hd x (by simp)]at this
theorem VList.app {c:C}:∀ {l m:List V} {x y:List Value},VList c l x→VList c m y→VList c (l++m) (x++y):=fun h1 h2=>VList.append h1 h2
end
section
variable {e:E} {n:Nat} {r:Option Nat} {o:Oper} {f:Fr} {h:H} {K:Fr→H→Prop} {Q:XE→Fr→H→Prop}
end
def bl (n k:Nat):Array Bool:=((List.range n).map fun i=>k.testBit i).toArray
noncomputable def xy : Code → Nat → List (Array Oper)
 | .region i ops _,k=>if i==k then [ops]else []
 | .seq a b,k=>xy a k++xy b k
 | .cond _ a b,k=>xy a k++xy b k
 | .loop a,k=>xy a k
 | .block _ a,k=>xy a k
 | _,_=>[]
noncomputable def Iz (f:Func) (k:Nat):Array Oper:=match f.body with
 | some c=>(xy c k).headD #[]
 | none=>#[]
section
variable {P:Program} {ops:Array Oper} {i k:Nat} {p q:Plan} {L L':Array Bool}
end
section
variable {e:E} {n:Nat}
end
def U7 (ops:Array Oper):Bool:=(List.range ops.size).all fun i=>match ops[i]? with
 | some o=>o.after.all fun q=> !(Region.binds .any q)||decide (q.on<i)
 | none=>true
section
variable {e:E} {n:Nat} {r:Option Nat} {ops:Array Oper} {Q:XE→Fr→H→Prop} {ok:Nat→Prop} {pl0:Nat→Option Nat} {w0:World}
theorem KY (hB:U7 ops=true) {listed:Array Bool} (hs:listed.size=ops.size) (hr:Region.ready .any ops listed=[]):∀(k i:Nat),i<k→i<ops.size→listed.getD i false=true:=by
 intro k
 induction k with
 | zero=>intro i hi;exact absurd hi (Nat.not_lt_zero _)
 | succ k ih =>
  intro i hik hi;apply Classical.byContradiction;intro hn;have hn:listed.getD i false=false:=by simpa using hn
  have:i∈Region.ready .any ops listed:=by
   refine mem_ready.2 ⟨?_,ops[i],by simp[hi],fun q hq hb=> ?_⟩
   ·have : i < listed.size := by omega
    simpa [Array.getD,this]using hn
   ·have h1 := zrs.1 hB i (by simpa using hi);have hio : ops[i]? = some ops[i] := by simp [hi]
    rw[hio]at h1;dsimp only at h1;have h2:=(Array.all_eq_true_iff_forall_mem.1 h1) q hq;rw[hb]at h2;simp only[Bool.not_true,Bool.false_or,zqb]at h2;exact ih q.on (by omega) (by omega)
  rw[hr]at this;cases this
def BA (L:Array Bool):Nat:=L.toList.countP (!·)
theorem yg {L:Array Bool} {i:Nat} (h:i<L.size) (hl:L.getD i true=false):BA L=BA (L.setIfInBounds i true)+1:=by
 have hi:i<L.toList.length:=by simpa using h
 have hg:L.toList[i]=false:=by simpa [Array.getD,h]using hl
 unfold BA;rw[Array.toList_setIfInBounds,List.countP_set hi,hg];have:0<L.toList.countP (!·):=List.countP_pos_iff.2 ⟨L.toList[i],zqu hi,by rw[hg];rfl⟩;rw[if_pos (show(!false)=true from rfl),if_neg (show ¬(!true)=true by decide)];omega
theorem U8 (I : Array Bool → Fr → H → Prop)
 (hstep:∀L f h i,Ey ops L→I L f h→i∈Region.ready .any ops L→DR e n ops i (fun f' h'=>I (L.setIfInBounds i true) f' h') Q f h)
 (hend:∀L f h,L.size=ops.size→I L f h→Region.ready .any ops L=[]→Q .normal f h) :
 ∀(fuel:Nat) (L:Array Bool) (f:Fr) (h:H),L.size=ops.size→Ey ops L→BA L≤fuel→I L f h→∀pl w a,SSim e n ok pl0 w0 f h pl w a→wpAnyIn (RF r) 0 e.P .any ops (gW e n ok pl0 w0 Q) fuel L a w:=by
 intro fuel
 induction fuel with
 | zero =>
  intro L f h hs hc hu hI pl w a s;have hr:Region.ready .any ops L=[]:=by
   match hm:Region.ready .any ops L with
   | []=>rfl
   | i::_=>obtain⟨h0,o,ho,_⟩:=mem_ready.1 (show i∈Region.ready .any ops L by rw[hm];simp);have hlt:=(Array.getElem?_eq_some_iff.1 ho).1;have:=yg (L:=L) (i:=i) (by omega) h0;omega
  exact wpAnyIn_done hr ⟨pl,f,h,.normal,s,trivial,hend L f h hs hI hr⟩ 0
 | succ fuel ih =>
  intro L f h hs hc hu hI pl w a s;by_cases hr:Region.ready .any ops L=[]
  ·exact wpAnyIn_done hr ⟨pl,f,h,.normal,s,trivial,hend L f h hs hI hr⟩ (fuel+1)
  ·refine⟨fun h0=>absurd h0 hr,fun i hi=> ?_⟩;obtain⟨h0,o,ho,_⟩:=mem_ready.1 hi;have hlt:=(Array.getElem?_eq_some_iff.1 ho).1;have hun:=yg (L:=L) (i:=i) (by omega) h0;exact rQ (hstep L f h i hc hI hi) (fun f h pl w a s hk=>ih _ f h (by simpa using hs) (hc.set hi) (by omega) hk pl w a s) s
def U9 (ops:Array Oper) (i:Nat) (l:List Nat):Bool:=match ops[i]? with
 | some o=>l.all fun j=>o.after.any fun q=>Region.binds .any q&&(q.on==j)
 | none=>false
theorem aJ {L:Array Bool} {i:Nat} (hi:i∈Region.ready .any ops L) {l:List Nat} (hl:U9 ops i l=true):∀j∈l,L.getD j false=true:=by intro j hj;obtain⟨_,o,ho,hall⟩:=mem_ready.1 hi;unfold U9 at hl;rw[ho]at hl;have h1:=zrs.1 hl j hj;rw[Array.any_eq_true]at h1;obtain⟨q,hq,h3⟩:=h1;rw[zqf,beq_iff_eq]at h3;rw[←h3.2];have hmem:o.after[q]∈o.after:=Array.getElem_mem hq;have:=hall _ hmem h3.1;simpa using this
theorem jY {L:Array Bool} {i:Nat} (hi:i∈Region.ready .any ops L):L.getD i false=false:=by
 obtain⟨h0,o,ho,_⟩:=mem_ready.1 hi;rcases Nat.lt_or_ge i L.size with h | h
 ·simpa [Array.getD,h]using h0
 ·simp[Array.getD,Nat.not_lt.2 h]
theorem zI {L:Array Bool} {i:Nat} (hi:i∈Region.ready .any ops L):i<ops.size:=by obtain⟨_,o,ho,_⟩:=mem_ready.1 hi;exact(Array.getElem?_eq_some_iff.1 ho).1
theorem jd {L:Array Bool} {i:Nat} (hi:i∈Region.ready .any ops L):i<L.size:=by
 obtain⟨h0,o,ho,_⟩:=mem_ready.1 hi;rcases Nat.lt_or_ge i L.size with h | h
 ·exact h
 ·simp[Array.getD,Nat.not_lt.2 h]at h0
theorem zJ (hm : e.P.follows .mixedOrders = true) {id : Nat} (I : Array Bool → Fr → H → Prop) {f : Fr} {h : H} (hB : U7 ops = true)
 (h0:I (Array.replicate ops.size false) f h)
 (hstep:∀L f h i,Ey ops L→I L f h→i∈Region.ready .any ops L→DR e n ops i (fun f' h'=>I (L.setIfInBounds i true) f' h') Q f h)
 (hend:∀L f h,(∀i,i<ops.size→L.getD i false=true)→I L f h→Q .normal f h):awp e n r (.region id ops true) Q f h:=by
 intro ok pl0 w0 pl w a s;have x : WExt w { w with drawn := w.drawn + 1 } := WExt.drew w;have := U8 (e := e) (n := n) (r := r) (ops := ops) (Q := Q) (ok := ok) (pl0 := pl0) (w0 := w0) I hstep
  (fun L f h hs hI hr=>hend L f h (fun i hi=>KY hB hs hr (i+1) i (Nat.lt_succ_self i) hi) hI)
  ops.size (Array.replicate ops.size false) f h (by simp) Ey.none (by unfold BA;exact Nat.le_trans (List.countP_le_length) (by simp)) h0 pl _ a (s.next0 (s.hs.wext x) (x.keeps s.hs))
 exact wpIn_region_any hm this
def FA (L:Array Bool) (f:Fr) (l:List (Nat×Nat×V)):Prop:=∀q∈l,L.getD q.1 false=true→f.t q.2.1=q.2.2
theorem FA.put {L : Array Bool} {f : Fr} {l : List (Nat × Nat × V)} {i d : Nat} {v : V} (hf : FA L f l)
 (h1:∀q∈l,q.1=i→q.2.1=d∧q.2.2=v) (h2:∀q∈l,q.2.1=d→q.1=i):FA (L.setIfInBounds i true) (f.put (some d) v) l:=by
 intro q hq hl;by_cases hqi:q.1=i
 ·obtain⟨e1,e2⟩:=h1 q hq hqi;rw[e1,e2];simp[Fr.put]
 ·have hqd:q.2.1≠d:=fun h=>hqi (h2 q hq h);rw[getD_set_ne false (Ne.symm hqi)]at hl;have:=hf q hq hl;simpa [Fr.put,hqd]using this
theorem FA.skip {L:Array Bool} {f:Fr} {l:List (Nat×Nat×V)} {i:Nat} (hf:FA L f l) (h1:∀q∈l,q.1≠i):FA (L.setIfInBounds i true) f l:=by intro q hq hl;rw[getD_set_ne false (Ne.symm (h1 q hq))]at hl;exact hf q hq hl
theorem FA.none {m:Nat} {f:Fr} {l:List (Nat×Nat×V)}:FA (Array.replicate m false) f l:=by
 intro q _ hl;exfalso;rcases Nat.lt_or_ge q.1 m with h | h
 ·simp[h]at hl
 ·simp[h]at hl
end
section
variable {e:E} {n:Nat} {r:Option Nat} {o:Oper} {f:Fr} {h:H} {Kn:Fr→H→Prop} {Q:XE→Fr→H→Prop}
end
section
variable {e:E} {n:Nat} {r:Option Nat} {o:Oper} {f:Fr} {h:H} {Kn:Fr→H→Prop} {Q:XE→Fr→H→Prop}
end
section
variable {e:E} {n:Nat} {r:Option Nat} {ops:Array Oper} {h:H} {Q:XE→Fr→H→Prop}
theorem AQ.lend {o : Oper} {fx : Operand} {args : Array Operand} {ts : Array TypeId} (hop : o.op = .call { callee := .value fx,args := args,argTypes := ts }) {ρ : Operand → V} {g : FuncId} {vs vs' : List V} {rv : V}
 (hon:lI e ρ fx args=some (g,vs)) (hsc:dW ρ fx args) (hen:ai e.P g=true) (hr:aj e h vs vs') (hv:Ev e g vs' rv) (hp:rv.plain=true):AQ e o ρ h rv:=by
 intro ok pl w ev hs hre;obtain⟨xs,hrun,hl⟩:=qx (e:=e) hop hre hon hsc hen;rw[hrun];exact(hv ok w xs hs.lend (hr ok pl w xs hs hl)).mono fun en w' ⟨x,h1,h2,h3⟩=>⟨x,h1,h2,h3.plain hp⟩
def Va (e:E) (h:H) (g:Bool) (q:FuncId) (vs:List V) (sc:Prop) (dst:Option Tmp) (Kn:Fr→Prop) (f:Fr):Prop :=
 ∃rv,(g=true→sc∧ai e.P q=true∧((V.dats vs=true∧Ev e q vs rv)∨∃vs',aj e h vs vs'∧Ev e q vs' rv∧rv.plain=true))∧Kn (f.put dst (V.guard g rv))
theorem Va.mk {q:FuncId} {vs vs':List V} {dst:Option Tmp} {Kn:Fr→Prop} {f:Fr} {rv:V} (hv:Ev e q vs' rv) (h2:ai e.P q=true) (hr:aj e h vs vs') (hp:rv.plain=true) (hk:Kn (f.put dst rv)):Va e h true q vs True dst Kn f :=
 ⟨rv,fun _=>⟨trivial,h2,.inr ⟨vs',hr,hv,hp⟩⟩,hk⟩
theorem qK {c : Code} {f : Fr} (id j : Nat) (v : V) (hj : (f.t j).drop (fun i => !(i == id)) = f.t j) (hr : az e (oU (· == id) 0 h) (f.t j) v) (hd : f.d = [])
 (hw:awp e n r c Q {f with t:=fun i=>if i=j then v else(f.t i).drop (·==id),k:=fun i=>f.k i||(i==id)} (iO (·==id) 0 h)):awp e n r c Q f h:=by
 refine zq (·==id) _ (fun i=> ?_) (by rw[hd];simp) hw;by_cases hi:i=j
 ·subst hi;exact .inr ⟨hj,by rw[if_pos rfl];exact hr⟩
 ·exact .inl (by rw[if_neg hi])
end
section
variable {P:Program} {w:World}
theorem ul {ts : Array TypeId} {t xt ty el : TypeId} {r re rx : TI} {i ie ix : TypeInfo} {de : TypeDesc} {z ze zx : Value} {kx : IntKind} (h0 : ts[0]? = some t) (h1 : ts[1]? = some xt)
 (hT:TIs P t r i (.slice el) z) (hE:TIs P el re ie de ze) (hX:TIs P xt rx ix (.int kx) zx) (hsz:re.size=1)
 (base:Option Addr) (sLen sCap m:Nat) (olds:Array Value)
 (ho:(Builtin.firstCells re.size sLen (.slice base sLen sCap)).run P w.drew= .ok olds w.drew) (hm1:m≤1000000000000) (hle:sLen≤sCap)
 (hg:sCap<sLen+m) (h63:sLen+m≤maxLen) (hb:(sLen+m)*re.bytes≤140737488355328) :
 (Builtin.append_ ts ty #[.slice base sLen sCap,.int .i64 m]).run P w =
  .ok (.slice (some ⟨w.heap.size,0,none⟩) (sLen + m) (grownCap w (sLen + m) sCap el))
   (w.drew.alloc (.cells (olds++Builtin.zeroCells ze.cells m++Builtin.zeroCells ze.cells (grownCap w (sLen+m) sCap el-(sLen+m))) el)):=by
 have hn':¬(sLen+m≤sCap):=by omega
 have h48':¬(281474976710656<Builtin.nextslicecap (sLen+m) sCap*re.bytes):=by have:=growslice_fits hg hb;omega
 have hw:IntKind.i64.wrap (m:Int)=m:=aZ (by omega) (by omega);have hbytes:(typeInfo el).run P w= .ok ie w:=by simp[typeInfo,hE.info]
 have hneg:¬((m:Int)<0):=by omega
 have hbig:¬((281474976710656:Int)<(m:Int)*ie.bytes):=by
  have h1:m*re.bytes≤(sLen+m)*re.bytes:=Nat.mul_le_mul_right _ (by omega);have h2:((m*re.bytes:Nat):Int)≤140737488355328:=by omega
  rw[←hE.bytes];rw[Int.natCast_mul]at h2;omega
 have h63':¬(9223372036854775807<((sLen:Int)+(m:Int))):=by simp only[maxLen]at h63;omega
 unfold Builtin.append_;simp only[h0,h1,List.getElem?_toArray,List.getElem?_cons_zero,List.getElem?_cons_succ,Sem.run_bind,hT.run_und,Result.andThen,hE.run_size,hX.run_und,Sem.run_pure];have hm:m≠0:=by omega
 rw[hsz]at ho;simp[asInt,asIntOf,hw,hneg,hbig,hbytes,Result.andThen,hn',h63',hE.bytes▸h48',Question.forced,ho,hE.run_zero,newRow,grownCap,typeInfo,hE.info,hsz,hm]
theorem nK {ts : Array TypeId} {t xt ty el : TypeId} {r re rx : TI} {i ie ix : TypeInfo} {de : TypeDesc} {z ze zx : Value} {kx : IntKind} (h0 : ts[0]? = some t) (h1 : ts[1]? = some xt)
 (hT:TIs P t r i (.slice el) z) (hE:TIs P el re ie de ze) (hX:TIs P xt rx ix (.int kx) zx) (hsz:re.size=1)
 (base:Option Addr) (sLen sCap m:Nat) (hm1:m≤1000000000000) (hb:(sLen+m)*re.bytes≤140737488355328) (hg:sLen+m≤sCap) {w':World}
 (hs:(base=none∧w'=w)∨∃a,base=some a∧(storeCells (a.add (sLen*re.size)) (Builtin.zeroCells ze.cells m).toList).run P w= .ok () w') :
 (Builtin.append_ ts ty #[.slice base sLen sCap,.int .i64 m]).run P w= .ok (.slice base (sLen+m) sCap) w':=by
 have hw:IntKind.i64.wrap (m:Int)=m:=aZ (by omega) (by omega);have hbytes:(typeInfo el).run P w= .ok ie w:=by simp[typeInfo,hE.info]
 have hneg:¬((m:Int)<0):=by omega
 have hbig:¬((281474976710656:Int)<(m:Int)*ie.bytes):=by
  have h1:m*re.bytes≤(sLen+m)*re.bytes:=Nat.mul_le_mul_right _ (by omega);have h2:((m*re.bytes:Nat):Int)≤140737488355328:=by omega
  rw[←hE.bytes];rw[Int.natCast_mul]at h2;omega
 unfold Builtin.append_;simp only[h0,h1,List.getElem?_toArray,List.getElem?_cons_zero,List.getElem?_cons_succ,Sem.run_bind,hT.run_und,Result.andThen,hE.run_size,hX.run_und,Sem.run_pure];by_cases hm:m=0
 ·subst hm;have hz0 : Builtin.zeroCells ze.cells 0 = #[] := by simp [Builtin.zeroCells]
  have hw0:IntKind.i64.wrap 0=0:=by decide
  rw[hz0]at hs;rcases hs with⟨rfl,rfl⟩ | ⟨a,rfl,hs⟩
  ·simp[asInt,asIntOf,hw0,hbytes,Result.andThen,show sLen≤sCap by omega]
  ·have hs':(storeCells (a.add (sLen*re.size)) []).run P w= .ok () w':=hs;simp[asInt,asIntOf,hw0,hbytes,Result.andThen,show sLen≤sCap by omega,hs']
 ·rcases hs with ⟨rfl,rfl⟩ | ⟨a,rfl,hs⟩
  ·simp[asInt,asIntOf,hw,hneg,hbig,hbytes,Result.andThen,hg,hE.run_zero,hsz,hm]
  ·simp[asInt,asIntOf,hw,hneg,hbig,hbytes,Result.andThen,hg,hE.run_zero,hsz,hm]at hs ⊢;simp[hs,Result.andThen]
end
section
variable {e:E} {n:Nat} {r:Option Nat} {o:Oper} {f:Fr} {h:H} {Kn:Fr→H→Prop} {Q:XE→Fr→H→Prop}
theorem nM {x y : Operand} {t xt el : TypeId} {q re : TI} (ha : IsAppend e o x y t xt el q re) (hxc : (f.ev e x).sc) (hyc : (f.ev e y).sc)
 {id len cap:Nat} (hx:(f.ev e x).sv= .ls id re.size 0 len cap) {cs0:List V} (hc:h[id]? =some (.cells cs0)) (hcl:cs0.length=len*re.size)
 {m:Nat} (hy:(f.ev e y).sv= .int .i64 m) {rx:TI} {kx:IntKind} (hxt:Abs.ti e.P xt=some rx) (hkx:rx.kind= .int kx) (hm1:m≤1000000000000) (hs1:re.size=1) {zv:V} (hzv:re.zero.vc=[zv]) {cs:List V} (hcs:cs=List.replicate m zv) (h1:bC cs=true)
 (hbig:len+m≤maxLen) (hbytes:(len+m)*re.bytes≤140737488355328) (hid:∀i∈f.d,(i==id)=false)
 (hk:Kn ((f.drop (·==id)).put o.dst (.ls id re.size 0 (len+m) (len+m))) ((h.map (O.drop (·==id))).set id (.cells (V.drops (·==id) (cs0++cs))))):Eff e n r o f h Kn Q:=by
 obtain⟨⟨ts,hop,ht0,ht1⟩,hti,hkind,htie,hzf,hzl,hpos⟩:=ha;refine aN ?_ (fun c=>by rw[hop];exact fun h=>by cases h);intro ok pl w ev hs hr;obtain⟨i,d,z,hT⟩:=aH hti;have hd:=hT.slice hkind;subst hd;obtain⟨ie,de,ze,hE⟩:=aH htie;obtain⟨ix,dx,zx,hX⟩:=aH hxt;have hdx:=hX.int hkx;subst hdx;have hxv:=(hr x (by simp[hop,Op.operands,Call.operands])).sv hxc;have hyv:=(hr y (by simp[hop,Op.operands,Call.operands])).sv hyc;have hx':=hxv;rw[hx]at hx';obtain⟨olds,ho1,ho2,ho3,ho4⟩:=jC (k:=re.size) (n:=len) (cs:=cs0) hs hx' (by
  have:bM h id=cs0:=by simp[bM,hc]
  simp only[iQ,this];rw[if_pos ⟨trivial,by omega⟩];simp only[List.drop_zero];rw[zqh (by omega)]) rfl
 rw[hy]at hyv;simp only[VRel]at hyv;have hzr:=(dw (cx ok pl w) ze).vc (by rw[←hE.zv];exact hzf);rw[←hE.zv,hzv]at hzr;obtain⟨zc,hzc,hzrel⟩:∃zc,ze.cells.toList=[zc]∧VRel (cx ok pl w) zv zc:=by
  simp only[VList]at hzr;obtain⟨y,ys,h1,h2,rfl⟩:=hzr;exact⟨y,h1,h2⟩
 have hvz:∀k,VList (cx ok pl w) (List.replicate k zv) (List.replicate k zc):=by
  intro k
  induction k with
  | zero=>simp[VList]
  | succ k ih=>simp only[List.replicate_succ,VList];exact⟨_,_,rfl,hzrel,ih⟩
 obtain⟨news,hnews0⟩:∃news,news=Builtin.zeroCells ze.cells m:=⟨_,rfl⟩;have hnz:news.toList=List.replicate m zc:=by
  have:ze.cells=#[zc]:=Array.toList_inj.1 hzc;rw[hnews0];apply List.ext_getElem?;intro j;simp[Builtin.zeroCells,this,List.getElem?_replicate];by_cases hj:j<m
  ·rw[List.getElem?_range hj,if_pos hj];simp[Nat.mod_one]
  ·rw[List.getElem?_eq_none (by simp;omega),if_neg hj];rfl
 have hn3:VList (cx ok pl w) cs news.toList:=by rw[hcs,hnz];exact hvz m
 have hn4:cs.length=m*re.size:=by rw[hcs,hs1];simp
 simp only[VRel]at hx';obtain⟨base,cp,hbase,hcap,hlen,hmax,hpl⟩:=hx';have hol:=ho3.length;have hnl:=hn3.length;have hidl:id<h.length:=(zqe hc).1;by_cases hroom:len+m≤cp
 ·rcases hpl with hcp | ⟨b,arr,el',fz,hb,hbs,harr,hsz⟩
  ·have hm0 : m = 0 := by omega
   have hl0:len=0:=by omega
   subst hm0;subst hl0;subst hcp;have hcs:cs=[]:=List.length_eq_zero_iff.1 (by omega);have hcs0:cs0=[]:=List.length_eq_zero_iff.1 (by omega);subst hcs;subst hcs0;have hnews:news.toList=[]:=List.length_eq_zero_iff.1 (by omega);have hrun:=nK (P:=e.P) (w:=w) (ty:=o.type) ht0 ht1 hT hE hX hs1 base 0 0 0 hm1 (by omega) (by omega) (w':=w) (by
    cases base with
    | none=>exact .inl ⟨rfl,rfl⟩
    | some a=>exact .inr ⟨a,rfl,by rw[←hnews0,hnews];rfl⟩)
   obtain⟨hs',kk⟩:=hs.kill (·==id);have hset:(h.map (O.drop (·==id))).set id (.cells (V.drops (·==id) ([]++[])))=h.map (O.drop (·==id)):=by
    apply List.ext_getElem?;intro j;by_cases hj:j=id
    ·subst hj;rw[zqt (by simpa using hidl),zqo,hc];simp[O.drop,V.drops]
    ·rw[zqn (Ne.symm hj)]
   rw[hset]at hk;refine⟨(·==id),_,_,pl,w,.slice base 0 0,.inl ?_,hs',kk,?_,hid,hk⟩
   ·rw[bQ hop,hbase,hyv];exact gz hrun
   ·simp only[VRel];exact⟨base,0,rfl,by omega,by omega,by simp[maxLen],.inl rfl⟩
  ·subst hbs;have hb':pl id=some b:=hb;obtain⟨ob,hob,hat⟩:=hs.obj id b hb';rw[hc]at hob;cases hob;obtain⟨arr2,el2,fz2,g1,g2,g3,g4⟩:=hat;have harr':w.heap[b]? =some (.cells arr el' fz):=harr;have g1':w.heap[b]? =some (.cells arr2 el2 fz2):=g1;rw[harr']at g1';cases g1';have hfit:cs0.length+news.toList.length≤arr.size:=by
    rw[hnl,hcl,hn4,←Nat.add_mul];have:=Nat.mul_le_mul_right re.size hroom;omega
   have hfit':cs0.length+news.size≤arr.size:=by simpa using hfit
   have hnsz:news.size=cs.length:=by simpa using hnl
   have hst':=fF (P:=e.P) (o:=cs0.length) harr' g2 hfit (hn3.oneCells h1);have hw:=gm (b:=b) news.toList cs0.length arr w harr' hfit;obtain⟨w',hw'⟩:∃w',w.setCells b cs0.length news.toList=w':=⟨_,rfl⟩;rw[hw']at hst' hw;have hrun:=nK (P:=e.P) (w:=w) (ty:=o.type) ht0 ht1 hT hE hX hs1 (some ⟨b,0,none⟩) len cp m hm1 hbytes hroom (w':=w') (.inr ⟨_,rfl,by
    rw[dM,Nat.zero_add,←hcl,←hnews0];exact hst'⟩)
   have hkk:Keeps (·==id) pl w (fun i=>if i=id then some b else pl i) w':=by
    refine⟨hw.os,hw.tape,hw.output,by rw[hw.size];exact zrb _,fun b' hb1 hn'=>hw.same b' (fun he=>hn' id (he▸hb')),fun i b' hi=> ?_,fun i b' hp hi=> ?_,fun b' a1 e1 z1 hb1=> ?_⟩
    ·split at hi
     ·cases hi;exact .inl ⟨id,hb'⟩
     ·exact .inl ⟨i,hi⟩
    ·have : i ≠ id := by simpa using hp
     rw[if_neg this];exact hi
    ·by_cases he : b' = b
     ·subst he;rw[harr']at hb1;cases hb1;exact⟨_,_,hw.here,by simp;omega⟩
     ·exact⟨a1,z1,(hw.same b' he).trans hb1,rfl⟩
   have hsize':(arr.toList.take cs0.length++news.toList++arr.toList.drop (cs0.length+news.toList.length)).toArray.size=arr.size:=by simp;omega
   have hs' := hs.replace hidl (nb := b) (w' := w') (o' := .cells (V.drops (· == id) (cs0 ++ cs))) hkk (by rw [hw.size];exact aP harr') (fun j hj hjb => hj (hs.inj j id b hjb hb'))
    (fun j b' hj hjb=>hw.same b' (fun he=>hj (hs.inj j id b (he▸hjb) hb'))) (by
     refine⟨_,el',fz,hw.here,fun j hj=>g2 j (by omega),?_,?_⟩
     ·rw[aX,hsize',zqa];omega
     ·have hq : (V.drops (· == id) (cs0 ++ cs)).length = cs0.length + news.toList.length := by rw [aX,zqa];omega
      rw[hq];have e1:(arr.toList.take cs0.length++news.toList++arr.toList.drop (cs0.length+news.toList.length)).toArray.toList.take (cs0.length+news.toList.length)=arr.toList.take cs0.length++news.toList:=by
       have e2:(arr.toList.take cs0.length++news.toList).length=cs0.length+news.toList.length:=by simp only[zqa,zrl,Array.length_toList];omega
       show(arr.toList.take cs0.length++news.toList++arr.toList.drop (cs0.length+news.toList.length)).take (cs0.length+news.toList.length)=_;rw[List.take_append_of_le_length (by omega),zqh (by omega)]
      rw[e1];exact VList.mdrop hkk.cext _ _ (g4.append hn3))
   refine⟨(·==id),_,_,_,w',.slice (some ⟨b,0,none⟩) (len+m) cp,.inl ?_,hs',hkk,?_,hid,hk⟩
   ·rw[bQ hop,hbase,hyv];exact gz hrun
   ·simp only[VRel];exact⟨_,cp,rfl,hroom,hroom,hmax,.inr ⟨b,_,el',fz,by simp[cx],rfl,hw.here,by rw[hsize'];omega⟩⟩
 ·have hrun := ul (P := e.P) (w := w) (ty := o.type) ht0 ht1 hT hE hX hs1 base len cp m olds (by rw [← hbase];exact ho2 _ (fun _ => rfl)) hm1 (by omega) (by omega) hbig hbytes;rw [← hnews0] at hrun;obtain ⟨cap',hcap'⟩ : ∃ cap',grownCap w (len + m) cp el = cap' := ⟨_,rfl⟩;have hge := grownCap_ge w (len + m) cp el;have hle := grownCap_le_maxLen w (len + m) cp el hbig;rw [hcap'] at hrun hge hle;obtain ⟨arr,harr⟩ : ∃ arr,olds ++ news ++ Builtin.zeroCells ze.cells (cap' - (len + m)) = arr := ⟨_,rfl⟩;rw [harr] at hrun;have hzs : ze.cells.size = re.size := by have hzr := (dw (cx ok pl w) ze).vc (by rw [← hE.zv];exact hzf);have := hzr.length;rw [← hE.zv,hzl] at this;simpa using this
  have hasz:arr.size=cap'*re.size:=by rw[←harr];simp only[Array.size_append,size_zeroCells,hzs];simp only[Array.length_toList]at hol hnl;rw[hol,hnl,ho4,hn4,←Nat.add_mul,←Nat.add_mul];congr 1;omega
  have hlist:arr.toList.take (cs0++cs).length=olds.toList++news.toList:=by rw[←harr];simp only[Array.toList_append];rw[List.take_append_of_le_length (by simp only[zqa];omega),zqh (by simp only[zqa];omega)]
  have x2:=(WExt.drew w).trans (WExt.alloc w.drew (.cells arr el));have hhere:(w.drew.alloc (.cells arr el)).heap[w.heap.size]? =some (.cells arr el):=World.alloc_heap_new w.drew (.cells arr el);have hkk:Keeps (·==id) pl w (fun i=>if i=id then some w.heap.size else pl i) (w.drew.alloc (.cells arr el)):=by
   refine⟨rfl,rfl,rfl,x2.size,fun b' hb1 _=>x2.same b' hb1,fun i b' hi=> ?_,fun i b' hp hi=> ?_,fun b' a1 e1 z1 hb1=>⟨a1,z1,(x2.same b' (aP hb1)).trans hb1,rfl⟩⟩
   ·split at hi
    ·cases hi;exact .inr (zrb _)
    ·exact .inl ⟨i,hi⟩
   ·have : i ≠ id := by simpa using hp
    rw[if_neg this];exact hi
  have hs' := hs.replace hidl (nb := w.heap.size) (o' := .cells (V.drops (· == id) (cs0 ++ cs))) hkk (by simp) (fun j hj hjb => by have := hs.lt j _ hjb;omega)
   (fun j b' hj hjb=>x2.same b' (hs.lt j b' hjb)) (by
    refine⟨arr,el,(0,0),hhere,fun j _=>by simp,?_,?_⟩
    ·rw[aX,hasz,zqa,ho4,hn4,←Nat.add_mul];exact Nat.mul_le_mul_right _ hge
    ·rw[aX,hlist];exact VList.mdrop hkk.cext _ _ (ho3.append hn3))
  refine⟨(·==id),_,_,_,_,.slice (some ⟨w.heap.size,0,none⟩) (len+m) cap',.inl ?_,hs',hkk,?_,hid,hk⟩
  ·rw[bQ hop,hbase,hyv];exact gz hrun
  ·simp only[VRel];exact⟨_,cap',rfl,hge,hge,hle,.inr ⟨w.heap.size,arr,el,(0,0),by simp[cx],rfl,hhere,by rw[hasz];omega⟩⟩
end
end Go.Abs
