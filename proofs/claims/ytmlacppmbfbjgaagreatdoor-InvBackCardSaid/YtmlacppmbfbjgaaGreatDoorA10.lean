/- Lemmas for this claim, part A10: each holds under what it names. -/
import Derived.Test.YtmlacppmbfbjgaaGreatDoorA9
import Derived.Test.YtmlacppmbfbjgaaGreatDoorA8
set_option linter.unusedVariables false
set_option linter.unusedSimpArgs false
namespace Go.Abs
open Go Go.RowKit
section
variable {e:E} {g:FuncId} {args:List V} {h:H} {R:AEnd→H→(Nat→Bool)→Prop}
def EvF (e:E) (g:FuncId) (args:List V) (k n:Nat) (cs:List V):Prop :=
 ah e g args [] fun ae h' _=>match ae with
  | .ret v=>(v= .nils∧n=0∧cs=[])∨∃id cap,v= .ls id k 0 n cap∧n≤cap∧h'[id]? =some (.cells cs)
  | .pan _=>False
theorem Ia {k n:Nat} {cs:List V} (hv:EvF e g args k n cs) (hd:V.dats args=true) (hcs:V.dats cs=true) (hr:R (.ret (.ls h.length k 0 n n)) (h++[.cells cs]) (fun _=>false)):ah e g args h R:=by
 intro ok pl w vs hs hl;refine(hv _ _ w vs hs.toData (VList.mono (nO ok pl w) _ _ (VList.todata _ _ hd hl))).mono ?_;rintro en w' ⟨p,pl',h',ae,hs',k',he,hq⟩;have x:WExt w w':=⟨k'.os,k'.tape,k'.output,k'.size,fun b hb=>k'.same b hb (fun i hi=>by cases hi)⟩;have bare:∀v:V,(∀y,(∀c:C,VRel c v y→VRel c (.ls h.length k 0 n n) y))→cs=[]→∀y,VRel (cx ok pl w') v y→en= .returned y→∃p pl2 h2 ae2,HSim e ok pl2 h2 w'∧Keeps p pl w pl2 w'∧EQ (cx ok pl2 w') ae2 en∧R ae2 h2 p:=by
  intro v hle hc0 y hy hen;subst hc0;refine⟨fun _=>false,pl,h++[.cells []],.ret (.ls h.length k 0 n n),ou (hs.wext x),x.keeps hs,?_,hr⟩;rw[hen];exact hle y _ hy
 cases ae with
 | pan v=>exact hq.elim
 | ret v =>
  cases en with
  | panicked ch=>exact he.elim
  | outgrown=>exact he.elim
  | returned y =>
   have he:VRel _ v y:=he;rcases hq with⟨rfl,rfl,rfl⟩ | ⟨id,cap,rfl,hcap,hid⟩
   ·refine bare .nils (fun y c hy=> ?_) rfl y (by simpa only[VRel]using he) rfl;simp only[VRel]at hy ⊢;exact⟨none,0,hy,Nat.le_refl _,Nat.le_refl _,Nat.zero_le _,.inl rfl⟩
   ·simp only[VRel]at he;obtain⟨a,cp,h1,h2,h3,h4,h5⟩:=he;cases hp:pl' id with
    | none =>
     have hc0:cs=[]:=by
      rcases hs'.bare id _ hid hp with h | h
      ·cases h
      ·cases h;rfl
     rcases h5 with h5 | ⟨b,arr,el,fz,h6,_⟩
     ·subst h5;have hn : n = 0 := by omega
      subst hn;refine⟨fun _=>false,pl,h++[.cells cs],.ret (.ls h.length k 0 0 0),by rw[hc0];exact ou (hs.wext x),x.keeps hs,?_,hr⟩;show VRel _ _ _;simp only[VRel];exact⟨a,0,h1,Nat.le_refl _,h3,h4,.inl rfl⟩
     ·simp only[cx]at h6;rw[hp]at h6;cases h6
    | some b0 =>
     have hb1:w.heap.size≤b0:=by
      rcases k'.loc id b0 hp with⟨j,hj⟩ | hlt
      ·cases hj
      ·exact hlt
     have hb2:=hs'.lt id b0 hp;obtain⟨o,ho,hat⟩:=hs'.obj id b0 hp;rw[hid]at ho;cases ho;obtain⟨arr,el,fz,g1,g2,g3,g4⟩:=hat;have cxt:CExt (fun _=>false) (cx (fun b=>ok b∧∀i,pl i≠some b) pl' w').data (cx ok (bC pl h.length b0) w').data:=by
      refine⟨fun b hb hok=>⟨⟨hok.1.1,fun i hi=> ?_⟩,rfl⟩,fun i b _ hi=>by simp[C.data]at hi,fun b arr' el' fz' hb'=>⟨arr',fz',hb',rfl⟩⟩;simp only[bC]at hi;split at hi
      ·cases hi;exact hok.2 id hp
      ·exact hok.1.2 i hi
     have hat2:OAt (cx ok (bC pl h.length b0) w') b0 (.cells cs) :=
      ⟨arr,el,fz,g1,g2,g3,VList.ofdata _ _ (VList.mono cxt _ _ (VList.todata _ _ hcs g4))⟩
     obtain⟨s2,k2⟩:=hs.new x (.cells arr el) (.cells cs) hb1 hb2 hat2;refine⟨fun _=>false,bC pl h.length b0,h++[.cells cs],.ret (.ls h.length k 0 n n),s2,k2,?_,hr⟩;show VRel _ _ _;simp only[VRel];refine⟨a,cp,h1,h3,h3,h4,?_⟩;rcases h5 with h5 | ⟨b,arr2,el2,fz2,h6,h7,h8,h9⟩
     ·exact .inl h5
     ·simp only[cx]at h6 h8;rw[hp]at h6;cases h6;exact .inr ⟨b0,arr2,el2,fz2,by simp[cx,bC],h7,h8,h9⟩
theorem EvF.ev {k n:Nat} {cs:List V} {r:V} (hv:EvF e g args k n cs) (hn:n=0→cs=[]→VLe .nils r) (hr:∀h':H,∀id cap:Nat,n≤cap→h'[id]? =some (.cells cs)→az e h' (.ls id k 0 n cap) r) (hnr:n=0→cs=[]→∀h':H,az e h' .nils r):Ev e g args r :=
 Ev.of_calls (ah.mono hv fun ae h' p hq=>by
  cases ae with
  | pan v=>exact hq
  | ret v =>
   rcases hq with⟨rfl,h1,h2⟩ | ⟨id,cap,rfl,hc,hid⟩
   ·exact hnr h1 h2 h'
   ·exact hr h' id cap hc hid)
theorem iV {x:Bool} {k:Nat}:VLe .nils (.is x k []):=fun c y h=>by simp only[VRel]at h ⊢;exact⟨none,0,h,Nat.le_refl _,Nat.zero_le _,fun _=>rfl,by simp⟩
theorem dB {x:Bool} {k:Nat} {es:List V}:VLe (.is x k es) (.is false k es):=fun c y h=>by simp only[VRel]at h ⊢;obtain⟨a,cp,h1,h2,h3,h4,h5⟩:=h;exact⟨a,cp,h1,h2,h3,(fun h=>by cases h),h5⟩
theorem VElems.les {c : C} {k : Nat} : ∀ {es es' : List V} {b off : Nat},es'.length = es.length → (∀ (i : Nat) v v',es[i]? = some v → es'[i]? = some v' → VLe v v') → VElems c k es b off → VElems c k es' b off
 | [],[],_,_,_,_,h=>h
 | [],_::_,_,_,hl,_,_=>by simp at hl
 | _::_,[],_,_,hl,_,_=>by simp at hl
 | v::vs,v'::vs',b,off,hl,hv,h=>by simp only[VElems]at h ⊢;obtain⟨⟨ev,h1,h2,h3⟩,h4⟩:=h;exact⟨⟨ev,h1,h2,hv 0 v v' rfl rfl c ev h3⟩,VElems.les (by simpa using hl) (fun i a b ha hb=>hv (i+1) a b (by simpa using ha) (by simpa using hb)) h4⟩
theorem VLe.is {x:Bool} {k:Nat} {es es':List V} (hl:es'.length=es.length) (hv:∀(i:Nat) v v',es[i]? =some v→es'[i]? =some v'→VLe v v'):VLe (.is x k es) (.is x k es'):=fun c y h=>by
 simp only[VRel]at h ⊢;obtain⟨a,cp,h1,h2,h3,h4,h5⟩:=h;refine⟨a,cp,by rw[hl];exact h1,by omega,h3,fun h=>by rw[hl];exact h4 h,?_⟩;rcases h5 with h5 | ⟨b,off,h5,h6⟩
 ·exact .inl (by subst h5;exact List.length_eq_zero_iff.1 hl)
 ·exact .inr ⟨b,off,h5,h6.les hl hv⟩
theorem Ev.les {args':List V} {r:V} (hv:Ev e g args' r) (ha:gK args args'):Ev e g args r :=
 fun ok w vs hs hl=>hv ok w vs hs (ha _ _ hl)
theorem EvR.les {args':List V} {S:V→Prop} (hv:EvR e g args' S) (ha:gK args args'):EvR e g args S :=
 fun ok w vs hs hl=>hv ok w vs hs (ha _ _ hl)
theorem EvF.les {args':List V} {k n:Nat} {cs:List V} (hv:EvF e g args' k n cs) (ha:gK args args'):EvF e g args k n cs :=
 AY ha (HLe.refl _) hv
end
section
variable {e:E} {n:Nat} {r:Option Nat} {c:Code} {Q:XE→Fr→H→Prop} {f:Fr} {h:H}
theorem fJ (i k:Nat) (hi:f.t i= .nils) (hw:awp e n r c Q {f with t:=fun j=>if j=i then .ls h.length k 0 0 0 else f.t j} (h++[.cells []])):awp e n r c Q f h :=
 jC (E5 (FLe.one i (by rw[hi];exact gz)) (HLe.refl _) hw)
def bP (k:Nat):Nat→Bool:=fun j=>decide (k≤j)
theorem gV {h0 Y : H} (hd : ∀ j ∈ f.d,j < h0.length)
 (hw:awp e n r c Q (f.drop (bP h0.length)) (h0.map (O.drop (bP h0.length)))):awp e n r c Q f (h0++Y):=by
 refine QY (.inr ⟨h0.length,hd,?_⟩);have e1:((h0++Y).map (O.drop fun i=>decide (h0.length≤i))).take h0.length=h0.map (O.drop (bP h0.length)):=by
  simp only[List.map_append];rw[List.take_append_of_le_length (by simp),List.take_of_length_le (by simp)];rfl
 rw[e1];exact hw
def A7 (h:H):Prop:=∀p:Nat→Bool,(∀i,i<h.length→p i=false)→h.map (O.drop p)=h
theorem A7.one {h:H} (hc:A7 h) {j:Nat} (hj:h.length≤j):h.map (O.drop (·==j))=h:=hc _ (fun i hi=>by simp;omega)
theorem A7.set {h:H} (hc:A7 h) {k:Nat} {o:O} (ho:∀p:Nat→Bool,(∀i,i<h.length→p i=false)→o.drop p=o):A7 (h.set k o):=fun p hp=>by rw[List.length_set]at hp;rw[List.map_set,hc p hp,ho p hp]
theorem ah.kp {g:FuncId} {args:List V} {R:AEnd→H→(Nat→Bool)→Prop} (p0:Nat→Bool) (hc:ah e g args h fun ae h' p=>(∀i,p i=true→p0 i=true)∧R ae h' p0):ah e g args h R :=
 fun ok pl w vs hs hl=>(hc ok pl w vs hs hl).mono fun en w' ⟨p,pl',h',ae,h1,h2,h3,h4,h5⟩=>⟨p0,pl',h',ae,h1,h2.weaken h4,h3,h5⟩
end
open Go.ChangeShapes
section
variable {H:Type} {enc:TypeId×Value→H} {P:Program} {R:Nat} (M:Meas H P R)
theorem law_contractG {fn : Func} {f : FuncId} {s : ChangeSpec} {shs : List Sh} (hl : laidOutB P = true) (hlen : shs.length = fn.params.size)
 (hok:∀(i:Nat) sh t,shs[i]? =some sh→fn.params[i]? =some t→sh.ok P t=true∧sh.fat P t=true) (hread:(fn.params.toList.all fun t=>P.readableRec t&&decide (t<P.types.size))=true)
 (hres:∃tb,fn.resultTypes=#[tb]∧P.underlying tb=some .bool) (hvars:s.vars=[])
 (hspec:∀ds:List (DataW H),ds.length=shs.length→(s.fn H (ds++[])).results=[.lit (.bool true)]∧(s.fn H (ds++[])).args=ds∧(s.fn H (ds++[])).vars=[])
 (e:E) (heP:e.P=P)  (hev:∀us,Sh.Szs R shs us→Ev e f us (.bool true))
 (W:World) (base:Nat) (args:Array Value) (ds gs:List (DataW H)) (before:List MemPlace)
 (hval:∀(j:Nat) t v,fn.params[j]? =some t→args[j]? =some v→Value.okWide P W .any base t v)
 (hW:DataW.Whole enc P fn.params.toList s.vars false W args.toList ds gs before)
 (hwt:∀(i:Nat) d t,ds[i]? =some d→fn.params.toList[i]? =some t→M.L t d)
 (hgl:∀g v,e.gl g=some v→VRel (cw W) (.ip v) (.pointer (some ⟨g,0,none⟩)))
 (hex:∀g p,e.gx g=some p→∃cs ty fz,W.heap[g]? =some (.cells cs ty fz)∧p cs) :
 Calls P f args W fun e W'=>∃v,e= .returned v∧s.post enc P fn false true false false W args v W':=by
 have hW':=hW;obtain⟨p,q,hA,hV,rfl,hfz,hnd⟩:=hW;rw[hvars]at hV;obtain⟨rfl,rfl⟩:=trodVars_none hV;obtain⟨us,k1,k2⟩:=qw M shs fn.params.toList args.toList ds p (by simpa using hlen) (fun i sh t h1 h2=>hok i sh t h1 (by simpa using h2)) (fun i sh v h1 h2=>by
  have hi:i<fn.params.size:=by have:=(List.getElem?_eq_some_iff.1 h1).1;omega
  exact wS (hok i sh fn.params[i] h1 (by simp[hi])).1 (hval i fn.params[i] v (by simp[hi]) (by simpa using h2))) hA hwt
 subst heP;have hs:HSim e (fun _=>True) (fun _=>none) [] W:=⟨fun _ _=>trivial,fun i b hi=>(by cases hi),fun i b hi=>(by cases hi),fun i j b hi=>(by cases hi),fun i b hi=>(by cases hi),fun i o ho=>(by simp at ho),fun g v hg=>hgl g v hg,fun g p hg=>⟨⟨trivial,fun i hi=>(by cases hi)⟩,hex g p hg⟩⟩;have hc:=hev us k1 _ W args.toList hs k2;rw[show args.toList.toArray=args from Array.toArray_toList]at hc;refine hc.mono ?_;rintro en W' ⟨x,rfl,hx,hv⟩;simp only[VRel]at hv;subst hv;obtain⟨tb,hr1,hr2⟩:=hres;have hdl:ds.length=shs.length:=by rw[EY hA,hlen];simp
 obtain⟨e1,e2,e3⟩:=hspec ds hdl;refine⟨_,rfl,ds,[],p++[],[],p,[],hW',?_,?_,?_,hx.below.frame _,fun h=>(by cases h)⟩
 ·rw[e1,hr1];exact trodAll_mk1 ⟨1,by simp[DataW.trod,Value.cells,hr2]⟩
 ·rw[e2];exact qm hl hx.below fn.params.toList args.toList ds p hread (fun y hy=>hA.lt y hy) hA
 ·rw[e3,hvars];rfl
theorem Rq {w:World} {g:Nat} {a b:Int} {k:IntKind} {ty:TypeId} {fz:Nat×Nat} (h:w.heap[g]? =some (.cells #[.int k a,.int k b] ty fz)):VRel (cw w) (.ip (.agg [.int k a,.int k b])) (.pointer (some ⟨g,0,none⟩)):=by simp only[VRel,VList];refine⟨g,0,.agg #[.int k a,.int k b],rfl,fun j hj=>⟨⟨trivial,fun i hi=>by cases hi⟩,?_⟩,by simp[Value.cells],_,rfl,_,_,rfl,rfl,_,_,rfl,rfl,rfl⟩;show w.cell? ⟨g,0+j,none⟩=_;unfold World.cell?;simp only[h,Nat.zero_add];rfl
end
section
variable {e:E} {n:Nat} {r:Option Nat} {o:Oper} {f:Fr} {h:H} {Kn:Fr→H→Prop} {Q:XE→Fr→H→Prop}
theorem pg {r:Option Nat} {c:Code} (Pf:Fr→Prop) (h0:H) (h1:(∀f',Pf f'→awp e n r c Q f' h0)→awp e n r c Q f h) (h2:∀f',Pf f'→awp e n r c Q f' h0):awp e n r c Q f h:=h1 h2
end
section
variable {e:E} {n:Nat} {r:Option Nat} {o:Oper} {f:Fr} {h:H} {Kn:Fr→H→Prop} {Q:XE→Fr→H→Prop}
end
section
variable {e:E} {n:Nat} {r:Option Nat} {ops:Array Oper} {Q:XE→Fr→H→Prop} {ok:Nat→Prop} {pl0:Nat→Option Nat} {w0:World}
theorem SSim.unput {f:Fr} {h:H} {pl:Nat→Option Nat} {w:World} {a:Act} {d:Option Tmp} {v:Value} (s:SSim e n ok pl0 w0 f h pl w (a.put d v)):SSim e n ok pl0 w0 (f.put d .any) h pl w a:=by
 cases d with
 | none=>exact s
 | some i =>
  refine⟨s.hs,s.kp,?_,fun j=> ?_,s.dfr⟩
  ·have:=s.size;simpa [Act.put]using this
  ·by_cases hj : j = i
   ·subst hj;have : (f.put (some j) .any).t j = .any := by simp [Fr.put]
    rw[this];simp only[VRel]
   ·have h1 : (f.put (some i) .any).t j = f.t j := by simp [Fr.put,hj]
    rw[h1];have h2:=s.val j;simpa [Act.put,Array.getElem?_setIfInBounds_ne (Ne.symm hj)]using h2
end
section
variable {e:E} {n:Nat} {r:Option Nat} {ops:Array Oper} {Q:XE→Fr→H→Prop} {ok:Nat→Prop} {pl0:Nat→Option Nat} {w0:World} {h:H}
def mG (o:Oper):Bool:=match o.op with | .alloc _=>true | _=>false
def ni (e:E) (n:Nat) (ops:Array Oper) (h:H) (o:Oper) (v:V) (f:Fr):Prop :=
 (mG o=true∧o.guard=none∧jh n o.dst=true∧v= .any)∨(mG o=false∧lF e n ops h o v f)
theorem ni.put {o:Oper} {v:V} {f:Fr} (hy:ni e n ops h o v f) {dst:Option Tmp} {u:V} (hd:∀d,dst=some d→d∉o.looksAt ops):ni e n ops h o v (f.put dst u) :=
 hy.imp id fun h=>⟨h.1,h.2.put hd⟩
theorem ni.unput {o:Oper} {v:V} {f:Fr} {dst:Option Tmp} {u:V} (hy:ni e n ops h o v (f.put dst u)) (hd:∀d,dst=some d→d∉o.looksAt ops):ni e n ops h o v f :=
 hy.imp id fun h=>⟨h.1,h.2.unput hd⟩
def wX (e:E) (n:Nat) (ops:Array Oper) (h:H) (i:Nat) (Kn:Fr→Prop) (f:Fr):Prop :=
 match ops[i]? with
 | none=>Kn f
 | some o=>∃v,ni e n ops h o v f∧Kn (f.put o.dst v)
theorem Ib {i:Nat} {f:Fr} {K K':Fr→Prop} (hh:∀f,K f→K' f) (hq:wX e n ops h i K f):wX e n ops h i K' f:=by
 unfold wX at *;split
 ·exact hh _ (by simpa [*]using hq)
 ·rename_i o ho;simp only[ho]at hq;obtain⟨v,h1,h2⟩:=hq;exact⟨v,h1,hh _ h2⟩
theorem KE {j : Nat} {oi oj : Oper} {v : V} (hj : ops[j]? = some oj) (hap : oi.apart ops oj = true) {K : Fr → Prop} {f : Fr}
 (hy:ni e n ops h oi v f) (hq:wX e n ops h j K (f.put oi.dst v)) :
 wX e n ops h j (fun f'=>ni e n ops h oi v f'∧K (f'.put oi.dst v)) f:=by
 obtain⟨h1,h2,h3⟩:=Oper.apart_spec hap;unfold wX at *;simp only[hj]at *;obtain⟨u,hu,hn⟩:=hq;exact⟨u,hu.unput h1,hy.put h3,by rw[←Fr.put_comm f v u h2];exact hn⟩
def y7 (e : E) (n : Nat) (ops : Array Oper) (h : H) (Q : Fr → Prop) : List Oper → Fr → Prop
 | [],f=>Q f
 | o::rest,f=>∃v,ni e n ops h o v f∧y7 e n ops h Q rest (f.put o.dst v)
def A8 (e : E) (n : Nat) (ops : Array Oper) (h : H) (last : Nat) (Q : Fr → Prop) : Nat → Array Bool → Fr → Prop
 | 0,listed,f=>Region.ready .any ops listed=[last]∧Q f
 | fuel+1,listed,f=>Region.ready .any ops listed≠[]∧(Region.ready .any ops listed=[last]→Q f) ∧
  ∀i∈Region.ready .any ops listed,i≠last→wX e n ops h i (A8 e n ops h last Q fuel (listed.setIfInBounds i true)) f
theorem Ba {last:Nat} {Q:Fr→Prop} {i:Nat} {oi:Oper} {v:V} (hi:ops[i]? =some oi) (hil:i≠last) :
 ∀(fuel:Nat) (listed:Array Bool) (f:Fr),
  (∀j oj,ops[j]? =some oj→j≠i→listed.getD j true=false→(∀e∈oj.after,Region.binds .any e=true→e.on≠i)→oi.apart ops oj=true) →
  i∈Region.ready .any ops listed→ni e n ops h oi v f →
  A8 e n ops h last Q fuel (listed.setIfInBounds i true) (f.put oi.dst v)→A8 e n ops h last Q (fuel+1) listed f:=by
 have own:∀ {K:Fr→Prop} {f:Fr},ni e n ops h oi v f→K (f.put oi.dst v)→wX e n ops h i K f:=by intro K f hy hk;unfold wX;rw[hi];exact⟨v,hy,hk⟩
 have one:∀ {listed:Array Bool} {R:Prop},i∈Region.ready .any ops listed→Region.ready .any ops listed=[last]→R:=by intro listed R hr h;rw[h]at hr;exact absurd (by simpa using hr) hil
 intro fuel
 induction fuel with
 | zero =>
  intro listed f _ hr hy H;refine⟨fun h=>(by rw[h]at hr;cases hr),fun h=>one hr h,fun j hj hjl=> ?_⟩;by_cases hji:j=i
  ·subst hji;exact own hy H
  ·have:=ready_mono hj hji;rw[H.1]at this;exact absurd (by simpa using this) hjl
 | succ fuel ih =>
  intro listed f hfree hr hy H;refine⟨fun h=>(by rw[h]at hr;cases hr),fun h=>one hr h,fun j hj hjl=> ?_⟩;by_cases hji:j=i
  ·subst hji;exact own hy H
  ·have h1:=H.2.2 j (ready_mono hj hji) hjl;obtain⟨hjun,oj,hoj,hall⟩:=mem_ready.1 hj;have hnot:∀e∈oj.after,Region.binds .any e=true→e.on≠i:=fun e he hb heq=>by
    have h1:=hall e he hb;have h0:=(mem_ready.1 hr).1;rw[heq]at h1;rcases Nat.lt_or_ge i listed.size with h' | h'
    ·simp[h']at h0 h1;rw[h0]at h1;cases h1
    ·simp[Array.getElem?_eq_none h']at h1
   have h2:=KE hoj (hfree j oj hoj hji hjun hnot) hy h1;have hfree':∀k ok,ops[k]? =some ok→k≠i→(listed.setIfInBounds j true).getD k true=false →
    (∀e∈ok.after,Region.binds .any e=true→e.on≠i)→oi.apart ops ok=true:=fun k ok hk hki hun hno=>by
    refine hfree k ok hk hki ?_ hno;by_cases hjk:j=k
    ·subst hjk;exact hjun
    ·rw[getD_set_ne true hjk]at hun;exact hun
   refine Ib (fun a' h3=>ih (listed.setIfInBounds j true) a' hfree' (ready_mono hr (Ne.symm hji)) h3.1 ?_) h2;rw[Array.setIfInBounds_comm _ _ hji];exact h3.2
def D8 (ops:Array Oper) (listed:Array Bool):Prop:=∀i o,ops[i]? =some o→listed.getD i false=true→∀e∈o.after,Region.binds .any e=true→listed.getD e.on false=true
theorem D8.set {listed:Array Bool} (hc:D8 ops listed) {i:Nat} (hi:i∈Region.ready .any ops listed):D8 ops (listed.setIfInBounds i true):=by
 intro j o ho hl e he hb;refine getD_set_true ?_;by_cases hji:j=i
 ·subst hji;obtain⟨_,o',ho',hall⟩:=mem_ready.1 hi;rw[ho]at ho';cases ho';exact hall e he hb
 ·rw[getD_set_ne false (Ne.symm hji)]at hl;exact hc j o ho hl e he hb
theorem D8.none {m:Nat}:D8 ops (Array.replicate m false):=by
 intro i o _ hl;exfalso;rcases Nat.lt_or_ge i m with h | h
 ·simp[h]at hl
 ·simp[h]at hl
theorem HSim.recx {ok ok' : Nat → Prop} {pl pl' : Nat → Option Nat} {h h' : H} {w w' : World} (hs : HSim e ok pl h w) (x : CExt (fun _ => false) (cx ok pl w) (cx ok' pl' w'))
 (fresh:∀b,w'.heap.size≤b→ok' b) (lt:∀i b,pl' i=some b→b<w'.heap.size) (okl:∀i b,pl' i=some b→ok' b) (inj:∀i j b,pl' i=some b→pl' j=some b→i=j)
 (obj:∀i b,pl' i=some b→∃o,h'[i]? =some o∧OAt (cx ok' pl' w') b o) (bare:∀i o,h'[i]? =some o→pl' i=none→o= .dead∨o= .cells []):HSim e ok' pl' h' w' where
 fresh:=fresh
 lt:=lt
 okl:=okl
 inj:=inj
 obj:=obj
 bare:=bare
 glob g v hg:=VRel.mono x _ _ (hs.glob g v hg)
 exa g cs hg:=by
  obtain⟨h1,cs',ty,fz,h2,h3⟩:=hs.exa g cs hg;have:=x.dat g (aP h2) h1;exact⟨this.1,cs',ty,fz,this.2.trans h2,h3⟩
structure Hid (e : E) (n : Nat) (ok : Nat → Prop) (pl0 : Nat → Option Nat) (w0 : World) (f : Fr) (h : H) (pl : Nat → Option Nat) (w : World) (a : Act) (d : Tmp) (cs : List V) (b : Nat) : Prop where
 s:SSim e n (fun x=>ok x∧x≠b) pl0 w0 f h pl w a
 ptr:a.tmps.getD d undef= .pointer (some ⟨b,0,none⟩)
 ob:OAt (cx ok (bC pl h.length b) w) b (.cells cs)
 ge:w0.heap.size≤b
 lt:b<w.heap.size
 okb:ok b
 npl:∀i,pl i≠some b
 dn:d<n
theorem Hid.cext {f:Fr} {pl:Nat→Option Nat} {w:World} {a:Act} {d:Tmp} {cs:List V} {b:Nat} (k:Hid e n ok pl0 w0 f h pl w a d cs b) {w':World} (x:WExt w w') :
 CExt (fun _=>false) (cx (fun x=>ok x∧x≠b) pl w) (cx ok (bC pl h.length b) w'):=by
 refine⟨fun b' hb' hok=>⟨⟨hok.1.1,fun i hi=> ?_⟩,x.same b' hb'⟩,fun i b' _ hi=> ?_,fun b' arr' el' fz hb'=>⟨arr',fz,(x.same b' (aP hb')).trans hb',rfl⟩⟩
 ·simp only [bC] at hi;split at hi
  ·cases hi;exact hok.1.2 rfl
  ·exact hok.2 i hi
 ·have:=k.s.hs.pl_lt hi;simp only[cx,bC];rw[if_neg (by omega)];exact hi
theorem AQ.wpIn {o : Oper} {f : Fr} {v : V} {pl : Nat → Option Nat} {w : World} {a : Act} (hq : AQ e o (f.ev e) h v) (s : SSim e n ok pl0 w0 f h pl w a) {K' : Act → World → Prop} {Q' : Exit → Act → World → Prop}
 (hk:∀x w',WExt w w'→VRel (cx ok pl w') v x→K' (a.put o.dst x) w'):o.wpIn (RF r) 0 e.P a w K' Q':=by
 have:=hq ok pl w a.eval s.hs s.evs;refine⟨fun g _=>ig r g,?_⟩;have hnd:o.semAt (RF r).round a.eval=execOp a.eval o:=by
  rw[dO];refine Oper.semAt_eq r a.eval o fun c hc=> ?_;unfold execOp at this;rw[hc]at this;simp only[Sem.run_bind]at this
  revert this
  cases(resolve a.eval c o.type).run e.P w<;>simp[jv,Result.andThen]
 rw[hnd]
 revert this
 cases(execOp a.eval o).run e.P w with
 | halt x w'=>simp[jv]
 | ok nx w' =>
  cases nx<;>simp only[jv,Oper.uponIn]<;>try(intro hf;exact hf.elim)
  case value x =>
   rintro⟨hx,hv⟩;exact hk _ _ hx hv
  case skip =>
   rintro⟨hx,hv⟩;exact hk _ _ hx hv
  case enter g args =>
   intro hc;refine⟨fun hd'=>(by rw[jc]at hd';cases hd'),cu (hc.mono ?_)⟩;rintro en w'' ⟨x,rfl,hx,hv⟩;exact hk _ _ hx hv
structure AlOk (P : Program) (n : Nat) (ops : Array Oper) (ia : Nat) (d : Tmp) (q : TI) : Prop where
 op:∃o t,ops[ia]? =some o∧o.op= .alloc t∧o.guard=none∧o.dst=some d∧ti P t=some q
 fit:q.zero.fit=true
 ne:ia≠ops.size-1
 dn:d<n
 oth:∀j o,ops[j]? =some o→j≠ia→mG o=false∧o.dst≠some d
def LSt (e:E) (n:Nat) (ok:Nat→Prop) (pl0:Nat→Option Nat) (w0:World) (h:H) (ia:Nat) (d:Tmp) (q:TI) (listed:Array Bool) (f:Fr) (pl:Nat→Option Nat) (w:World) (a:Act):Prop :=
 (listed.getD ia false=false∧SSim e n ok pl0 w0 f h pl w a)∨(listed.getD ia false=true∧∃b,Hid e n ok pl0 w0 f h pl w a d q.zero.vc b)
theorem LSt.alloc {ia : Nat} {d : Tmp} {q : TI} (ha : AlOk e.P n ops ia d q) {listed : Array Bool} (hsz : ia < listed.size) {f : Fr} {pl : Nat → Option Nat} {w : World} {a : Act} (k : LSt e n ok pl0 w0 h ia d q listed f pl w a)
 (hun:listed.getD ia true=false) {K':Act→World→Prop} {Q':Exit→Act→World→Prop}
 (hk:∀a' w',LSt e n ok pl0 w0 h ia d q (listed.setIfInBounds ia true) (f.put (some d) .any) pl w' a'→K' a' w'):wpOpIn (RF r) 0 e.P ops Q' ia K' a w:=by
 obtain⟨o,t,ho,hop,hg,hdst,hq⟩:=ha.op;have hl0:listed.getD ia false=false:=by simp only[Array.getD_eq_getD_getElem?,Array.getElem?_eq_getElem hsz,Option.getD_some]at hun ⊢;exact hun
 have hl1:(listed.setIfInBounds ia true).getD ia false=true:=by simp[hsz]
 rcases k with⟨_,s⟩ | ⟨hl,_⟩
 ·unfold wpOpIn;rw [ho];dsimp only;have hgd : gd ops f o = some true := by unfold gd;rw [hg]
  rw[if_pos (qY s.val hgd)];obtain⟨i,d',z,hT⟩:=aF hq;have hf:=ha.fit;have hz:VList (cx ok pl w) q.zero.vc z.cells.toList:=by
   rw[hT.zv]at hf ⊢;exact(cZ _ z).vc hf
  obtain⟨h1,h2⟩:=uH s.hs hz t (WExt.refl w);have hrun:(execOp a.eval o).run e.P w= .ok (.value (.pointer (some ⟨w.heap.size,0,none⟩))) (w.alloc (.cells z.cells t)):=by
   have:(Instr.alloc t true (.tuple #[])).run e.P w= .ok (.pointer (some ⟨w.heap.size,0,none⟩)) (w.alloc (.cells z.cells t)):=by unfold Instr.alloc;simp only[Sem.run_bind,hT.run_zero,Result.andThen];rfl
   have h3:execOp a.eval o=(do pure (Next.value (←Instr.alloc t true (.tuple #[])))):=by simp[execOp,hop]
   rw[h3];exact fU this
  have xw:=WExt.alloc w (.cells z.cells t);refine⟨fun g _=>ig r g,?_⟩;have hnd:o.semAt (RF r).round a.eval=execOp a.eval o:=by rw[dO];exact Oper.semAt_eq r a.eval o fun c hc=>by rw[hop]at hc;cases hc
  rw[hnd,hrun];simp only[Oper.uponIn];refine hk _ _ (.inr ⟨hl1,w.heap.size,?_⟩);rw[hdst];have npl:∀i,pl i≠some w.heap.size:=fun i hi=>by have:=s.hs.lt i _ hi;omega
  have x:CExt (fun _=>false) (cx ok pl w) (cx (fun x=>ok x∧x≠w.heap.size) pl (w.alloc (.cells z.cells t))):=by refine⟨fun b' hb' hok=>⟨⟨⟨hok.1,?_⟩,hok.2⟩,xw.same b' hb'⟩,fun i b' _ hi=>hi,fun b' arr' el' fz hb'=>⟨arr',fz,(xw.same b' (aP hb')).trans hb',rfl⟩⟩;have hb':b'<w.heap.size:=hb';omega
  have hsz2:(w.alloc (.cells z.cells t)).heap.size=w.heap.size+1:=by rw[World.alloc];simp
  have hs':HSim e (fun x=>ok x∧x≠w.heap.size) pl h (w.alloc (.cells z.cells t)):=by refine s.hs.recx x (fun b' hb'=>⟨s.hs.fresh b' (by omega),by omega⟩) (fun i b' hi=>by have:=s.hs.lt i b' hi;omega) (fun i b' hi=>⟨s.hs.okl i b' hi,fun hh=>npl i (by rw[hi,hh])⟩) s.hs.inj ?_ s.hs.bare;intro i b' hi;obtain⟨o',h3,h4⟩:=s.hs.obj i b' hi;exact⟨o',h3,OAt.mono x (xw.same b' (s.hs.lt i b' hi)) h4⟩
  have kp':=s.kp.trans (xw.keeps s.hs);refine⟨⟨hs',kp'.weaken (q:=(f.put (some d) V.any).k) (fun i hi=>by simpa [Fr.put]using hi),?_,fun j=> ?_,GX.mono (fun i b' hi=>x.pl i b' rfl hi) s.dfr⟩,?_,?_,s.kp.size,by omega,s.hs.fresh _ (Nat.le_refl _),npl,ha.dn⟩
  ·have:=s.size;simpa [Act.put]using this
  ·by_cases hj : j = d
   ·subst hj;have : (f.put (some j) V.any).t j = .any := by simp [Fr.put]
    rw[this];simp only[VRel]
   ·have e1 : (f.put (some d) V.any).t j = f.t j := by simp [Fr.put,hj]
    rw[e1];have e2:(a.put (some d) (.pointer (some ⟨w.heap.size,0,none⟩))).tmps.getD j undef=a.tmps.getD j undef:=by
     simp[Act.put,Array.getElem?_setIfInBounds_ne (Ne.symm hj)]
    rw[e2];exact VRel.mono x _ _ (s.val j)
  ·have hdn : d < a.tmps.size := by rw [s.size];exact ha.dn
   simp[Act.put,hdn]
  ·obtain ⟨o',h3,h4⟩ := h1.obj h.length w.heap.size (by simp [bC]);have : o' = .cells q.zero.vc := by rw [List.getElem?_append_right (Nat.le_refl _)] at h3;simpa using h3.symm
   subst this;exact h4
 ·rw[hl0]at hl;cases hl
def kH (e : E) (n : Nat) (ops : Array Oper) (h : H) (Q : Fr → Prop) : List Oper → Fr → Prop
 | [],f=>Q f
 | o::rest,f=>match mG o with
  | true=>o.guard=none∧jh n o.dst=true∧kH e n ops h Q rest (f.put o.dst .any)
  | false=>match gd ops f o with
   | none=>False
   | some g=>jh n o.dst=true ∧
    match jO o.op with
    | true=>match o.op with
     | .call {callee:= .value fx,args,..}=>match lD e (f.ev e) fx args with
      | some (q,vs)=>Je e g q vs (dQ (f.ev e) fx args) o.dst (kH e n ops h Q rest) f
      | none=>False
     | _=>False
    | false=>goQ g (sV e.P o (f.ev e) h) o.dst (kH e n ops h Q rest) f
theorem jd {Q : Fr → Prop} : ∀ (l : List Oper) (f : Fr),kH e n ops h Q l f → y7 e n ops h Q l f
 | [],f,hv=>hv
 | o::rest,f,hv=>by
  simp only[kH]at hv;cases hal:mG o with
  | true=>rw[hal]at hv;obtain⟨h1,h2,h3⟩:=hv;exact⟨_,.inl ⟨hal,h1,h2,rfl⟩,jd rest _ h3⟩
  | false =>
   rw[hal]at hv;dsimp only at hv;cases hg:gd ops f o with
   | none=>rw[hg]at hv;exact hv.elim
   | some g =>
    rw[hg]at hv;obtain⟨hd,hv⟩:=hv;cases he:jO o.op with
    | true =>
     rw[he]at hv;dsimp only at hv;split at hv
     ·rename_i fx args ts hop;split at hv
      ·rename_i q vs hon;obtain⟨rv,h1,h2⟩:=hv;exact⟨_,.inr ⟨hal,hd,g,rv,hg,fun hgt=>AQ.call hop hon (h1 hgt).1 (h1 hgt).2.1 (h1 hgt).2.2.1 (h1 hgt).2.2.2,rfl⟩,jd rest _ h2⟩
      ·exact hv.elim
     ·exact hv.elim
    | false=>rw[he]at hv;dsimp only at hv;obtain⟨h1,h2⟩:=hv;exact⟨_,.inr ⟨hal,hd,g,_,hg,fun hgt=>nK (h1 hgt),rfl⟩,jd rest _ h2⟩
end
section
variable {e:E} {n:Nat} {r:Option Nat} {ops:Array Oper} {Q:XE→Fr→H→Prop} {ok:Nat→Prop} {pl0:Nat→Option Nat} {w0:World} {h:H}
def UC (ops : Array Oper) (last : Nat) : List Nat → Array Bool → Bool
 | [],listed=>Region.ready .any ops listed==[last]
 | k::ks,listed=>(Region.ready .any ops listed).contains k&&k != last&&Region.free .any ops listed k&&UC ops last ks (listed.setIfInBounds k true)
def D9 (ops:Array Oper) (ks:List Nat):List Oper:=ks.filterMap fun k=>ops[k]?
theorem vg {last : Nat} {Q : Fr → Prop} : ∀ (ks : List Nat) (listed : Array Bool) (f : Fr),UC ops last ks listed = true → y7 e n ops h Q (D9 ops ks) f → A8 e n ops h last Q ks.length listed f
 | [],_,_,hB,h=>⟨by simpa [UC]using hB,h⟩
 | k::ks,listed,f,hB,hh=>by
  simp only[UC,Bool.and_eq_true]at hB;obtain⟨⟨⟨hr,hne⟩,hf⟩,hB'⟩:=hB;obtain⟨_,o,h0,_⟩:=mem_ready.1 (show k∈Region.ready .any ops listed by simpa using hr);have e1:D9 ops (k::ks)=o::D9 ops ks:=by simp[D9,h0]
  rw[e1]at hh;obtain⟨v,hy,hK⟩:=hh;exact Ba h0 (by simpa using hne) ks.length listed f (Region.free_spec h0 hf) (by simpa using hr) hy (vg ks _ _ hB' hK)
def dep (ops:Array Oper) (i j:Nat):Bool:=match ops[i]? with
 | some o=>o.after.any fun e=>Region.binds .any e&&e.on==j
 | none=>false
theorem y8 {i j:Nat} (h:dep ops i j=true):∃o,ops[i]? =some o∧∃e∈o.after,Region.binds .any e=true∧e.on=j:=by
 unfold dep at h;split at h
 ·rename_i o ho;rw[Array.any_eq_true]at h;obtain⟨q,hq,h3⟩:=h;rw[Bool.and_eq_true,beq_iff_eq]at h3;exact⟨o,ho,_,Array.getElem_mem hq,h3.1,h3.2⟩
 ·cases h
def y9 (ops:Array Oper) (tk pre:List Nat) (last:Nat):Bool :=
 (pre.all fun i=>(last::pre).any fun j=>decide (i<j)&&dep ops j i)&&(List.range ops.size).all fun i=>tk.contains i||pre.contains i||i==last||dep ops i last
structure LI (ops : Array Oper) (tk pre : List Nat) (last : Nat) (listed : Array Bool) : Prop where
 clos:D8 ops listed
 size:listed.size=ops.size
 took:∀i∈tk,i<ops.size→listed.getD i false=true
 tail:∀i,i∉tk→i∉pre→listed.getD i false=false
theorem LI.all {tk pre:List Nat} {last:Nat} {listed:Array Bool} (k:LI ops tk pre last listed) (hB:y9 ops tk pre last=true) (hr:last∈Region.ready .any ops listed):∀(m i:Nat),m=ops.size-i→i∈pre→listed.getD i false=true:=by
 intro m
 induction m using Nat.strongRecOn with
 | _ m ih =>
  intro i hm hi;unfold y9 at hB;rw[Bool.and_eq_true]at hB;have h1:=List.all_eq_true.1 hB.1 i hi;obtain⟨j,hj,h2⟩:=List.any_eq_true.1 h1;rw[Bool.and_eq_true,decide_eq_true_eq]at h2;obtain⟨hij,h2⟩:=h2;obtain⟨o,ho,e,he,hb,hon⟩:=y8 h2;have hjs:=(Array.getElem?_eq_some_iff.1 ho).1;rw[←hon];rcases List.mem_cons.1 hj with rfl | hj
  ·obtain⟨_,o',ho',hall⟩:=mem_ready.1 hr;rw[ho]at ho';cases ho';exact hall e he hb
  ·exact k.clos j o ho (ih (ops.size-j) (by omega) j rfl hj) e he hb
theorem KF {listed:Array Bool} {i:Nat} (hi:i<listed.size) (d d':Bool):listed.getD i d=listed.getD i d':=by simp[hi]
theorem LI.one {tk pre:List Nat} {last:Nat} {listed:Array Bool} (k:LI ops tk pre last listed) (hB:y9 ops tk pre last=true) (hl:last∉tk∧last∉pre) (hr:last∈Region.ready .any ops listed):Region.ready .any ops listed=[last]:=by
 have hall:∀j∈Region.ready .any ops listed,j=last:=by
  intro j hj;obtain⟨h0,o,ho,hdep⟩:=mem_ready.1 hj;have hlt:=(Array.getElem?_eq_some_iff.1 ho).1;have hun:listed.getD j false=false:=by rw[KF (by rw[k.size];exact hlt) false true];exact h0
  have hB2:=hB;unfold y9 at hB2;rw[Bool.and_eq_true]at hB2;have h2:=List.all_eq_true.1 hB2.2 j (by simpa using hlt);simp only[Bool.or_eq_true,List.contains_iff_mem,beq_iff_eq]at h2;rcases h2 with((h2 | h2) | h2) | h2
  ·rw[k.took j h2 hlt]at hun;cases hun
  ·rw[k.all hB hr _ j rfl h2]at hun;cases hun
  ·exact h2
  ·obtain⟨o',ho',e,he,hb,hon⟩:=y8 h2;rw[ho]at ho';cases ho';have:=hdep e he hb;rw[hon,k.tail last hl.1 hl.2]at this;cases this
 have hnd:(Region.ready .any ops listed).Nodup:=by unfold Region.ready;exact List.Pairwise.filter _ List.nodup_range
 match hm:Region.ready .any ops listed with
 | []=>rw[hm]at hr;cases hr
 | [x]=>rw[hall x (by rw[hm];simp)]
 | x::y::l=>exfalso;rw[hm]at hnd;have h1:=hall x (by rw[hm];simp);have h2:=hall y (by rw[hm];simp);simp[h1,h2]at hnd
def TV (ops:Array Oper) (tk pre:List Nat):Array Bool:=((List.range ops.size).map fun i=>tk.contains i||pre.contains i).toArray
theorem LI.mid {tk pre:List Nat} {last:Nat} {listed:Array Bool} (k:LI ops tk pre last listed) (hB:y9 ops tk pre last=true) (hr:last∈Region.ready .any ops listed):listed=TV ops tk pre:=by
 apply Array.ext
 ·simp[TV,k.size]
 ·intro i h1 h2;have hi : i < ops.size := by rw [← k.size];exact h1
  have e1:(TV ops tk pre)[i]=(tk.contains i||pre.contains i):=by simp[TV]
  have e2:listed[i]=listed.getD i false:=by simp[h1]
  rw[e1,e2];by_cases ht:i∈tk
  ·rw[k.took i ht hi];simp[ht]
  ·by_cases hp : i ∈ pre
   ·rw[k.all hB hr _ i rfl hp];simp[hp]
   ·rw[k.tail i ht hp];simp[ht,hp]
theorem gp {P : Program} : ∀ (p : Plan) (fuel k : Nat) (listed : Array Bool),(bG P ops p fuel listed = true → bG P ops p (fuel + k) listed = true) ∧ (bG.planAlts P ops p fuel listed = true → bG.planAlts P ops p (fuel + k) listed = true)
 | .fin,fuel,k,listed=>by
  refine⟨fun h=> ?_,fun h=> ?_⟩
  ·simpa [bG]using h
  ·simp[bG.planAlts]at h
 | .take i p,fuel,k,listed=>by
  refine⟨fun h=> ?_,fun h=> ?_⟩
  ·cases fuel with
   | zero=>simp[bG]at h
   | succ fuel =>
    rw[show fuel+1+k=(fuel+k)+1 by omega];simp only[bG]at h ⊢;cases ho:ops[i]? with
    | none=>rw[ho]at h;simp at h
    | some o=>rw[ho]at h;dsimp only at h ⊢;rw[Bool.and_eq_true]at h ⊢;exact⟨h.1,(gp p fuel k _).1 h.2⟩
  ·simp[bG.planAlts]at h
 | .one i p,fuel,k,listed=>by
  refine⟨fun h=> ?_,fun h=> ?_⟩
  ·cases fuel with
   | zero=>simp[bG]at h
   | succ fuel=>rw[show fuel+1+k=(fuel+k)+1 by omega];simp only[bG]at h ⊢;rw[Bool.and_eq_true]at h ⊢;exact⟨h.1,(gp p fuel k _).1 h.2⟩
  ·simp only[bG.planAlts]at h ⊢;exact(gp p fuel k _).1 h
 | .alt i p q,fuel,k,listed=>by
  refine⟨fun h=> ?_,fun h=> ?_⟩
  ·cases fuel with
   | zero=>simp[bG]at h
   | succ fuel=>rw[show fuel+1+k=(fuel+k)+1 by omega];simp only[bG]at h ⊢;rw[Bool.and_eq_true,Bool.and_eq_true]at h ⊢;exact⟨⟨h.1.1,(gp p fuel k _).1 h.1.2⟩,(gp q fuel k _).2 h.2⟩
  ·simp only[bG.planAlts]at h ⊢;rw[Bool.and_eq_true]at h ⊢;exact⟨(gp p fuel k _).1 h.1,(gp q fuel k _).2 h.2⟩
theorem LI.step {tk pre:List Nat} {last:Nat} {listed:Array Bool} (k:LI ops tk pre last listed) (hB:y9 ops tk pre last=true) (hl:last∉tk∧last∉pre) {i:Nat} (hi:i∈Region.ready .any ops listed) (hil:i≠last):LI ops tk pre last (listed.setIfInBounds i true):=by
 obtain⟨h0,o,ho,hdep⟩:=mem_ready.1 hi;have hlt:=(Array.getElem?_eq_some_iff.1 ho).1;refine⟨k.clos.set hi,by simpa using k.size,fun j hj hjs=>getD_set_true (k.took j hj hjs),fun j h1 h2=> ?_⟩;by_cases hji:i=j
 ·subst hji;exfalso;have hB2 := hB;unfold y9 at hB2;rw [Bool.and_eq_true] at hB2;have h3 := List.all_eq_true.1 hB2.2 i (by simpa using hlt);simp only [Bool.or_eq_true,List.contains_iff_mem,beq_iff_eq] at h3;rcases h3 with ((h3 | h3) | h3) | h3
  ·exact h1 h3
  ·exact h2 h3
  ·exact hil h3
  ·obtain⟨o',ho',e,he,hb,hon⟩:=y8 h3;rw[ho]at ho';cases ho';have:=hdep e he hb;rw[hon,k.tail last hl.1 hl.2]at this;cases this
 ·rw[getD_set_ne false hji];exact k.tail j h1 h2
theorem UD (hna:∀(j:Nat) (o:Oper),ops[j]? =some o→mG o=false) (hQ:∀v f h,¬Q (.pan v) f h) (hpl:jA ops=true) {tk pre:List Nat} {last fp:Nat} {p:Plan} (hB:y9 ops tk pre last=true) (hl:last∉tk∧last∉pre) (hp:bG e.P ops p fp (TV ops tk pre)=true):∀(fuel:Nat) (listed:Array Bool) (f:Fr),
 A8 e n ops h last (fun f1=>gI e n ops Q p f1 h) fuel listed f→LI ops tk pre last listed→∀pl w a,SSim e n ok pl0 w0 f h pl w a→wpAnyIn (RF r) 0 e.P .any ops (gJ e n ok pl0 w0 Q) (fp+fuel) listed a w:=by
 have lastly:∀(fuel:Nat) (listed:Array Bool) (f:Fr),gI e n ops Q p f h→LI ops tk pre last listed→last∈Region.ready .any ops listed→∀pl w a,SSim e n ok pl0 w0 f h pl w a→wpAnyIn (RF r) 0 e.P .any ops (gJ e n ok pl0 w0 Q) (fp+fuel) listed a w:=by intro fuel listed f hv k hr pl w a s;have e1:=k.mid hB hr;subst e1;exact(fA hQ hpl p).1 (fp+fuel) _ f h ((gp p fp fuel _).1 hp) hv pl w a s
 intro fuel
 induction fuel with
 | zero=>intro listed f hL k pl w a s;exact lastly 0 listed f hL.2 k (by rw[hL.1];simp) pl w a s
 | succ fuel ih =>
  intro listed f hL k pl w a s;by_cases hlr:last∈Region.ready .any ops listed
  ·exact lastly (fuel+1) listed f (hL.2.1 (k.one hB hl hlr)) k hlr pl w a s
  ·rw [show fp + (fuel + 1) = (fp + fuel) + 1 by omega];refine ⟨fun h0 => absurd h0 hL.1,fun i hi => ?_⟩;have hil : i ≠ last := fun hh => hlr (hh ▸ hi);have h1 := hL.2.2 i hi hil;obtain ⟨hun,o,ho,_⟩ := mem_ready.1 hi;unfold wX at h1;rw [ho] at h1;obtain ⟨v,hy,hn⟩ := h1;have k' := k.step hB hl hi hil;rcases hy with ⟨h2,_⟩ | ⟨_,hd,g,v',hg,hv,rfl⟩
   ·rw[hna i o ho]at h2;cases h2
   ·unfold wpOpIn;rw[ho];dsimp only;have hw:=qY s.val hg;cases g with
    | true=>rw[if_pos hw];exact(hv rfl).wpIn s fun x w' hx hr=>ih _ _ hn k' pl w' _ ((s.next0 (s.hs.wext hx) (hx.keeps s.hs)).put hd hr)
    | false=>rw[if_neg (by rw[hw];simp)];exact⟨fun g _=>ig r g,ih _ _ hn k' pl w _ (s.put hd (jM (fun hf=>by cases hf) (fun _=>rfl)))⟩
def rE (P : Program) (ops : Array Oper) : List Nat → Array Bool → Bool
 | [],_=>true
 | i::is,listed=>(match ops[i]? with | some o=>oN P o.op | none=>false)&&(Region.ready .any ops listed).contains i&&Region.free .any ops listed i&&rE P ops is (listed.setIfInBounds i true)
def qx (listed : Array Bool) : List Nat → Array Bool
 | []=>listed
 | i::is=>qx (listed.setIfInBounds i true) is
def zf (e : E) (n : Nat) (ops : Array Oper) (Q : XE → Fr → H → Prop) (K : Fr → H → Prop) : List Nat → Fr → H → Prop
 | [],f,h=>K f h
 | i::is,f,h=>Dq e n ops i (zf e n ops Q K is) Q f h
theorem Fa (hQ:∀v f h,¬Q (.pan v) f h) (hpl:jA ops=true) {K:Fr→H→Prop} {fuel:Nat}:∀(tk:List Nat) (listed:Array Bool) (f:Fr) (h:H),rE e.P ops tk listed=true→zf e n ops Q K tk f h →
 (∀f h pl w a,K f h→SSim e n ok pl0 w0 f h pl w a→wpAnyIn (RF r) 0 e.P .any ops (gJ e n ok pl0 w0 Q) fuel (qx listed tk) a w)→∀pl w a,SSim e n ok pl0 w0 f h pl w a→wpAnyIn (RF r) 0 e.P .any ops (gJ e n ok pl0 w0 Q) (fuel+tk.length) listed a w
 | [],listed,f,h,_,hv,hk,pl,w,a,s=>hk f h pl w a hv s
 | i::is,listed,f,h,ht,hv,hk,pl,w,a,s=>by
  simp only[rE,Bool.and_eq_true]at ht;obtain⟨⟨⟨h1,h2⟩,h3⟩,h4⟩:=ht;cases ho:ops[i]? with
  | none=>rw[ho]at h1;cases h1
  | some o=>rw[ho]at h1;obtain⟨x,f',hy,s',hk'⟩:=o8 ho h1 hv s;refine kW h1 ho hpl ?_ (fuel+is.length) listed a w (Region.free_spec ho h3) (by simpa using h2) hy (Fa hQ hpl is _ f' h h4 hk' hk pl w _ s');rintro c a w ⟨pl',f',h',xe,_,hx,hq⟩;cases xe<;>first | exact hx.elim | exact(hQ _ _ _ hq).elim
def zh (P:Program) (ops:Array Oper) (tk pre:List Nat) (last:Nat) (p:Plan):Bool :=
 (ops.all fun o=> !mG o)&&jA ops&&rE P ops tk (Array.replicate ops.size false)&&UC ops last pre (qx (Array.replicate ops.size false) tk)&&y9 ops tk pre last &&
 (!tk.contains last&& !pre.contains last)&&bG P ops p (ops.size-tk.length-pre.length) (TV ops tk pre)&&decide (tk.length+pre.length≤ops.size)
theorem Bc {tk:List Nat} {P:Program}:∀(is:List Nat) (listed:Array Bool),rE P ops is listed=true→D8 ops listed→listed.size=ops.size→(∀i∈tk,i∉is→i<ops.size→listed.getD i false=true)→(∀i,i∉tk→listed.getD i false=false)→(∀i∈is,i∈tk) →
 D8 ops (qx listed is)∧(qx listed is).size=ops.size∧(∀i∈tk,i<ops.size→(qx listed is).getD i false=true)∧(∀i,i∉tk→(qx listed is).getD i false=false)
 | [],listed,_,hc,hs,ht,hn,_=>⟨hc,hs,fun i hi hl=>ht i hi (by simp) hl,hn⟩
 | i::is,listed,hk,hc,hs,ht,hn,hm=>by
  simp only[rE,Bool.and_eq_true]at hk;obtain⟨⟨⟨_,h2⟩,_⟩,h4⟩:=hk;refine Bc is _ h4 (hc.set (by simpa using h2)) (by simpa using hs) (fun j hj hji hjs=> ?_) (fun j hj=> ?_) (fun j hj=>hm j (by simp[hj]))
  ·by_cases hij : i = j
   ·subst hij;have : i < listed.size := by omega
    simp[this]
   ·exact getD_set_true (ht j hj (by simp[hji,Ne.symm hij]) hjs)
  ·have hij : i ≠ j := fun hh => by subst hh;exact hj (hm i (by simp))
   rw[getD_set_ne false hij];exact hn j hj
theorem KG (hm : e.P.follows .mixedOrders = true) {id : Nat} {f : Fr} (tk pre : List Nat) (last : Nat) (p : Plan) (R : Fr → H → Prop) (hB : zh e.P ops tk pre last p = true)
 (hv:zf e n ops (uP R) (fun f h=>kH e n ops h (fun f1=>gI e n ops (uP R) p f1 h) (D9 ops pre) f) tk f h) (hk:∀f h,R f h→Q .normal f h):awp e n r (.region id ops true) Q f h:=by
 intro ok pl0 w0 pl w a s;unfold zh at hB;simp only[Bool.and_eq_true,Bool.not_eq_true',decide_eq_true_eq]at hB;obtain⟨⟨⟨⟨⟨⟨⟨b1,b2⟩,b3⟩,b4⟩,b5⟩,b6⟩,b7⟩,b8⟩:=hB;have hna:∀(j:Nat) (o:Oper),ops[j]? =some o→mG o=false:=fun j o ho=>by
  have h1:=Array.all_eq_true.1 b1;obtain⟨hl,rfl⟩:=Array.getElem?_eq_some_iff.1 ho;simpa using h1 j hl
 have hl:last∉tk∧last∉pre:=⟨by simpa using b6.1,by simpa using b6.2⟩;have x:WExt w {w with drawn:=w.drawn+1}:=WExt.drew w;obtain⟨c1,c2,c3,c4⟩:=Bc (ops:=ops) (tk:=tk) tk (Array.replicate ops.size false) b3 D8.none (by simp) (fun i hi hni=>absurd hi hni) (fun i hi=>by
  rcases Nat.lt_or_ge i ops.size with h' | h'<;>simp[h']) (fun i hi=>hi)
 have li:LI ops tk pre last (qx (Array.replicate ops.size false) tk):=⟨c1,c2,c3,fun i h1 _=>c4 i h1⟩;have hQ:∀v f h,¬uP R (.pan v) f h:=fun v f h hh=>hh;have:=Fa (r:=r) (ok:=ok) (pl0:=pl0) (w0:=w0) (n:=n) (e:=e) (Q:=uP R) (fuel:=ops.size-tk.length-pre.length+pre.length) hQ b2 tk (Array.replicate ops.size false) f h b3 hv (fun f h pl w a hK s=>by
  have hL:=vg (e:=e) (n:=n) (h:=h) pre (qx (Array.replicate ops.size false) tk) f b4 (jd _ _ hK);exact UD (r:=r) hna hQ b2 b5 hl b7 _ _ _ hL li pl w a s) pl _ a (s.next0 (s.hs.wext x) (x.keeps s.hs))
 rw [show ops.size - tk.length - pre.length + pre.length + tk.length = ops.size by omega] at this;refine wpIn_mono (wpIn_region_any hm this) ?_;rintro ex a' w' ⟨pl',f',h',xe,s',hx,hq⟩;cases xe <;> first
  | exact⟨pl',f',h',_,s',hx,hk _ _ hq⟩
  | exact hq.elim
end
section
variable {e:E} {n:Nat} {r:Option Nat} {ops:Array Oper} {h:H} {Q:XE→Fr→H→Prop}
theorem vk (ops : Array Oper) : ∀ k : Nat,D9 ops (List.range k) = ops.toList.take k
 | 0=>rfl
 | k+1=>by
  have ih:=vk ops k;unfold D9 at ih ⊢;rw[List.range_succ,List.filterMap_append,ih,List.take_add_one]
  congr 1
  rw[List.filterMap_cons,List.filterMap_nil,Array.getElem?_toList];cases ops[k]? <;>rfl
theorem vw {K : Fr → Prop} : ∀ (l : List Oper) (f : Fr),(∀ o ∈ l,mG o = false) → gm e n ops h K l f → kH e n ops h K l f
 | [],_,_,hv=>hv
 | o::rest,f,ha,hv=>by
  have h0:=ha o (by simp);have hr:=fun f'=>vw (K:=K) rest f' fun o' ho'=>ha o' (by simp[ho']);simp only[kH,h0];simp only[gm]at hv;cases hg:gd ops f o with
  | none=>rw[hg]at hv;exact hv.elim
  | some g =>
   rw[hg]at hv;refine⟨hv.1,?_⟩;have hv:=hv.2;cases he:jO o.op with
   | false=>rw[he]at hv;exact⟨hv.1,hr _ hv.2⟩
   | true =>
    rw[he]at hv;simp only at hv ⊢;split at hv
    ·rename_i fx args ats heq;split at hv
     ·rename_i q vs hc;obtain⟨rv,h1,h2⟩:=hv;simp only[heq,hc];exact⟨rv,h1,hr _ h2⟩
     ·exact hv.elim
    ·exact hv.elim
theorem Bd (hm : e.P.follows .mixedOrders = true) {id : Nat} {f : Fr} (k : Nat) (p : Plan) (R : Fr → H → Prop) (hB : zh e.P ops [] (List.range k) k p = true)
 (hv:∀K:Fr→Prop,(∀f1,gI e n ops (uP R) p f1 h→K f1)→gm e n ops h K (ops.toList.take k) f) (hk:∀f h,R f h→Q .normal f h):awp e n r (.region id ops true) Q f h:=by
 refine KG hm [] (List.range k) k p R hB ?_ hk;simp only[zf];rw[vk];refine vw _ _ (fun o ho=> ?_) (hv _ fun f1 h=>h);unfold zh at hB;simp only[Bool.and_eq_true]at hB;have b1:=Array.all_eq_true.1 hB.1.1.1.1.1.1.1;obtain⟨i,hi,rfl⟩:=List.getElem_of_mem (List.mem_of_mem_take ho);have:=b1 i (by simpa using hi);simpa using this
end
section
variable {e:E} {h:H}
theorem ah.fresh {g:FuncId} {args:List V} {R:AEnd→H→(Nat→Bool)→Prop} (hc:ah e g args h fun ae h' p=>(∀i,i<h.length→p i=false)∧R ae h' (fun _=>false)):ah e g args h R :=
 fun ok pl w vs hs hl=>(hc ok pl w vs hs hl).mono fun en w' ⟨p,pl',h',ae,h1,h2,h3,h4,h5⟩ =>
  ⟨fun _=>false,pl',h',ae,h1,⟨h2.os,h2.tape,h2.output,h2.size,h2.same,h2.loc,fun i b _ hi=>h2.keep i b (h4 i (hs.pl_lt hi)) hi,h2.row⟩,h3,h5⟩
end
section
variable {e:E} {n:Nat} {r:Option Nat} {o:Oper} {f:Fr} {h:H} {Kn:Fr→H→Prop} {Q:XE→Fr→H→Prop}
end
section
variable {e:E} {n:Nat}
def DRs (c : C) : List Deferred → List (FuncId × List V) → Prop
 | [],[]=>True
 | d::ds,x::l=>(∃(cs azs:Array Value),d={target:= .fn (.func x.1) cs,args:=azs}∧VList c x.2 (azs++cs).toList)∧DRs c ds l
 | _,_=>False
theorem DRs.keeps {ok : Nat → Prop} {p : Nat → Bool} {pl pl' : Nat → Option Nat} {w w' : World} (k : Keeps p pl w pl' w') : ∀ {ds : List Deferred} {l : List (FuncId × List V)},DRs (cx ok pl w) ds l → (∀ x ∈ l,V.drops p x.2 = x.2) → DRs (cx ok pl' w') ds l
 | [],[],_,_=>trivial
 | [],_::_,h,_=>h.elim
 | _::_,[],h,_=>h.elim
 | d::ds,x::l,⟨⟨cs,azs,h1,h2⟩,h3⟩,hd=>by
  refine⟨⟨cs,azs,h1,?_⟩,h3.keeps k fun y hy=>hd y (by simp[hy])⟩;have:=VList.mdrop k.cext _ _ h2
  rwa [hd x (by simp)]at this
theorem VList.app {c:C}:∀ {l m:List V} {x y:List Value},VList c l x→VList c m y→VList c (l++m) (x++y):=fun h1 h2=>VList.append h1 h2
end
section
variable {e:E} {n:Nat} {r:Option Nat} {o:Oper} {f:Fr} {h:H} {K:Fr→H→Prop} {Q:XE→Fr→H→Prop}
end
def bl (n k:Nat):Array Bool:=((List.range n).map fun i=>k.testBit i).toArray
noncomputable def wY : Code → Nat → List (Array Oper)
 | .region i ops _,k=>if i==k then [ops]else []
 | .seq a b,k=>wY a k++wY b k
 | .cond _ a b,k=>wY a k++wY b k
 | .loop a,k=>wY a k
 | .block _ a,k=>wY a k
 | _,_=>[]
noncomputable def Ic (f:Func) (k:Nat):Array Oper:=match f.body with
 | some c=>(wY c k).headD #[]
 | none=>#[]
section
variable {P:Program} {ops:Array Oper} {i k:Nat} {p q:Plan} {L L':Array Bool}
end
section
variable {e:E} {n:Nat}
end
def UE (ops:Array Oper):Bool:=(List.range ops.size).all fun i=>match ops[i]? with
 | some o=>o.after.all fun q=> !(Region.binds .any q)||decide (q.on<i)
 | none=>true
section
variable {e:E} {n:Nat} {r:Option Nat} {ops:Array Oper} {Q:XE→Fr→H→Prop} {ok:Nat→Prop} {pl0:Nat→Option Nat} {w0:World}
theorem KH (hB:UE ops=true) {listed:Array Bool} (hs:listed.size=ops.size) (hr:Region.ready .any ops listed=[]):∀(k i:Nat),i<k→i<ops.size→listed.getD i false=true:=by
 intro k
 induction k with
 | zero=>intro i hi;exact absurd hi (Nat.not_lt_zero _)
 | succ k ih =>
  intro i hik hi;apply Classical.byContradiction;intro hn;have hn:listed.getD i false=false:=by simpa using hn
  have:i∈Region.ready .any ops listed:=by
   refine mem_ready.2 ⟨?_,ops[i],by simp[hi],fun q hq hb=> ?_⟩
   ·have : i < listed.size := by omega
    simpa [Array.getD,this]using hn
   ·have h1 := List.all_eq_true.1 hB i (by simpa using hi);have hio : ops[i]? = some ops[i] := by simp [hi]
    rw[hio]at h1;dsimp only at h1;have h2:=(Array.all_eq_true_iff_forall_mem.1 h1) q hq;rw[hb]at h2;simp only[Bool.not_true,Bool.false_or,decide_eq_true_eq]at h2;exact ih q.on (by omega) (by omega)
  rw[hr]at this;cases this
def Be (L:Array Bool):Nat:=L.toList.countP (!·)
theorem xO {L:Array Bool} {i:Nat} (h:i<L.size) (hl:L.getD i true=false):Be L=Be (L.setIfInBounds i true)+1:=by
 have hi:i<L.toList.length:=by simpa using h
 have hg:L.toList[i]=false:=by simpa [Array.getD,h]using hl
 unfold Be;rw[Array.toList_setIfInBounds,List.countP_set hi,hg];have:0<L.toList.countP (!·):=List.countP_pos_iff.2 ⟨L.toList[i],List.getElem_mem hi,by rw[hg];rfl⟩;rw[if_pos (show(!false)=true from rfl),if_neg (show ¬(!true)=true by decide)];omega
theorem UF (I : Array Bool → Fr → H → Prop)
 (hstep:∀L f h i,D8 ops L→I L f h→i∈Region.ready .any ops L→Dq e n ops i (fun f' h'=>I (L.setIfInBounds i true) f' h') Q f h)
 (hend:∀L f h,L.size=ops.size→I L f h→Region.ready .any ops L=[]→Q .normal f h) :
 ∀(fuel:Nat) (L:Array Bool) (f:Fr) (h:H),L.size=ops.size→D8 ops L→Be L≤fuel→I L f h→∀pl w a,SSim e n ok pl0 w0 f h pl w a→wpAnyIn (RF r) 0 e.P .any ops (gJ e n ok pl0 w0 Q) fuel L a w:=by
 intro fuel
 induction fuel with
 | zero =>
  intro L f h hs hc hu hI pl w a s;have hr:Region.ready .any ops L=[]:=by
   match hm:Region.ready .any ops L with
   | []=>rfl
   | i::_=>obtain⟨h0,o,ho,_⟩:=mem_ready.1 (show i∈Region.ready .any ops L by rw[hm];simp);have hlt:=(Array.getElem?_eq_some_iff.1 ho).1;have:=xO (L:=L) (i:=i) (by omega) h0;omega
  exact wpAnyIn_done hr ⟨pl,f,h,.normal,s,trivial,hend L f h hs hI hr⟩ 0
 | succ fuel ih =>
  intro L f h hs hc hu hI pl w a s;by_cases hr:Region.ready .any ops L=[]
  ·exact wpAnyIn_done hr ⟨pl,f,h,.normal,s,trivial,hend L f h hs hI hr⟩ (fuel+1)
  ·refine⟨fun h0=>absurd h0 hr,fun i hi=> ?_⟩;obtain⟨h0,o,ho,_⟩:=mem_ready.1 hi;have hlt:=(Array.getElem?_eq_some_iff.1 ho).1;have hun:=xO (L:=L) (i:=i) (by omega) h0;exact rq (hstep L f h i hc hI hi) (fun f h pl w a s hk=>ih _ f h (by simpa using hs) (hc.set hi) (by omega) hk pl w a s) s
def UG (ops:Array Oper) (i:Nat) (l:List Nat):Bool:=match ops[i]? with
 | some o=>l.all fun j=>o.after.any fun q=>Region.binds .any q&&(q.on==j)
 | none=>false
theorem aJ {L:Array Bool} {i:Nat} (hi:i∈Region.ready .any ops L) {l:List Nat} (hl:UG ops i l=true):∀j∈l,L.getD j false=true:=by intro j hj;obtain⟨_,o,ho,hall⟩:=mem_ready.1 hi;unfold UG at hl;rw[ho]at hl;have h1:=List.all_eq_true.1 hl j hj;rw[Array.any_eq_true]at h1;obtain⟨q,hq,h3⟩:=h1;rw[Bool.and_eq_true,beq_iff_eq]at h3;rw[←h3.2];have hmem:o.after[q]∈o.after:=Array.getElem_mem hq;have:=hall _ hmem h3.1;simpa using this
theorem jS {L:Array Bool} {i:Nat} (hi:i∈Region.ready .any ops L):L.getD i false=false:=by
 obtain⟨h0,o,ho,_⟩:=mem_ready.1 hi;rcases Nat.lt_or_ge i L.size with h | h
 ·simpa [Array.getD,h]using h0
 ·simp[Array.getD,Nat.not_lt.2 h]
theorem zi {L:Array Bool} {i:Nat} (hi:i∈Region.ready .any ops L):i<ops.size:=by obtain⟨_,o,ho,_⟩:=mem_ready.1 hi;exact(Array.getElem?_eq_some_iff.1 ho).1
theorem iW {L:Array Bool} {i:Nat} (hi:i∈Region.ready .any ops L):i<L.size:=by
 obtain⟨h0,o,ho,_⟩:=mem_ready.1 hi;rcases Nat.lt_or_ge i L.size with h | h
 ·exact h
 ·simp[Array.getD,Nat.not_lt.2 h]at h0
theorem zn (hm : e.P.follows .mixedOrders = true) {id : Nat} (I : Array Bool → Fr → H → Prop) {f : Fr} {h : H} (hB : UE ops = true)
 (h0:I (Array.replicate ops.size false) f h)
 (hstep:∀L f h i,D8 ops L→I L f h→i∈Region.ready .any ops L→Dq e n ops i (fun f' h'=>I (L.setIfInBounds i true) f' h') Q f h)
 (hend:∀L f h,(∀i,i<ops.size→L.getD i false=true)→I L f h→Q .normal f h):awp e n r (.region id ops true) Q f h:=by
 intro ok pl0 w0 pl w a s;have x : WExt w { w with drawn := w.drawn + 1 } := WExt.drew w;have := UF (e := e) (n := n) (r := r) (ops := ops) (Q := Q) (ok := ok) (pl0 := pl0) (w0 := w0) I hstep
  (fun L f h hs hI hr=>hend L f h (fun i hi=>KH hB hs hr (i+1) i (Nat.lt_succ_self i) hi) hI)
  ops.size (Array.replicate ops.size false) f h (by simp) D8.none (by unfold Be;exact Nat.le_trans (List.countP_le_length) (by simp)) h0 pl _ a (s.next0 (s.hs.wext x) (x.keeps s.hs))
 exact wpIn_region_any hm this
def FA (L:Array Bool) (f:Fr) (l:List (Nat×Nat×V)):Prop:=∀q∈l,L.getD q.1 false=true→f.t q.2.1=q.2.2
theorem FA.put {L : Array Bool} {f : Fr} {l : List (Nat × Nat × V)} {i d : Nat} {v : V} (hf : FA L f l)
 (h1:∀q∈l,q.1=i→q.2.1=d∧q.2.2=v) (h2:∀q∈l,q.2.1=d→q.1=i):FA (L.setIfInBounds i true) (f.put (some d) v) l:=by
 intro q hq hl;by_cases hqi:q.1=i
 ·obtain⟨e1,e2⟩:=h1 q hq hqi;rw[e1,e2];simp[Fr.put]
 ·have hqd:q.2.1≠d:=fun h=>hqi (h2 q hq h);rw[getD_set_ne false (Ne.symm hqi)]at hl;have:=hf q hq hl;simpa [Fr.put,hqd]using this
theorem FA.skip {L:Array Bool} {f:Fr} {l:List (Nat×Nat×V)} {i:Nat} (hf:FA L f l) (h1:∀q∈l,q.1≠i):FA (L.setIfInBounds i true) f l:=by intro q hq hl;rw[getD_set_ne false (Ne.symm (h1 q hq))]at hl;exact hf q hq hl
theorem FA.none {m:Nat} {f:Fr} {l:List (Nat×Nat×V)}:FA (Array.replicate m false) f l:=by
 intro q _ hl;exfalso;rcases Nat.lt_or_ge q.1 m with h | h
 ·simp[h]at hl
 ·simp[h]at hl
end
section
variable {e:E} {n:Nat} {r:Option Nat} {o:Oper} {f:Fr} {h:H} {Kn:Fr→H→Prop} {Q:XE→Fr→H→Prop}
end
section
variable {e:E} {n:Nat} {r:Option Nat} {o:Oper} {f:Fr} {h:H} {Kn:Fr→H→Prop} {Q:XE→Fr→H→Prop}
end
section
variable {e:E} {n:Nat} {r:Option Nat} {ops:Array Oper} {h:H} {Q:XE→Fr→H→Prop}
theorem AQ.lend {o : Oper} {fx : Operand} {args : Array Operand} {ts : Array TypeId} (hop : o.op = .call { callee := .value fx,args := args,argTypes := ts }) {ρ : Operand → V} {g : FuncId} {vs vs' : List V} {rv : V}
 (hon:lD e ρ fx args=some (g,vs)) (hsc:dQ ρ fx args) (hen:ai e.P g=true) (hr:aj e h vs vs') (hv:Ev e g vs' rv) (hp:rv.plain=true):AQ e o ρ h rv:=by
 intro ok pl w ev hs hre;obtain⟨xs,hrun,hl⟩:=pX (e:=e) hop hre hon hsc hen;rw[hrun];exact(hv ok w xs hs.lend (hr ok pl w xs hs hl)).mono fun en w' ⟨x,h1,h2,h3⟩=>⟨x,h1,h2,h3.plain hp⟩
def UH (e:E) (h:H) (g:Bool) (q:FuncId) (vs:List V) (sc:Prop) (dst:Option Tmp) (Kn:Fr→Prop) (f:Fr):Prop :=
 ∃rv,(g=true→sc∧ai e.P q=true∧((V.dats vs=true∧Ev e q vs rv)∨∃vs',aj e h vs vs'∧Ev e q vs' rv∧rv.plain=true))∧Kn (f.put dst (V.guard g rv))
theorem UH.mk {q:FuncId} {vs vs':List V} {dst:Option Tmp} {Kn:Fr→Prop} {f:Fr} {rv:V} (hv:Ev e q vs' rv) (h2:ai e.P q=true) (hr:aj e h vs vs') (hp:rv.plain=true) (hk:Kn (f.put dst rv)):UH e h true q vs True dst Kn f :=
 ⟨rv,fun _=>⟨trivial,h2,.inr ⟨vs',hr,hv,hp⟩⟩,hk⟩
theorem vz {c : Code} {f : Fr} (id j : Nat) (v : V) (hj : (f.t j).drop (fun i => !(i == id)) = f.t j) (hr : az e (qo (· == id) 0 h) (f.t j) v) (hd : f.d = [])
 (hw:awp e n r c Q {f with t:=fun i=>if i=j then v else(f.t i).drop (·==id),k:=fun i=>f.k i||(i==id)} (jB (·==id) 0 h)):awp e n r c Q f h:=by
 refine EZ (·==id) _ (fun i=> ?_) (by rw[hd];simp) hw;by_cases hi:i=j
 ·subst hi;exact .inr ⟨hj,by rw[if_pos rfl];exact hr⟩
 ·exact .inl (by rw[if_neg hi])
end
end Go.Abs
