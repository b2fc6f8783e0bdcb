/- Lemmas for this claim, part A6: each holds under what it names. -/
import Derived.Test.YtmlacppmbfbjgaaGreatDoorA5
import Derived.Still
import Derived.Sort.LoopGhostIn
set_option linter.unusedVariables false
set_option linter.unusedSimpArgs false
set_option linter.unnecessarySimpa false
namespace Go.Abs
open Go.RowKit
theorem Fr.put_comm (f:Fr) {x y:Option Tmp} (v u:V) (h:∀d,x=some d→y≠some d):(f.put x v).put y u=(f.put y u).put x v:=by
 cases x with
 | none=>rfl
 | some d =>
  cases y with
  | none=>rfl
  | some e =>
   have hne:d≠e:=fun he=>h d rfl (he▸rfl);simp only[Fr.put]
   congr 1
   funext j
   by_cases h1:j=e
   ·by_cases h2 : j = d
    ·exact absurd (h2.symm.trans h1) hne
    ·rw[if_pos h1,if_neg h2,if_pos h1]
   ·rw[if_neg h1,if_neg h1]
theorem JU {e:E} {f:Fr} {dst:Option Tmp} {v:V} {x:Operand} (h:∀d,dst=some d→x≠ .tmp d):(f.put dst v).ev e x=f.ev e x:=by
 cases dst with
 | none=>rfl
 | some d =>
  cases x with
  | tmp t=>have hne:t≠d:=fun he=>h d rfl (by rw[he]);simp[Fr.ev,Fr.put,hne]
  | _=>rfl
theorem AQ.congr {e:E} {o:Oper} {ρ ρ':Operand→V} {h:H} {v:V} (hh:∀x∈o.op.operands,ρ x=ρ' x) (ha:AQ e o ρ h v):AQ e o ρ' h v :=
 fun ok pl w ev hs hr=>ha ok pl w ev hs fun x hx=>by rw[hh x hx];exact hr x hx
section
variable {e:E} {n:Nat} {r:Option Nat} {ops:Array Oper} {md:Region.Mode} {h:H}
theorem JV {o:Oper} {f:Fr} {dst:Option Tmp} {v:V} (hd:∀d,dst=some d→d∉o.looksAt ops):∀x∈o.op.operands,(f.put dst v).ev e x=f.ev e x :=
 fun x hx=>JU fun d hd' hxd=>hd d hd' (by
  subst hxd;exact List.mem_append_left _ (List.mem_filterMap.2 ⟨.tmp d,by simpa using hx,rfl⟩))
theorem Qp {o:Oper} {f:Fr} {dst:Option Tmp} {v:V} (hd:∀d,dst=some d→d∉o.looksAt ops):gd ops (f.put dst v) o=gd ops f o:=by
 unfold gd;cases hg:o.guard with
 | none=>rfl
 | some jw =>
  obtain⟨j,want⟩:=jw;dsimp only;cases ht:(ops[j]?).bind (·.dst)with
  | none=>rfl
  | some d' =>
   dsimp only
   congr 1
   cases dst with
   | none=>rfl
   | some d=>simp only[Fr.put];rw[if_neg];intro he;refine hd d rfl ?_;unfold Oper.looksAt;refine List.mem_append_right _ ?_;rw[hg];dsimp only;rw[ht,he];simp
def lF (e:E) (n:Nat) (ops:Array Oper) (h:H) (o:Oper) (v:V) (f:Fr):Prop :=
 jh n o.dst=true∧∃g v',gd ops f o=some g∧(g=true→AQ e o (f.ev e) h v')∧v=V.guard g v'
theorem lF.put {o:Oper} {v:V} {f:Fr} (hy:lF e n ops h o v f) {dst:Option Tmp} {u:V} (hd:∀d,dst=some d→d∉o.looksAt ops):lF e n ops h o v (f.put dst u):=by obtain⟨h1,g,v',h2,h3,h4⟩:=hy;exact⟨h1,g,v',by rw[Qp hd];exact h2,fun hg=>(h3 hg).congr fun x hx=>(JV hd x hx).symm,h4⟩
theorem lF.unput {o:Oper} {v:V} {f:Fr} {dst:Option Tmp} {u:V} (hy:lF e n ops h o v (f.put dst u)) (hd:∀d,dst=some d→d∉o.looksAt ops):lF e n ops h o v f:=by obtain⟨h1,g,v',h2,h3,h4⟩:=hy;exact⟨h1,g,v',by rw[Qp hd]at h2;exact h2,fun hg=>(h3 hg).congr fun x hx=>JV hd x hx,h4⟩
def JW (e:E) (n:Nat) (ops:Array Oper) (h:H) (i:Nat) (Kn:Fr→Prop) (f:Fr):Prop :=
 match ops[i]? with
 | none=>Kn f
 | some o=>∃v,lF e n ops h o v f∧Kn (f.put o.dst v)
theorem JX {i:Nat} {f:Fr} {K K':Fr→Prop} (hh:∀f,K f→K' f) (hq:JW e n ops h i K f):JW e n ops h i K' f:=by
 unfold JW at *;split
 ·exact hh _ (by simpa [*]using hq)
 ·rename_i o ho;simp only[ho]at hq;obtain⟨v,h1,h2⟩:=hq;exact⟨v,h1,hh _ h2⟩
def Au (e : E) (n : Nat) (md : Region.Mode) (ops : Array Oper) (h : H) (Q : Fr → Prop) : Nat → Array Bool → Fr → Prop
 | 0,listed,f=>Region.ready md ops listed=[]∧Q f
 | fuel+1,listed,f =>
  (Region.ready md ops listed=[]→Q f) ∧
  ∀i∈Region.ready md ops listed,JW e n ops h i (Au e n md ops h Q fuel (listed.setIfInBounds i true)) f
theorem Oh {j : Nat} {oi oj : Oper} {v : V} (hj : ops[j]? = some oj) (hap : oi.apart ops oj = true) {K : Fr → Prop} {f : Fr}
 (hy:lF e n ops h oi v f) (hq:JW e n ops h j K (f.put oi.dst v)) :
 JW e n ops h j (fun f'=>lF e n ops h oi v f'∧K (f'.put oi.dst v)) f:=by
 obtain⟨h1,h2,h3⟩:=Oper.apart_spec hap;unfold JW at *;simp only[hj]at *;obtain⟨u,hu,hn⟩:=hq;exact⟨u,hu.unput h1,hy.put h3,by rw[←Fr.put_comm f v u h2];exact hn⟩
theorem Aw {Q:Fr→Prop} {i:Nat} {oi:Oper} {v:V} (hi:ops[i]? =some oi) :
 ∀(fuel:Nat) (listed:Array Bool) (f:Fr),
  (∀j oj,ops[j]? =some oj→j≠i→listed.getD j true=false→(∀e∈oj.after,Region.binds md e=true→e.on≠i)→oi.apart ops oj=true) →
  i∈Region.ready md ops listed→lF e n ops h oi v f →
  Au e n md ops h Q fuel (listed.setIfInBounds i true) (f.put oi.dst v)→Au e n md ops h Q (fuel+1) listed f:=by
 have own:∀ {K:Fr→Prop} {f:Fr},lF e n ops h oi v f→K (f.put oi.dst v)→JW e n ops h i K f:=by intro K f hy hk;unfold JW;rw[hi];exact⟨v,hy,hk⟩
 intro fuel
 induction fuel with
 | zero =>
  intro listed f _ hr hy H;refine⟨fun h=>(by rw[h]at hr;cases hr),fun j hj=> ?_⟩;by_cases hji:j=i
  ·subst hji;exact own hy H
  ·have:=ready_mono hj hji;rw[H.1]at this;cases this
 | succ fuel ih =>
  intro listed f hfree hr hy H;refine⟨fun h=>(by rw[h]at hr;cases hr),fun j hj=> ?_⟩;by_cases hji:j=i
  ·subst hji;exact own hy H
  ·have h1:=H.2 j (ready_mono hj hji);obtain⟨hjun,oj,hoj,hall⟩:=mem_ready.1 hj;have hnot:∀e∈oj.after,Region.binds md e=true→e.on≠i:=fun e he hb heq=>by
    have h1:=hall e he hb;have h0:=(mem_ready.1 hr).1;rw[heq]at h1;rcases Nat.lt_or_ge i listed.size with h' | h'
    ·simp[h']at h0 h1;rw[h0]at h1;cases h1
    ·simp[Array.getElem?_eq_none h']at h1
   have h2:=Oh hoj (hfree j oj hoj hji hjun hnot) hy h1;have hfree':∀k ok,ops[k]? =some ok→k≠i→(listed.setIfInBounds j true).getD k true=false →
    (∀e∈ok.after,Region.binds md e=true→e.on≠i)→oi.apart ops ok=true:=fun k ok hk hki hun hno=>by
    refine hfree k ok hk hki ?_ hno;by_cases hjk:j=k
    ·subst hjk;exact hjun
    ·rw[getD_set_ne true hjk]at hun;exact hun
   refine JX (fun a' h3=>ih (listed.setIfInBounds j true) a' hfree' (ready_mono hr (Ne.symm hji)) h3.1 ?_) h2;rw[Array.setIfInBounds_comm _ _ hji];exact h3.2
def yQ (e : E) (n : Nat) (ops : Array Oper) (h : H) (Q : Fr → Prop) : List Oper → Fr → Prop
 | [],f=>Q f
 | o::rest,f=>∃v,lF e n ops h o v f∧yQ e n ops h Q rest (f.put o.dst v)
theorem xE {Q:Fr→Prop}:∀(l:List Oper) (k:Nat) (listed:Array Bool) (f:Fr),(∀j,l[j]? =ops[k+j]?) →
 Region.lexFrom md ops l.length k listed=true→yQ e n ops h Q l f→Au e n md ops h Q l.length listed f
 | [],_,_,_,_,hB,h=>⟨by simpa [Region.lexFrom]using hB,h⟩
 | o::l,k,listed,f,hl,hB,hh=>by
  have h0:ops[k]? =some o:=by simpa using(hl 0).symm
  simp only [List.length_cons,Region.lexFrom,Bool.and_eq_true] at hB;obtain ⟨⟨hr,hf⟩,hB'⟩ := hB;obtain ⟨v,hy,hK⟩ := hh;exact Aw h0 l.length listed f (Region.free_spec h0 hf) (by simpa using hr) hy
   (xE l (k+1) _ _ (fun j=>by have:=hl (j+1);simpa [Nat.add_assoc,Nat.add_comm 1 j]using this) hB' hK)
theorem DK {ok : Nat → Prop} {pl0 : Nat → Option Nat} {w0 : World} {Q' : Exit → Act → World → Prop} {i : Nat} {Kn : Fr → Prop} {K' : Act → World → Prop} {f : Fr}
 (hK:∀f pl w a,SSim e n ok pl0 w0 f h pl w a→Kn f→K' a w) (hq:JW e n ops h i Kn f) {pl:Nat→Option Nat} {w:World} {a:Act} (s:SSim e n ok pl0 w0 f h pl w a)
 (hQ:∀(K':Act→World→Prop) (o:Oper) v,AQ e o (f.ev e) h v→jh n o.dst=true→(∀a' w' pl',SSim e n ok pl0 w0 (f.put o.dst v) h pl' w' a'→K' a' w')→o.wpIn (RF r) 0 e.P a w K' Q'):wpOpIn (RF r) 0 e.P ops Q' i K' a w:=by
 unfold JW at hq;unfold wpOpIn;split
 ·rename_i ho;simp only[ho]at hq;exact hK _ _ _ _ s hq
 ·rename_i o ho;simp only[ho]at hq;obtain⟨v,⟨hd,g,v',hg,hv,rfl⟩,hk⟩:=hq;have hw:=qY s.val hg;cases g with
  | true=>rw[if_pos hw];exact hQ _ o v' (hv rfl) hd fun a' w' pl' s'=>hK _ _ _ _ s' hk
  | false=>rw[if_neg (by rw[hw];simp)];exact⟨fun g _=>ig r g,hK _ _ _ _ (s.put hd (jM (fun hf=>by cases hf) (fun _=>rfl))) hk⟩
theorem su {ok:Nat→Prop} {pl0:Nat→Option Nat} {w0:World} {Q:XE→Fr→H→Prop}:∀(fuel:Nat) (listed:Array Bool) (f:Fr),Au e n md ops h (fun f=>Q .normal f h) fuel listed f →
 ∀pl w a,SSim e n ok pl0 w0 f h pl w a→wpAnyIn (RF r) 0 e.P md ops (gJ e n ok pl0 w0 Q) fuel listed a w
 | 0,_,f,hh,pl,w,a,s=>⟨hh.1,pl,f,h,.normal,s,trivial,hh.2⟩
 | fuel+1,_,f,hh,pl,w,a,s=>⟨fun h0=>⟨pl,f,h,.normal,s,trivial,hh.1 h0⟩,fun i hi =>
  DK (fun f' pl' w' a' s' hk=>su fuel _ f' hk pl' w' a' s') (hh.2 i hi) s fun K' o v hq hd hk =>
   Oper.wpIn_mono (fun a' w' ⟨pl',f',h',s',hf,hh'⟩ => by subst hf;subst hh';exact hk a' w' pl' s')
    (lu (K:=fun f' h'=>f'=f.put o.dst v∧h'=h) (Q:=Q) hq ⟨rfl,rfl⟩ ok pl0 w0 pl w a s hd)⟩
end
def Je (e:E) (g:Bool) (q:FuncId) (vs:List V) (sc:Prop) (dst:Option Tmp) (Kn:Fr→Prop) (f:Fr):Prop :=
 ∃rv,(g=true→sc∧ai e.P q=true∧V.dats vs=true∧Ev e q vs rv)∧Kn (f.put dst (V.guard g rv))
theorem Je.mk {e:E} {q:FuncId} {vs:List V} {dst:Option Tmp} {Kn:Fr→Prop} {f:Fr} {rv:V} (hv:Ev e q vs rv) (h2:ai e.P q=true) (h3:V.dats vs=true) (hk:Kn (f.put dst rv)):Je e true q vs True dst Kn f :=
 ⟨rv,fun _=>⟨trivial,h2,h3,hv⟩,hk⟩
def goQ (g:Bool) (q:Prop×V) (d:Option Tmp) (Kn:Fr→Prop) (f:Fr):Prop:=(g=true→q.1)∧Kn (f.put d (V.guard g q.2))
def Oi (Q:XE→Fr→H→Prop) (h:H) (f:Fr):Prop:=Q .normal f h
def gm (e : E) (n : Nat) (ops : Array Oper) (h : H) (Q : Fr → Prop) : List Oper → Fr → Prop
 | [],f=>Q f
 | o::rest,f =>
  match gd ops f o with
  | none=>False
  | some g=>jh n o.dst=true ∧
   match jO o.op with
   | true=>match o.op with
    | .call {callee:= .value fx,args,..}=>match lD e (f.ev e) fx args with
     | some (q,vs)=>Je e g q vs (dQ (f.ev e) fx args) o.dst (gm e n ops h Q rest) f
     | none=>False
    | _=>False
   | false=>goQ g (sV e.P o (f.ev e) h) o.dst (gm e n ops h Q rest) f
theorem kU {e : E} {n : Nat} {ops : Array Oper} {h : H} {Q : Fr → Prop} : ∀ (l : List Oper) (f : Fr),gm e n ops h Q l f → yQ e n ops h Q l f
 | [],f,hv=>hv
 | o::rest,f,hv=>by
  simp only[gm]at hv;cases hg:gd ops f o with
  | none=>rw[hg]at hv;exact hv.elim
  | some g =>
   rw[hg]at hv;obtain⟨hd,hv⟩:=hv;cases he:jO o.op with
   | true =>
    rw[he]at hv;dsimp only at hv;split at hv
    ·rename_i fx args ts hop;split at hv
     ·rename_i q vs hon;obtain⟨rv,h1,h2⟩:=hv;exact⟨_,⟨hd,g,rv,hg,fun hgt=>AQ.call hop hon (h1 hgt).1 (h1 hgt).2.1 (h1 hgt).2.2.1 (h1 hgt).2.2.2,rfl⟩,kU rest _ h2⟩
     ·exact hv.elim
    ·exact hv.elim
   | false=>rw[he]at hv;dsimp only at hv;obtain⟨h1,h2⟩:=hv;exact⟨_,⟨hd,g,_,hg,fun hgt=>nK (h1 hgt),rfl⟩,kU rest _ h2⟩
theorem Hl {e : E} {n : Nat} {r : Option Nat} {ops : Array Oper} {h : H} {Q : XE → Fr → H → Prop} {id : Nat} {f : Fr} {ok : Nat → Prop} {pl0 : Nat → Option Nat} {w0 : World} (hm : e.P.follows .mixedOrders = true)
 (hB:Region.lexB .any ops=true) (hv:gm e n ops h (Oi Q h) ops.toList f) {pl:Nat→Option Nat} {w:World} {a:Act} (s:SSim e n ok pl0 w0 f h pl w a) :
 (Code.region id ops true).wpIn (RF r) 0 e.P (gJ e n ok pl0 w0 Q) a w:=by
 simp only[Region.lexB,Bool.and_eq_true]at hB;have x:WExt w {w with drawn:=w.drawn+1}:=WExt.drew w;refine wpIn_region_any hm (su (ops:=ops) (md:= .any) (f:=f) (h:=h) _ _ ?_ _ _ _ (s.next0 (s.hs.wext x) (x.keeps s.hs)));have:=xE (e:=e) (n:=n) (h:=h) (Q:=fun f=>Q .normal f h) (md:= .any) (ops:=ops) ops.toList 0 (Array.replicate ops.size false) f (by simp) (by simpa using hB.2) (kU _ _ hv);simpa using this
def XE.block (id : Nat) (Q : XE → Fr → H → Prop) : XE → Fr → H → Prop
 | .normal=>Q .normal
 | .exit i=>match i==id with
  | true=>Q .normal
  | false=>Q (.exit i)
 | .goto l=>Q (.goto l)
 | .ret=>Q .ret
 | .pan v=>Q (.pan v)
section
variable {e:E} {n:Nat} {r:Option Nat} {Q:XE→Fr→H→Prop} {f:Fr} {h:H}
theorem gJ.seq {ok : Nat → Prop} {pl0 : Nat → Option Nat} {w0 : World} {Kn : Fr → H → Prop} {K' : Act → World → Prop}
 (hk:∀pl f h a w,SSim e n ok pl0 w0 f h pl w a→Kn f h→K' a w):∀ex a w,gJ e n ok pl0 w0 (XE.seq Kn Q) ex a w→Exit.then K' (gJ e n ok pl0 w0 Q) ex a w:=by
 rintro ex a w ⟨pl',f',h',xe,s,hx,hq⟩;cases xe <;> cases ex <;> (try (exact hx.elim)) <;> first
  | exact hk _ _ _ _ _ s hq
  | (cases hx;exact⟨pl',f',h',_,s,rfl,hq⟩)
  | exact⟨pl',f',h',_,s,hx,hq⟩
theorem ag {x y:Code} (hv:awp e n r x (XE.seq (awp e n r y Q) Q) f h):awp e n r (.seq x y) Q f h:=by intro ok pl0 w0 pl w a s;exact wpIn_seq (wpIn_mono (hv ok pl0 w0 pl w a s) (gJ.seq fun pl f h a w s hk=>hk ok pl0 w0 pl w a s))
theorem aI {id:Nat} {x:Code} (hv:awp e n r x (XE.block id Q) f h):awp e n r (.block id x) Q f h:=by
 intro ok pl0 w0 pl w a s;refine wpIn_block (wpIn_mono (hv ok pl0 w0 pl w a s) ?_);rintro ex a w ⟨pl',f',h',xe,s,hx,hq⟩;cases xe<;>cases ex<;>(try(exact hx.elim))
 case exit i j =>
  cases hx;simp only[XE.block]at hq;simp only[Exit.inBlock];by_cases hid:i=id
  ·subst hid;rw[if_pos rfl];rw[beq_self_eq_true]at hq;exact⟨pl',f',h',.normal,s,trivial,hq⟩
  ·rw [if_neg hid];have : (i == id) = false := by simpa using hid
   rw[this]at hq;exact⟨pl',f',h',.exit i,s,rfl,hq⟩
 all_goals first | exact⟨pl',f',h',_,s,hx,hq⟩
theorem fO {c:Code} {Q':XE→Fr→H→Prop} (hq:∀xe f h,Q xe f h→Q' xe f h) (hv:awp e n r c Q f h):awp e n r c Q' f h :=
 fun ok pl0 w0 pl w a s=>wpIn_mono (hv ok pl0 w0 pl w a s) fun ex a w ⟨pl',f',h',xe,s,hx,hk⟩=>⟨pl',f',h',xe,s,hx,hq _ _ _ hk⟩
theorem bu {c:Operand} {x y:Code} {b:Bool} (hsc:(f.ev e c).sc) (hb:(f.ev e c).sv= .bool b) (hx:b=true→awp e n r x Q f h) (hy:b=false→awp e n r y Q f h):awp e n r (.cond c x y) Q f h:=by intro ok pl0 w0 pl w a s;have h1:=(s.ev c).sv hsc;rw[hb]at h1;simp only[VRel]at h1;refine wpIn_cond_split (t:=b) h1 (fun ht=>hx ht ok pl0 w0 pl w a s) (fun hf=>hy hf ok pl0 w0 pl w a s)
def Oj (Q : XE → Fr → H → Prop) : Option Code → Fr → H → Prop
 | none=>Q .normal
 | some .ret=>Q .ret
 | some (.exit i)=>Q (.exit i)
 | some (.goto l)=>Q (.goto l)
 | _=>fun _ _=>False
def Qq (id:Nat) (Q:XE→Fr→H→Prop) (f1:Fr) (ae:AEnd) (h2:H) (p:Nat→Bool):Prop :=
 (∀i∈f1.d,p i=false)∧match ae with
  | .ret _=>match h2[id]? with
   | some (.loop t n ps asg body st pend)=>(p id=false∧st≠ .busy)∧Oj Q pend (f1.drop p) (h2.set id (.loop t n ps asg body .exhausted pend))
   | _=>False
  | .pan v=>Q (.pan v) (f1.drop p) h2
theorem qg {g : Operand} {ps : Array Tmp} {asg body : Code} {q : FuncId} {first captured : List V} (hsc : (f.ev e g).sc) (hg : (f.ev e g).sv = .fn (.func q) first captured) (hen : ai e.P q = true)
 (hc:ah e q (first++[.yd (h.length+1)]++captured) (h++[.misc .dfd]++[.loop f.t n ps asg body .ready none]) (Qq (h.length+1) Q {f with d:=h.length::f.d})):awp e n none (.rangeFunc g ps asg body) Q f h:=by
 intro ok pl0 w0 pl w a s;refine wpIn_rangeFunc fun fn _=> ?_;have h1:=(s.ev g).sv hsc;rw[hg]at h1;simp only[VRel]at h1;obtain⟨fs,cs,h2,h3,h4⟩:=h1;have hb1:(w.alloc (.deferred (some []))).heap[w.heap.size]? =some (.deferred (some [])):=World.alloc_heap_new w _;obtain⟨hs1,k1⟩:=s.hs.new (WExt.alloc w (.deferred (some []))) (.deferred (some [])) (.misc .dfd) (Nat.le_refl _) (by simp) hb1
 let w1:=w.alloc (.deferred (some []))
 let rec0:Loop:={state:= .ready,pending:=none,fn,tmps:=a.tmps,params:=ps,assign:=asg,body,defers:=w.heap.size}
 let pl1:=bC pl h.length w.heap.size
 have hsz1:w1.heap.size=w.heap.size+1:=by simp[w1]
 have hlen:(h++[O.misc .dfd]).length=h.length+1:=by simp
 have hb2:(w1.alloc (.loop rec0)).heap[w1.heap.size]? =some (.loop rec0):=World.alloc_heap_new w1 _;have hext2:CExt (fun _=>false) (cx ok pl1 w1) (cx ok (bC pl1 (h++[O.misc .dfd]).length w1.heap.size) (w1.alloc (.loop rec0))):=by
  have x2:=WExt.alloc w1 (.loop rec0);refine⟨fun b hb' hok=>⟨⟨hok.1,fun i hi=> ?_⟩,x2.same b hb'⟩,fun i b _ hi=> ?_,fun b arr' el' fz hb'=>⟨arr',fz,(x2.same b (aP hb')).trans hb',rfl⟩⟩
  ·simp only [bC] at hi;split at hi
   ·cases hi;simp only[cx]at hb';omega
   ·exact hok.2 i (by simpa only[cx,bC]using hi)
  ·have:=hs1.pl_lt hi;simp only[cx,bC];rw[if_neg (by simp only[hlen]at *;omega)];exact hi
 obtain ⟨hs2,k2⟩ := hs1.new (WExt.alloc w1 (.loop rec0)) (.loop rec0) (.loop f.t n ps asg body .ready none) (b := w1.heap.size) (Nat.le_refl _) (by simp)
  ⟨rec0,hb2,rfl,rfl,rfl,rfl,rfl,s.size,fun i=>VRel.mono hext2 _ _ (VRel.mono k1.cext _ _ (s.val i))⟩
 have k12:=k1.trans k2;have kk:Keeps (fun _=>false) pl w (bC pl1 (h++[O.misc .dfd]).length w1.heap.size) (w1.alloc (.loop rec0)):=k12.weaken (fun i hi=>by simp at hi);have hpd:(bC pl1 (h++[O.misc .dfd]).length w1.heap.size) h.length=some w.heap.size:=by
  have:h.length≠(h++[O.misc .dfd]).length:=by rw[hlen];omega
  simp[bC,pl1]
 have hpl:(bC pl1 (h++[O.misc .dfd]).length w1.heap.size) (h.length+1)=some (w.heap.size+1):=by simp[bC,hsz1]
 have sA := s.next0 hs2 kk;have sB : SSim e n ok pl0 w0 { f with d := h.length :: f.d } (h ++ [.misc .dfd] ++ [.loop f.t n ps asg body .ready none]) (bC pl1 (h ++ [O.misc .dfd]).length w1.heap.size) (w1.alloc (.loop rec0))
  {a with defers:=[({target:= .collected w.heap.size,args:=#[]}:Deferred)]++a.defers} :=
  ⟨sA.hs,sA.kp,sA.size,sA.val,⟨w.heap.size,a.defers,rfl,hpd,sA.dfr⟩⟩
 have hargs:VList (cx ok (bC pl1 (h++[O.misc .dfd]).length w1.heap.size) (w1.alloc (.loop rec0))) (first++[.yd (h.length+1)]++captured) (fs.toList++[Value.func (.yield (w.heap.size+1)) #[] #[]]++cs.toList):=by refine VList.append (VList.append (VList.mono kk.cext _ _ h3) ?_) (VList.mono kk.cext _ _ h4);simp only[VList,VRel];exact⟨_,_,rfl,⟨w.heap.size+1,hpl,rfl⟩,rfl⟩
 refine⟨w.heap.size+1,_,w1.alloc (.loop rec0),{target:= .fn (.func q) cs,args:=fs++#[Value.func (.yield (w.heap.size+1)) #[] #[]]},w1.alloc (.loop rec0),q,(fs.toList++[Value.func (.yield (w.heap.size+1)) #[] #[]]++cs.toList).toArray,w1.alloc (.loop rec0),run_enterLoop_outer fn a.tmps ps asg body,?_,fun _ _=>trivial,?_,fun hd'=>(by cases hd'),?_⟩
 ·have : (rangeCall g (w.heap.size + 1)).args.map a.eval = #[Value.func (.yield (w.heap.size + 1)) #[] #[]] := by simp [Act.eval]
  unfold resolve;rw[this];show(Deferred.ofValue (a.eval g) _).run _ _=_;rw[h2];rfl
 ·simp only [invoke];rw [oz hen]
  congr 2
  apply Array.ext';simp
 ·refine cu (r := none) ((hc ok _ _ _ sB.hs hargs).mono ?_);rintro en w' ⟨p,pl',h',ae,hs',k,hend,hp,hk⟩;have sC := sB.next hs' k hp
  cases ae with
  | ret v =>
   cases en with
   | returned x =>
    dsimp only at hk;split at hk
    ·rename_i t2 n2 ps2 asg2 body2 st2 pend2 hc2;obtain ⟨⟨hpi,hbusy⟩,hj⟩ := hk;have hb3 : pl' (h.length + 1) = some (w.heap.size + 1) := k.keep _ _ hpi hpl;obtain ⟨rec2,g1,g2,g3,g4,g5,g6,g7,hs3,k3⟩ := hs'.loopSet hb3 hc2 .exhausted pend2;have hrec : ({ rec2 with state := .exhausted } : Loop) = { rec2 with state := .exhausted,pending := pend2 } := by rw [← g3]
     refine⟨_,_,run_endLoop g1 (by rw[g2];exact hbusy),?_⟩;rw[g3];have sD:=sC.next0 hs3 k3;cases pend2 with
     | none=>exact⟨_,_,_,.normal,sD,trivial,hj⟩
     | some c =>
      cases c<;>try exact hj.elim
      ·exact wpIn_exit ⟨_,_,_,.exit _,sD,rfl,hj⟩
      ·exact wpIn_goto ⟨_,_,_,.goto _,sD,rfl,hj⟩
      ·exact wpIn_ret ⟨_,_,_,.ret,sD,trivial,hj⟩
    ·exact hk.elim
   | panicked ch=>exact hend.elim
   | outgrown=>exact hend.elim
  | pan v =>
   cases en with
   | returned x=>exact hend.elim
   | panicked ch=>exact⟨_,_,_,.pan v,sC,hend,hk⟩
   | outgrown=>exact hend.elim
def yR (o:Oper):Bool:=match o.op with
 | .call {callee:= .value _,..}=>true
 | _=> !jO o.op
def vc (e : E) (n : Nat) (r : Option Nat) : Code → (XE → Fr → H → Prop) → Fr → H → Prop
 | .skip,Q,f,h=>Q .normal f h
 | .label _,Q,f,h=>Q .normal f h
 | .exit i,Q,f,h=>Q (.exit i) f h
 | .goto l,Q,f,h=>Q (.goto l) f h
 | .ret,Q,f,h=>Q .ret f h
 | .seq x y,Q,f,h=>vc e n r x (XE.seq (vc e n r y Q) Q) f h
 | .cond c x y,Q,f,h=>match (f.ev e c).sv with
  | .bool b=>(f.ev e c).sc∧vcB b (vc e n r x Q) (vc e n r y Q) f h
  | _=>False
 | .block id x,Q,f,h=>vc e n r x (XE.block id Q) f h
 | .region _ ops false,Q,f,h=>nS e n ops Q ops.toList f h
 | .region id ops true,Q,f,h=>match ops.toList.all yR with
  | true=>Region.lexB .any ops=true∧gm e n ops h (Oi Q h) ops.toList f
  | false=>awp e n r (.region id ops true) Q f h
 | .loop c,Q,f,h=>awp e n r (.loop c) Q f h
 | .rangeFunc fn ps asg body,Q,f,h=>awp e n r (.rangeFunc fn ps asg body) Q f h
 | .scope c,Q,f,h=>awp e n r (.scope c) Q f h
 | .refuse s,Q,f,h=>False
theorem o5 (hm : e.P.follows .mixedOrders = true) : ∀ (c : Code) (Q : XE → Fr → H → Prop) (f : Fr) (h : H),vc e n r c Q f h → awp e n r c Q f h
 | .skip,Q,f,h,hv=>fun ok pl0 w0 pl w a s=>wpIn_skip ⟨pl,f,h,.normal,s,trivial,hv⟩
 | .label _,Q,f,h,hv=>fun ok pl0 w0 pl w a s=>wpIn_label ⟨pl,f,h,.normal,s,trivial,hv⟩
 | .exit i,Q,f,h,hv=>fun ok pl0 w0 pl w a s=>wpIn_exit ⟨pl,f,h,.exit i,s,rfl,hv⟩
 | .goto l,Q,f,h,hv=>fun ok pl0 w0 pl w a s=>wpIn_goto ⟨pl,f,h,.goto l,s,rfl,hv⟩
 | .ret,Q,f,h,hv=>fun ok pl0 w0 pl w a s=>wpIn_ret ⟨pl,f,h,.ret,s,trivial,hv⟩
 | .seq x y,Q,f,h,hv=>ag (fO (fun xe f h hq=>by cases xe<;>first | exact o5 hm y Q f h hq | exact hq) (o5 hm x _ f h hv))
 | .cond c x y,Q,f,h,hv=>by
  simp only[vc]at hv;split at hv
  ·rename_i b hb;exact bu hv.1 hb (fun ht=>o5 hm x Q f h (hv.2.1 ht)) (fun hf=>o5 hm y Q f h (hv.2.2 hf))
  ·exact hv.elim
 | .block id x,Q,f,h,hv=>aI (o5 hm x _ f h hv)
 | .region id ops false,Q,f,h,hv=>fun ok pl0 w0 pl w a s=>wpIn_region_list (qf ops.toList f h hv pl w a s)
 | .region id ops true,Q,f,h,hv=>by
  rw[vc]at hv;cases hq:ops.toList.all yR with
  | true=>rw[hq]at hv;exact fun ok pl0 w0 pl w a s=>Hl hm hv.1 hv.2 s
  | false=>rw[hq]at hv;exact hv
 | .loop c,Q,f,h,hv=>hv
 | .rangeFunc fn ps asg body,Q,f,h,hv=>hv
 | .scope c,Q,f,h,hv=>hv
 | .refuse s,Q,f,h,hv=>hv.elim
theorem SSim.cut {ok:Nat→Prop} {pl0 pl:Nat→Option Nat} {w0 w:World} {a:Act} (s:SSim e n ok pl0 w0 f h pl w a) (k:Nat) (hd:∀i∈f.d,i<k) :
 SSim e n ok pl0 w0 (f.drop (fun i=>decide (k≤i))) ((h.map (O.drop fun i=>decide (k≤i))).take k) (fun i=>if i<k then pl i else none) w a:=by
 have kp:Keeps (fun i=>decide (k≤i)) pl w (fun i=>if i<k then pl i else none) w:=by
  refine⟨rfl,rfl,rfl,Nat.le_refl _,fun _ _ _=>rfl,fun i b hi=> ?_,fun i b hp hi=> ?_,fun b arr el fz hb=>⟨arr,fz,hb,rfl⟩⟩
  ·skip
   split at hi
   ·exact .inl ⟨i,hi⟩
   ·cases hi
  ·simp only[decide_eq_false_iff_not,Nat.not_le]at hp;rw[if_pos hp];exact hi
 refine s.next (s.hs.next kp ?_ ?_ ?_ ?_) kp (fun i hi=>by simpa using hd i hi)
 ·intro i b hi;split at hi
  ·exact s.hs.lt i b hi
  ·cases hi
 ·intro i j b hi hj
  skip
  split at hi
  ·split at hj
   ·exact s.hs.inj i j b hi hj
   ·cases hj
  ·cases hi
 ·intro i b hi;split at hi
  ·rename_i hik;exact .inl ⟨hi,rfl,by rw[List.getElem?_take];simp[hik]⟩
  ·cases hi
 ·intro i o ho hi;rw [List.getElem?_take] at ho;split at ho
  ·rename_i hik;rw[if_pos hik]at hi;rw[List.getElem?_map]at ho;cases hh:h[i]? with
   | none=>rw[hh]at ho;cases ho
   | some o' =>
    rw[hh]at ho;have ho:o'.drop (fun i=>decide (k≤i))=o:=by simpa using ho
    rcases s.hs.bare i o' hh hi with rfl | rfl<;>subst ho<;>simp[O.drop,V.drops]
  ·cases ho
def Cut (I:Fr→H→Prop) (f:Fr) (h:H):Prop :=
 I f h∨∃k,(∀i∈f.d,i<k)∧I (f.drop (fun i=>decide (k≤i))) ((h.map (O.drop fun i=>decide (k≤i))).take k)
theorem QY {c:Code} (hc:Cut (awp e n r c Q) f h):awp e n r c Q f h:=by
 rcases hc with hc | ⟨k,hd,hc⟩
 ·exact hc
 ·intro ok pl0 w0 pl w a s;exact hc ok pl0 w0 _ w a (s.cut k hd)
theorem aA {c : Code} (I : Nat → Fr → H → Prop) (m₀ : Nat) (h₀ : I m₀ f h)
 (round:∀m f h,I m f h→awp e n r c (XE.seq (Cut fun f' h'=>∃m',m'<m∧I m' f' h') Q) f h):awp e n r (.loop c) Q f h:=by
 intro ok pl0 w0 pl w a s;refine wpIn_loop_ghost (fun m a w=>∃pl f h,SSim e n ok pl0 w0 f h pl w a∧I m f h) m₀ ⟨pl,f,h,s,h₀⟩ ?_;rintro m a w ⟨pl,f,h,s,hI⟩;refine wpIn_mono (round m f h hI ok pl0 w0 pl w a s) (gJ.seq ?_);rintro pl f h a w s (⟨m',hlt,hI'⟩ | ⟨k,hd,m',hlt,hI'⟩)
 ·exact⟨m',hlt,pl,f,h,s,hI'⟩
 ·exact⟨m',hlt,_,_,_,s.cut k hd,hI'⟩
end
def az (e:E) (h:H) (v v':V):Prop :=
 ∀ok pl w x,HSim e ok pl h w→VRel (cx ok pl w) v x→VRel (cx ok (fun _=>none) w) v' x
def aj (e:E) (h:H) (vs vs':List V):Prop :=
 ∀ok pl w xs,HSim e ok pl h w→VList (cx ok pl w) vs xs→VList (cx ok (fun _=>none) w) vs' xs
theorem Az (ok:Nat→Prop) (pl:Nat→Option Nat) (w:World):CExt (fun _=>false) (cx ok pl w).data (cx ok (fun _=>none) w) :=
 ⟨fun b hb hok=>⟨⟨hok.1,fun i hi=>(by cases hi)⟩,rfl⟩,fun i b _ hi=>(by cases hi),fun b arr el fz hb=>⟨arr,fz,hb,rfl⟩⟩
section
variable {e:E} {h:H}
theorem az.dat {v:V} (hd:v.dat=true):az e h v v :=
 fun ok pl w x hs hv=>VRel.mono (Az ok pl w) _ _ (VRel.todata _ _ hd hv)
theorem aQ {v v':V} (hd:v'.dat=true) (h0:v=v'):az e h v v':=by subst h0;exact az.dat hd
theorem az.nils {ex:Bool} {k:Nat}:az e h .nils (.is ex k []):=by intro ok pl w x hs hv;simp only[VRel]at hv ⊢;exact⟨none,0,hv,Nat.le_refl _,Nat.zero_le _,fun _=>rfl,.inl trivial⟩
theorem aj.dat {vs:List V} (hd:V.dats vs=true):aj e h vs vs :=
 fun ok pl w x hs hv=>VList.mono (Az ok pl w) _ _ (VList.todata _ _ hd hv)
theorem aj.nil:aj e h [] []:=fun ok pl w x hs hv=>by simpa only[VList]using hv
theorem aj.cons {v v':V} {vs vs':List V} (h1:az e h v v') (h2:aj e h vs vs'):aj e h (v::vs) (v'::vs'):=by intro ok pl w xs hs hv;simp only[VList]at hv ⊢;obtain⟨y,ys,rfl,h3,h4⟩:=hv;exact⟨y,ys,rfl,h1 ok pl w y hs h3,h2 ok pl w ys hs h4⟩
theorem aj.append {vs vs' us us':List V} (h1:aj e h vs vs') (h2:aj e h us us') (hl:vs.length=vs'.length):aj e h (vs++us) (vs'++us'):=by
 intro ok pl w xs hs hv;have l0:=hv.length;have a:=hv.take vs.length;have b:=hv.dropN vs.length;rw[List.take_left]at a;rw[List.drop_left]at b;have:=(h1 ok pl w _ hs a).append (h2 ok pl w _ hs b)
 rwa [List.take_append_drop]at this
theorem az.tup {vs vs':List V} (h1:aj e h vs vs'):az e h (.tup vs) (.tup vs'):=by intro ok pl w x hs hv;simp only[VRel]at hv ⊢;obtain⟨cs,rfl,h2⟩:=hv;exact⟨cs,rfl,h1 ok pl w _ hs h2⟩
theorem az.agg {vs vs':List V} (h1:aj e h vs vs'):az e h (.agg vs) (.agg vs'):=by intro ok pl w x hs hv;simp only[VRel]at hv ⊢;obtain⟨cs,rfl,h2⟩:=hv;exact⟨cs,rfl,h1 ok pl w _ hs h2⟩
theorem az.iface {t:TypeId} {v v':V} (h1:az e h v v'):az e h (.iface t v) (.iface t v'):=by intro ok pl w x hs hv;simp only[VRel]at hv ⊢;obtain⟨cs,rfl,h2⟩:=hv;exact⟨cs,rfl,h1 ok pl w _ hs h2⟩
theorem az.fn {g:Fn} {as as' bs bs':List V} (h1:aj e h as as') (h2:aj e h bs bs'):az e h (.fn g as bs) (.fn g as' bs'):=by intro ok pl w x hs hv;simp only[VRel]at hv ⊢;obtain⟨fs,cs,rfl,h3,h4⟩:=hv;exact⟨fs,cs,rfl,h1 ok pl w _ hs h3,h2 ok pl w _ hs h4⟩
theorem qZ {c:C} {v:V} {xs:List Value} (hf:v.fit=true) (hv:VList c v.vc xs):∃x,x.cells.toList=xs∧VRel c v x:=by
 have one:v.one=true→v.vc=[v]→∃x,x.cells.toList=xs∧VRel c v x:=by intro h1 h2;rw[h2]at hv;simp only[VList]at hv;obtain⟨y,ys,rfl,h3,rfl⟩:=hv;exact⟨y,by rw[h3.one h1],h3⟩
 cases v <;> first
  | exact one (by simpa [V.fit]using hf) rfl
  | skip
 case agg vs=>exact⟨.agg xs.toArray,by simp[Value.cells],by simp only[VRel];exact⟨xs.toArray,rfl,by simpa [V.vc]using hv⟩⟩
theorem qh {ok:Nat→Prop} {w:World} {b k:Nat} (hb:ok b) {arr:Array Value} {el:TypeId} {fz:Nat×Nat} (ha:w.heap[b]? =some (.cells arr el fz)) :
 ∀(es:List V) (off:Nat) (xs:List Value),dN k es=true→VList (cx ok (fun _=>none) w) (es.flatMap V.vc) xs→(∀(j:Nat) y,xs[j]? =some y→arr[off+j]? =some y) →
  VElems (cx ok (fun _=>none) w) k es b off
 | [],off,xs,_,_,_=>by simp only[VElems]
 | v::es,off,xs,hf,hv,hx=>by
  simp only[dN,Bool.and_eq_true,beq_iff_eq]at hf;obtain⟨⟨⟨f1,f2⟩,f3⟩,f4⟩:=hf;rw[List.flatMap_cons]at hv;have a:=hv.take v.vc.length;have d:=hv.dropN v.vc.length;rw[List.take_left]at a;rw[List.drop_left]at d;obtain⟨y,h1,h2⟩:=qZ f1 a;have hlen:y.cells.size=k:=by
   have:=a.length;rw[←h1]at this;simpa [f3]using this
  simp only[VElems];refine⟨⟨y,hlen,fun j hj=>⟨⟨hb,fun i hi=>(by cases hi)⟩,?_⟩,h2⟩,?_⟩
  ·have hj' : y.cells[j]? = some y.cells[j] := by simp [hj]
   have h3:(xs.take v.vc.length)[j]? =some y.cells[j]:=by rw[←h1];simpa using hj'
   have h4:xs[j]? =some y.cells[j]:=by
    rw[List.getElem?_take]at h3;split at h3
    ·exact h3
    ·cases h3
   have:=hx j _ h4;show w.cell? _=_;simp only[World.cell?,ha,hj'];simpa using this
  ·refine qh hb ha es (off+k) _ f4 d fun j z hz=> ?_;rw[List.getElem?_drop]at hz;have:=hx _ z hz;rw[f3]at this;rw[Nat.add_assoc];exact this
theorem az.ls {id k len cap:Nat} {cs cs' es:List V} (hc:h[id]? =some (.cells cs)) (hr:aj e h cs cs') (hf:dN k es=true) (hflat:es.flatMap V.vc=cs') (hlen:len=es.length) :
 az e h (.ls id k 0 len cap) (.is false k es):=by
 intro ok pl w x hs hv;simp only[VRel]at hv ⊢;obtain⟨a,cp,rfl,h1,h2,h3,h4⟩:=hv;refine⟨a,cp,by rw[hlen],by omega,h3,fun hf=>(by cases hf),?_⟩;rcases h4 with h4 | ⟨b,arr,el,fz,h5,h6,h7,h8⟩
 ·exact .inl (List.length_eq_zero_iff.1 (by omega))
 ·refine .inr ⟨b,0,h6,?_⟩;obtain⟨o,ho,hat⟩:=hs.obj id b h5;rw[hc]at ho;cases ho;obtain⟨arr',el',fz',h9,h10,h11,h12⟩:=hat;have h13:w.heap[b]? =some (.cells arr' el' fz'):=h9;have:=hr ok pl w _ hs h12;rw[←hflat]at this;exact qh (hs.okl id b h5) h13 es 0 _ hf this fun j y hy=>by
   rw[List.getElem?_take]at hy;split at hy
   ·simpa using hy
   ·cases hy
theorem az.lp {id off:Nat} {cs cs':List V} {v:V} (hc:h[id]? =some (.cells cs)) (hr:aj e h cs cs') (hf:v.fit=true) (hd:v.dat=true) (hpos:0<v.vc.length) (hflat:(cs'.drop off).take v.vc.length=v.vc) :
 az e h (.lp id off) (.ip v):=by
 intro ok pl w x hs hv;simp only[VRel]at hv ⊢;obtain⟨b,h5,rfl⟩:=hv;obtain⟨o,ho,hat⟩:=hs.obj id b h5;rw[hc]at ho;cases ho;obtain⟨arr',el',fz',h9,h10,h11,h12⟩:=hat;have h13:w.heap[b]? =some (.cells arr' el' fz'):=h9;have h14:=((hr ok pl w _ hs h12).dropN off).take v.vc.length;rw[hflat]at h14;obtain⟨y,h1,h2⟩:=qZ hf h14;have hlen:y.cells.size=v.vc.length:=by
  have:=h14.length;rw[←h1]at this;simpa using this
 refine⟨b,off,y,rfl,fun j hj=>⟨⟨hs.okl id b h5,fun i hi=>(by cases hi)⟩,?_⟩,by omega,h2⟩;have hj':y.cells[j]? =some y.cells[j]:=by simp[hj]
 have h3:y.cells.toList[j]? =some y.cells[j]:=by simpa using hj'
 rw[h1,List.getElem?_take]at h3;split at h3
 ·rw [List.getElem?_drop,List.getElem?_take] at h3;split at h3
  ·rw[hj'];show w.cell? _=_;simp only[World.cell?,h13];simpa using h3
  ·cases h3
 ·cases h3
theorem az.lm {id:Nat} {ks vs ks' vs':List V} (hc:h[id]? =some (.map ks vs)) (h1:aj e h ks ks') (h2:aj e h vs vs'):az e h (.lm id) (.im ks' vs'):=by intro ok pl w x hs hv;simp only[VRel]at hv ⊢;obtain⟨b,h5,rfl⟩:=hv;obtain⟨o,ho,hat⟩:=hs.obj id b h5;rw[hc]at ho;cases ho;obtain⟨es,clk,h3,h4,h6⟩:=hat;exact⟨b,es,clk,rfl,⟨hs.okl id b h5,fun i hi=>(by cases hi)⟩,h3,h1 ok pl w _ hs h4,h2 ok pl w _ hs h6.1,h6.2⟩
end
def uN (P : Program) (f : Fr) (h : H) : ResultVar → PV
 | .tmp t=>(True,f.t t)
 | .cell a t=>PV.and (f.t a).sc (uw P h t (f.t a).sv)
def jP (P : Program) (f : Fr) (h : H) : List ResultVar → Prop × List V
 | []=>(True,[])
 | r::rs=>((uN P f h r).1∧(jP P f h rs).1,(uN P f h r).2::(jP P f h rs).2)
def yS (P : Program) (f : Fr) (h : H) : List ResultVar → PV
 | [r]=>uN P f h r
 | rs=>((jP P f h rs).1,.tup (jP P f h rs).2)
section
variable {e:E} {n:Nat} {ok:Nat→Prop} {pl0 pl:Nat→Option Nat} {w0 w:World} {f:Fr} {h:H} {a:Act}
def JY (tmps : Array Value) : ResultVar → Sem Value
 | .tmp t=>pure (tmps.getD t undef)
 | .cell a t=>do loadVar t (←asAddr (tmps.getD a undef))
theorem JZ (hs:HSim e ok pl h w) {tmps:Array Value} (hv:∀i,VRel (cx ok pl w) (f.t i) (tmps.getD i undef)) (r:ResultVar) (hp:(uN e.P f h r).1) :
 ∃x,(JY tmps r).run e.P w= .ok x w∧VRel (cx ok pl w) (uN e.P f h r).2 x:=by
 cases r with
 | tmp t=>exact⟨_,rfl,hv t⟩
 | cell a t =>
  simp only[uN,PV.and]at hp;obtain⟨x,h1,h2⟩:=uy hs (t:=t) ((hv a).sv hp.1) hp.2;refine⟨x,?_,h2⟩;have h1:(Instr.loadAt t (tmps.getD a undef)).run e.P w= .ok x w:=h1;show(do loadVar t (←asAddr (tmps.getD a undef)):Sem Value).run e.P w=_
  revert h1
  generalize tmps.getD a undef=y;intro h1;unfold Instr.loadAt at h1;cases y<;>try(simp[Instr.sureAddr,stuck,Result.andThen]at h1;done)
  rename_i p;cases p with
  | none=>simp[Instr.sureAddr,stuck,Result.andThen]at h1
  | some p=>simpa [Instr.sureAddr,asAddr]using h1
theorem AA (hs:HSim e ok pl h w) {tmps:Array Value} (hv:∀i,VRel (cx ok pl w) (f.t i) (tmps.getD i undef)):∀(rs:List ResultVar),(jP e.P f h rs).1 →
 ∃xs,(rs.mapM (JY tmps)).run e.P w= .ok xs w∧VList (cx ok pl w) (jP e.P f h rs).2 xs
 | [],_=>⟨[],rfl,by simp only[jP,VList]⟩
 | r::rs,hp=>by obtain⟨x,h1,h2⟩:=JZ hs hv r hp.1;obtain⟨xs,h3,h4⟩:=AA hs hv rs hp.2;exact⟨x::xs,by simp[List.mapM_cons,h1,h3,Result.andThen],by simp only[jP,VList];exact⟨x,xs,rfl,h2,h4⟩⟩
theorem EW (hs:HSim e ok pl h w) {tmps:Array Value} (hv:∀i,VRel (cx ok pl w) (f.t i) (tmps.getD i undef)) {fn:Func} (hp:(yS e.P f h fn.results.toList).1) :
 ∃x,(results fn tmps).run e.P w= .ok x w∧VRel (cx ok pl w) (yS e.P f h fn.results.toList).2 x:=by
 have hr : results fn tmps = (do
  let vs ←fn.results.mapM (JY tmps)
  pure (if h:vs.size=1 then vs[0]else .tuple vs)):=by
  unfold results
  congr 1
 have hall:(jP e.P f h fn.results.toList).1:=by
  revert hp
  cases fn.results.toList with
  | nil=>exact fun hp=>hp
  | cons r rs =>
   cases rs with
   | nil=>exact fun hp=>⟨hp,trivial⟩
   | cons r' rs=>exact fun hp=>hp
 obtain⟨xs,h1,h2⟩:=AA hs hv fn.results.toList hall;have h3:(results fn tmps).run e.P w= .ok (if h:xs.toArray.size=1 then xs.toArray[0]else .tuple xs.toArray) w:=by rw[hr,Array.mapM_eq_mapM_toList];simp only[Sem.run_bind,Sem.run_map,h1,Result.andThen];rfl
 refine⟨_,h3,?_⟩;have hl:=h2.length
 revert hp h2 hl
 cases fn.results.toList with
 | nil=>intro hp h2 hl;simp only[jP,VList]at h2;subst h2;simp only[yS,jP,VRel,VList];exact⟨#[],rfl,rfl⟩
 | cons r rs =>
  cases rs with
  | nil=>intro hp h2 hl;simp only[jP,VList]at h2;obtain⟨y,ys,rfl,h4,rfl⟩:=h2;simpa [yS]using h4
  | cons r' rs =>
   intro hp h2 hl;have:¬xs.toArray.size=1:=by simp[jP]at hl;simp[hl]
   rw[dif_neg this];simp only[yS,VRel];exact⟨_,rfl,by simpa using h2⟩
end
def Fr.init (args:List V):Fr:={t:=fun i=>args.getD i jL}
def iU : List Nat → H → Option H
 | [],h=>some h
 | i::is,h=>match h[i]? with
  | some (.misc .dfd)=>iU is (h.set i (.misc .shut))
  | _=>none
def sZ (P:Program) (rs:List ResultVar) (R:V→H→(Nat→Bool)→Prop) (f:Fr) (h:H):Prop :=
 match iU f.d h with
 | some h'=>(yS P f h' rs).1∧R (yS P f h' rs).2 h' f.k
 | none=>False
def xF (P : Program) (rs : List ResultVar) (R : AEnd → H → (Nat → Bool) → Prop) : XE → Fr → H → Prop
 | .normal,f,h | .ret,f,h=>sZ P rs (fun v=>R (.ret v)) f h
 | .pan v,f,h=>match iU f.d h with
  | some h'=>R (.pan v) h' f.k
  | none=>False
 | _,_,_=>False
section
variable {e:E} {g:FuncId} {fn:Func} {c:Code} {args:List V} {h:H} {R:AEnd→H→(Nat→Bool)→Prop}
theorem SSim.init (htl:e.tl=[]) {ok:Nat→Prop} {pl:Nat→Option Nat} {w:World} {vs:List Value} {n:Nat} (hs:HSim e ok pl h w) (hv:VList (cx ok pl w) args vs) (hn:args.length≤n) :
 SSim e n ok pl w (Fr.init args) h pl w {tmps:=vs.toArray++Array.replicate (n-vs.toArray.size) undef,defers:=[]}:=by
 have hl:=hv.length;refine⟨hs,Keeps.refl pl w,by simp;omega,fun i=> ?_,htl.symm⟩;simp only[Fr.init];by_cases hi:i<args.length
 ·obtain ⟨x,h1,h2⟩ := VList.get i (args[i]) hv (by simp [hi]);have h3 : args.getD i jL = args[i] := by simp [List.getD_eq_getElem?_getD,hi]
  have h4:(vs.toArray++Array.replicate (n-vs.toArray.size) undef).getD i undef=x:=by rw[Array.getD_eq_getD_getElem?,Array.getElem?_append_left (by simpa using(by omega:i<vs.length))];simp[h1]
  rw[h3,h4];exact h2
 ·have h3 : args.getD i jL = jL := by simp [List.getD_eq_getElem?_getD,Nat.not_lt.1 hi]
  have h4:(vs.toArray++Array.replicate (n-vs.toArray.size) undef).getD i undef=undef:=by rw[Array.getD_eq_getD_getElem?,Array.getElem?_append_right (by simpa using(by omega:vs.length≤i)),Array.getElem?_replicate];split<;>rfl
  rw[h3,h4];exact pW _
theorem AB (htl:e.tl=[]) {ok:Nat→Prop} {pl0:Nat→Option Nat} {w0:World} {n:Nat} {f:Fr} {R':Ending→World→Prop} {u:FrameMode} (hu:u≠ .run) {a:Act} {v:V} {x:Value}:∀(is:List Nat) (ds:List Deferred) (h h':H) (pl:Nat→Option Nat) (w:World),
 SSim e n ok pl0 w0 {f with d:=is} h pl w {a with defers:=ds}→VRel (cx ok pl w) v x→iU is h=some h' →
 (∀w',SSim e n ok pl0 w0 {f with d:=[]} h' pl w' {a with defers:=[]}→VRel (cx ok pl w') v x→LeavesInM (RF none) 0 e.P fn a.tmps R' [] u w')→LeavesInM (RF none) 0 e.P fn a.tmps R' ds u w
 | [],ds,h,h',pl,w,s,hx,hsh,hk=>by have hd:ds=[]:=Eq.trans s.dfr htl;subst hd;simp only[iU,Option.some.injEq]at hsh;subst hsh;exact hk w s hx
 | i::is,ds,h,h',pl,w,s,hx,hsh,hk=>by
  obtain⟨b,rest,h1,h2,h3⟩:=s.dfr;have h1:ds=_:=h1;subst h1;have h2:pl i=some b:=h2;simp only[iU]at hsh;split at hsh
  ·rename_i hc;obtain ⟨o,ho,hat⟩ := s.hs.obj i b h2;rw [hc] at ho;cases ho;have hheap : w.heap[b]? = some (.deferred (some [])) := hat;have hlt := s.hs.lt i b h2;obtain ⟨hs2,k2⟩ := s.hs.upd (w' := w.putObj b (.deferred none)) h2 (.misc .shut) rfl rfl rfl (by simp) (fun j hj => World.putObj_heap_other hj)
    (fun arr el fz hh=>by rw[hheap]at hh;cases hh) (fun k=>World.putObj_heap_same hlt)
   refine⟨hu,.inl ⟨b,_,rfl,run_takeDeferred hheap,?_⟩⟩;have s2:=s.next0 hs2 k2;have h4:GX (cx ok pl (w.putObj b (.deferred none))) e.tl is rest:=GX.mono (c:=cx ok pl w) (c':=cx ok pl (w.putObj b (.deferred none))) (fun _ _ hi=>hi) h3;exact AB htl hu is rest _ h' pl _ ⟨s2.hs,s2.kp,s2.size,s2.val,h4⟩ (VRel.mono k2.cext _ _ hx) hsh hk
  ·cases hsh
theorem au (hf : e.P.funcs[g]? = some fn) (hb : fn.body = some c) (hn : args.length ≤ fn.ntmps)
 (hv:awp e fn.ntmps none c (xF e.P fn.results.toList R) (Fr.init args) h) (htl:e.tl=[]:=by rfl):ah e g args h R:=by
 intro ok pl w vs hs hl;refine nM (r:=none) (n:=0) (callsIn_of_wp_marks hf hb (ig none g) ?_ rfl);have s0:=SSim.init htl (n:=fn.ntmps) hs hl hn;refine wpIn_mono (hv ok pl w pl w _ s0) ?_;rintro ex a w' ⟨pl',f',h',xe,s,hx,hq⟩;have done:sZ e.P fn.results.toList (fun v=>R (.ret v)) f' h'→LeavesInM (RF none) 0 e.P fn a.tmps (fun en w'=>∃p pl' h' ae,HSim e ok pl' h' w'∧Keeps p pl w pl' w'∧EQ (cx ok pl' w') ae en∧R ae h' p) a.defers .returning w':=by
  intro hq;unfold sZ at hq;split at hq
  ·rename_i h2 hsh;refine AB htl (f:=f') (a:=a) (v:= .any) (x:=undef) (by simp) f'.d a.defers h' h2 pl' w' s (by simp only[VRel]) hsh fun w2 s2 _=> ?_;obtain⟨x,h1,h3⟩:=EW (f:=f') s2.hs s2.val hq.1;exact⟨x,h1,f'.k,pl',h2,.ret _,s2.hs,s2.kp,h3,hq.2⟩
  ·exact hq.elim
 cases xe<;>cases ex<;>(try(exact hx.elim))<;>(try(exact hq.elim))
 case normal=>exact done hq
 case ret=>exact done hq
 case pan v ch =>
  simp only[xF]at hq;split at hq
  ·rename_i h2 hsh;obtain⟨x,hch,hxr⟩:=hx;exact AB htl (f:=f') (a:=a) (v:=v) (x:=x) (by simp) f'.d a.defers h' h2 pl' w' s hxr hsh fun w2 s2 hr=>⟨f'.k,pl',h2,.pan v,s2.hs,s2.kp,⟨x,hch,hr⟩,hq⟩
  ·exact hq.elim
theorem Ev.of_calls {r:V} (hv:ah e g args [] fun ae h _=>match ae with | .ret v=>az e h v r | .pan _=>False):Ev e g args r:=by
 intro ok w vs hs hl;refine(hv ok _ w vs hs hl).mono ?_;rintro en w' ⟨p,pl',h',ae,hs',k,he,hr⟩;cases ae with
 | pan v=>exact hr.elim
 | ret v =>
  cases en with
  | returned x=>exact⟨x,rfl,⟨k.os,k.tape,k.output,k.size,fun b hb=>k.same b hb (fun i hi=>by cases hi)⟩,hr ok pl' w' x hs' he⟩
  | panicked ch=>exact he.elim
  | outgrown=>exact he.elim
def Uf (e:E) (r:V) (v:V) (h:H) (_:Nat→Bool):Prop:=az e h v r
def Qr (e : E) (rs : List ResultVar) (r : V) : XE → Fr → H → Prop
 | .normal,f,h | .ret,f,h=>sZ e.P rs (Uf e r) f h
 | _,_,_=>False
theorem ak {r : V} (hf : e.P.funcs[g]? = some fn) (hb : fn.body = some c) (hn : args.length ≤ fn.ntmps)
 (hv:awp e fn.ntmps none c (Qr e fn.results.toList r) (Fr.init args) []) (htl:e.tl=[]:=by rfl):Ev e g args r :=
 Ev.of_calls (au hf hb hn (fO (fun xe f h hq=>by cases xe<;>first | exact hq | exact hq.elim) hv) htl)
def V.plain1 : V → Bool
 | .any | .bool _ | .int _ _ | .str _ | .nilp | .nils | .nilm | .nilf | .nili=>true
 | _=>false
def V.plain : V → Bool
 | .tup vs=>vs.all V.plain1
 | v=>v.plain1
theorem VRel.plain1 {c c':C} {v:V} {x:Value} (hp:v.plain1=true) (h:VRel c v x):VRel c' v x:=by cases v<;>simp only[V.plain1,Bool.false_eq_true]at hp<;>simpa only[VRel]using h
theorem VList.plain {c c' : C} : ∀ {vs : List V} {xs : List Value},vs.all V.plain1 = true → VList c vs xs → VList c' vs xs
 | [],_,_,h=>by simpa only[VList]using h
 | v::vs,_,hp,h=>by simp only[List.all_cons,Bool.and_eq_true]at hp;simp only[VList]at h ⊢;obtain⟨y,ys,rfl,h1,h2⟩:=h;exact⟨y,ys,rfl,h1.plain1 hp.1,h2.plain hp.2⟩
theorem VRel.plain {c c':C} {v:V} {x:Value} (hp:v.plain=true) (h:VRel c v x):VRel c' v x:=by
 cases v
 case tup vs =>
  simp only[VRel]at h ⊢;obtain⟨cs,rfl,h1⟩:=h;exact⟨cs,rfl,h1.plain hp⟩
 all_goals exact VRel.plain1 (by simpa [V.plain]using hp) h
theorem HSim.lend {ok : Nat → Prop} {pl : Nat → Option Nat} {w : World} (hs : HSim e ok pl h w) : HSim e ok (fun _ => none) [] w where
 fresh:=hs.fresh
 lt i b hi:=by cases hi
 okl i b hi:=by cases hi
 inj i j b hi:=by cases hi
 obj i b hi:=by cases hi
 bare i o ho:=by simp at ho
 glob g v hg:=az.dat (h:=h) (v:= .ip v) rfl ok pl w _ hs (hs.glob g v hg)
 exa g cs hg:=by
  obtain⟨h1,h2⟩:=hs.exa g cs hg;exact⟨⟨h1.1,fun i hi=>(by cases hi)⟩,h2⟩
theorem ah.lend {args':List V} {r:V} (hv:Ev e g args' r) (hr:aj e h args args') (hp:r.plain=true) (hk:R (.ret r) h (fun _=>false)):ah e g args h R :=
 fun ok pl w vs hs hl=>(hv ok w vs hs.lend (hr ok pl w vs hs hl)).mono fun en w' ⟨x,h1,h2,h3⟩ =>
  ⟨fun _=>false,pl,h,.ret r,hs.wext h2,h2.keeps hs,by rw[h1];exact h3.plain hp,hk⟩
end
theorem J3 {p c:Prop} {v:V}:PV.and p (c,v)=(p∧c,v):=rfl
section
variable {e:E} {n:Nat} {r:Option Nat} {Q:XE→Fr→H→Prop} {f:Fr} {h:H} {ops:Array Oper}
theorem QZ:vc e n r .skip Q f h=Q .normal f h:=rfl
theorem Q3 {i:Nat}:vc e n r (.exit i) Q f h=Q (.exit i) f h:=rfl
theorem Ug:vc e n r .ret Q f h=Q .ret f h:=rfl
theorem Uh {x y:Code}:vc e n r (.seq x y) Q f h=vc e n r x (XE.seq (vc e n r y Q) Q) f h:=rfl
theorem Q4 {c:Operand} {x y:Code}:vc e n r (.cond c x y) Q f h=(match (f.ev e c).sv with
 | .bool b=>(f.ev e c).sc∧vcB b (vc e n r x Q) (vc e n r y Q) f h
 | _=>False):=rfl
theorem Ol {i:Nat} {x:Code}:vc e n r (.block i x) Q f h=vc e n r x (XE.block i Q) f h:=rfl
theorem J4 {i:Nat} {l:List Oper}:vc e n r (.region i l.toArray false) Q f h=nS e n l.toArray Q l f h:=rfl
theorem Om {i:Nat} {l:List Oper}:vc e n r (.region i l.toArray true) Q f h=(match l.all yR with
 | true=>Region.lexB .any l.toArray=true∧gm e n l.toArray h (Oi Q h) l f
 | false=>awp e n r (.region i l.toArray true) Q f h):=rfl
theorem Q5 {c:Code}:vc e n r (.loop c) Q f h=awp e n r (.loop c) Q f h:=rfl
theorem Hm {Kn:Fr→H→Prop}:XE.seq Kn Q .normal=Kn:=rfl
theorem Oo {Kn:Fr→H→Prop} {i:Nat}:XE.seq Kn Q (.exit i)=Q (.exit i):=rfl
theorem Q7 {Kn:Fr→H→Prop}:XE.seq Kn Q .ret=Q .ret:=rfl
theorem AC {i:Nat}:XE.block i Q .normal=Q .normal:=rfl
theorem Ho {i j:Nat}:XE.block i Q (.exit j)=(match j==i with | true=>Q .normal | false=>Q (.exit j)):=rfl
theorem J5 {i:Nat}:XE.block i Q .ret=Q .ret:=rfl
theorem uO {i:Nat} {v:V}:XE.block i Q (.pan v)=Q (.pan v):=rfl
theorem J6:nS e n ops Q [] f h=Q .normal f h:=rfl
theorem Hq {d:Option Tmp} {op:Op} {t:TypeId} {p:String} {af:Array Edge} {l:List Oper}:nS e n ops Q (⟨d,op,t,p,af,none⟩::l) f h=(jh n d=true ∧
 match jO op with
 | true=>Aq e n ⟨d,op,t,p,af,none⟩ f h (nS e n ops Q l) Q
 | false=>PV.go true (sV e.P ⟨d,op,t,p,af,none⟩ (f.ev e) h) d (nS e n ops Q l) f h):=by
 simp only[nS,gd]
 congr 1
 cases jO op
 ·rfl
 ·simp[Dp]
theorem J7 {d:Option Tmp} {op:Op} {t:TypeId} {p:String} {af:Array Edge} {g:Nat×Bool} {l:List Oper}:nS e n ops Q (⟨d,op,t,p,af,some g⟩::l) f h=(match gd ops f ⟨d,op,t,p,af,some g⟩with
 | none=>False
 | some q=>jh n d=true ∧
  match jO op with
  | true=>Dp q e n ⟨d,op,t,p,af,none⟩ (nS e n ops Q l) Q f h
  | false=>PV.go q (sV e.P ⟨d,op,t,p,af,none⟩ (f.ev e) h) d (nS e n ops Q l) f h):=rfl
theorem AL {Qn:Fr→Prop} {d:Option Tmp} {op:Op} {t:TypeId} {p:String} {af:Array Edge} {l:List Oper}:gm e n ops h Qn (⟨d,op,t,p,af,none⟩::l) f=(jh n d=true ∧
 match jO op with
 | true=>match op with
  | .call {callee:= .value fx,args,..}=>match lD e (f.ev e) fx args with
   | some (q,vs)=>Je e true q vs (dQ (f.ev e) fx args) d (gm e n ops h Qn l) f
   | none=>False
  | _=>False
 | false=>goQ true (sV e.P ⟨d,op,t,p,af,none⟩ (f.ev e) h) d (gm e n ops h Qn l) f):=rfl
theorem DL {Qn:Fr→Prop} {d:Option Tmp} {op:Op} {t:TypeId} {p:String} {af:Array Edge} {g:Nat×Bool} {l:List Oper}:gm e n ops h Qn (⟨d,op,t,p,af,some g⟩::l) f=(match gd ops f ⟨d,op,t,p,af,some g⟩with
 | none=>False
 | some b=>jh n d=true ∧
  match jO op with
  | true=>match op with
   | .call {callee:= .value fx,args,..}=>match lD e (f.ev e) fx args with
    | some (q,vs)=>Je e b q vs (dQ (f.ev e) fx args) d (gm e n ops h Qn l) f
    | none=>False
   | _=>False
  | false=>goQ b (sV e.P ⟨d,op,t,p,af,none⟩ (f.ev e) h) d (gm e n ops h Qn l) f):=rfl
theorem J8 {dst:Option Tmp} {Kn:Fr→H→Prop} {v:V}:Hg dst Kn Q f (.ret v) h (fun _=>false)=Kn (f.put dst v) h:=by simp[Hg]
theorem DN {Qn:Fr→Prop}:gm e n ops h Qn [] f=Qn f:=rfl
theorem Oq {q:Prop} {v:V} {d:Option Tmp} {Kn:Fr→Prop}:goQ true (q,v) d Kn f=(q∧Kn (f.put d v)):=by simp[goQ,V.guard]
theorem J9 {q:PV} {d:Option Tmp} {Kn:Fr→Prop}:goQ false q d Kn f=Kn (f.put d (.grd false q.2)):=by simp[goQ,V.guard]
theorem Q8 {g:Bool} {q:Prop} {v:V} {d:Option Tmp} {Kn:Fr→Prop}:goQ g (q,v) d Kn f=((g=true→q)∧Kn (f.put d (V.guard g v))):=rfl
theorem Ko {o:Oper} {Kn:Fr→H→Prop}:Dp true e n o Kn Q f h=Aq e n o f h Kn Q:=by simp[Dp]
theorem Hr {o:Oper} {Kn:Fr→H→Prop}:Dp false e n o Kn Q f h=JS o.dst Kn f h:=by simp[Dp]
theorem Dp.ev {g : Bool} {d : Option Tmp} {t : TypeId} {p : String} {af : Array Edge} {gu : Option (Nat × Bool)} {fx : Operand} {args : Array Operand} {ts : Array TypeId} {Kn : Fr → H → Prop} {q : FuncId} {vs : List V} {rv : V}
 (hon:lD e (f.ev e) fx args=some (q,vs)) (hsc:g=true→dQ (f.ev e) fx args) (hen:ai e.P q=true) (hv:g=true→Ev e q vs rv) (hd:g=true→V.dats vs=true) (hk:Kn (f.put d (V.guard g rv)) h) :
 Dp g e n ⟨d,.call {callee:= .value fx,args:=args,argTypes:=ts},t,p,af,gu⟩ Kn Q f h:=by
 refine⟨fun hg=> ?_,fun hg=> ?_⟩
 ·subst hg;simp only[Aq,ES,hon];refine⟨hsc rfl,hen,ah.ev (hv rfl) (hd rfl) ?_⟩;simpa [Hg,V.guard]using hk
 ·subst hg;exact⟨rv,hk⟩
theorem Ot {v:V}:f.put none v=f:=rfl
theorem Ou {v:Value}:f.ev e (.const v)=Af v:=rfl
theorem Kq {g:Nat}:f.ev e (.global g)=glv e g:=rfl
theorem Q9 {g:Nat}:f.ev e (.func g)= .fn (.func g) [] []:=rfl
theorem VQ {i:Tmp} {v:V} {j:Tmp}:(f.put (some i) v).t j=if j=i then v else f.t j:=rfl
theorem Ui {j:Tmp}:f.ev e (.tmp j)=f.t j:=rfl
theorem DR {i:Option Tmp} {v:V}:(f.put i v).d=f.d:=by cases i<;>rfl
theorem VR {i:Option Tmp} {v:V}:(f.put i v).k=f.k:=by cases i<;>rfl
theorem Uj {args:List V} {i:Nat}:(Fr.init args).t i=args.getD i jL:=rfl
theorem Uk {args:List V}:(Fr.init args).d=[]:=rfl
end
mutual
def V.bnd : V → Prop
 | .str s=>s.length≤maxLen
 | .is _ _ es=>es.length≤maxLen∧V.bnds es
 | .ls _ _ _ len _=>len≤maxLen
 | .ip e=>e.bnd
 | .im ks vs=>V.bnds ks∧V.bnds vs
 | .agg vs=>V.bnds vs
 | .tup vs=>V.bnds vs
 | .iface _ e=>e.bnd
 | .fn _ a b=>V.bnds a∧V.bnds b
 | _=>True
def V.bnds : List V → Prop
 | []=>True
 | v::vs=>v.bnd∧V.bnds vs
end
mutual
theorem VRel.bnd : ∀ {c : C} {v : V} {x : Value},VRel c v x → v.bnd
 | c,.str s,x,h=>by simp only[VRel]at h;obtain⟨_,_,_,h⟩:=h;exact h
 | c,.is ex k es,x,h=>by
  simp only[VRel]at h;obtain⟨a,cp,_,h1,h2,_,h3⟩:=h;refine⟨by omega,?_⟩;rcases h3 with rfl | ⟨b,off,_,h3⟩
  ·trivial
  ·exact VElems.bnd h3
 | c,.ls id k off len cap,x,h=>by simp only[VRel]at h;obtain⟨a,cp,_,_,h1,h2,_⟩:=h;simp only[V.bnd];omega
 | c,.ip e,x,h=>by simp only[VRel]at h;obtain⟨_,_,_,_,_,_,h⟩:=h;simp only[V.bnd];exact VRel.bnd h
 | c,.im ks vs,x,h=>by simp only[VRel]at h;obtain⟨_,_,_,_,_,_,h1,h2,_⟩:=h;exact⟨VList.bnd h1,VList.bnd h2⟩
 | c,.agg vs,x,h=>by simp only[VRel]at h;obtain⟨_,_,h⟩:=h;simp only[V.bnd];exact VList.bnd h
 | c,.tup vs,x,h=>by simp only[VRel]at h;obtain⟨_,_,h⟩:=h;simp only[V.bnd];exact VList.bnd h
 | c,.iface t e,x,h=>by simp only[VRel]at h;obtain⟨_,_,h⟩:=h;simp only[V.bnd];exact VRel.bnd h
 | c,.fn f a b,x,h=>by simp only[VRel]at h;obtain⟨_,_,_,h1,h2⟩:=h;exact⟨VList.bnd h1,VList.bnd h2⟩
 | c,.any,x,h | c,.bool _,x,h | c,.int _ _,x,h | c,.nilp,x,h | c,.lp _ _,x,h | c,.nils,x,h | c,.nilm,x,h | c,.lm _,x,h | c,.yd _,x,h | c,.nilf,x,h | c,.nili,x,h | c,.grd _ _,x,h | c,.row _ _,x,h=>by simp only[V.bnd]
theorem VList.bnd : ∀ {c : C} {vs : List V} {xs : List Value},VList c vs xs → V.bnds vs
 | c,[],xs,h=>trivial
 | c,v::vs,xs,h=>by simp only[VList]at h;obtain⟨_,_,_,h1,h2⟩:=h;exact⟨VRel.bnd h1,VList.bnd h2⟩
theorem VElems.bnd : ∀ {c : C} {k : Nat} {es : List V} {b off : Nat},VElems c k es b off → V.bnds es
 | c,k,[],b,off,h=>trivial
 | c,k,e::es,b,off,h=>by simp only[VElems]at h;obtain⟨⟨_,_,_,h1⟩,h2⟩:=h;exact⟨VRel.bnd h1,VElems.bnd h2⟩
end
theorem Ev.bnd {e:E} {g:FuncId} {args:List V} {r:V} (h:V.bnds args→Ev e g args r):Ev e g args r :=
 fun ok w vs hs hl=>h hl.bnd ok w vs hs hl
theorem ah.bnd {e:E} {g:FuncId} {args:List V} {h:H} {R:AEnd→H→(Nat→Bool)→Prop} (hh:V.bnds args→ah e g args h R):ah e g args h R :=
 fun ok pl w vs hs hl=>hh hl.bnd ok pl w vs hs hl
theorem aX {n:Int} (h1:-9223372036854775808≤n) (h2:n<9223372036854775808):IntKind.i64.wrap n=n:=by
 have key:IntKind.i64.wrap n=if n%18446744073709551616≥9223372036854775808 then n%18446744073709551616-18446744073709551616 else n%18446744073709551616:=by simp[IntKind.wrap,IntKind.bits,IntKind.signed]
 rw[key];split<;>omega
theorem aC {i:Nat} (h:i<maxLen):IntKind.i64.wrap ((i:Int)+1)=((i+1:Nat):Int):=by have:maxLen=9223372036854775807:=rfl;rw[aX (by omega) (by omega)];rfl
theorem gy {α β:Type} {f:α→β} {l:List α} {i:Nat} (h:i<l.length) (d:β):(l.map f).getD i d=f l[i]:=by simp[List.getD_eq_getElem?_getD,h]
end Go.Abs
