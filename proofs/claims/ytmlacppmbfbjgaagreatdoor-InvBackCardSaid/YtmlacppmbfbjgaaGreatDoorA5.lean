/- Lemmas for this claim, part A5: each holds under what it names. -/
import Derived.Test.YtmlacppmbfbjgaaGreatDoorA4
import Derived.RangeFuncNested
import Derived.Laws.MakeOwn
import Derived.Laws.IdiomRangeMap
set_option linter.unusedVariables false
set_option linter.unusedSimpArgs false
namespace Go.Abs
open Go.RowKit
def awp (e:E) (n:Nat) (r:Option Nat) (c:Code) (Q:XE→Fr→H→Prop) (f:Fr) (h:H):Prop :=
 ∀ok pl0 w0 pl w a,SSim e n ok pl0 w0 f h pl w a→c.wpIn (RF r) 0 e.P (gJ e n ok pl0 w0 Q) a w
def XE.seq (Kn : Fr → H → Prop) (Q : XE → Fr → H → Prop) : XE → Fr → H → Prop
 | .normal=>Kn
 | .exit i=>Q (.exit i)
 | .goto l=>Q (.goto l)
 | .ret=>Q .ret
 | .pan v=>Q (.pan v)
def iM : Fr → List Tmp → List V → Fr
 | f,p::ps,v::vs=>iM (f.put (some p) v) ps vs
 | f,_,_=>f
def XE.jump : XE → Option (Option Code)
 | .normal=>some none
 | .ret=>some (some .ret)
 | .exit i=>some (some (.exit i))
 | .goto l=>some (some (.goto l))
 | .pan _=>none
def JJ (id:Nat) (dst:Option Tmp) (Kn:Fr→H→Prop) (f:Fr) (xe:XE) (f2:Fr) (h2:H):Prop :=
 match xe.jump,h2[id]? with
 | some j,some (.loop t n ps asg body st pend)=>(f2.k id=false∧∀i∈f.d,f2.k i=false) ∧
  Kn ((f.drop f2.k).put dst (.bool j.isNone)) (h2.set id (.loop t n ps asg body (if j.isNone then .ready else .done) j))
 | _,_=>False
def ER (e:E) (n:Nat) (l id:Nat) (body:Code) (dst:Option Tmp) (Kn:Fr→H→Prop) (f:Fr) (f1:Fr) (h1:H):Prop :=
 match h1[id]? with
 | some (.loop t n' ps asg body' .ready pend)=>f1.k id=false∧awp e n (some l) body (JJ id dst Kn f) f1 (h1.set id (.loop t n' ps asg body' .busy pend))
 | _=>False
section
variable {e:E} {n:Nat} {r:Option Nat} {o:Oper} {f:Fr} {h:H} {Kn:Fr→H→Prop} {Q:XE→Fr→H→Prop}
structure TRel (c : C) (n : Nat) (f : Fr) (tmps : Array Value) : Prop where
 size:tmps.size=n
 val:∀i,VRel c (f.t i) (tmps.getD i undef)
theorem TRel.put {c:C} {n:Nat} {f:Fr} {tmps:Array Value} (s:TRel c n f tmps) {i:Nat} {v:V} {x:Value} (hi:i<n) (hv:VRel c v x):TRel c n (f.put (some i) v) (tmps.setIfInBounds i x):=by
 refine⟨by simp[s.size],fun j=> ?_⟩;simp only[Fr.put];by_cases hj:j=i
 ·subst hj;have : (tmps.setIfInBounds j x).getD j undef = x := by simp [Array.getD_eq_getD_getElem?,s.size,hi]
  rw[if_pos rfl,this];exact hv
 ·have : (tmps.setIfInBounds i x).getD j undef = tmps.getD j undef := by simp [Array.getD_eq_getD_getElem?,Ne.symm hj]
  rw[if_neg hj,this];exact s.val j
theorem TRel.all {c:C} {n:Nat}:∀ {ps:List Tmp} {vs:List V} {xs:List Value} {f:Fr} {tmps:Array Value},TRel c n f tmps→(ps.all fun p=>decide (p<n))=true→VList c vs xs →
 TRel c n (iM f ps vs) ((ps.zip xs).foldl (fun tmps (t,a)=>tmps.setIfInBounds t a) tmps)
 | [],vs,xs,f,tmps,s,_,_=>by simpa [iM]using s
 | p::ps,[],xs,f,tmps,s,_,hv=>by simp only[VList]at hv;subst hv;simpa [iM]using s
 | p::ps,v::vs,xs,f,tmps,s,hp,hv=>by simp only[VList]at hv;obtain⟨y,ys,rfl,h1,h2⟩:=hv;simp only[List.all_cons,Bool.and_eq_true,decide_eq_true_eq]at hp;simp only[iM,List.zip_cons_cons,List.foldl_cons];exact TRel.all (s.put hp.1 h1) hp.2 h2
theorem xB (r:Option Nat) (l:Nat):(RF r).inRound l=RF (some l):=by cases r<;>rfl
theorem HSim.loopSet {ok : Nat → Prop} {pl : Nat → Option Nat} {w : World} (hs : HSim e ok pl h w) {id b : Nat} (hb : pl id = some b) {t : Nat → V} {n : Nat} {ps : Array Tmp} {asg body : Code} {st : LoopState} {pend : Option Code}
 (hc:h[id]? =some (.loop t n ps asg body st pend)) (st':LoopState) (pend':Option Code) :
 ∃rec:Loop,w.heap[b]? =some (.loop rec)∧rec.state=st∧rec.pending=pend∧rec.params=ps∧rec.assign=asg∧rec.body=body∧TRel (cx ok pl w) n {t:=t} rec.tmps ∧
  HSim e ok pl (h.set id (.loop t n ps asg body st' pend')) (w.putObj b (.loop {rec with state:=st',pending:=pend'}))∧Keeps (fun _=>false) pl w pl (w.putObj b (.loop {rec with state:=st',pending:=pend'})):=by
 obtain⟨o,ho,hat⟩:=hs.obj id b hb;rw[hc]at ho;cases ho;obtain⟨rec,h1,h2,h3,h4,h5,h6,h7,h8⟩:=hat;have h1:w.heap[b]? =some (.loop rec):=h1;have hlt:=hs.lt id b hb;refine⟨rec,h1,h2,h3,h4,h5,h6,⟨h7,h8⟩,?_⟩;refine hs.upd hb (.loop t n ps asg body st' pend') rfl rfl rfl (by simp) (fun i hi=>World.putObj_heap_other hi) (fun arr el fz hh=>by rw[h1]at hh;cases hh) (fun k=> ?_);exact⟨{rec with state:=st',pending:=pend'},World.putObj_heap_same hlt,rfl,rfl,h4,h5,h6,h7,fun i=>VRel.mono k _ _ (h8 i)⟩
theorem JK (htl : e.tl = []) {fx : Operand} {args : Array Operand} {ts : Array TypeId} (hop : o.op = .call { callee := .value fx,args := args,argTypes := ts }) {id : Nat} (hfx : (f.ev e fx).sv = .yd id)
 (hsc:dQ (f.ev e) fx args) {t:Nat→V} {n':Nat} {ps:Array Tmp} {asg body:Code} {pend:Option Code} (hc:h[id]? =some (.loop t n' ps asg body .ready pend))
 (hl:args.size=ps.size) (hps:(ps.toList.all fun p=>decide (p<n'))=true)
 (hv:∀l,awp e n' (some l) asg (XE.seq (ER e n' l id body o.dst Kn f) (fun _ _ _=>False)) (iM {t:=t} ps.toList (args.toList.map fun x=>(f.ev e x).sv)) h):Eff e n r o f h Kn Q:=by
 intro ok pl0 w0 pl w a s hd;have h1:=(s.ev fx).sv hsc.1;rw[hfx]at h1;simp only[VRel]at h1;obtain⟨b,hb,hx⟩:=h1;have hb:pl id=some b:=hb;have h5:=(bZ (c:=cx ok pl w) (ρ:=f.ev e) (ev:=a.eval) args.toList fun x hx=>s.ev x).sv hsc.2;rw[List.map_map]at h5;obtain⟨rec,g1,g2,g3,g4,g5,g6,g7,_⟩:=s.hs.loopSet hb hc .ready pend;have hrun:(execOp a.eval o).run e.P w= .ok (.round b rec.fn ((rec.params.zip (args.map a.eval)).foldl (fun tmps (t,a)=>tmps.setIfInBounds t a) rec.tmps) rec.assign rec.body) w:=by
  have:execOp a.eval o=(do let d ←resolve a.eval {callee:= .value fx,args:=args,argTypes:=ts} o.type;invoke d.target d.args):=by simp[execOp,hop]
  rw[this];have h6:(resolve a.eval {callee:= .value fx,args:=args,argTypes:=ts} o.type).run e.P w= .ok {target:= .fn (.yield b) #[],args:=args.map a.eval} w:=by
   simp[resolve,hx,Deferred.ofValue]
  simp only[Sem.run_bind,h6,Result.andThen,invoke];exact run_yield g1 (by simp[g4,hl])
 refine⟨fun g _=>ig r g,?_⟩;rw[dO,Oper.semAt_eq r a.eval o (fun c=>by rw[hop];exact fun h=>by cases h),hrun];refine⟨fun hd'=>(by rw[jc]at hd';cases hd'),?_⟩;rw[g5,g6];have tr:=TRel.all (ps:=ps.toList) g7 hps h5;have htm:(rec.params.zip (args.map a.eval)).foldl (fun tmps (t,a)=>tmps.setIfInBounds t a) rec.tmps=((ps.toList.zip (args.toList.map a.eval)).foldl (fun tmps (t,a)=>tmps.setIfInBounds t a) rec.tmps):=by
  rw[g4,←Array.foldl_toList,Array.toList_zip,Array.toList_map]
 rw[htm];have s0:SSim e n' ok pl w (iM {t:=t} ps.toList (args.toList.map fun x=>(f.ev e x).sv)) h pl w {tmps:=((ps.toList.zip (args.toList.map a.eval)).foldl (fun tmps (t,a)=>tmps.setIfInBounds t a) rec.tmps),defers:=[]}:=by
  have hk:∀(ps:List Tmp) (vs:List V) (f:Fr),(iM f ps vs).k=f.k∧(iM f ps vs).d=f.d:=by
   intro ps
   induction ps with
   | nil=>intro vs f;cases vs<;>exact⟨rfl,rfl⟩
   | cons p ps ih=>intro vs f;cases vs with
    | nil=>exact⟨rfl,rfl⟩
    | cons v vs=>exact ih vs (f.put (some p) v)
  refine⟨s.hs,?_,tr.size,tr.val,?_⟩
  ·rw[(hk _ _ _).1];exact Keeps.refl pl w
  ·rw[(hk _ _ _).2];exact htl.symm
 refine roundIn_of_wpIn (ig r _) ?_;rw[xB];refine wpIn_mono (hv b ok pl w pl w _ s0) ?_;rintro ex a1 w1 ⟨pl1,f1,h1,xe,s1,hx1,hq1⟩;cases xe<;>(try exact hq1.elim);cases ex<;>(try exact hx1.elim);unfold XE.seq ER at hq1;dsimp only at hq1;split at hq1
 ·rename_i t1 n1 ps1 asg1 body1 pend1 hc1;obtain ⟨hk1,hbody⟩ := hq1;have hb1 : pl1 id = some b := s1.kp.keep id b hk1 hb;obtain ⟨rec1,g1,g2,g3,g4,g5,g6,g7,hs2,k2⟩ := s1.hs.loopSet hb1 hc1 .busy pend1;refine ⟨_,run_beginRound g1 g2,?_⟩;have hrec : ({ rec1 with state := .busy } : Loop) = { rec1 with state := .busy,pending := pend1 } := by rw [← g3]
  rw[hrec];refine wpIn_mono (hbody ok pl w pl1 _ a1 (s1.next0 hs2 k2)) ?_;rintro ex a2 w2 ⟨pl2,f2,h2,xe2,s2,hx2,hq2⟩;unfold JJ at hq2;split at hq2
  ·rename_i j t2 n2 ps2 asg2 body2 st2 pend2 hj hc2;obtain⟨⟨hk2,hd2⟩,hK⟩:=hq2;have hb2:pl2 id=some b:=s2.kp.keep id b hk2 hb;obtain⟨rec2,g1,g2,g3,g4,g5,g6,g7,hs3,k3⟩:=s2.hs.loopSet hb2 hc2 (if j.isNone then .ready else .done) j;have fin:∃v w',(Instr.endRound b j).run e.P w2= .ok v w'∧JE e n ok pl0 w0 Kn (a.put o.dst v) w':=by
    refine⟨_,_,run_endRound j g1,pl2,_,_,?_,hK⟩;have s3:=s2.next0 hs3 k3;exact(s.next s3.hs s3.kp hd2).put hd (by simp only[VRel])
   cases xe2<;>cases ex<;>(try exact hx2.elim)<;>simp only[XE.jump,Option.some.injEq,reduceCtorEq]at hj
   case normal=>subst hj;exact fin
   case ret=>subst hj;exact fin
   case exit i j'=>cases hx2;subst hj;exact fin
   case goto i j'=>cases hx2;subst hj;exact fin
  ·exact hq2.elim
 ·exact hq1.elim
end
def vcB (b:Bool) (X Y:Fr→H→Prop) (f:Fr) (h:H):Prop:=(b=true→X f h)∧(b=false→Y f h)
theorem Oe (X Y:Fr→H→Prop) (f:Fr) (h:H):vcB true X Y f h=X f h:=by simp[vcB]
theorem JL (X Y:Fr→H→Prop) (f:Fr) (h:H):vcB false X Y f h=Y f h:=by simp[vcB]
theorem vcB.mk {b:Bool} {X Y:Fr→H→Prop} {f:Fr} {h:H} (h1:b=true→X f h) (h2:b=false→Y f h):vcB b X Y f h:=⟨h1,h2⟩
def Hg (dst:Option Tmp) (Kn:Fr→H→Prop) (Q:XE→Fr→H→Prop) (f:Fr) (ae:AEnd) (h':H) (p:Nat→Bool):Prop :=
 (∀i∈f.d,p i=false)∧match ae with
  | .ret v=>Kn ((f.drop p).put dst v) h'
  | .pan v=>Q (.pan v) (f.drop p) h'
def Ue (c:Prop) (dst:Option Tmp) (x:Bool) (Kn:Fr→H→Prop) (f:Fr) (h:H):Prop:=∀b:Bool,(b=true→c)→Kn (f.put dst (.bool (b==x))) h
def Qo (e:E) (n' id:Nat) (t:Nat→V) (ps:Array Tmp) (asg body:Code) (dst:Option Tmp) (Kn:Fr→H→Prop) (f:Fr) (vs:List V) (h:H):Prop :=
 ∀l,awp e n' (some l) asg (XE.seq (ER e n' l id body dst Kn f) (fun _ _ _=>False)) (iM {t:=t} ps.toList vs) h
def ES (e:E) (n:Nat) (dst:Option Tmp) (fx:Operand) (args:Array Operand) (f:Fr) (h:H) (Kn:Fr→H→Prop) (Q:XE→Fr→H→Prop):Prop :=
 match lD e (f.ev e) fx args with
 | some (g,vs)=>dQ (f.ev e) fx args∧ai e.P g=true∧ah e g vs h (Hg dst Kn Q f)
 | none=>match (f.ev e fx).sv with
  | .yd id=>match h[id]? with
   | some (.loop t n' ps asg body .ready pend)=>(dQ (f.ev e) fx args∧args.size=ps.size∧(ps.toList.all fun p=>decide (p<n'))=true∧e.tl=[])∧Qo e n' id t ps asg body dst Kn f (args.toList.map fun x=>(f.ev e x).sv) h
   | _=>False
  | _=>False
def tN (e:E) (dst:Option Tmp) (x y:Operand) (t xt:TypeId) (f:Fr) (h:H) (Kn:Fr→H→Prop):Prop :=
 match ti e.P t with
 | some q=>match q.kind with
  | .slice el=>match ti e.P el with
   | some re=>(re.zero.fit=true∧re.zero.vc.length=re.size∧0<re.size∧(f.ev e x).sc∧(f.ev e y).sc∧yK e.P xt el (f.ev e y).sv=true∧ng re.size (f.ev e y).sv=true) ∧
    match iL h re.size (f.ev e y).sv with
    | some (m,cs)=>match (f.ev e x).sv with
     | .ls id k off len cap=>match decide (len<cap)with
      | false=>match h[id]? with
       | some (.cells cs0)=>(k=re.size∧off=0∧cs0.length=len*re.size∧bF cs=true∧len+m≤maxLen∧(len+m)*re.bytes≤140737488355328∧(∀i∈f.d,(i==id)=false)) ∧
        Kn ((f.drop (·==id)).put dst (.ls id re.size 0 (len+m) (len+m))) ((h.map (O.drop (·==id))).set id (.cells (V.drops (·==id) (cs0++cs))))
       | _=>False
      | true=>match h[id]? with
       | some (.cells cs0)=>(k=re.size∧bF cs=true∧len+m≤cap∧0<cap∧off+len*re.size+cs.length≤cs0.length) ∧
        Kn (f.put dst (.ls id re.size off (len+m) cap)) (h.set id (.cells (bT cs0 (off+len*re.size) cs)))
       | _=>False
     | xv=>match iL h re.size xv with
      | some (n0,cs0)=>(uI xv=true∧ng re.size xv=true∧(n0=0∨0<m)∧n0+m≤maxLen∧(n0+m)*re.bytes≤140737488355328) ∧
       Kn (f.put dst (.ls h.length re.size 0 (n0+m) (n0+m))) (h++[.cells (cs0++cs)])
      | none=>False
    | none=>False
   | none=>False
  | _=>False
 | none=>False
def JM (e:E) (op:BinOp) (dst:Option Tmp) (t:TypeId) (x:Operand) (f:Fr) (h:H) (Kn:Fr→H→Prop):Prop :=
 match ti e.P t with
 | some q=>match q.kind with
  | .slice _=>(f.ev e x).sc∧match (f.ev e x).sv with
   | .nils=>Kn (f.put dst (.bool (op== .eql))) h
   | .is _ _ es=>Ue (es=[]) dst (op== .eql) Kn f h
   | .ls _ _ _ len _=>Ue (len=0) dst (op== .eql) Kn f h
   | _=>False
  | _=>False
 | none=>False
def ET (l:List UInt8) (pos:Nat):Nat×Nat:=Utf8.decode ⟨l.toArray⟩ pos
def nP (b:Bool) (l:List UInt8) (pos id:Nat) (dst:Option Tmp) (Kn:Fr→H→Prop) (f:Fr) (h:H):Prop :=
 match b with
 | true=>Kn (f.put dst (.tup [.bool true,.int .i64 pos,.int .i32 (ET l pos).1])) (h.set id (.misc (.siter l (pos+(ET l pos).2))))
 | false=>Kn (f.put dst (.tup [.bool false])) h
def JO (ks vs:List V) (id:Nat) (dst:Option Tmp) (Kn:Fr→H→Prop) (f:Fr) (h:H):Prop :=
 (ks=[]→Kn (f.put dst (.tup [.bool false])) h) ∧
 ∀i,i<ks.length→Kn (f.put dst (.tup [.bool true,ks.getD i .any,vs.getD i .any])) (h.set id (.misc (.miter (ks.eraseIdx i) (vs.eraseIdx i) (some (ks.getD i .any,vs.getD i .any)))))
def Aq (e:E) (n:Nat) (o:Oper) (f:Fr) (h:H) (Kn:Fr→H→Prop) (Q:XE→Fr→H→Prop):Prop :=
 match o.op with
 | .alloc t=>match ti e.P t with
  | some q=>q.zero.fit=true∧Kn (f.put o.dst (.lp h.length 0)) (h++[.cells q.zero.vc])
  | none=>False
 | .box t x=>((f.ev e x).sc∧(f.ev e x).sv.fit=true)∧Kn (f.put o.dst (.lp h.length 0)) (h++[.cells (f.ev e x).sv.vc])
 | .store t x y=>match (f.ev e x).sv,ti e.P t with
  | .lp id off,some q=>match h[id]? with
   | some (.cells cs)=>((f.ev e x).sc∧(f.ev e y).sc∧(f.ev e y).sv.fit=true∧bF (f.ev e y).sv.vc=true∧(f.ev e y).sv.vc.length=q.size∧off+(f.ev e y).sv.vc.length≤cs.length) ∧
    Kn (f.put o.dst jL) (h.set id (.cells (bT cs off (f.ev e y).sv.vc)))
   | _=>False
  | _,_=>False
 | .range t x=>match ti e.P t,(f.ev e x).sv with
  | some q,.str l=>(q.kind= .str∧(f.ev e x).sc)∧Kn (f.put o.dst (.lp h.length 0)) (h++[.misc (.siter l 0)])
  | some q,.im ks vs=>(q.kind.isMap=true∧(f.ev e x).sc)∧Kn (f.put o.dst (.lp h.length 0)) (h++[.misc (.miter ks vs none)])
  | _,_=>False
 | .next x false=>match (f.ev e x).sv with
  | .lp id 0=>match h[id]? with
   | some (.misc (.miter ks vs _))=>(f.ev e x).sc∧JO ks vs id o.dst Kn f h
   | _=>False
  | _=>False
 | .entry x=>match (f.ev e x).sv with
  | .lp id 0=>match h[id]? with
   | some (.misc (.miter _ _ (some (k,v))))=>(f.ev e x).sc∧Kn (f.put o.dst (.tup [k,v])) h
   | _=>False
  | _=>False
 | .makeSlice t l c=>match ti e.P t,(f.ev e l).sv,(f.ev e c).sv with
  | some q,.int _ m,.int _ m'=>match q.kind with
   | .slice el=>match ti e.P el with
    | some re=>(re.zero.fit=true∧re.zero.vc.length=1∧re.size=1∧(f.ev e l).sc∧(f.ev e c).sc∧m=m'∧0≤m∧m≤1000000∧re.bytes≤1000) ∧
     Kn (f.put o.dst (.ls h.length 1 0 m.toNat m.toNat)) (h++[.cells (List.replicate m.toNat (re.zero.vc.getD 0 .any))])
    | none=>False
   | _=>False
  | _,_,_=>False
 | .next x true=>match (f.ev e x).sv with
  | .lp id 0=>match h[id]? with
   | some (.misc (.siter l pos))=>(f.ev e x).sc∧nP (decide (pos<l.length)) l pos id o.dst Kn f h
   | _=>False
  | _=>False
 | .makeMap _ none=>Kn (f.put o.dst (.lm h.length)) (h++[.map [] []])
 | .mapUpdate t m k x=>match (f.ev e m).sv,ti e.P t with
  | .lm id,some q=>match q.kind,h[id]? with
   | .map kt et,some (.map ks vs)=>match ti e.P kt with
    | some rk=>match Jd rk.kind (f.ev e k).sv (f.ev e x).sv ks vs with
     | some (ks',vs')=>((f.ev e m).sc∧(f.ev e k).sc∧(f.ev e x).sc∧rk.kind.keyOk (f.ev e k).sv=true)∧Kn (f.put o.dst jL) (h.set id (.map ks' vs'))
     | none=>False
    | none=>False
   | _,_=>False
  | _,_=>False
 | .call c=>match c.callee,c.args.toList,c.argTypes.toList with
  | .value fx,_,_=>ES e n o.dst fx c.args f h Kn Q
  | .builtin .append,[x,y],t::xt::_=>tN e o.dst x y t xt f h Kn
  | .invoke _ _,_,_=>∀r,Eff e n r o f h Kn Q
  | _,_,_=>False
 | .panic x=>match (f.ev e x).sv with
  | .iface t v=>(f.ev e x).sc∧Q (.pan (.iface t v)) f h
  | _=>False
 | .binOp .eql t x (.const (.slice none 0 0)) _=>JM e .eql o.dst t x f h Kn
 | .binOp .neq t x (.const (.slice none 0 0)) _=>JM e .neq o.dst t x f h Kn
 | _=>False
def jO : Op → Bool
 | .panic _ | .range _ _ | .next _ _ | .alloc _ | .box _ _ | .store _ _ _ | .makeMap _ _ | .mapUpdate _ _ _ _ | .entry _ | .makeSlice _ _ _=>true
 | .binOp .eql _ _ (.const (.slice none 0 0)) _ | .binOp .neq _ _ (.const (.slice none 0 0)) _=>true
 | .call c=>match c.callee with
  | .builtin .append=>true
  | .builtin _=>false
  | _=>true
 | _=>false
section
variable {e:E} {n:Nat} {r:Option Nat} {o:Oper} {f:Fr} {h:H} {Kn:Fr→H→Prop} {Q:XE→Fr→H→Prop}
theorem DF {x y : Operand} {t xt : TypeId} {ts : Array TypeId} (hop : o.op = .call { callee := .builtin .append,args := #[x,y],argTypes := ts }) (h0 : ts[0]? = some t) (h1 : ts[1]? = some xt)
 (hv:tN e o.dst x y t xt f h Kn):Eff e n r o f h Kn Q:=by
 unfold tN at hv;split at hv
 ·rename_i q hq;split at hv
  ·rename_i el hk;split at hv
   ·rename_i re hre;obtain ⟨⟨z1,z2,z3,c1,c2,c3,c4⟩,hv⟩ := hv;have ha : IsAppend e o x y t xt el q re := ⟨⟨ts,hop,h0,h1⟩,hq,hk,hre,z1,z2,z3⟩;split at hv
    ·rename_i m cs hcs;split at hv
     ·rename_i id k off len cap hx;split at hv
      ·split at hv
       ·rename_i cs0 hc0;obtain⟨⟨rfl,rfl,d3,d4,d5,d6,d7⟩,hk'⟩:=hv;exact uJ ha c1 c2 hx hc0 d3 c3 hcs c4 d4 d5 d6 d7 hk'
       ·exact hv.elim
      ·split at hv
       ·rename_i cs0 hc0;obtain⟨⟨rfl,d4,d5,d6,d7⟩,hk'⟩:=hv;exact uK ha c1 c2 hx hc0 c3 hcs c4 d4 d5 d6 d7 hk'
       ·exact hv.elim
     ·split at hv
      ·rename_i n0 cs0 hx;obtain⟨⟨d1,d2,d3,d4,d5⟩,hk'⟩:=hv;exact sW ha c1 c2 d1 c3 hx d2 hcs c4 d3 d4 d5 hk'
      ·exact hv.elim
    ·exact hv.elim
   ·exact hv.elim
  ·exact hv.elim
 ·exact hv.elim
theorem JP {t : TypeId} {x : Operand} (hop : o.op = .range t x) {q : TI} (hq : ti e.P t = some q) (hk0 : q.kind = .str) (hsc : (f.ev e x).sc) {l : List UInt8} (hx : (f.ev e x).sv = .str l)
 (hk:Kn (f.put o.dst (.lp h.length 0)) (h++[.misc (.siter l 0)])):Eff e n r o f h Kn Q:=by
 refine aN ?_ (fun c=>by rw[hop];exact fun h=>by cases h);intro ok pl w ev hs hr;obtain⟨i,d,z,hT⟩:=aF hq;have h1:=(hr x (by simp[hop,Op.operands])).sv hsc;rw[hx]at h1;simp only[VRel]at h1;obtain⟨s,hs1,hs2,hs3⟩:=h1;have hb:(w.alloc (.stringIter s 0)).heap[w.heap.size]? =some (.stringIter s 0):=World.alloc_heap_new w _;obtain⟨h1,h2⟩:=hs.new (WExt.alloc w (.stringIter s 0)) (.stringIter s 0) (.misc (.siter l 0)) (Nat.le_refl _) (by simp) ⟨s,hs2,hs3,hb⟩;refine⟨fun _=>false,.lp h.length 0,_,_,_,.pointer (some ⟨w.heap.size,0,none⟩),.inl ?_,h1,h2,?_,fun _ _=>rfl,by simpa using hk⟩
 ·have h3 : execOp ev o = (do pure (Next.value (← Instr.range t (ev x)))) := by simp [execOp,hop]
  rw[h3];refine fU ?_;unfold Instr.range;simp only[Sem.run_bind,hT.run_und,Result.andThen];rw[hT.str hk0,hs1];rfl
 ·simp only[VRel];exact⟨w.heap.size,by simp[cx,bC],rfl⟩
theorem yM {t : TypeId} {x : Operand} (hop : o.op = .range t x) {q : TI} (hq : ti e.P t = some q) (hk0 : q.kind.isMap = true) (hsc : (f.ev e x).sc) {ks vs : List V} (hx : (f.ev e x).sv = .im ks vs)
 (hk:Kn (f.put o.dst (.lp h.length 0)) (h++[.misc (.miter ks vs none)])):Eff e n r o f h Kn Q:=by
 refine aN ?_ (fun c=>by rw[hop];exact fun h=>by cases h);intro ok pl w ev hs hr;obtain⟨i,d,z,hT⟩:=aF hq;obtain⟨kt,et,hkd⟩:=yC hk0;have hd:=hT.map hkd;subst hd;have h1:=(hr x (by simp[hop,Op.operands])).sv hsc;rw[hx]at h1;simp only[VRel]at h1;obtain⟨m,es,clk,hs1,hs2,hs3,hs4,hs5,hs6⟩:=h1;have hb:(w.alloc (.mapIter (some m) clk #[] clk)).heap[w.heap.size]? =some (.mapIter (some m) clk #[] clk):=World.alloc_heap_new w _;have hm:m<w.heap.size:=aP hs3;have x1:=WExt.alloc w (.mapIter (some m) clk #[] clk);have hcx:CExt (fun _=>false) (cx ok pl w) (cx ok (bC pl h.length w.heap.size) (w.alloc (.mapIter (some m) clk #[] clk))):=by
  refine⟨fun b hb' hok=>⟨⟨hok.1,fun i hi=> ?_⟩,x1.same b hb'⟩,fun i b _ hi=> ?_,fun b arr' el' fz hb'=>⟨arr',fz,(x1.same b (aP hb')).trans hb',rfl⟩⟩
  ·simp only [bC] at hi;split at hi
   ·cases hi;simp only[cx]at hb';omega
   ·exact hok.2 i hi
  ·have:=hs.pl_lt hi;simp only[cx,bC];rw[if_neg (by omega)];exact hi
 obtain⟨g1,g2⟩:=hcx.dat m hm hs2;have hfil:(es.toList.filter fun x=> !(#[]:Array Nat).contains x.born)=es.toList:=by simp
 obtain ⟨h1,h2⟩ := hs.new x1 (.mapIter (some m) clk #[] clk) (.misc (.miter ks vs none)) (Nat.le_refl _) (by simp)
  ⟨m,#[],es,clk,hb,g1,g2.trans hs3,hs6,by rw[hfil];exact VList.mono hcx.data _ _ hs4,by rw[hfil];exact VList.mono hcx.data _ _ hs5,fun k v hc=>by cases hc⟩
 refine⟨fun _=>false,.lp h.length 0,_,_,_,.pointer (some ⟨w.heap.size,0,none⟩),.inl ?_,h1,h2,?_,fun _ _=>rfl,by simpa using hk⟩
 ·have h3 : execOp ev o = (do pure (Next.value (← Instr.range t (ev x)))) := by simp [execOp,hop]
  rw[h3];refine fU ?_;have hs3':w.heap[m]? =some (.map es clk):=hs3;unfold Instr.range;simp only[Sem.run_bind,hT.run_und,Result.andThen];rw[hs1];simp only[MapKept.run_getObj_map hs3',Sem.run_bind,Result.andThen];rfl
 ·simp only[VRel];exact⟨w.heap.size,by simp[cx,bC],rfl⟩
theorem yO {t : TypeId} {l c : Operand} (hop : o.op = .makeSlice t l c) {q re : TI} (hq : ti e.P t = some q) {el : TypeId} (hk0 : q.kind = .slice el) (hre : ti e.P el = some re)
 (hf:re.zero.fit=true) (hf1:re.zero.vc.length=1) (hz1:re.size=1) (hlc:(f.ev e l).sc) (hcc:(f.ev e c).sc) {k k':IntKind} {m:Int} (hl:(f.ev e l).sv= .int k m) (hc:(f.ev e c).sv= .int k' m)
 (hm0:0≤m) (hm1:m≤1000000) (hby:re.bytes≤1000)
 (hk:Kn (f.put o.dst (.ls h.length 1 0 m.toNat m.toNat)) (h++[.cells (List.replicate m.toNat (re.zero.vc.getD 0 .any))])):Eff e n r o f h Kn Q:=by
 refine aN ?_ (fun c=>by rw[hop];exact fun h=>by cases h);intro ok pl w ev hs hr;obtain⟨i,d,z,hT⟩:=aF hq;have hd:=hT.slice hk0;subst hd;obtain⟨ie,de,ze,hE⟩:=aF hre;have h1:=(hr l (by simp[hop,Op.operands])).sv hlc;have h2:=(hr c (by simp[hop,Op.operands])).sv hcc;rw[hl]at h1;rw[hc]at h2;simp only[VRel]at h1 h2;have hzr:=(cZ (cx ok pl w) ze).vc (by rw[←hE.zv];exact hf);rw[←hE.zv]at hzr;obtain⟨v0,hv0⟩:∃v0,re.zero.vc=[v0]:=by
  match h:re.zero.vc,hf1 with
  | [v],_=>exact⟨v,rfl⟩
 rw[hv0]at hzr hk;simp only[List.getD_cons_zero]at hk;simp only[VList]at hzr;obtain⟨y,ys,hy,hyr,rfl⟩:=hzr;have hzc:ze.cells=#[y]:=by
  apply Array.toList_inj.1;rw[hy]
 have hsz:ie.size=1:=by rw[←hE.size];exact hz1
 have hbb:ie.bytes≤1000:=by rw[←hE.bytes];exact hby
 have hrun:=run_makeSlice (P:=e.P) w t el ie ze hT.und hE.info hE.zero k k' m m hm0 (Int.le_refl _) (by rw[hsz];omega) (by
  have h1:(ie.bytes:Int)*m≤1000*m:=Int.mul_le_mul_of_nonneg_right (by omega) hm0;omega) (by omega)
 rw[hsz,Nat.mul_one,hzc]at hrun;have harr:(madeCells #[y] m.toNat).toList=List.replicate m.toNat y:=by
  apply List.ext_getElem?;intro j;simp only[madeCells,Array.toList_map,Array.toList_range,List.getElem?_map,List.getElem?_range',List.getElem?_replicate];by_cases hj:j<m.toNat
  ·rw[List.getElem?_range hj];simp[hj,Nat.mod_one]
  ·rw[List.getElem?_eq_none (by simp;omega)];simp[hj]
 have hrep:∀k:Nat,VList (cx ok pl w) (List.replicate k v0) (List.replicate k y):=by
  intro k
  induction k with
  | zero=>simp[VList]
  | succ k ih=>simp only[List.replicate_succ,VList];exact⟨_,_,rfl,hyr,ih⟩
 obtain⟨h1',h2'⟩:=lw hs (cs:=List.replicate m.toNat v0) (arr:=madeCells #[y] m.toNat) (by simp[size_madeCells]) (by rw[harr,List.take_of_length_le (by simp)];exact hrep _) el (WExt.refl w);refine⟨fun _=>false,.ls h.length 1 0 m.toNat m.toNat,_,_,_,.slice (some ⟨w.heap.size,0,none⟩) m.toNat m.toNat,.inl ?_,h1',h2',?_,fun _ _=>rfl,by simpa using hk⟩
 ·have h3 : execOp ev o = (do pure (Next.value (← Instr.makeSlice t (ev l) (ev c)))) := by simp [execOp,hop]
  rw[h3,h1,h2];exact fU hrun
 ·have hM:maxLen=9223372036854775807:=rfl;simp only[VRel];refine⟨_,m.toNat,rfl,Nat.le_refl _,Nat.le_refl _,by omega,.inr ⟨w.heap.size,madeCells #[y] m.toNat,el,(0,0),by simp[cx,bC],rfl,World.alloc_heap_new w _,by rw[size_madeCells];omega⟩⟩
theorem uM {α β : Type} {g : α → β} : ∀ (l : List α) (i : Nat),(l.eraseIdx i).map g = (l.map g).eraseIdx i
 | [],_=>rfl
 | _::_,0=>rfl
 | _::l,i+1=>by simp only[List.eraseIdx_cons_succ,List.map_cons,uM l i]
theorem VList.eraseIdx {c : C} : ∀ {vs : List V} {xs : List Value} (i : Nat),VList c vs xs → VList c (vs.eraseIdx i) (xs.eraseIdx i)
 | [],_,i,h=>by simp only[VList]at h;subst h;simp[VList]
 | u::us,_,i,h=>by
  simp only[VList]at h;obtain⟨y,ys,rfl,h1,h2⟩:=h;cases i with
  | zero=>exact h2
  | succ i=>simp only[List.eraseIdx_cons_succ,VList];exact⟨y,_,rfl,h1,h2.eraseIdx i⟩
theorem rZ {en : MapEntry} : ∀ (L : List MapEntry) (j : Nat),(L.map (·.born)).Nodup → L[j]? = some en → (L.filter fun x => !(x.born == en.born)) = L.eraseIdx j
 | [],j,_,h=>by simp at h
 | y::L,0,hn,h=>by simp only[List.getElem?_cons_zero,Option.some.injEq]at h;subst h;have hn':=List.nodup_cons.1 (by simpa only[List.map_cons]using hn);simp only[List.filter_cons,beq_self_eq_true,Bool.not_true,Bool.false_eq_true,if_false,List.eraseIdx_cons_zero];refine List.filter_eq_self.2 fun x hx=> ?_;have:¬x.born=y.born:=fun h=>hn'.1 (h▸List.mem_map.2 ⟨x,hx,rfl⟩);simpa using this
 | y::L,j+1,hn,h=>by
  simp only[List.getElem?_cons_succ]at h;have hn':=List.nodup_cons.1 (by simpa only[List.map_cons]using hn);have hm:=List.mem_of_getElem? h;have hne:¬y.born=en.born:=fun he=>hn'.1 (he▸List.mem_map.2 ⟨en,hm,rfl⟩);have hne':(!(y.born==en.born))=true:=by simpa using hne
  simp only[List.filter_cons,hne',if_true,List.eraseIdx_cons_succ];rw[rZ L j hn'.2 h]
theorem DI {es:List MapEntry} {seen:Array Nat} {j:Nat} {en:MapEntry} (hn:(es.map (·.born)).Nodup) (h:(es.filter fun x=> !seen.contains x.born)[j]? =some en) :
 (es.filter fun x=> !(seen.push en.born).contains x.born)=(es.filter fun x=> !seen.contains x.born).eraseIdx j:=by
 rw[←rZ _ j ((List.filter_sublist.map _).nodup hn) h,List.filter_filter];refine List.filter_congr fun x _=> ?_;rw[Array.contains_push,Bool.not_or,Bool.and_comm]
theorem DJ {w:World} {P:Program} {r m:Nat} {seen:Array Nat} {es:Array MapEntry} {clk:Nat} (ty:TypeId) (hr:w.heap[r]? =some (.mapIter (some m) clk seen clk)) (hm:w.heap[m]? =some (.map es clk)) (hok:Jn es clk) :
 ((es.toList.filter fun x=> !seen.contains x.born)=[]∧(Instr.next (.pointer (some ⟨r,0,none⟩)) false ty).run P w= .ok (.tuple #[.bool false]) w) ∨
 ∃(j:Nat) (w1:World) (x:MapEntry),(es.toList.filter fun x=> !seen.contains x.born)[j]? =some x∧(w1=w∨w1=w.drew) ∧
  (Instr.next (.pointer (some ⟨r,0,none⟩)) false ty).run P w= .ok (.tuple #[.bool true,x.key,x.val]) (w1.putObj r (.mapIter (some m) clk (seen.push x.born) clk)):=by
 simp only[Instr.next,getObj,Sem.run_bind,Sem.run,hr,hm,Result.andThen,next_test_false seen es clk clk hok.1 (Nat.le_refl _),Bool.false_eq_true,if_false];have hL0:(Array.filter (fun e=> !seen.contains e.born) es).toList=es.toList.filter fun x=> !seen.contains x.born:=by simp
 rw[←hL0];have hmem:∀x∈(Array.filter (fun e=> !seen.contains e.born) es).toList,x.born<clk:=fun x hx=>hok.1 x (by simp at hx ⊢;exact hx.1);generalize Array.filter (fun e=> !seen.contains e.born) es=L at hmem ⊢;have e1:L.filter (fun x=>decide (x.born<clk))=L:=Array.filter_eq_self.2 (fun x hx=>by simpa using hmem x (by simpa using hx));have e2:L.filter (fun x=>decide (x.born≥clk))=#[]:=by
  rw[Array.filter_eq_empty_iff];intro x hx;have:=hmem x (by simpa using hx);simp;omega
 simp only[e1,e2,Array.append_empty];by_cases h0:L.size=0
 ·left;have:L=#[]:=Array.eq_empty_of_size_eq_zero h0;subst this;refine⟨rfl,?_⟩;simp[choose,Sem.run,Question.forced]
 ·right;have hne : L.isEmpty = false := by simp [Array.isEmpty,h0]
  simp only[hne,Bool.false_eq_true,if_false,Array.empty_append,Array.size_map];have hch:∃(j:Nat) (w1:World),j<L.size∧(w1=w∨w1=w.drew)∧(choose (Question.mapNext L.size)).run P w= .ok j w1:=by
   by_cases hf:L.size≤1
   ·exact⟨0,w,by omega,.inl rfl,by simp[choose,Sem.run,Question.forced,hf]⟩
   ·exact⟨_,w.drew,Nat.mod_lt _ (by omega),.inr rfl,by
     simp only[choose,Sem.run,Question.forced,decide_eq_true_eq,hf,if_false,Question.cut];rfl⟩
  obtain⟨j,w1,hj,hal,hrun⟩:=hch;refine⟨j,w1,L[j],by simp[hj],hal,?_⟩;have hr1:w1.heap[r]? =some (.mapIter (some m) clk seen clk):=by rcases hal with rfl | rfl<;>exact hr
  have hset:∀(o':Obj),(setObj r o').run P w1= .ok () (w1.putObj r o'):=fun o'=>by simp only[setObj,Sem.run,hr1];rfl
  simp only[hrun,Array.getElem?_map,Array.getElem?_eq_getElem hj,Option.map_some,Sem.run_bind,hset,Result.andThen];rfl
theorem Ar {x : Operand} (hop : o.op = .next x false) (hsc : (f.ev e x).sc) {id : Nat} (hx : (f.ev e x).sv = .lp id 0) {ks vs : List V} {cur : Option (V × V)} (hc : h[id]? = some (.misc (.miter ks vs cur)))
 (hk:JO ks vs id o.dst Kn f h):Eff e n r o f h Kn Q:=by
 refine aN ?_ (fun c=>by rw[hop];exact fun h=>by cases h);intro ok pl w ev hs hr;have h1:=(hr x (by simp[hop,Op.operands])).sv hsc;rw[hx]at h1;simp only[VRel]at h1;obtain⟨b,hb,hxv⟩:=h1;have hb:pl id=some b:=hb;obtain⟨ob,ho,hat⟩:=hs.obj id b hb;rw[hc]at ho;cases ho;obtain⟨m,seen,es,clk,g1,g2,g3,g4,g5,g6,g7⟩:=hat;have g1':w.heap[b]? =some (.mapIter (some m) clk seen clk):=g1;have g3':w.heap[m]? =some (.map es clk):=g3;have h3:execOp ev o=(do pure (Next.value (←Instr.next (ev x) false o.type))):=by simp[execOp,hop]
 have hlt:=hs.lt id b hb;have hl5:=g5.length;have hl6:=g6.length;rw[List.length_map]at hl5 hl6;rcases DJ (P:=e.P) o.type g1' g3' g4 with⟨hnil,hrun⟩ | ⟨j,w1,en,hj,hw1,hrun⟩
 ·rw [hnil] at hl5;have hks : ks = [] := List.length_eq_zero_iff.1 (by simpa using hl5.symm);refine ⟨fun _ => false,.tup [.bool false],h,pl,w,.tuple #[.bool false],.inl ?_,hs,Keeps.refl pl w,?_,fun _ _ => rfl,by simpa using hk.1 hks⟩
  ·rw[h3,hxv];exact fU hrun
  ·simp only[VRel,VList];exact⟨_,rfl,_,_,rfl,rfl,rfl⟩
 ·have hjl := (List.getElem?_eq_some_iff.1 hj).1;have hjk : j < ks.length := by omega
  have hjv:j<vs.length:=by omega
  obtain⟨kx,hkx1,hkx2⟩:=g5.get j ks[j] (List.getElem?_eq_getElem hjk);obtain⟨vx,hvx1,hvx2⟩:=g6.get j vs[j] (List.getElem?_eq_getElem hjv);rw[List.getElem?_map,hj]at hkx1 hvx1;simp only[Option.map_some,Option.some.injEq]at hkx1 hvx1;subst hkx1;subst hvx1;have hk2:=hk.2 j hjk;have ek:ks.getD j .any=ks[j]:=by simp[List.getD_eq_getElem?_getD,hjk]
  have evv:vs.getD j .any=vs[j]:=by simp[List.getD_eq_getElem?_getD,hjv]
  rw[ek,evv]at hk2;have hsw:HSim e ok pl h w1:=by rcases hw1 with rfl | rfl<;>first | exact hs | exact hs.wext (WExt.drew _)
  have hheap1:w1.heap=w.heap:=by rcases hw1 with rfl | rfl<;>rfl
  have hmem:en∈es.toList∧seen.contains en.born=false:=by have:=List.mem_of_getElem? hj;simpa using this
  have hfil := DI g4.2 hj;obtain ⟨k1,k2⟩ := hsw.upd (w' := w1.putObj b (.mapIter (some m) clk (seen.push en.born) clk)) hb (.misc (.miter (ks.eraseIdx j) (vs.eraseIdx j) (some (ks[j],vs[j])))) rfl rfl rfl (by simp) (fun i hi => World.putObj_heap_other hi)
   (fun arr el fz hh=>by rw[hheap1,g1']at hh;cases hh) (fun kx=>by
    have hm1:(cx ok pl w1).w.heap[m]? =some (.map es clk):=by show w1.heap[m]? =_;rw[hheap1];exact g3'
    have hcd:CExt (fun _=>false) (cx ok pl w) (cx ok pl w1):=⟨fun b' _ hok=>⟨hok,by show w1.heap[b']? =w.heap[b']?;rw[hheap1]⟩,fun _ _ _ hi=>hi,fun b' arr el fz hb'=>⟨arr,fz,by show w1.heap[b']? =_;rw[hheap1];exact hb',rfl⟩⟩;obtain⟨q1,q2⟩:=kx.dat m (aP hm1) g2;refine⟨m,seen.push en.born,es,clk,World.putObj_heap_same (by rw[hheap1];exact hlt),q1,q2.trans hm1,g4,?_,?_,?_⟩
    ·rw[hfil,uM];exact VList.mono kx.data _ _ (VList.mono hcd.data _ _ (g5.eraseIdx j))
    ·rw[hfil,uM];exact VList.mono kx.data _ _ (VList.mono hcd.data _ _ (g6.eraseIdx j))
    ·intro k v hkv;cases hkv;exact⟨en,hmem.1,by simp,VRel.mono kx.data _ _ (VRel.mono hcd.data _ _ hkx2),VRel.mono kx.data _ _ (VRel.mono hcd.data _ _ hvx2)⟩)
  have kk:Keeps (fun _=>false) pl w pl w1:=by rcases hw1 with rfl | rfl<;>first | exact Keeps.refl pl _ | exact(WExt.drew _).keeps hs
  have kk2:=kk.trans k2;simp only[Bool.or_self]at kk2;refine⟨fun _=>false,.tup [.bool true,ks[j],vs[j]],_,pl,_,.tuple #[.bool true,en.key,en.val],.inl ?_,k1,kk2,?_,fun _ _=>rfl,by simpa using hk2⟩
  ·rw[h3,hxv];exact fU hrun
  ·have hcd:CExt (fun _=>false) (cx ok pl w) (cx ok pl (w1.putObj b (.mapIter (some m) clk (seen.push en.born) clk))):=kk2.cext;simp only[VRel,VList];exact⟨_,rfl,_,_,rfl,rfl,_,_,rfl,VRel.mono hcd _ _ (VRel.ofdata _ _ hkx2),_,_,rfl,VRel.mono hcd _ _ (VRel.ofdata _ _ hvx2),rfl⟩
theorem JQ {x : Operand} (hop : o.op = .entry x) (hsc : (f.ev e x).sc) {id : Nat} (hx : (f.ev e x).sv = .lp id 0) {ks vs : List V} {k v : V} (hc : h[id]? = some (.misc (.miter ks vs (some (k,v)))))
 (hk:Kn (f.put o.dst (.tup [k,v])) h):Eff e n r o f h Kn Q:=by
 refine aN ?_ (fun c=>by rw[hop];exact fun h=>by cases h);intro ok pl w ev hs hr;have h1:=(hr x (by simp[hop,Op.operands])).sv hsc;rw[hx]at h1;simp only[VRel]at h1;obtain⟨b,hb,hxv⟩:=h1;have hb:pl id=some b:=hb;obtain⟨ob,ho,hat⟩:=hs.obj id b hb;rw[hc]at ho;cases ho;obtain⟨m,seen,es,clk,g1,g2,g3,g4,g5,g6,g7⟩:=hat;obtain⟨en,e1,e2,e3,e4⟩:=g7 k v rfl;have g1':w.heap[b]? =some (.mapIter (some m) clk seen clk):=g1;have g3':w.heap[m]? =some (.map es clk):=g3;have h3:execOp ev o=(do pure (Next.value (←Instr.entry (ev x)))):=by simp[execOp,hop]
 refine⟨fun _=>false,.tup [k,v],h,pl,w,.tuple #[en.key,en.val],.inl ?_,hs,Keeps.refl pl w,?_,fun _ _=>rfl,by simpa using hk⟩
 ·rw [h3,hxv];refine fU ?_;have hf : es.find? (·.born == en.born) = some en := by rw [← Array.find?_toList];exact find_born en es.toList g4.2 e1
  simp only[Instr.entry,getObj,Sem.run_bind,Sem.run,g1',g3',Result.andThen,e2,bne_self_eq_false,Bool.false_eq_true,if_false,hf];rfl
 ·simp only[VRel,VList];exact⟨_,rfl,_,_,rfl,VRel.ofdata _ _ e3,_,_,rfl,VRel.ofdata _ _ e4,rfl⟩
theorem Og {x : Operand} (hop : o.op = .next x true) (hsc : (f.ev e x).sc) {id : Nat} (hx : (f.ev e x).sv = .lp id 0) {l : List UInt8} {pos : Nat} (hc : h[id]? = some (.misc (.siter l pos)))
 (hk:nP (decide (pos<l.length)) l pos id o.dst Kn f h):Eff e n r o f h Kn Q:=by
 refine aN ?_ (fun c=>by rw[hop];exact fun h=>by cases h);intro ok pl w ev hs hr;have h1:=(hr x (by simp[hop,Op.operands])).sv hsc;rw[hx]at h1;simp only[VRel]at h1;obtain⟨b,hb,hxv⟩:=h1;have hb:pl id=some b:=hb;obtain⟨ob,ho,hat⟩:=hs.obj id b hb;rw[hc]at ho;cases ho;obtain⟨s,hs2,hs3,hheap⟩:=hat;have hheap:w.heap[b]? =some (.stringIter s pos):=hheap;have hsz:s.size=l.length:=by rw[←hs2];exact(Array.length_toList).symm
 have hdec:Utf8.decode s pos=ET l pos:=by unfold ET;rw[←hs2]
 have h3:execOp ev o=(do pure (Next.value (←Instr.next (ev x) true o.type))):=by simp[execOp,hop]
 have hlt:=hs.lt id b hb;cases hp:decide (pos<l.length)with
 | true =>
  rw[hp]at hk;have hp':pos<l.length:=by simpa using hp
  obtain ⟨h1,h2⟩ := hs.upd (w' := w.putObj b (.stringIter s (pos + (ET l pos).2))) hb (.misc (.siter l (pos + (ET l pos).2))) rfl rfl rfl (by simp) (fun i hi => World.putObj_heap_other hi)
   (fun arr el fz hh=>by rw[hheap]at hh;cases hh) (fun k=>⟨s,hs2,hs3,World.putObj_heap_same hlt⟩)
  refine⟨fun _=>false,.tup [.bool true,.int .i64 pos,.int .i32 (ET l pos).1],_,pl,_,.tuple #[.bool true,goInt pos,.int .i32 (ET l pos).1],.inl ?_,h1,h2,?_,fun _ _=>rfl,by simpa [nP]using hk⟩
  ·rw [h3,hxv];refine fU ?_;have : pos < s.size := by omega
   simp[Instr.next,getObj,setObj,Sem.run,hheap,Result.andThen,this,hdec,World.putObj]
  ·simp only[VRel,VList];exact⟨_,rfl,_,_,rfl,rfl,_,_,rfl,rfl,_,_,rfl,rfl,rfl⟩
 | false =>
  rw[hp]at hk;have hp':¬pos<l.length:=by simpa using hp
  refine⟨fun _=>false,.tup [.bool false],h,pl,w,.tuple #[.bool false],.inl ?_,hs,Keeps.refl pl w,?_,fun _ _=>rfl,by simpa [nP]using hk⟩
  ·rw [h3,hxv];refine fU ?_;have : ¬ pos < s.size := by omega
   simp[Instr.next,getObj,setObj,Sem.run,hheap,Result.andThen,this]
  ·simp only[VRel,VList];exact⟨_,rfl,_,_,rfl,rfl,rfl⟩
theorem pY {P:Program} {t:TypeId} {q:TI} {i:TypeInfo} {d:TypeDesc} {z:Value} (h:TIs P t q i d z) {el:Nat} (hk:q.kind= .slice el) (a:Option Addr) (l c:Nat) (w:World) :
 (Op.equal t (.slice a l c) (.slice none 0 0)).run P w= .ok a.isNone w:=by
 unfold Op.equal Op.maxDepth Op.equalIn;simp only[Sem.run_bind,h.run_und,Result.andThen];rw[h.slice hk];cases a<;>rfl
theorem nR {S:V→Prop} (hnd:∀c,o.op≠ .defer c) (hq:∀ok pl w (ev:Operand→Value),HSim e ok pl h w→(∀x∈o.op.operands,VRel (cx ok pl w) (f.ev e x) (ev x)) →
 ∃x v,(execOp ev o).run e.P w= .ok (.value x) w∧VRel (cx ok pl w) v x∧S v) (hk:∀v,S v→Kn (f.put o.dst v) h):Eff e n r o f h Kn Q:=by
 refine aN (fun ok pl w ev hs hr=> ?_) hnd;obtain⟨x,v,h1,h2,h3⟩:=hq ok pl w ev hs hr;exact⟨fun _=>false,v,h,pl,w,x,.inl h1,hs,Keeps.refl pl w,h2,fun _ _=>rfl,by simpa using hk v h3⟩
theorem EU {op:BinOp} (hop':op= .eql∨op= .neq) {t t2:TypeId} {x:Operand} (hop:o.op= .binOp op t x (.const (.slice none 0 0)) t2) (hv:JM e op o.dst t x f h Kn):Eff e n r o f h Kn Q:=by
 unfold JM at hv;split at hv
 ·rename_i q hq;obtain ⟨ii,d,z,hT⟩ := aF hq;split at hv
  ·rename_i el hk;obtain⟨hsc,hv⟩:=hv;have exec:∀(ev:Operand→Value) (w:World) (a:Option Addr) (l c:Nat),ev x= .slice a l c→ev (.const (.slice none 0 0))= .slice none 0 0→(execOp ev o).run e.P w= .ok (.value (.bool (a.isNone==(op== .eql)))) w:=by
    intro ev w a l c hx hy;have hb:(binOp op t (.slice a l c) (.slice none 0 0)).run e.P w= .ok (.bool (a.isNone==(op== .eql))) w:=by
     rcases hop' with rfl | rfl
     ·show(do pure (Value.bool (←Op.equal t _ _)):Sem Value).run e.P w=_;simp[pY hT hk,Result.andThen]
     ·show(do pure (Value.bool (!(←Op.equal t _ _))):Sem Value).run e.P w=_;simp only[Sem.run_bind,pY hT hk,Result.andThen];cases a<;>rfl
    have h3:execOp ev o=(do pure (Next.value (←(do eqGuard op t x (.const (.slice none 0 0)) (ev x) (ev (.const (.slice none 0 0)));binOp op t (ev x) (ev (.const (.slice none 0 0))))))):=by simp[execOp,hop]
    rw[h3,hx,hy];refine fU ?_;simp[oV (x:=x) (y:= .const (.slice none 0 0)) (op:=op) (t:=t) (P:=e.P) w (a:= .slice a l c) (b:= .slice none 0 0) (.inl ⟨by simp,by simp⟩),Result.andThen,hb]
   have hy:∀(c:C) (y:Value),VRel c (f.ev e (.const (.slice none 0 0))) y→y= .slice none 0 0:=by intro c y h1;have h2:f.ev e (.const (.slice none 0 0))= .nils:=rfl;rw[h2]at h1;simpa only[VRel]using h1
   have nd:∀c,o.op≠ .defer c:=fun c=>by rw[hop];exact fun h=>by cases h
   split at hv
   ·rename_i hx;refine nR (S:=fun v=>v= .bool (op== .eql)) nd (fun ok pl w ev hs hr=> ?_) (fun v hv'=>by subst hv';exact hv);have h1:=(hr x (by simp[hop,Op.operands])).sv hsc;rw[hx]at h1;simp only[VRel]at h1;refine⟨_,_,exec ev w none 0 0 h1 (hy _ _ (hr _ (by simp[hop,Op.operands]))),?_,rfl⟩;simp[VRel]
   ·rename_i ex k es hx;refine nR (S := fun v => ∃ b : Bool,(b = true → es = []) ∧ v = .bool (b == (op == .eql))) nd (fun ok pl w ev hs hr => ?_) (fun v hv' => by obtain ⟨b,h1,rfl⟩ := hv';exact hv b h1);have h1 := (hr x (by simp [hop,Op.operands])).sv hsc;rw [hx] at h1;simp only [VRel] at h1;obtain ⟨a,cp,h2,h3,h4,h5,h6⟩ := h1;refine ⟨_,_,exec ev w a _ cp h2 (hy _ _ (hr _ (by simp [hop,Op.operands]))),?_,a.isNone,fun hn => ?_,rfl⟩
    ·simp[VRel]
    ·rcases h6 with h6 | ⟨b,off,h6,_⟩
     ·exact h6
     ·rw[h6]at hn;cases hn
   ·rename_i id k off len cap hx;refine nR (S := fun v => ∃ b : Bool,(b = true → len = 0) ∧ v = .bool (b == (op == .eql))) nd (fun ok pl w ev hs hr => ?_) (fun v hv' => by obtain ⟨b,h1,rfl⟩ := hv';exact hv b h1);have h1 := (hr x (by simp [hop,Op.operands])).sv hsc;rw [hx] at h1;simp only [VRel] at h1;obtain ⟨a,cp,h2,h3,h4,h5,h6⟩ := h1;refine ⟨_,_,exec ev w a _ cp h2 (hy _ _ (hr _ (by simp [hop,Op.operands]))),?_,a.isNone,fun hn => ?_,rfl⟩
    ·simp[VRel]
    ·rcases h6 with h6 | ⟨b,arr,el,fz,h7,h6,_⟩
     ·omega
     ·rw[h6]at hn;cases hn
   ·exact hv.elim
  ·exact hv.elim
 ·exact hv.elim
theorem JR {x:Operand} (hop:o.op= .panic x) (hsc:(f.ev e x).sc) {t:TypeId} {v:V} (hx:(f.ev e x).sv= .iface t v) (hq:Q (.pan (.iface t v)) f h):Eff e n r o f h Kn Q:=by
 intro ok pl0 w0 pl w a s hd;have h1:=(s.evs (o:=o) x (by simp[hop,Op.operands])).sv hsc;rw[hx]at h1;have h2:=h1;simp only[VRel]at h1;obtain⟨y,h3,h4⟩:=h1;have hrun:(execOp a.eval o).run e.P w= .halt (.panic (a.eval x)) w:=by
  have h5:execOp a.eval o=(do pure (Next.value (←Instr.panic (a.eval x)))):=by simp[execOp,hop]
  rw[h5,h3];rfl
 refine⟨fun g _=>ig r g,?_⟩;rw[dO,Oper.semAt_eq r a.eval o (fun c=>by rw[hop];exact fun h=>by cases h),hrun,Oper.uponIn_panic];exact⟨pl,f,h,.pan (.iface t v),s,⟨_,rfl,h2⟩,hq⟩
theorem yP (hv:Aq e n o f h Kn Q):Eff e n r o f h Kn Q:=by
 unfold Aq at hv;split at hv
 ·rename_i t hop;split at hv
  ·rename_i q hq;exact JF hop hq hv.1 hv.2
  ·exact hv.elim
 ·rename_i t x hop;exact QX hop hv.1.1 hv.1.2 hv.2
 ·rename_i t x y hop;split at hv
  ·rename_i id off q hx hq;split at hv
   ·rename_i cs hc;obtain⟨⟨c1,c2,c3,c4,c5,c6⟩,hk⟩:=hv;exact JG hop hx c1 c2 hq c3 c4 c5 hc c6 hk
   ·exact hv.elim
  ·exact hv.elim
 ·rename_i t x hop;split at hv
  ·rename_i q l hq hx;exact JP hop hq hv.1.1 hv.1.2 hx hv.2
  ·rename_i q ks vs hq hx;exact yM hop hq hv.1.1 hv.1.2 hx hv.2
  ·exact hv.elim
 ·rename_i x hop;split at hv
  ·rename_i id hx;split at hv
   ·rename_i ks vs cur hc;exact Ar hop hv.1 hx hc hv.2
   ·exact hv.elim
  ·exact hv.elim
 ·rename_i x hop;split at hv
  ·rename_i id hx;split at hv
   ·rename_i ks vs k v hc;exact JQ hop hv.1 hx hc hv.2
   ·exact hv.elim
  ·exact hv.elim
 ·rename_i t l c hop;split at hv
  ·rename_i q k m k' m' hq hl hc;split at hv
   ·rename_i el hk0;split at hv
    ·rename_i re hre;obtain⟨⟨c1,c2,c3,c4,c5,rfl,c7,c8,c9⟩,hk⟩:=hv;exact yO hop hq hk0 hre c1 c2 c3 c4 c5 hl hc c7 c8 c9 hk
    ·exact hv.elim
   ·exact hv.elim
  ·exact hv.elim
 ·rename_i x hop;split at hv
  ·rename_i id hx;split at hv
   ·rename_i l pos hc;exact Og hop hv.1 hx hc hv.2
   ·exact hv.elim
  ·exact hv.elim
 ·rename_i t hop;exact DC hop hv
 ·rename_i t m k x hop;split at hv
  ·rename_i id q hm hq;split at hv
   ·rename_i kt et ks vs hkd hc;split at hv
    ·rename_i rk hrk;split at hv
     ·rename_i ks' vs' hp;obtain⟨⟨c1,c2,c3,c4⟩,hk⟩:=hv;exact yJ hop hm c1 c2 c3 hq hkd hrk c4 hc hp hk
     ·exact hv.elim
    ·exact hv.elim
   ·exact hv.elim
  ·exact hv.elim
 ·rename_i c hop;obtain ⟨callee,args,argTypes⟩ := c;dsimp only at hv;split at hv
  ·rename_i fx;unfold ES at hv;split at hv
   ·rename_i g vs hon;exact Oc hop hon hv.1 hv.2.1 hv.2.2
   ·split at hv
    ·rename_i id hfx;split at hv
     ·rename_i t n' ps asg body pend hc;exact JK hv.1.2.2.2 hop hfx hv.1.1 hc hv.1.2.1 hv.1.2.2.1 hv.2
     ·exact hv.elim
    ·exact hv.elim
  ·rename_i x y t xt rest hargs hts;have ha : args = #[x,y] := by rw [← hargs]
   subst ha;exact DF hop (by have:=congrArg (·[0]?) hts;simpa using this) (by have:=congrArg (·[1]?) hts;simpa using this) hv
  ·exact hv r
  ·exact hv.elim
 ·rename_i x hop;split at hv
  ·rename_i t v hx;exact JR hop hv.1 hx hv.2
  ·exact hv.elim
 ·rename_i t x t2 hop;exact EU (.inl rfl) hop hv
 ·rename_i t x t2 hop;exact EU (.inr rfl) hop hv
 ·exact hv.elim
end
def JS (d:Option Tmp) (Kn:Fr→H→Prop) (f:Fr) (h:H):Prop:=∃v,Kn (f.put d (.grd false v)) h
theorem JS.mk {d:Option Tmp} {Kn:Fr→H→Prop} {f:Fr} {h:H} (hk:Kn (f.put d (.grd false .any)) h):JS d Kn f h:=⟨_,hk⟩
def Dp (g:Bool) (e:E) (n:Nat) (o:Oper) (Kn:Fr→H→Prop) (Q:XE→Fr→H→Prop) (f:Fr) (h:H):Prop:=(g=true→Aq e n o f h Kn Q)∧(g=false→JS o.dst Kn f h)
def nS (e : E) (n : Nat) (ops : Array Oper) (Q : XE → Fr → H → Prop) : List Oper → Fr → H → Prop
 | [],f,h=>Q .normal f h
 | o::rest,f,h =>
  match gd ops f o with
  | none=>False
  | some g=>jh n o.dst=true ∧
   match jO o.op with
   | true=>Dp g e n o (nS e n ops Q rest) Q f h
   | false=>PV.go g (sV e.P o (f.ev e) h) o.dst (nS e n ops Q rest) f h
theorem qf {e:E} {n:Nat} {r:Option Nat} {ops:Array Oper} {Q:XE→Fr→H→Prop} {ok:Nat→Prop} {pl0:Nat→Option Nat} {w0:World} :
 ∀(l:List Oper) (f:Fr) (h:H),nS e n ops Q l f h→∀(pl:Nat→Option Nat) (w:World) (a:Act),SSim e n ok pl0 w0 f h pl w a→wpListIn (RF r) 0 e.P ops (gJ e n ok pl0 w0 Q) l a w
 | [],f,h,hv,pl,w,a,s=>⟨pl,f,h,.normal,s,trivial,hv⟩
 | o::rest,f,h,hv,pl,w,a,s=>by
  simp only[nS]at hv;cases hg:gd ops f o with
  | none=>rw[hg]at hv;exact hv.elim
  | some g =>
   rw[hg]at hv;obtain⟨hd,hv⟩:=hv;have hw:=qY s.val hg;unfold wpListIn;have nx:∀a' w',JE e n ok pl0 w0 (fun f' h'=>nS e n ops Q rest f' h') a' w'→wpListIn (RF r) 0 e.P ops (gJ e n ok pl0 w0 Q) rest a' w' :=
    fun a' w' ⟨pl',f',h',s',hk⟩=>qf rest f' h' hk pl' w' a' s'
   cases he:jO o.op with
   | true =>
    rw[he]at hv;dsimp only at hv;cases g with
    | true=>rw[if_pos hw];exact Oper.wpIn_mono nx (yP (r:=r) (hv.1 rfl) ok pl0 w0 pl w a s hd)
    | false=>rw[if_neg (by rw[hw];simp)];obtain⟨v,hv'⟩:=hv.2 rfl;exact⟨fun g _=>ig r g,qf rest _ _ hv' pl w _ (s.put hd (jM (g:=false) (v:=v) (fun hf=>by cases hf) (fun _=>rfl)))⟩
   | false =>
    rw[he]at hv;dsimp only at hv;obtain⟨hc,hk⟩:=hv;cases g with
    | true=>rw[if_pos hw];exact Oper.wpIn_mono nx (lu (K:=fun f' h'=>nS e n ops Q rest f' h') (nK (hc rfl)) hk ok pl0 w0 pl w a s hd)
    | false=>rw[if_neg (by rw[hw];simp)];exact⟨fun g _=>ig r g,qf rest _ _ hk pl w _ (s.put hd (jM (fun hf=>by cases hf) (fun _=>rfl)))⟩
end Go.Abs
