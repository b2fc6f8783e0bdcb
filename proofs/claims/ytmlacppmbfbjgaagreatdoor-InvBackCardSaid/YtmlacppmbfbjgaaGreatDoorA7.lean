/- Lemmas for this claim, part A7: each holds under what it names. -/
import Derived.Test.YtmlacppmbfbjgaaGreatDoorA6
import Derived.ProofKit
import Derived.SizedLaws
import Derived.JoinedCond
set_option linter.unusedVariables false
set_option linter.unusedSimpArgs false
namespace Go.Abs
open Go.RowKit
def aT (P:Program) {α:Type} (s:Sem α):Prop:=∀w x w1,s.run P w= .ok x w1→∀w',s.run P w'= .ok x w'
def eu (P:Program) {α:Type} (s:Sem α):Prop:=∀w x w1,s.run P w≠ .ok x w1
theorem eu.blind {P:Program} {α:Type} {s:Sem α} (h:eu P s):aT P s:=fun w x w1 hr=>absurd hr (h w x w1)
theorem aT.pure {P:Program} {α:Type} (a:α):aT P (pure a:Sem α):=fun w x w1 h w'=>by rw[Sem.run_pure]at h ⊢;cases h;rfl
theorem eu.stuck {P:Program} {α:Type} (why:String):eu P (stuck why:Sem α):=fun w x w1 h=>by cases h
theorem eu.unsupported {P:Program} {α:Type} (u:Unsupported):eu P (unsupported u:Sem α):=fun w x w1 h=>by cases h
theorem eu.goPanic {P:Program} {α:Type} (v:Value):eu P (goPanic v:Sem α):=fun w x w1 h=>by cases h
theorem aT.bind {P:Program} {α β:Type} {s:Sem α} {f:α→Sem β} (hs:aT P s) (hf:∀a,aT P (f a)):aT P (s >>= f):=fun w x w1 h w'=>by
 rw[Sem.run_bind]at h ⊢;cases hr:s.run P w with
 | ok a w2=>rw[hr]at h;have h2:=hs w a w2 hr;have e:=(h2 w).symm.trans hr;cases e;rw[h2 w'];exact hf a w x w1 h w'
 | halt a b=>rw[hr]at h;cases h
theorem mr {P:Program} {α β:Type} {s:Sem α} {f:α→Sem β} (hf:∀a,eu P (f a)):eu P (s >>= f):=fun w x w1 h=>by
 rw[Sem.run_bind]at h;cases hr:s.run P w with
 | ok a w2=>rw[hr]at h;exact hf a w2 x w1 h
 | halt a b=>rw[hr]at h;cases h
theorem aT.program {P:Program}:aT P program:=fun w x w1 h w'=>by rw[run_program]at h ⊢;cases h;rfl
theorem aT.underlying {P:Program} (t:TypeId):aT P (underlying t):=by
 unfold Go.underlying;refine aT.program.bind fun p=> ?_;split
 ·exact aT.pure _
 ·exact(eu.stuck _).blind
theorem aT.sizeOf {P:Program} (t:TypeId):aT P (sizeOf t):=by
 unfold Go.sizeOf typeInfo;refine aT.bind (aT.program.bind fun p=> ?_) fun _=>aT.pure _;split
 ·exact aT.pure _
 ·exact(eu.stuck _).blind
theorem eu.runtimePanic {P:Program} {α:Type} (e:RuntimeError):eu P (runtimePanic e:Sem α):=by unfold Go.runtimePanic;refine mr fun p=> ?_;cases e<;>first | exact eu.goPanic _ | exact mr fun _=>mr fun _=>eu.goPanic _
theorem eu.boundsPanic {P:Program} {α:Type} (k:IntKind) (x y:Int) (c:BoundsCode):eu P (boundsPanic k x y c:Sem α):=by unfold Go.boundsPanic;dsimp only;split<;>exact mr fun _=>eu.runtimePanic _
theorem aT.asIntOf {P:Program} (v:Value):aT P (asIntOf v):=by
 unfold Go.asIntOf;split
 ·exact aT.pure _
 ·exact(eu.unsupported _).blind
 ·exact(eu.stuck _).blind
theorem aT.sureAddr {P:Program} (v:Value):aT P (Instr.sureAddr v):=by
 unfold Instr.sureAddr;split
 ·exact aT.pure _
 all_goals first | exact(eu.runtimePanic _).blind | exact(eu.stuck _).blind | exact(eu.unsupported _).blind
theorem aT.indexAt {P:Program} (t:TypeId) (x i:Value):aT P (Instr.indexAt t x i):=by
 unfold Instr.indexAt
 repeat' first
  | exact aT.pure _
  | exact aT.asIntOf _
  | exact aT.underlying _
  | exact aT.sizeOf _
  | exact aT.sureAddr _
  | exact(eu.stuck _).blind
  | exact(eu.unsupported _).blind
  | exact(eu.boundsPanic _ _ _ _).blind
  | refine aT.bind ?_ (fun _=> ?_)
  | split
  | dsimp only
theorem aT.sliceBound {P:Program} (v:Value) (y:Nat) (c:BoundsCode):aT P (Instr.sliceBound v y c):=by
 unfold Instr.sliceBound;refine(aT.asIntOf v).bind fun ki=> ?_;dsimp only;split
 ·exact aT.pure _
 ·exact(eu.boundsPanic _ _ _ _).blind
theorem aT.sliceBounds {P:Program} (b:Bool) (len cap:Nat) (lo hi mx:Option Value):aT P (Instr.sliceBounds b len cap lo hi mx):=by
 unfold Instr.sliceBounds
 repeat' first
  | exact aT.pure _
  | exact aT.sliceBound _ _ _
  | exact(eu.stuck _).blind
  | refine aT.bind ?_ (fun _=> ?_)
  | split
  | dsimp only
theorem aT.asAddr {P:Program} (v:Value):aT P (asAddr v):=by
 unfold Go.asAddr;split
 all_goals first | exact aT.pure _ | exact(eu.runtimePanic _).blind | exact(eu.stuck _).blind | exact(eu.unsupported _).blind
theorem aT.slice {P:Program} (t:TypeId) (x:Value) (lo hi mx:Option Value):aT P (Instr.slice t x lo hi mx):=by
 unfold Instr.slice
 repeat' first
  | exact aT.pure _
  | exact aT.sliceBounds _ _ _ _ _ _
  | exact aT.underlying _
  | exact aT.sizeOf _
  | exact aT.asAddr _
  | exact(eu.stuck _).blind
  | refine aT.bind ?_ (fun _=> ?_)
  | split
  | dsimp only
theorem aT.sliceAt {P:Program} (t:TypeId) (x:Value) (lo hi mx:Option Value):aT P (Instr.sliceAt t x lo hi mx):=by
 unfold Instr.sliceAt;refine(aT.underlying t).bind fun d=> ?_;split
 ·exact(aT.sureAddr _).bind fun _=>(aT.sliceBounds _ _ _ _ _ _).bind fun _=>(aT.sizeOf _).bind fun _=>aT.pure _
 ·exact aT.slice _ _ _ _ _
theorem aT.makeInterface {P:Program} (t:TypeId) (x:Value):aT P (Instr.makeInterface t x):=by
 unfold Instr.makeInterface;refine(aT.underlying t).bind fun d=> ?_;split
 ·exact(eu.stuck _).blind
 ·exact aT.pure _
theorem aT.neg {P:Program} (x:Value):aT P (Op.unary .neg x):=by unfold Op.unary;split<;>first | exact aT.pure _ | exact(eu.stuck _).blind | exact(eu.unsupported _).blind | (rename_i h;cases h)
theorem DT {P:Program} {op:BinOp} (t:TypeId) (k k':IntKind) (x y:Int) (h:op= .add∨op= .sub):aT P (binOp op t (.int k x) (.int k' y)):=by
 rcases h with rfl | rfl <;> (
  unfold binOp;dsimp only;split
  ·exact(eu.stuck _).blind
  ·exact aT.pure _)
theorem jg {P : Program} {c : C} {s : Sem Value} {ev : Operand → Value} {o : Oper} {v : V} (hb : aT P s) (he : execOp ev o = (do pure (Next.value (← s))))
 (hy:jv P (fun x w'=>WExt c.w w'∧VRel {c with w:=w'} v x) ((execOp ev o).run P c.w)):∃x,(∀w',(execOp ev o).run P w'= .ok (.value x) w')∧VRel c v x:=by
 rw[he]at hy ⊢;rw[Sem.run_bind]at hy;cases hr:s.run P c.w with
 | ok a w2=>have h2:=hb _ a w2 hr;have e:=(h2 c.w).symm.trans hr;cases e;rw[hr]at hy;refine⟨a,fun w'=> ?_,hy.2⟩;rw[Sem.run_bind,h2 w'];rfl
 | halt a b=>rw[hr]at hy;exact hy.elim
def o6 (P : Program) : Op → Bool
 | .move _ | .assign _=>true
 | .fieldAddr s _ f=>match P.underlying s with
  | some (.struct fs)=>match fs[f]? with
   | some fd=>match P.info? fd.type with
    | some i=>i.size != 0
    | none=>false
   | none=>false
  | _=>false
 | _=>false
theorem Ov {P:Program} {o:Oper} (hp:o6 P o.op=true) (ev:Operand→Value) {w:World} {x:Value} (h:(execOp ev o).run P w= .ok (.value x) w) (w':World) :
 (execOp ev o).run P w'= .ok (.value x) w':=by
 cases hop:o.op<;>rw[hop]at hp<;>simp only[o6,Bool.false_eq_true]at hp
 case move y =>
  have e1:execOp ev o=pure (Next.value (ev y)):=by simp[execOp,hop]
  rw[e1]at h ⊢;simp only[Sem.run_pure,Result.ok.injEq,Next.value.injEq,and_true]at h ⊢;exact h
 case assign y =>
  have e1:execOp ev o=pure (Next.value (ev y)):=by simp[execOp,hop]
  rw[e1]at h ⊢;simp only[Sem.run_pure,Result.ok.injEq,Next.value.injEq,and_true]at h ⊢;exact h
 case fieldAddr s y f =>
  have e1:execOp ev o=(do pure (Next.value (←Instr.fieldAt s (ev y) f))):=by simp[execOp,hop]
  rw[e1]at h ⊢
  revert h
  split at hp
  ·rename_i fs hu;split at hp
   ·rename_i fd hf;split at hp
    ·rename_i i hi;have hsz : ¬ i.size = 0 := by simpa using hp
     unfold Instr.fieldAt underlying;simp only[Sem.run_bind,run_program,Result.andThen,hu,Sem.run_pure,hf];cases ev y<;>simp[Instr.sureAddr,Result.andThen,stuck];rename_i a;cases a<;>simp[Instr.sureAddr,Result.andThen,stuck,fieldPlace,sizeOf,typeInfo,hi,hsz]
    ·cases hp
   ·cases hp
  ·cases hp
def o7 : Op → Bool
 | .nilCheck _ | .unOp .neg _ _ | .indexAddr _ _ _ | .slice _ _ _ _ _ | .makeInterface _ _=>true
 | .binOp .add _ _ (.const (.int _ _)) _ | .binOp .sub _ _ (.const (.int _ _)) _=>true
 | _=>false
def oN (P:Program) (o:Op):Bool:=o6 P o||o7 o
theorem Ht {P:Program} {o:Oper} (hp:oN P o.op=true):(∀c,o.op≠ .call c)∧(∀c,o.op≠ .defer c)∧∀cs b,o.op≠ .select cs b:=by cases hop:o.op<;>rw[hop]at hp<;>simp[oN,o6,o7]at hp ⊢
def jA (ops:Array Oper):Bool:=ops.toList.all fun o=>match o.op with | .defer _ | .select _ _=>false | _=>true
theorem mD {ops:Array Oper} (h:jA ops=true) {j:Nat} {o:Oper} (hj:ops[j]? =some o):(∀c,o.op≠ .defer c)∧∀cs b,o.op≠ .select cs b:=by
 have:o∈ops.toList:=by rw[Array.mem_toList_iff];exact Array.mem_of_getElem? hj
 have:=(List.all_eq_true.1 h) o this;cases hop:o.op<;>rw[hop]at this<;>simp at this ⊢
section
variable {e:E} {n:Nat} {r:Option Nat} {ops:Array Oper} {md:Region.Mode} {Q:Exit→Act→World→Prop} {P:Program}
theorem qi {i:Nat} {o:Oper} {v:Value} {a:Act} (hp:oN P o.op=true) (hi:ops[i]? =some o) (hy:Yields P ops o v a) {K:Act→World→Prop} {w:World} (h:K (a.put o.dst v) w) :
 wpOpIn (RF r) 0 P ops Q i K a w:=by
 unfold Go.wpOpIn;simp only[hi];rcases hy with⟨hw,hv⟩ | ⟨hw,rfl⟩
 ·rw[if_pos hw];refine⟨fun g _=>ig r g,?_⟩;rw[dO,Oper.semAt_eq r a.eval o (Ht hp).2.1,hv w];exact h
 ·rw[if_neg (by rw[hw];simp)];exact⟨fun g _=>ig r g,h⟩
theorem DU {j : Nat} {oi oj : Oper} {v : Value} (hj : ops[j]? = some oj) (hap : oi.apart ops oj = true)
 (hsi:∀cs b,oi.op≠ .select cs b) (hsj:∀cs b,oj.op≠ .select cs b) (hdj:∀c,oj.op≠ .defer c)
 (hQ:∀c a w,Q (.panic c) (a.put oi.dst v) w→Q (.panic c) a w) {K:Act→World→Prop} {a:Act} {w:World}
 (hy:Yields P ops oi v a) (h:wpOpIn (RF r) 0 P ops Q j K (a.put oi.dst v) w) :
 wpOpIn (RF r) 0 P ops Q j (fun a' w'=>Yields P ops oi v a'∧K (a'.put oi.dst v) w') a w:=by
 obtain⟨h1,h2,h3⟩:=Oper.apart_spec hap;have keep:∀(a:Act),Yields P ops oi v a→∀u,Yields P ops oi v (a.put oj.dst u):=fun a hy u =>
  hy.of_same (execOp_put oi hsi a oj.dst u h3) (wanted_put oi a oj.dst u h3)
 have keepD:∀d,Yields P ops oi v {a with defers:=d::a.defers}:=fun d=>hy.of_same rfl rfl;unfold wpOpIn at *;simp only[hj]at *;rw[wanted_put oj a oi.dst v h1]at h;split
 ·rename_i hw;simp only[hw,if_true]at h;unfold Oper.wpIn at *;refine⟨fun g _=>ig r g,?_⟩;have h:=h.2;rw[dO,Oper.semAt_eq r _ oj hdj,execOp_put oj hsj a oi.dst v h1]at h;rw[dO,Oper.semAt_eq r _ oj hdj];generalize (execOp a.eval oj).run P w=rr at *;cases rr with
  | ok x w' =>
   cases x<;>simp only[Oper.uponIn]at h ⊢
   case value u=>exact⟨keep a hy u,by rw[←Act.put_comm a v u h2];exact h⟩
   case skip=>exact⟨keep a hy _,by rw[←Act.put_comm a v undef h2];exact h⟩
   case defer d =>
    refine⟨keep _ (keepD d) _,?_⟩;rw[←Act.put_comm _ v undef h2,←Act.put_defers];exact h
   case enter f args =>
    refine⟨h.1,CallsIn.mono h.2 fun e w'' he=> ?_⟩;cases e with
    | returned u=>exact⟨keep a hy u,by rw[←Act.put_comm a v u h2];exact he⟩
    | panicked c=>exact hQ _ _ _ he
    | outgrown=>exact he
   case row row args=>exact⟨h.1,RowsIn.mono h.2 fun u w'' he=>⟨keep a hy u,by rw[←Act.put_comm a v u h2];exact he⟩⟩
   case round l f tmps assign body =>
    refine⟨h.1,RoundIn.mono h.2 fun e w'' he=> ?_⟩;cases e with
    | returned u=>exact⟨keep a hy u,by rw[←Act.put_comm a v u h2];exact he⟩
    | panicked c=>exact hQ _ _ _ he
    | outgrown=>exact he
  | halt x w' =>
   cases x<;>simp only[Oper.uponIn]at h ⊢
   case panic u=>exact hQ _ _ _ h
 ·rename_i hw;simp only[hw]at h;exact⟨fun g _=>ig r g,keep a hy _,by rw[←Act.put_comm a v undef h2];exact h.2⟩
theorem kW {i : Nat} {oi : Oper} {v : Value} (hp : oN P oi.op = true) (hi : ops[i]? = some oi) (hpl : jA ops = true)
 (hQ:∀c a w,Q (.panic c) (a.put oi.dst v) w→Q (.panic c) a w) :
 ∀(fuel:Nat) (listed:Array Bool) (a:Act) (w:World),
  (∀j oj,ops[j]? =some oj→j≠i→listed.getD j true=false→(∀e∈oj.after,Region.binds md e=true→e.on≠i)→oi.apart ops oj=true) →
  i∈Region.ready md ops listed→Yields P ops oi v a →
  wpAnyIn (RF r) 0 P md ops Q fuel (listed.setIfInBounds i true) (a.put oi.dst v) w→wpAnyIn (RF r) 0 P md ops Q (fuel+1) listed a w:=by
 intro fuel
 induction fuel with
 | zero =>
  intro listed a w _ hr hy H;refine⟨fun h=>(by rw[h]at hr;cases hr),fun j hj=> ?_⟩;by_cases hji:j=i
  ·subst hji;exact qi hp hi hy H
  ·have:=ready_mono hj hji;rw[H.1]at this;cases this
 | succ fuel ih =>
  intro listed a w hfree hr hy H;refine⟨fun h=>(by rw[h]at hr;cases hr),fun j hj=> ?_⟩;by_cases hji:j=i
  ·subst hji;exact qi hp hi hy H
  ·have h1:=H.2 j (ready_mono hj hji);obtain⟨hjun,oj,hoj,hall⟩:=mem_ready.1 hj;have hnot:∀e∈oj.after,Region.binds md e=true→e.on≠i:=fun e he hb heq=>by
    have h1:=hall e he hb;have h0:=(mem_ready.1 hr).1;rw[heq]at h1;rcases Nat.lt_or_ge i listed.size with h' | h'
    ·simp[h']at h0 h1;rw[h0]at h1;cases h1
    ·simp[Array.getElem?_eq_none h']at h1
   have h2:=DU hoj (hfree j oj hoj hji hjun hnot) (mD hpl hi).2 (mD hpl hoj).2 (mD hpl hoj).1 hQ hy h1;have hfree':∀k ok,ops[k]? =some ok→k≠i→(listed.setIfInBounds j true).getD k true=false →
    (∀e∈ok.after,Region.binds md e=true→e.on≠i)→oi.apart ops ok=true:=fun k ok hk hki hun hno=>by
    refine hfree k ok hk hki ?_ hno;by_cases hjk:j=k
    ·subst hjk;exact hjun
    ·rw[getD_set_ne true hjk]at hun;exact hun
   refine wpOpIn_mono (fun a' w' h3=>ih (listed.setIfInBounds j true) a' w' hfree' (ready_mono hr (Ne.symm hji)) h3.1 ?_) h2;rw[Array.setIfInBounds_comm _ _ hji];exact h3.2
end
inductive Plan where
 | fin
 | take (i:Nat) (p:Plan)
 | one (i:Nat) (p:Plan)
 | alt (i:Nat) (p:Plan) (q:Plan)
def Plan.heads : Plan → List Nat
 | .one i _=>[i]
 | .alt i _ q=>i::q.heads
 | _=>[]
def bG (P : Program) (ops : Array Oper) : Plan → Nat → Array Bool → Bool
 | .fin,_,listed=>(Region.ready .any ops listed).isEmpty
 | .take i p,fuel,listed=>match fuel,ops[i]? with
  | fuel+1,some o=>oN P o.op&&(Region.ready .any ops listed).contains i&&Region.free .any ops listed i&&bG P ops p fuel (listed.setIfInBounds i true)
  | _,_=>false
 | .one i p,fuel,listed=>match fuel with
  | fuel+1=>(Region.ready .any ops listed==[i])&&bG P ops p fuel (listed.setIfInBounds i true)
  | _=>false
 | .alt i p q,fuel,listed=>match fuel with
  | fuel+1=>(Region.ready .any ops listed==i::q.heads)&&bG P ops p fuel (listed.setIfInBounds i true)&&planAlts P ops q fuel listed
  | _=>false
where planAlts (P : Program) (ops : Array Oper) : Plan → Nat → Array Bool → Bool
 | .one i p,fuel,listed=>bG P ops p fuel (listed.setIfInBounds i true)
 | .alt i p q,fuel,listed=>bG P ops p fuel (listed.setIfInBounds i true)&&planAlts P ops q fuel listed
 | _,_,_=>false
def Dq (e:E) (n:Nat) (ops:Array Oper) (i:Nat) (Kn:Fr→H→Prop) (Q:XE→Fr→H→Prop) (f:Fr) (h:H):Prop :=
 match ops[i]? with
 | some o=>match gd ops f o with
  | none=>False
  | some g=>jh n o.dst=true ∧
   match jO o.op with
   | true=>Dp g e n o Kn Q f h
   | false=>PV.go g (sV e.P o (f.ev e) h) o.dst Kn f h
 | none=>False
def gI (e : E) (n : Nat) (ops : Array Oper) (Q : XE → Fr → H → Prop) : Plan → Fr → H → Prop
 | .fin,f,h=>Q .normal f h
 | .take i p,f,h=>Dq e n ops i (gI e n ops Q p) Q f h
 | .one i p,f,h=>Dq e n ops i (gI e n ops Q p) Q f h
 | .alt i p q,f,h=>Dq e n ops i (gI e n ops Q p) Q f h∧gI e n ops Q q f h
section
variable {e:E} {n:Nat} {r:Option Nat} {ops:Array Oper} {Q:XE→Fr→H→Prop} {ok:Nat→Prop} {pl0:Nat→Option Nat} {w0:World}
theorem rq {i : Nat} {Kn : Fr → H → Prop} {f : Fr} {h : H} (hv : Dq e n ops i Kn Q f h) {K' : Act → World → Prop}
 (hk:∀f h pl w a,SSim e n ok pl0 w0 f h pl w a→Kn f h→K' a w) {pl:Nat→Option Nat} {w:World} {a:Act} (s:SSim e n ok pl0 w0 f h pl w a) :
 wpOpIn (RF r) 0 e.P ops (gJ e n ok pl0 w0 Q) i K' a w:=by
 unfold Dq at hv;unfold wpOpIn;split at hv
 ·rename_i o ho;simp only[ho];cases hg:gd ops f o with
  | none=>rw[hg]at hv;exact hv.elim
  | some g =>
   rw[hg]at hv;obtain⟨hd,hv⟩:=hv;have hw:=qY s.val hg;have nx:∀a' w',JE e n ok pl0 w0 Kn a' w'→K' a' w':=fun a' w' ⟨pl',f',h',s',hk'⟩=>hk _ _ _ _ _ s' hk';cases he:jO o.op with
   | true =>
    rw[he]at hv;dsimp only at hv;cases g with
    | true=>rw[if_pos hw];exact Oper.wpIn_mono nx (yP (r:=r) (hv.1 rfl) ok pl0 w0 pl w a s hd)
    | false=>rw[if_neg (by rw[hw];simp)];obtain⟨v,hv'⟩:=hv.2 rfl;exact⟨fun g _=>ig r g,hk _ _ _ _ _ (s.put hd (jM (g:=false) (v:=v) (fun hf=>by cases hf) (fun _=>rfl))) hv'⟩
   | false =>
    rw[he]at hv;dsimp only at hv;obtain⟨hc,hk'⟩:=hv;cases g with
    | true=>rw[if_pos hw];exact Oper.wpIn_mono nx (lu (K:=Kn) (nK (hc rfl)) hk' ok pl0 w0 pl w a s hd)
    | false=>rw[if_neg (by rw[hw];simp)];exact⟨fun g _=>ig r g,hk _ _ _ _ _ (s.put hd (jM (fun hf=>by cases hf) (fun _=>rfl))) hk'⟩
 ·exact hv.elim
theorem o8 {i:Nat} {o:Oper} (ho:ops[i]? =some o) (hp:oN e.P o.op=true) {Kn:Fr→H→Prop} {f:Fr} {h:H} (hv:Dq e n ops i Kn Q f h) {pl:Nat→Option Nat} {w:World} {a:Act} (s:SSim e n ok pl0 w0 f h pl w a) :
 ∃x f',Yields e.P ops o x a∧SSim e n ok pl0 w0 f' h pl w (a.put o.dst x)∧Kn f' h:=by
 unfold Dq at hv;rw[ho]at hv;dsimp only at hv;cases hg:gd ops f o with
 | none=>rw[hg]at hv;exact hv.elim
 | some g =>
  rw[hg]at hv;obtain⟨hd,hv⟩:=hv;have hw:=qY s.val hg;have he:jO o.op=false:=by
   have hp':=hp;cases hop:o.op with
   | binOp op t x y u=>rw[hop]at hp';cases op<;>simp[oN,o6,o7]at hp'<;>rfl
   | _=>rw[hop]at hp';simp[oN,o6,o7,jO]at hp' ⊢
  rw[he]at hv;dsimp only at hv;obtain⟨hc,hk'⟩:=hv;cases g with
  | true =>
   have this:=nK (e:=e) (hc rfl) ok pl w a.eval s.hs s.evs;have hq:(sV e.P o (f.ev e) h).1:=hc rfl;have hrun:∃x,(∀w',(execOp a.eval o).run e.P w'= .ok (.value x) w')∧VRel (cx ok pl w) (sV e.P o (f.ev e) h).2 x:=by
    unfold oN at hp;rw[Bool.or_eq_true]at hp;rcases hp with hp | hp
    ·suffices hh:∃x,(execOp a.eval o).run e.P w= .ok (.value x) w∧VRel (cx ok pl w) (sV e.P o (f.ev e) h).2 x by
      obtain⟨x,h1,h2⟩:=hh;exact⟨x,Ov hp a.eval h1,h2⟩
     revert this
     cases hop:o.op<;>rw[hop]at hp<;>simp only[o6,Bool.false_eq_true]at hp
     case move y =>
      have e1:execOp a.eval o=pure (Next.value (a.eval y)):=by simp[execOp,hop]
      rw[e1];rintro⟨_,hv⟩;exact⟨_,rfl,hv⟩
     case assign y =>
      have e1:execOp a.eval o=pure (Next.value (a.eval y)):=by simp[execOp,hop]
      rw[e1];rintro⟨_,hv⟩;exact⟨_,rfl,hv⟩
     case fieldAddr st y fi =>
      intro this;simp only[sV,hop,PV.and]at hq ⊢;have h1:=(s.ev y).sv hq.1;obtain⟨x,hx1,hx2⟩:=oM (P:=e.P) (t:=st) (f:=fi) h1 hq.2;have e1:execOp a.eval o=(do pure (Next.value (←Instr.fieldAt st (a.eval y) fi))):=by simp[execOp,hop]
      exact⟨x,by rw[e1];exact fU hx1,hx2⟩
    ·cases hop:o.op with
     | nilCheck y =>
      simp only[sV,hop]at hq ⊢;have key:(f.ev e y).sc→(∃ad,a.eval y= .pointer (some ad))→VRel (cx ok pl w) (f.ev e y).sv (a.eval y)→∃x,(∀w',(execOp a.eval o).run e.P w'= .ok (.value x) w')∧VRel (cx ok pl w) (f.ev e y).sv x:=by
       rintro _ ⟨ad,h1⟩ h2;exact⟨a.eval y,fun w'=>by simp[execOp,hop,h1],h2⟩
      split at hq
      ·rename_i id off hx;have h1:=(s.ev y).sv hq;have h2:=h1;rw[hx]at h1;simp only[VRel]at h1;obtain⟨b,_,h4⟩:=h1;have:=key hq ⟨_,h4⟩ h2;rw[hx]at this;exact this
      ·rename_i ee hx;have h1:=(s.ev y).sv hq;have h2:=h1;rw[hx]at h1;simp only[VRel]at h1;obtain⟨b,off,ev2,h4,_⟩:=h1;have:=key hq ⟨_,h4⟩ h2;rw[hx]at this;exact this
      ·exact hq.elim
     | unOp op t y=>rw[hop]at hp;cases op<;>simp[o7]at hp;exact jg (c:=cx ok pl w) (s:=Op.unary .neg (a.eval y)) (aT.neg _) (by simp[execOp,hop]) this
     | indexAddr t y i=>exact jg (c:=cx ok pl w) (s:=Instr.indexAt t (a.eval y) (a.eval i)) (aT.indexAt _ _ _) (by simp[execOp,hop]) this
     | slice t y lo hi mx=>exact jg (c:=cx ok pl w) (s:=Instr.sliceAt t (a.eval y) (lo.map a.eval) (hi.map a.eval) (mx.map a.eval)) (aT.sliceAt _ _ _ _ _) (by simp[execOp,hop]) this
     | makeInterface t y=>exact jg (c:=cx ok pl w) (s:=Instr.makeInterface t (a.eval y)) (aT.makeInterface _ _) (by simp[execOp,hop]) this
     | binOp op t y z u =>
      rw[hop]at hp;obtain⟨hop2,k',n',hz⟩:(op= .add∨op= .sub)∧∃k' n',z= .const (.int k' n'):=by
       unfold o7 at hp;split at hp<;>first | (rename_i hx;cases hx;done) | skip
       all_goals first | (rename_i hx;cases hx;exact⟨.inl rfl,_,_,rfl⟩) | (rename_i hx;cases hx;exact⟨.inr rfl,_,_,rfl⟩) | cases hp
      subst hz;have hq2:(yx e.P op t (f.ev e y).sv (f.ev e (.const (.int k' n'))).sv).1∧(f.ev e y).sc:=by
       rcases hop2 with rfl | rfl<;>(simp only[sV,hop,PV.and]at hq;have hq9:=hq.2;change (xy e.P _ t _ (.int k' n')).1 at hq9;rw[G9]at hq9;exact⟨hq9,hq.1.1⟩)
      have h1:=(s.ev y).sv hq2.2;have hev:a.eval (.const (.int k' n'))= .int k' n':=rfl;have hblind:aT e.P (do eqGuard op t y (.const (.int k' n')) (a.eval y) (a.eval (.const (.int k' n')));binOp op t (a.eval y) (a.eval (.const (.int k' n')))):=by
       have hg:∀w',(eqGuard op t y (.const (.int k' n')) (a.eval y) (a.eval (.const (.int k' n')))).run e.P w'= .ok () w':=fun w'=>oV w' (.inl ⟨by rw[hev];simp,by rw[hev];simp⟩);refine aT.bind (fun w x w1 hr w'=> ?_) fun _=> ?_
       ·cases x;exact hg w'
       ·rw[hev];have hq3:=hq2.1;have hcv:(f.ev e (.const (.int k' n'))).sv= .int k' n':=rfl;rw[hcv]at hq3;unfold yx at hq3;cases hvy:(f.ev e y).sv with
        | int k m=>rw[hvy]at h1;simp only[VRel]at h1;rw[h1];exact DT _ _ _ _ _ hop2
        | _ =>
         rw[hvy]at hq3;exfalso
         revert hq3
         rcases hop2 with rfl | rfl<;>(dsimp only;split<;>first | exact fun h=>h | (split<;>exact fun h=>h))
      exact jg (c:=cx ok pl w) hblind (by simp[execOp,hop]) this
     | _=>rw[hop]at hp;simp[o7]at hp
   obtain⟨x,hx1,hx2⟩:=hrun;exact⟨x,_,.inl ⟨hw,hx1⟩,s.put hd hx2,hk'⟩
  | false=>exact⟨undef,_,.inr ⟨hw,rfl⟩,s.put hd (jM (fun hf=>by cases hf) (fun _=>rfl)),hk'⟩
theorem fA (hQ:∀v f h,¬Q (.pan v) f h) (hpl:jA ops=true):∀(p:Plan),
 (∀(fuel:Nat) (listed:Array Bool) (f:Fr) (h:H),bG e.P ops p fuel listed=true→gI e n ops Q p f h→∀pl w a,SSim e n ok pl0 w0 f h pl w a→wpAnyIn (RF r) 0 e.P .any ops (gJ e n ok pl0 w0 Q) fuel listed a w) ∧
 (∀(fuel:Nat) (listed:Array Bool) (f:Fr) (h:H),bG.planAlts e.P ops p fuel listed=true→gI e n ops Q p f h→∀pl w a,SSim e n ok pl0 w0 f h pl w a →
  ∀i∈p.heads,wpOpIn (RF r) 0 e.P ops (gJ e n ok pl0 w0 Q) i (wpAnyIn (RF r) 0 e.P .any ops (gJ e n ok pl0 w0 Q) fuel (listed.setIfInBounds i true)) a w)
 | .fin=>by refine⟨fun fuel listed f h hp hv pl w a s=> ?_,fun fuel listed f h hp hv pl w a s i hi=>(by simp[Plan.heads]at hi)⟩;simp only[bG,List.isEmpty_iff]at hp;exact wpAnyIn_done hp ⟨pl,f,h,.normal,s,trivial,hv⟩ fuel
 | .take i p=>by
  refine⟨fun fuel listed f h hp hv pl w a s=> ?_,fun fuel listed f h hp hv pl w a s i hi=>(by simp[Plan.heads]at hi)⟩;simp only[bG]at hp;split at hp
  ·rename_i fuel o ho;simp only[Bool.and_eq_true]at hp;obtain⟨⟨⟨h1,h2⟩,h3⟩,h4⟩:=hp;obtain⟨x,f',hy,s',hk⟩:=o8 ho h1 hv s;refine kW h1 ho hpl ?_ fuel listed a w (Region.free_spec ho h3) (by simpa using h2) hy ((fA hQ hpl p).1 fuel _ f' h h4 hk pl w _ s');rintro c a w ⟨pl',f',h',xe,_,hx,hq⟩;cases xe<;>first | exact hx.elim | exact(hQ _ _ _ hq).elim
  ·cases hp
 | .one i p=>by
  refine⟨fun fuel listed f h hp hv pl w a s=> ?_,fun fuel listed f h hp hv pl w a s j hj=> ?_⟩
  ·simp only [bG] at hp;split at hp
   ·rename_i fuel;simp only[Bool.and_eq_true,beq_iff_eq]at hp;refine⟨fun h0=>(by rw[hp.1]at h0;cases h0),fun j hj=> ?_⟩;rw[hp.1]at hj;simp only[List.mem_singleton]at hj;subst hj;exact rq hv (fun f h pl w a s hk=>(fA hQ hpl p).1 fuel _ f h hp.2 hk pl w a s) s
   ·cases hp
  ·simp only[bG.planAlts]at hp;simp only[Plan.heads,List.mem_singleton]at hj;subst hj;exact rq hv (fun f h pl w a s hk=>(fA hQ hpl p).1 fuel _ f h hp hk pl w a s) s
 | .alt i p q=>by
  refine⟨fun fuel listed f h hp hv pl w a s=> ?_,fun fuel listed f h hp hv pl w a s j hj=> ?_⟩
  ·simp only [bG] at hp;split at hp
   ·rename_i fuel;simp only [Bool.and_eq_true,beq_iff_eq] at hp;obtain ⟨⟨h1,h2⟩,h3⟩ := hp;refine ⟨fun h0 => (by rw [h1] at h0;cases h0),fun j hj => ?_⟩;rw [h1] at hj;rcases List.mem_cons.1 hj with rfl | hj
    ·exact rq hv.1 (fun f h pl w a s hk=>(fA hQ hpl p).1 fuel _ f h h2 hk pl w a s) s
    ·exact(fA hQ hpl q).2 fuel listed f h h3 hv.2 pl w a s j hj
   ·cases hp
  ·simp only [bG.planAlts,Bool.and_eq_true] at hp;rcases List.mem_cons.1 hj with rfl | hj
   ·exact rq hv.1 (fun f h pl w a s hk=>(fA hQ hpl p).1 fuel _ f h hp.1 hk pl w a s) s
   ·exact(fA hQ hpl q).2 fuel listed f h hp.2 hv.2 pl w a s j hj
def uP (R : Fr → H → Prop) : XE → Fr → H → Prop
 | .normal=>R
 | _=>fun _ _=>False
theorem bY (hm : e.P.follows .mixedOrders = true) {id : Nat} (p : Plan) (R : Fr → H → Prop) {f : Fr} {h : H} (hp : bG e.P ops p ops.size (Array.replicate ops.size false) = true) (hpl : jA ops = true)
 (hv:gI e n ops (uP R) p f h) (hk:∀f h,R f h→Q .normal f h):awp e n r (.region id ops true) Q f h:=by
 intro ok pl0 w0 pl w a s;have x : WExt w { w with drawn := w.drawn + 1 } := WExt.drew w;have := (fA (e := e) (n := n) (r := r) (ops := ops) (Q := uP R) (ok := ok) (pl0 := pl0) (w0 := w0) (fun v f h hh => hh) hpl p).1 ops.size _ f h hp hv pl _ a (s.next0 (s.hs.wext x) (x.keeps s.hs));refine wpIn_mono (wpIn_region_any hm this) ?_;rintro ex a' w' ⟨pl',f',h',xe,s',hx,hq⟩;cases xe <;> first
  | exact⟨pl',f',h',_,s',hx,hk _ _ hq⟩
  | exact hq.elim
theorem nP.mk {b:Bool} {l:List UInt8} {pos id:Nat} {dst:Option Tmp} {Kn:Fr→H→Prop} {f:Fr} {h:H} (h1:b=true→nP true l pos id dst Kn f h) (h2:b=false→nP false l pos id dst Kn f h):nP b l pos id dst Kn f h:=by
 cases b
 ·exact h2 rfl
 ·exact h1 rfl
theorem bD {p:Nat→Bool} {cs:List V}:(O.cells cs).drop p= .cells (V.drops p cs):=rfl
theorem jI {p:Nat→Bool} {ks vs:List V}:(O.map ks vs).drop p= .map (V.drops p ks) (V.drops p vs):=rfl
theorem DV {p:Nat→Bool} {m:Misc}:(O.misc m).drop p= .misc m:=rfl
theorem AO {p:Nat→Bool} {T:TypeId} {cs:List V}:(O.typed T cs).drop p= .typed T (V.drops p cs):=rfl
theorem DW {p:Nat→Bool}:O.dead.drop p= .dead:=rfl
theorem yT (v:V):V.guard false v= .grd false v:=rfl
theorem yU (g g' b want:Bool):yL (V.guard g (V.guard g' (.bool b))) want=some (g&&g'&&(b==want)):=by cases g<;>cases g'<;>cases want<;>cases b<;>rfl
theorem yV (g g' g'' b want:Bool):yL (V.guard g (V.guard g' (V.guard g'' (.bool b)))) want=some (g&&g'&&g''&&(b==want)):=by cases g<;>cases g'<;>cases g''<;>cases want<;>cases b<;>rfl
theorem Ul {f:Fr} {p:Nat→Bool} {i:Nat}:(f.drop p).t i=(f.t i).drop p:=rfl
theorem Um {f:Fr} {p:Nat→Bool}:(f.drop p).d=f.d:=rfl
theorem Hu {p:Nat→Bool} {l:List (List UInt8)}:V.drops p (l.map V.str)=l.map V.str:=by
 induction l with
 | nil=>rfl
 | cons a l ih=>simp only[List.map_cons,V.drops,V.drop,ih]
theorem DY {l:List (List UInt8)}:bF (l.map V.str)=true:=by
 induction l with
 | nil=>rfl
 | cons a l ih=>simp only[List.map_cons,bF,ih,V.one,Bool.and_self]
theorem DZ {l:List (List UInt8)}:dN 1 (l.map V.str)=true:=by
 induction l with
 | nil=>rfl
 | cons a l ih=>simp[dN,ih,V.fit,V.one,V.dat,V.vc]
theorem Kr {l:List (List UInt8)}:(l.map V.str).flatMap V.vc=l.map V.str:=by
 induction l with
 | nil=>rfl
 | cons a l ih=>simp only[List.map_cons,List.flatMap_cons,ih,V.vc,List.singleton_append]
theorem bK {l:List (List UInt8)}:V.dats (l.map V.str)=true:=by
 induction l with
 | nil=>rfl
 | cons a l ih=>simp only[List.map_cons,V.dats,ih,V.dat,Bool.and_self]
theorem kF {h:H} {id len cap:Nat} {l:List (List UInt8)} (hc:h[id]? =some (.cells (l.map V.str))) (hl:len=l.length):az e h (.ls id 1 0 len cap) (.is false 1 (l.map V.str)) :=
 az.ls hc (aj.dat bK) DZ Kr (by simpa using hl)
theorem Rf {i:Nat} {Kn:Fr→H→Prop} {f:Fr} {h:H}:Dq e n ops i Kn Q f h=(match ops[i]? with
 | some o=>match gd ops f o with
  | none=>False
  | some g=>jh n o.dst=true ∧
   match jO o.op with
   | true=>Dp g e n o Kn Q f h
   | false=>PV.go g (sV e.P o (f.ev e) h) o.dst Kn f h
 | none=>False):=rfl
theorem Hw {f:Fr} {h:H}:gI e n ops Q .fin f h=Q .normal f h:=rfl
theorem D5 {i:Nat} {p:Plan} {f:Fr} {h:H}:gI e n ops Q (.take i p) f h=Dq e n ops i (gI e n ops Q p) Q f h:=rfl
theorem Hy {i:Nat} {p:Plan} {f:Fr} {h:H}:gI e n ops Q (.one i p) f h=Dq e n ops i (gI e n ops Q p) Q f h:=rfl
theorem Hz {i:Nat} {p q:Plan} {f:Fr} {h:H}:gI e n ops Q (.alt i p q) f h=(Dq e n ops i (gI e n ops Q p) Q f h∧gI e n ops Q q f h):=rfl
end
section
variable {e:E} {n:Nat} {r:Option Nat} {f:Fr} {h:H} {Q:XE→Fr→H→Prop}
theorem AP {g:Operand} {ps:Array Tmp} {asg body:Code}:vc e n r (.rangeFunc g ps asg body) Q f h=awp e n r (.rangeFunc g ps asg body) Q f h:=rfl
theorem Un {p:Nat→Bool}:(f.drop p).k=fun i=>f.k i||p i:=rfl
theorem Uo {args:List V}:(Fr.init args).k=fun _=>false:=rfl
end
def VLe (v v':V):Prop:=∀c x,VRel c v x→VRel c v' x
def gK (vs vs':List V):Prop:=∀c xs,VList c vs xs→VList c vs' xs
theorem VLe.refl (v:V):VLe v v:=fun _ _ h=>h
theorem gK.nil:gK [] []:=fun _ _ h=>h
theorem gK.refl (vs:List V):gK vs vs:=fun _ _ h=>h
theorem gK.cons {v v':V} {vs vs':List V} (h1:VLe v v') (h2:gK vs vs'):gK (v::vs) (v'::vs'):=by intro c xs h;simp only[VList]at h ⊢;obtain⟨y,ys,rfl,h3,h4⟩:=h;exact⟨y,ys,rfl,h1 c y h3,h2 c ys h4⟩
theorem VLe.exact {k:Nat} {es:List V}:VLe (.is true k es) (.is false k es):=by intro c x h;simp only[VRel]at h ⊢;obtain⟨a,cp,h1,h2,h3,h4,h5⟩:=h;exact⟨a,cp,h1,h2,h3,fun hf=>(by cases hf),h5⟩
theorem VLe.nils {x:Bool} {k:Nat}:VLe .nils (.is x k []):=by intro c x h;simp only[VRel]at h ⊢;exact⟨none,0,h,Nat.le_refl _,Nat.zero_le _,fun _=>rfl,.inl trivial⟩
theorem VLe.agg {vs vs':List V} (h1:gK vs vs'):VLe (.agg vs) (.agg vs'):=by intro c x h;simp only[VRel]at h ⊢;obtain⟨cs,rfl,h2⟩:=h;exact⟨cs,rfl,h1 c _ h2⟩
theorem Ev.le {e:E} {g:FuncId} {args args':List V} {r:V} (h:gK args args') (hv:Ev e g args' r):Ev e g args r :=
 fun ok w vs hs hl=>hv ok w vs hs (h _ _ hl)
def Kt (id:Nat) (S:Option Code→H→(Nat→Bool)→Prop) (xe:XE) (f2:Fr) (h2:H):Prop :=
 match xe.jump,h2[id]? with
 | some j,some (.loop t n ps asg body st pend)=>f2.k id=false∧S j (h2.set id (.loop t n ps asg body (if j.isNone then .ready else .done) j)) f2.k
 | _,_=>False
def EX (e:E) (n:Nat) (l id:Nat) (body:Code) (S:Option Code→H→(Nat→Bool)→Prop) (f1:Fr) (h1:H):Prop :=
 match h1[id]? with
 | some (.loop t n' ps asg body' .ready pend)=>f1.k id=false∧awp e n (some l) body (Kt id S) f1 (h1.set id (.loop t n' ps asg body' .busy pend))
 | _=>False
def Wj (e:E) (id:Nat) (vs:List V) (h:H) (S:Option Code→H→(Nat→Bool)→Prop):Prop :=
 ∃t n' ps asg body pend,h[id]? =some (.loop t n' ps asg body .ready pend)∧vs.length=ps.size∧(ps.toList.all fun p=>decide (p<n'))=true ∧
  ∀l,awp e n' (some l) asg (XE.seq (EX e n' l id body S) (fun _ _ _=>False)) (iM {t:=t} ps.toList vs) h
section
variable {e:E} {n:Nat} {f:Fr} {h:H} {Q:XE→Fr→H→Prop}
theorem uQ {n' id : Nat} {t : Nat → V} {ps : Array Tmp} {asg body : Code} {dst : Option Tmp} {Kn : Fr → H → Prop} {vs : List V} {S : Option Code → H → (Nat → Bool) → Prop}
 (hg:∀l,awp e n' (some l) asg (XE.seq (EX e n' l id body S) (fun _ _ _=>False)) (iM {t:=t} ps.toList vs) h)
 (hk:∀j h' p,p id=false→S j h' p→(∀i∈f.d,p i=false)∧Kn ((f.drop p).put dst (.bool j.isNone)) h'):Qo e n' id t ps asg body dst Kn f vs h:=by
 intro l;refine fO ?_ (hg l);intro xe f1 h1 hq;cases xe<;>try exact hq
 unfold XE.seq EX at hq;unfold XE.seq ER;dsimp only at hq ⊢;split at hq
 ·rename_i t1 n1 ps1 asg1 body1 pend1 hc;rw [hc];refine ⟨hq.1,fO ?_ hq.2⟩;intro xe f2 h2 hq2;unfold Kt at hq2;unfold JJ;split at hq2
  ·rename_i j t2 n2 ps2 asg2 body2 st2 pend2 hj hc2;rw[hj,hc2];dsimp only;obtain⟨g1,g2⟩:=hk j _ _ hq2.1 hq2.2;exact⟨⟨hq2.1,g1⟩,g2⟩
  ·exact hq2.elim
 ·exact hq.elim
end
inductive Sh where
 | str
 | bool
 | int (k:IntKind)
 | slice (e:Sh)
 | struct (fs:List Sh)
mutual
def Sh.size : Sh → Nat
 | .str | .bool | .int _ | .slice _=>1
 | .struct fs=>Sh.sizes fs
def Sh.sizes : List Sh → Nat
 | []=>0
 | s::ss=>s.size+Sh.sizes ss
end
def Wx (P : Program) (e : TypeId) (i : Nat) : Field := { name := "", type := e, offset := i * P.cellsOf e, embedded := false, tag := "", pkgPath := "", byteOffset := 0 }
def jQ (P:Program) (t:TypeId):Option (List Field):=match P.underlying t with
 | some (.struct gs)=>some gs.toList
 | some (.array n e)=>some ((List.range n).map (Wx P e))
 | _=>none
mutual
/-- Is a type of this shape? -/
def Sh.ok (P : Program) : Sh → TypeId → Bool
 | .str,t=>match P.underlying t with | some .string=>true | _=>false
 | .bool,t=>match P.underlying t with | some .bool=>true | _=>false
 | .int k,t=>match P.underlying t with | some (.int k')=>k'==k | _=>false
 | .slice e,t=>match P.underlying t with | some (.slice u)=>P.cellsOf u==e.size&&decide (0<e.size)&&e.ok P u | _=>false
 | .struct fs,t=>match jQ P t with | some gs=>P.cellsOf t==Sh.sizes fs&&Sh.oks P fs gs 0 | none=>false
def Sh.oks (P : Program) : List Sh → List Field → Nat → Bool
 | [],[],_=>true
 | s::ss,g::gs,off=>g.offset==off&&P.cellsOf g.type==s.size&&s.ok P g.type&&Sh.oks P ss gs (off+s.size)
 | _,_,_=>false
end
mutual
def Sh.Is : Sh → V → Prop
 | .str,v=>∃s,v= .str s
 | .bool,v=>∃b,v= .bool b
 | .int k,v=>∃n,v= .int k n∧(Lit.int k n).wf=true
 | .slice e,v=>∃es,v= .is false e.size es∧∀x∈es,Sh.Is e x
 | .struct fs,v=>∃vs,v= .agg (vs.flatMap V.vc)∧Sh.Iss fs vs
def Sh.Iss : List Sh → List V → Prop
 | [],vs=>vs=[]
 | s::ss,vs=>∃u us,vs=u::us∧Sh.Is s u∧Sh.Iss ss us
end
theorem qj {α β : Type} {f : α → Option β} : ∀ {l : List α} {r : List β},l.mapM f = some r → r.length = l.length ∧ ∀ (i : Nat) x,l[i]? = some x → ∃ y,f x = some y ∧ r[i]? = some y
 | [],r,h=>by simp at h;subst h;simp
 | a::l,r,h=>by
  rw[List.mapM_cons]at h;simp only[Option.bind_eq_bind,Option.bind_eq_some_iff,Option.pure_def,Option.some.injEq]at h;obtain⟨y,h1,ys,h2,rfl⟩:=h;obtain⟨h3,h4⟩:=qj h2;refine⟨by simp[h3],fun i x hx=> ?_⟩;cases i with
  | zero=>simp at hx;subst hx;exact⟨y,h1,rfl⟩
  | succ i=>simpa using h4 i x (by simpa using hx)
abbrev cw (w:World):C:=cx (fun _=>True) (fun _=>none) w
structure Took (c : C) (sh : Sh) (v : V) (cs : List Value) : Prop where
 is:sh.Is v
 fit:v.fit=true
 dat:v.dat=true
 len:v.vc.length=sh.size
 rel:VList c v.vc cs
theorem Took.one {c:C} {sh:Sh} {v:V} {x:Value} (h1:sh.Is v) (h2:v.one=true) (hd:v.dat=true) (hs:sh.size=1) (hr:VRel c v x):Took c sh v [x]:=by
 have hv:v.vc=[v]:=by cases v<;>first | rfl | simp[V.one]at h2
 refine⟨h1,by simp[V.fit,h2],hd,by rw[hv,hs];rfl,?_⟩;rw[hv];simp only[VList];exact⟨x,[],rfl,hr,rfl⟩
theorem AU : ∀ {vs : List V},(∀ v ∈ vs,V.dats v.vc = true) → V.dats (vs.flatMap V.vc) = true
 | [],_=>rfl
 | v::vs,h=>by
  have app:∀(a b:List V),V.dats (a++b)=(V.dats a&&V.dats b):=by
   intro a b
   induction a with
   | nil=>rfl
   | cons x a ih=>simp only[List.cons_append,V.dats,ih,Bool.and_assoc]
  rw[List.flatMap_cons,app,h v (by simp),AU fun u hu=>h u (by simp[hu])];rfl
theorem Ur {v:V} (h:v.dat=true):V.dats v.vc=true:=by cases v<;>first | (simp only[V.vc,V.dats,h,Bool.and_self];done) | (simp only[V.dat]at h;exact h)
section
variable {H:Type} {enc:TypeId×Value→H} {P:Program} {w:World}
theorem D6 {fuel:Nat} {t:TypeId} {gs:List Field} {cs:List Value} {d:DataW H} {ps:List MemPlace} (hu:jQ P t=some gs) (h:DataW.trod enc P w 0 (fun _=>true) true (fuel+1) t cs=some (d,ps)) :
 cs.length=P.cellsOf t∧∃xs,(gs.mapM fun f=>DataW.trod enc P w 0 (fun _=>true) true fuel f.type ((cs.drop f.offset).take (P.cellsOf f.type)))=some xs∧d= .agg (xs.map (·.1)):=by
 unfold jQ at hu;unfold DataW.trod at h;split at hu
 ·rename_i gs' hu';cases hu;rw [hu'] at h;dsimp only at h;split at h
  ·rename_i hlen2;rw[Option.map_eq_some_iff]at h;obtain⟨xs,hxs,hd⟩:=h;exact⟨hlen2,xs,hxs,by cases hd;rfl⟩
  ·cases h
 ·rename_i n e hu';cases hu;rw [hu'] at h;dsimp only at h;split at h
  ·rename_i hlen2;rw[Option.map_eq_some_iff]at h;obtain⟨xs,hxs,hd⟩:=h;refine⟨hlen2,xs,?_,by cases hd;rfl⟩;rw[List.mapM_map];exact hxs
  ·cases h
 ·cases hu
end
open Go.ChangeShapes
theorem WExt.below {w w':World} (x:WExt w w'):Below w.heap.size w w':=⟨x.os,x.tape,x.output,x.size,x.same⟩
section
variable {H:Type} {enc:TypeId×Value→H} {P:Program}
def VI : Sh → Value → Prop
 | .struct fs,v=>∃cs,v= .agg cs∧cs.size=Sh.sizes fs
 | _,v=>v.cells=#[v]
theorem wS {w:World} {r:Reach} {base:Nat} {sh:Sh} {t:TypeId} {v:Value} (hok:sh.ok P t=true) (h:Value.okWide P w r base t v):VI sh v:=by
 unfold Value.okWide at h;cases sh with
 | struct fs =>
  simp only[Sh.ok]at hok;split at hok
  ·rename_i gs hu;unfold jQ at hu;simp only [Bool.and_eq_true,beq_iff_eq] at hok;split at hu
   ·rename_i hu';rw[hu']at h;obtain⟨cs,h1,h2,_⟩:=h;exact⟨cs,h1,h2.trans hok.1⟩
   ·rename_i hu';rw[hu']at h;obtain⟨cs,h1,h2,_⟩:=h;exact⟨cs,h1,h2.trans hok.1⟩
   ·cases hu
  ·cases hok
 | str =>
  simp only[Sh.ok]at hok;split at hok
  ·rename_i hu;rw[hu]at h;cases v<;>simp only[Cell.okWide,Cell.ok,hu]at h<;>first | exact h.elim | rfl
  ·cases hok
 | bool =>
  simp only[Sh.ok]at hok;split at hok
  ·rename_i hu;rw[hu]at h;cases v<;>simp only[Cell.okWide,Cell.ok,hu]at h<;>first | exact h.elim | rfl
  ·cases hok
 | int k =>
  simp only[Sh.ok]at hok;split at hok
  ·rename_i k' hu;rw[hu]at h;cases v<;>simp only[Cell.okWide,Cell.ok,hu]at h<;>first | exact h.elim | rfl
  ·cases hok
 | slice e =>
  simp only[Sh.ok]at hok;split at hok
  ·rename_i u hu;rw[hu]at h;cases v<;>simp only[Cell.okWide,Cell.ok,hu]at h<;>first | exact h.elim | rfl
  ·cases hok
theorem Ox {c:C} {sh:Sh} {u:V} {v:Value} (hf:VI sh v) (ht:Took c sh u v.cells.toList):VRel c u v:=by
 have one:v.cells=#[v]→u.vc=[u]→VRel c u v:=by intro h1 h2;have:=ht.rel;rw[h1,h2]at this;simp only[VList]at this;obtain⟨y,ys,h3,h4,_⟩:=this;simp only[List.cons.injEq]at h3;rw[h3.1];exact h4
 cases sh with
 | struct fs=>obtain⟨cs,rfl,_⟩:=hf;have hi:=ht.is;simp only[Sh.Is]at hi;obtain⟨vs,rfl,_⟩:=hi;simp only[VRel];exact⟨cs,rfl,ht.rel⟩
 | str=>obtain⟨s,rfl⟩:=ht.is;exact one hf rfl
 | bool=>obtain⟨s,rfl⟩:=ht.is;exact one hf rfl
 | int k=>obtain⟨s,rfl,_⟩:=ht.is;exact one hf rfl
 | slice e=>have hi:=ht.is;simp only[Sh.Is]at hi;obtain⟨s,rfl,_⟩:=hi;exact one hf rfl
theorem Ku {sh:Sh} {v:Value} (hf:VI sh v):v.cells.size=sh.size:=by
 cases sh with
 | struct fs=>obtain⟨cs,rfl,h⟩:=hf;exact h
 | str=>rw[show v.cells=#[v]from hf];rfl
 | bool=>rw[show v.cells=#[v]from hf];rfl
 | int k=>rw[show v.cells=#[v]from hf];rfl
 | slice e=>rw[show v.cells=#[v]from hf];rfl
theorem qm {W W':World} (hl:laidOutB P=true) (hb:Below W.heap.size W W'):∀(ts:List TypeId) (vs:List Value) (ds:List (DataW H)) (ps:List MemPlace),
 (ts.all fun t=>P.readableRec t&&decide (t<P.types.size))=true→(∀x∈ps,x.block<W.heap.size)→DataW.TrodAll enc P W 0 (fun _=>true) true ts vs ds ps →
 DataW.TrodAll enc P W' 0 (fun b=>decide (b<W.heap.size)) true ts vs ds ps
 | [],vs,ds,ps,_,_,h=>by obtain⟨rfl,rfl,rfl⟩:=trodAll_nil h;exact trodAll_mk0
 | t::ts,vs,ds,ps,ht,hlt,h=>by obtain⟨v,vs',d,ds',p,q,rfl,rfl,rfl,h1,h2⟩:=trodAll_cons h;simp only[List.all_cons,Bool.and_eq_true,decide_eq_true_eq]at ht;exact⟨p,q,Below.trod hl ht.1.1 ht.1.2 h1 hb (fun x hx=>hlt x (by simp[hx])),qm hl hb ts vs' ds' q (by simpa using ht.2) (fun x hx=>hlt x (by simp[hx])) h2,rfl⟩
theorem EY {w : World} {base : Nat} {sp : Nat → Bool} {held : Bool} : ∀ {ts : List TypeId} {vs : List Value} {ds : List (DataW H)} {ps : List MemPlace},DataW.TrodAll enc P w base sp held ts vs ds ps → ds.length = ts.length
 | [],_,_,_,h=>by obtain⟨_,rfl,_⟩:=trodAll_nil h;rfl
 | t::ts,vs,ds,ps,h=>by obtain⟨v,vs',d,ds',p,q,rfl,rfl,rfl,_,h2⟩:=trodAll_cons h;simp[EY h2]
end
open Go
theorem Oy (b:Bool):V.dat (.bool b)=true:=by simp only[V.dat]
theorem Rh (k:IntKind) (n:Int):V.dat (.int k n)=true:=by simp only[V.dat]
theorem Ri (s:List UInt8):V.dat (.str s)=true:=by simp only[V.dat]
theorem Oz:V.dat (.nilp)=true:=by simp only[V.dat]
theorem Us (e:V):V.dat (.ip e)=true:=by simp only[V.dat]
theorem OA:V.dat (.nils)=true:=by simp only[V.dat]
theorem Ut (x:Bool) (k:Nat) (es:List V):V.dat (.is x k es)=true:=by simp only[V.dat]
theorem OB:V.dat (.nilm)=true:=by simp only[V.dat]
theorem Uu (ks vs:List V):V.dat (.im ks vs)=true:=by simp only[V.dat]
theorem OC:V.dat (.nilf)=true:=by simp only[V.dat]
theorem OD:V.dat (.nili)=true:=by simp only[V.dat]
theorem Uw (i o:Nat):V.dat (.lp i o)=false:=by simp only[V.dat]
theorem Ux (i k o l c:Nat):V.dat (.ls i k o l c)=false:=by simp only[V.dat]
theorem Uy (i:Nat):V.dat (.lm i)=false:=by simp only[V.dat]
theorem Rj (k:Nat) (es:List V):V.dat (.row k es)=false:=by simp only[V.dat]
theorem Rk (vs:List V):V.dat (.agg vs)=V.dats vs:=by simp only[V.dat]
theorem Kv (t:TypeId) (e:V):V.dat (.iface t e)=e.dat:=by simp only[V.dat]
theorem OE:V.dats []=true:=by simp only[V.dats]
theorem Kw (v:V) (vs:List V):V.dats (v::vs)=(v.dat&&V.dats vs):=by simp only[V.dats]
def sa0 :=
 PLift.up <|
 And.intro (@Go.Abs.Uh) <|
 And.intro (@Go.Abs.Hw) <|
 And.intro (@Go.Abs.D5) <|
 And.intro (@Go.Abs.Hy) <|
 And.intro (@Go.Abs.Hz) <|
 And.intro (@Go.Abs.Rf) <|
 And.intro (@Go.Abs.J4) <|
 And.intro (@Go.Abs.Om) <|
 And.intro (@List.all_cons.{0}) <|
 And.intro (@List.all_nil.{0}) <|
 And.intro (@Go.Abs.Ug) <|
 And.intro (@Go.Abs.QZ) <|
 And.intro (@Go.Abs.Ol) <|
 And.intro (@Go.Abs.Q3) <|
 And.intro (@Go.Abs.Q5) <|
 And.intro (@Go.Abs.AP) <|
 And.intro (@Go.Abs.Q4) <|
 And.intro (@Go.Abs.Hq) <|
 And.intro (@Go.Abs.J7) <|
 And.intro (@Go.Abs.J6) <|
 And.intro (@Go.Abs.AL) <|
 And.intro (@Go.Abs.DL) <|
 And.intro (@Go.Abs.DN) <|
 And.intro (@Go.Abs.Oq) <|
 And.intro (@Go.Abs.J9) <|
 And.intro (@Go.Abs.Q8) <|
 And.intro (@Go.Abs.Ko) <|
 And.intro (@Go.Abs.Hr) <|
 And.intro (@Go.Abs.Ui) <|
 @Go.Abs.VQ
def sa1 :=
 PLift.up <|
 And.intro (@Go.Abs.DR) <|
 And.intro (@Go.Abs.Ou) <|
 And.intro (@Go.Abs.Q9) <|
 And.intro (@Go.Abs.Uj) <|
 And.intro (@Go.Abs.Uk) <|
 And.intro (@Go.Abs.Hm) <|
 And.intro (@Go.Abs.Q7) <|
 And.intro (@Go.Abs.Oo) <|
 And.intro (@Go.Abs.AC) <|
 And.intro (@Go.Abs.Ho) <|
 And.intro (@Go.Abs.J5) <|
 And.intro (@Go.Abs.Ot) <|
 And.intro (@Go.Abs.J3) <|
 And.intro (@Go.Abs.Hf) <|
 And.intro (@Go.Abs.DD) <|
 And.intro (@Go.Abs.JI) <|
 And.intro (@Go.Abs.Oe) <|
 And.intro (@Go.Abs.JL) <|
 And.intro (@decide_true) <|
 And.intro (@decide_false) <|
 And.intro (@true_and) <|
 And.intro (@and_true) <|
 And.intro (@and_self) <|
 And.intro (@imp_self) <|
 And.intro (@implies_true.{0}) <|
 And.intro (@forall_const.{0}) <|
 And.intro (@forall_const.{1}) <|
 And.intro (@List.getD_cons_zero.{0}) <|
 And.intro (@List.getD_cons_succ.{0}) <|
 @List.length_nil.{0}
def sa2 :=
 PLift.up <|
 And.intro (@Bool.or_true) <|
 And.intro (@Bool.false_or) <|
 And.intro (@Bool.true_or) <|
 And.intro (@Bool.or_false) <|
 And.intro (@Bool.and_true) <|
 And.intro (@Bool.true_and) <|
 And.intro (@Bool.and_false) <|
 And.intro (@Bool.false_and) <|
 And.intro (@Bool.not_true) <|
 And.intro (@Bool.not_false) <|
 And.intro (@List.length_map.{0,0}) <|
 And.intro (@List.nil_append.{0}) <|
 And.intro (@List.cons_append.{0}) <|
 And.intro (@List.length_cons.{0}) <|
 And.intro (@List.getElem?_cons_zero.{0}) <|
 And.intro (@List.getElem?_cons_succ.{0}) <|
 And.intro (@cond_true.{1}) <|
 And.intro (@cond_false.{1}) <|
 And.intro (@Bool.cond_false_right) <|
 And.intro (@Bool.cond_true_right) <|
 And.intro (@Bool.cond_true_left) <|
 And.intro (@Bool.cond_false_left) <|
 And.intro (@List.map_cons.{0,0}) <|
 And.intro (@List.map_nil.{0,0}) <|
 And.intro (@List.append_nil.{0}) <|
 And.intro (@List.zip_cons_cons.{0,0}) <|
 And.intro (@beq_self_eq_true.{0}) <|
 And.intro (@Option.bind_some.{0,0}) <|
 And.intro (@List.append_eq.{0}) <|
 @List.forall_mem_cons.{0}
def sa3 :=
 PLift.up <|
 And.intro (@List.not_mem_nil.{0}) <|
 And.intro (@Go.Abs.Un) <|
 And.intro (@Go.Abs.VR) <|
 And.intro (@Go.Abs.Uo) <|
 And.intro (@beq_true) <|
 And.intro (@beq_false) <|
 And.intro (@Bool.false_eq_true) <|
 And.intro (@true_or) <|
 And.intro (@or_true) <|
 And.intro (@Go.Abs.Ul) <|
 And.intro (@Go.Abs.Um) <|
 And.intro (@Go.Abs.bD) <|
 And.intro (@Go.Abs.jI) <|
 And.intro (@Go.Abs.DV) <|
 And.intro (@Go.Abs.AO) <|
 And.intro (@Go.Abs.DW) <|
 And.intro (@Go.Abs.Hu) <|
 And.intro (@Go.Abs.kT) <|
 And.intro (@false_imp_iff) <|
 And.intro (@List.take_zero.{0}) <|
 And.intro (@List.take_succ_cons.{0}) <|
 And.intro (@List.take_nil.{0}) <|
 And.intro (@List.drop_succ_cons.{0}) <|
 And.intro (@List.drop_nil.{0}) <|
 And.intro (@List.set_cons_zero.{0}) <|
 And.intro (@List.set_cons_succ.{0}) <|
 And.intro (@List.length_append.{0}) <|
 And.intro (@List.map_append.{0,0}) <|
 And.intro (@Bool.not_eq_true') <|
 And.intro (@Bool.not_eq_false') <|
 @Nat.le_refl
def sa4 :=
 PLift.up <|
 And.intro (@Nat.zero_add) <|
 And.intro (@Nat.add_zero) <|
 And.intro (@Option.toList_some.{0}) <|
 And.intro (@Option.toList_none.{0}) <|
 And.intro (@Option.map_some.{0,0}) <|
 And.intro (@Option.map_none.{0,0}) <|
 And.intro (@Int.toNat_natCast) <|
 And.intro (@Int.toNat_zero) <|
 And.intro (@Nat.sub_zero) <|
 And.intro (@List.drop_zero.{0}) <|
 And.intro (@Go.Abs.J8) <|
 And.intro (@Go.Abs.Am) <|
 And.intro (@Go.Abs.Ha) <|
 And.intro (@Go.Abs.He) <|
 And.intro (@Go.Abs.Ap) <|
 And.intro (@Go.Abs.yU) <|
 And.intro (@Go.Abs.yV) <|
 And.intro (@Go.Abs.yT) <|
 @List.getElem?_toArray.{0}
def sb0 :=
 PLift.up <|
 And.intro (@Go.Abs.uP.eq_def) <|
 And.intro (@Go.Abs.yR.eq_def) <|
 And.intro (@Go.Abs.Oi.eq_def) <|
 And.intro (@Go.Abs.jO.eq_def) <|
 And.intro (@Go.Abs.Aq.eq_def) <|
 And.intro (@Go.Abs.sV.eq_def) <|
 And.intro (@Go.Abs.jh.eq_def) <|
 And.intro (@Go.Abs.ES.eq_def) <|
 And.intro (@Go.Abs.JM.eq_def) <|
 And.intro (@Go.Abs.tN.eq_def) <|
 And.intro (@Go.Abs.lD.eq_def) <|
 And.intro (@Go.Abs.dQ.eq_def) <|
 And.intro (@Go.Abs.je.eq_1) <|
 And.intro (@Go.Abs.je.eq_2) <|
 And.intro (@Go.Abs.V.sv.eq_1) <|
 And.intro (@Go.Abs.V.sv.eq_2) <|
 And.intro (@Go.Abs.V.sc.eq_1) <|
 And.intro (@Go.Abs.V.sc.eq_2) <|
 And.intro (@Go.Abs.V.fit.eq_def) <|
 And.intro (@Go.Abs.V.vc.eq_def) <|
 And.intro (@Go.Abs.V.one.eq_def) <|
 And.intro (@Go.Abs.V.sub.eq_def) <|
 And.intro (@Go.Abs.Af.eq_def) <|
 And.intro (@Go.Abs.l9.eq_def) <|
 And.intro (@Go.Abs.yz.eq_def) <|
 And.intro (@Go.Abs.uw.eq_def) <|
 And.intro (@Go.Abs.TT.eq_def) <|
 And.intro (@Go.Abs.bH.eq_def) <|
 And.intro (@Go.Abs.VG.eq_def) <|
 And.intro (@Go.Abs.xy.eq_def) <|
 And.intro (@Go.Abs.QV.eq_def) <|
 And.intro (@Go.Abs.uF.eq_1) <|
 And.intro (@Go.Abs.uF.eq_2) <|
 @Go.Abs.yx.eq_def
def sb1 :=
 PLift.up <|
 And.intro (@Go.Abs.NU.eq_def) <|
 And.intro (@Go.Abs.NW.eq_def) <|
 And.intro (@Go.Abs.EO.eq_def) <|
 And.intro (@Go.Abs.Ag.eq_def) <|
 And.intro (@Go.Abs.yE.eq_def) <|
 And.intro (@Go.Abs.N7.eq_def) <|
 And.intro (@Go.Abs.mf.eq_def) <|
 And.intro (@Go.Abs.yA.eq_def) <|
 And.intro (@Go.Abs.yB.eq_def) <|
 And.intro (@Go.Abs.K.isSlice.eq_def) <|
 And.intro (@Go.Abs.K.isMap.eq_def) <|
 And.intro (@Go.Abs.TI.agg.eq_def) <|
 And.intro (@Go.Abs.iM.eq_1) <|
 And.intro (@Go.Abs.iM.eq_2) <|
 And.intro (@Go.Abs.tK.eq_def) <|
 And.intro (@Go.Abs.K.keyOk.eq_def) <|
 And.intro (@Go.Abs.V.dats.eq_1) <|
 And.intro (@Go.Abs.V.dats.eq_2) <|
 And.intro (@Go.Abs.V.dat.eq_1) <|
 And.intro (@Go.Abs.V.dat.eq_2) <|
 And.intro (@Go.Abs.V.dat.eq_3) <|
 And.intro (@Go.Abs.V.dat.eq_4) <|
 And.intro (@Go.Abs.V.dat.eq_5) <|
 And.intro (@Go.Abs.V.dat.eq_6) <|
 And.intro (@Go.Abs.V.dat.eq_7) <|
 And.intro (@Go.Abs.V.dat.eq_8) <|
 And.intro (@Go.Abs.V.dat.eq_9) <|
 And.intro (@Go.Abs.V.dat.eq_10) <|
 And.intro (@Go.Abs.V.drop.eq_1) <|
 @Go.Abs.V.drop.eq_2
def sb2 :=
 PLift.up <|
 And.intro (@Go.Abs.V.drop.eq_3) <|
 And.intro (@Go.Abs.V.drop.eq_4) <|
 And.intro (@Go.Abs.V.drop.eq_5) <|
 And.intro (@Go.Abs.V.drop.eq_6) <|
 And.intro (@Go.Abs.V.drop.eq_7) <|
 And.intro (@Go.Abs.V.drop.eq_8) <|
 And.intro (@Go.Abs.V.drop.eq_9) <|
 And.intro (@Go.Abs.V.drop.eq_10) <|
 And.intro (@Go.Abs.V.drop.eq_11) <|
 And.intro (@Go.Abs.V.drops.eq_1) <|
 And.intro (@Go.Abs.V.drops.eq_2) <|
 And.intro (@Go.Abs.mi.eq_1) <|
 And.intro (@Go.Abs.mi.eq_2) <|
 And.intro (@Go.Abs.yD.eq_1) <|
 And.intro (@Go.Abs.yD.eq_2) <|
 And.intro (@Go.Abs.bT.eq_def) <|
 And.intro (@Go.Abs.bF.eq_1) <|
 And.intro (@Go.Abs.bF.eq_2) <|
 And.intro (@Go.Abs.yK.eq_def) <|
 And.intro (@Go.Abs.ng.eq_def) <|
 And.intro (@Go.Abs.iL.eq_def) <|
 And.intro (@Go.Abs.uI.eq_def) <|
 And.intro (@Nat.lt_irrefl) <|
 And.intro (@Go.Abs.Oy) <|
 And.intro (@Go.Abs.Rh) <|
 And.intro (@Go.Abs.Ri) <|
 And.intro (@Go.Abs.Oz) <|
 And.intro (@Go.Abs.Us) <|
 And.intro (@Go.Abs.OA) <|
 And.intro (@Go.Abs.Ut) <|
 And.intro (@Go.Abs.OB) <|
 And.intro (@Go.Abs.Uu) <|
 And.intro (@Go.Abs.OC) <|
 And.intro (@Go.Abs.OD) <|
 And.intro (@Go.Abs.Uw) <|
 And.intro (@Go.Abs.Ux) <|
 And.intro (@Go.Abs.Uy) <|
 And.intro (@Go.Abs.Rj) <|
 And.intro (@Go.Abs.Rk) <|
 And.intro (@Go.Abs.Kv) <|
 And.intro (@Go.Abs.OE) <|
 And.intro (@Go.Abs.Kw) <|
 And.intro (@Go.Abs.kQ.eq_def) <|
 And.intro (@Go.Abs.VH.eq_def) <|
 And.intro (@Go.Abs.dN.eq_1) <|
 And.intro (@Go.Abs.dN.eq_2) <|
 And.intro (@Go.Abs.JS.eq_def) <|
 And.intro (@Go.Abs.gd.eq_def) <|
 And.intro (@Go.Abs.yL.eq_1) <|
 And.intro (@Go.Abs.yL.eq_2) <|
 And.intro (@Go.Abs.yL.eq_3) <|
 @Go.Abs.yL.eq_4
def sb3 :=
 PLift.up <|
 And.intro (@Go.Abs.yL.eq_5) <|
 And.intro (@Go.Abs.yL.eq_6) <|
 And.intro (@Go.Abs.xF.eq_def) <|
 And.intro (@Go.Abs.Qr.eq_def) <|
 And.intro (@Go.Abs.sZ.eq_def) <|
 And.intro (@Go.Abs.Uf.eq_def) <|
 And.intro (@Go.Abs.iU.eq_1) <|
 And.intro (@Go.Abs.iU.eq_2) <|
 And.intro (@Go.Abs.yS.eq_def) <|
 And.intro (@Go.Abs.uN.eq_def) <|
 And.intro (@Go.Abs.jP.eq_1) <|
 @Go.Abs.jP.eq_2
section
variable {e:E} {n:Nat} {f:Fr} {h:H} {Q:XE→Fr→H→Prop}
def xG (id:Nat) (L:(Nat→V)→LoopState→Option Code→O) (S:Option Code→H→(Nat→Bool)→Prop) (xe:XE) (f2:Fr) (h2:H):Prop :=
 match xe.jump with
 | some j=>f2.k id=false∧∃t st,h2[id]? =some (L t st none)∧S j (h2.set id (L t (if j.isNone then .ready else .done) j)) f2.k
 | none=>False
def Qs (e:E) (n l id:Nat) (body:Code) (L:(Nat→V)→LoopState→Option Code→O) (S:Option Code→H→(Nat→Bool)→Prop) (f1:Fr) (h1:H):Prop :=
 f1.k id=false∧∃t,h1[id]? =some (L t .ready none)∧awp e n (some l) body (xG id L S) f1 (h1.set id (L t .busy none))
def Uz (id:Nat) (L:(Nat→V)→LoopState→Option Code→O) (Q:XE→Fr→H→Prop) (f1:Fr) (ae:AEnd) (h2:H) (p:Nat→Bool):Prop :=
 (∀i∈f1.d,p i=false)∧match ae with
  | .ret _=>p id=false∧∃t st c,st≠ .busy∧h2[id]? =some (L t st c)∧Oj Q c (f1.drop p) (h2.set id (L t .exhausted c))
  | .pan v=>Q (.pan v) (f1.drop p) h2
theorem HY {g : Operand} {ps : Array Tmp} {asg body : Code} {q : FuncId} {first captured : List V} (hsc : (f.ev e g).sc) (hg : (f.ev e g).sv = .fn (.func q) first captured) (hen : ai e.P q = true)
 (hps:(ps.toList.all fun p=>decide (p<n))=true)
 (main:∀L:(Nat→V)→LoopState→Option Code→O,(∀p t st c,(L t st c).drop p=L (fun i=>(t i).drop p) st c) →
  (∀h' vs S t,h'[h.length+1]? =some (L t .ready none)→vs.length=ps.size →
   (∀lb,awp e n (some lb) asg (XE.seq (Qs e n lb (h.length+1) body L S) (fun _ _ _=>False)) (iM {t:=t} ps.toList vs) h')→Wj e (h.length+1) vs h' S) →
  ah e q (first++[.yd (h.length+1)]++captured) (h++[.misc .dfd]++[L f.t .ready none]) (Uz (h.length+1) L Q {f with d:=h.length::f.d})) :
 awp e n none (.rangeFunc g ps asg body) Q f h:=by
 refine qg hsc hg hen ?_;refine ah.mono (main (fun t st c=> .loop t n ps asg body st c) (fun _ _ _ _=>rfl) ?_) ?_
 ·intro h' vs S t hc hsz hw;refine ⟨t,n,ps,asg,body,none,hc,hsz,hps,fun lb => fO ?_ (hw lb)⟩;intro xe f1 h1 hq;cases xe <;> try exact hq
  obtain⟨h1k,t1,hc1,hb⟩:=hq;unfold XE.seq EX;dsimp only;rw[hc1];refine⟨h1k,fO ?_ hb⟩;intro xe f2 h2 hq2;unfold xG at hq2;unfold Kt;split at hq2
  ·rename_i j hj;obtain⟨h2k,t2,st2,hc2,hS⟩:=hq2;simp only[hj,hc2];exact⟨h2k,hS⟩
  ·exact hq2.elim
 ·rintro ae h' p ⟨hd,hr⟩;refine⟨hd,?_⟩;cases ae with
  | pan v=>exact hr
  | ret v=>obtain⟨hp,t,st,c,hst,hc,hQ⟩:=hr;dsimp only;rw[hc];exact⟨⟨hp,hst⟩,hQ⟩
end
end Go.Abs
