/- Lemmas for this claim, part A2: each holds under what it names. -/
import Derived.Test.YtmlacppmbfbjgaaGreatDoorA1
import Derived.WalkLawsBesides
import Derived.WalkSpells
import Derived.MapKept
import Derived.Lib.Strings
import Derived.WideKeyRuns
set_option linter.unusedVariables false
set_option linter.unusedSimpArgs false
namespace Go.Abs
open Go.RowKit
abbrev PV:=Prop×V
abbrev fF:PV:=(False,.any)
def aH (P:Program) (c:C) (s:Sem Value) (r:PV):Prop:=r.1→∃x,s.run P c.w= .ok x c.w∧VRel c r.2 x
theorem aH.no {P:Program} {c:C} {s:Sem Value}:aH P c s fF:=fun h=>h.elim
def VG : UnOp → V → PV
 | .not,.bool b=>(True,.bool (!b))
 | .neg,.int k n=>(True,.int k (k.wrap (0-n)))
 | _,_=>fF
theorem QT {P:Program} {c:C} (op:UnOp) {v:V} {x:Value} (h:VRel c v x):aH P c (Op.unary op x) (VG op v):=by
 unfold VG;split
 ·simp only[VRel]at h;subst h;exact fun _=>⟨_,rfl,by simp only[VRel]⟩
 ·simp only[VRel]at h;subst h;exact fun _=>⟨_,rfl,by simp only[VRel]⟩
 ·exact aH.no
def NU (op:BinOp) (k:IntKind) (a:Int) (k':IntKind) (b:Int):PV :=
 match op with
 | .add=>(k=k',.int k (k.wrap (a+b)))
 | .sub=>(k=k',.int k (k.wrap (a-b)))
 | .mul=>(k=k',.int k (k.wrap (a*b)))
 | .quo=>(k=k'∧b≠0,.int k (k.wrap (a.tdiv b)))
 | .rem=>(k=k'∧b≠0,.int k (a.tmod b))
 | .and=>(k=k',.int k (k.wrap (BitVec.ofInt k.bits a &&& BitVec.ofInt k.bits b).toNat))
 | .or=>(k=k',.int k (k.wrap (BitVec.ofInt k.bits a ||| BitVec.ofInt k.bits b).toNat))
 | .xor=>(k=k',.int k (k.wrap (BitVec.ofInt k.bits a ^^^ BitVec.ofInt k.bits b).toNat))
 | .andNot=>(k=k',.int k (k.wrap (BitVec.ofInt k.bits a &&& ~~~ BitVec.ofInt k.bits b).toNat))
 | .shl=>(0≤b,.int k (k.wrap (a*2^(min b.toNat k.bits))))
 | .shr=>(0≤b,.int k (a.fdiv (2^(min b.toNat k.bits))))
 | .eql=>(k=k',.bool (a==b))
 | .neq=>(k=k',.bool (a != b))
 | .lss=>(k=k',.bool (decide (a<b)))
 | .leq=>(k=k',.bool (decide (a≤b)))
 | .gtr=>(k=k',.bool (decide (b<a)))
 | .geq=>(k=k',.bool (decide (b≤a)))
theorem aH.int {P:Program} {c:C} {s:Sem Value} {p:Prop} {k:IntKind} {n:Int} (h:p→s.run P c.w= .ok (.int k n) c.w):aH P c s (p,.int k n) :=
 fun hp=>⟨_,h hp,by simp only[VRel]⟩
theorem aH.bool {P:Program} {c:C} {s:Sem Value} {p:Prop} {b:Bool} (h:p→s.run P c.w= .ok (.bool b) c.w):aH P c s (p,.bool b) :=
 fun hp=>⟨_,h hp,by simp only[VRel]⟩
theorem NV {P:Program} {c:C} (op:BinOp) (t:TypeId) (k k':IntKind) (a b:Int):aH P c (binOp op t (.int k a) (.int k' b)) (NU op k a k' b):=by
 unfold NU;cases op<;>dsimp only
 case shl =>
  refine aH.int fun hc=> ?_;simp only[binOp,Op.shift];rw[if_neg (by omega)];rfl
 case shr =>
  refine aH.int fun hc=> ?_;simp only[binOp,Op.shift];rw[if_neg (by omega)];rfl
 case quo =>
  refine aH.int fun⟨hk,hb⟩=> ?_;subst hk;simp[binOp,Op.intDiv,hb]
 case rem =>
  refine aH.int fun⟨hk,hb⟩=> ?_;subst hk;simp[binOp,Op.intDiv,hb]
 all_goals
  first
   | refine aH.int fun hk=> ?_
   | refine aH.bool fun hk=> ?_
  subst hk;simp[binOp,Op.intArith,Op.intBits,Op.intCmp]
def NW (op:BinOp) (a b:List UInt8):PV :=
 match op with
 | .add=>(a.length+b.length≤maxLen,.str (a++b))
 | .eql=>(True,.bool (a==b))
 | .neq=>(True,.bool (!(a==b)))
 | .lss=>(True,.bool (Op.bytesLess a b))
 | .leq=>(True,.bool (Op.bytesLess a b||a==b))
 | .gtr=>(True,.bool (!(Op.bytesLess a b||a==b)))
 | .geq=>(True,.bool (!(Op.bytesLess a b)))
 | _=>fF
theorem gQ (s:ByteArray):s.size=s.data.toList.length:=(Array.length_toList).symm
theorem NY {P:Program} {c:C} (op:BinOp) (t:TypeId) {a b:List UInt8} {x y:Value} (ha:VRel c (.str a) x) (hb:VRel c (.str b) y) :
 aH P c (binOp op t x y) (NW op a b):=by
 simp only[VRel]at ha hb;obtain⟨s,rfl,rfl,hs⟩:=ha;obtain⟨u,rfl,rfl,hu⟩:=hb;unfold NW;cases op<;>dsimp only<;>try exact aH.no
 case add =>
  intro hc;refine⟨.string (s++u),?_,?_⟩
  ·have : ¬ ((s.size + u.size : Nat) : Int) > IntKind.i64.max := by have h1 : IntKind.i64.max = 9223372036854775807 := rfl;rw [gQ s,gQ u];simp only [maxLen] at hc;omega
   simp only[binOp,Op.stringOp];rw[if_neg this];rfl
  ·simp only[VRel];exact⟨_,rfl,by simp,by rw[List.length_append];exact hc⟩
 all_goals
  refine aH.bool fun _=> ?_;simp[binOp,Op.stringOp,ByteArray.toList_eq]
def V.nil? : V → Option Bool
 | .nilp | .nilm | .nilf | .nili | .nils=>some true
 | .lp _ _ | .ip _ | .lm _ | .im _ _ | .fn _ _ _ | .yd _ | .iface _ _=>some false
 | _=>none
def K.nilOf : K → V → Bool
 | .ptr _,.nilp=>true
 | .map _ _,.nilm=>true
 | .func,.nilf=>true
 | .slice _,.nils=>true
 | _,_=>false
def K.has : K → V → Bool
 | .ptr _,.nilp | .ptr _,.lp _ _ | .ptr _,.ip _=>true
 | .map _ _,.nilm | .map _ _,.lm _ | .map _ _,.im _ _=>true
 | .func,.nilf | .func,.fn _ _ _ | .func,.yd _=>true
 | .slice _,.nils=>true
 | _,_=>false
def yx (P:Program) (op:BinOp) (t:TypeId) (x y:V):PV :=
 match x,y with
 | .int k a,.int k' b=>NU op k a k' b
 | .str a,.str b=>NW op a b
 | .bool a,.bool b =>
  match ti P t with
  | some r=>match op with
   | .eql=>(r.kind= .bool,.bool (a==b))
   | .neq=>(r.kind= .bool,.bool (!(a==b)))
   | _=>fF
  | none=>fF
 | x,y =>
  match ti P t,x.nil?,y with
  | some r,some b,.nilp | some r,some b,.nilm | some r,some b,.nilf | some r,some b,.nils=>match op with
   | .eql=>(r.kind.nilOf y=true∧r.kind.has x=true,.bool b)
   | .neq=>(r.kind.nilOf y=true∧r.kind.has x=true,.bool (!b))
   | _=>fF
  | some r,some b,.nili=>match op,x with
   | .eql,.iface _ _=>(r.kind= .iface,.bool false)
   | .neq,.iface _ _=>(r.kind= .iface,.bool true)
   | _,_=>fF
  | _,_,_=>fF
theorem TIs.bool {P:Program} {t:TypeId} {r:TI} {i:TypeInfo} {d:TypeDesc} {z:Value} (h:TIs P t r i d z) (hk:r.kind= .bool):d= .bool:=by have:=h.kind.symm.trans hk;cases d<;>simp_all [lq]
theorem TIs.ptr {P:Program} {t:TypeId} {r:TI} {i:TypeInfo} {d:TypeDesc} {z:Value} (h:TIs P t r i d z) {e:Nat} (hk:r.kind= .ptr e):d= .pointer e:=by have:=h.kind.symm.trans hk;cases d<;>simp_all [lq]
theorem TIs.iface {P:Program} {t:TypeId} {r:TI} {i:TypeInfo} {d:TypeDesc} {z:Value} (h:TIs P t r i d z) (hk:r.kind= .iface):∃ms,d= .interface ms:=by have:=h.kind.symm.trans hk;cases d<;>simp_all [lq]
theorem TIs.func {P:Program} {t:TypeId} {r:TI} {i:TypeInfo} {d:TypeDesc} {z:Value} (h:TIs P t r i d z) (hk:r.kind= .func):∃a b c,d= .func a b c:=by have:=h.kind.symm.trans hk;cases d<;>simp_all [lq]
theorem pV {P : Program} {c : C} {t : TypeId} {r : TI} {i : TypeInfo} {d : TypeDesc} {z : Value} (h : TIs P t r i d z) {x y : V} {xv yv : Value} {b : Bool}
 (hx:VRel c x xv) (hy:VRel c y yv) (hb:x.nil? =some b) (h1:r.kind.nilOf y=true) (h2:r.kind.has x=true) (w:World) :
 (Op.equal t xv yv).run P w= .ok b w:=by
 unfold Op.equal Op.maxDepth Op.equalIn;simp only[Sem.run_bind,h.run_und,Result.andThen];cases hk:r.kind<;>rw[hk]at h1 h2<;>cases y<;>simp only[K.nilOf,Bool.false_eq_true]at h1<;>cases x<;>simp only[K.has,Bool.false_eq_true]at h2<;>simp only[V.nil?,Option.some.injEq]at hb<;>subst hb<;>simp only[VRel]at hx hy<;>subst hy
 case ptr.nilp.nilp=>rw[h.ptr hk];subst hx;rfl
 case ptr.nilp.lp=>rw[h.ptr hk];obtain⟨_,_,rfl⟩:=hx;rfl
 case ptr.nilp.ip=>rw[h.ptr hk];obtain⟨_,_,_,rfl,_⟩:=hx;rfl
 case slice.nils.nils=>rw[h.slice hk];subst hx;rfl
 case map.nilm.nilm=>rw[h.map hk];subst hx;rfl
 case map.nilm.lm=>rw[h.map hk];obtain⟨_,_,rfl⟩:=hx;rfl
 case map.nilm.im=>rw[h.map hk];obtain⟨_,_,_,rfl,_⟩:=hx;rfl
 case func.nilf.nilf=>obtain⟨_,_,_,hd⟩:=h.func hk;rw[hd];subst hx;rfl
 case func.nilf.fn=>obtain⟨_,_,_,hd⟩:=h.func hk;rw[hd];obtain⟨_,_,rfl,_⟩:=hx;rfl
 case func.nilf.yd=>obtain⟨_,_,_,hd⟩:=h.func hk;rw[hd];obtain⟨_,_,rfl⟩:=hx;rfl
theorem NZ {P:Program} {c:C} (op:BinOp) (t:TypeId) {x y:V} {xv yv:Value} (hx:VRel c x xv) (hy:VRel c y yv) :
 aH P c (binOp op t xv yv) (yx P op t x y):=by
 unfold yx;split
 ·simp only[VRel]at hx hy;subst hx;subst hy;exact NV (P:=P) (c:=c) op t _ _ _ _
 ·exact NY _ _ hx hy
 ·simp only [VRel] at hx hy;subst hx;subst hy;split
  ·rename_i r hr;obtain ⟨i,d,z,hT⟩ := aF hr;split
   ·refine aH.bool fun hk=> ?_;have:=hT.und;rw[hT.bool hk]at this;exact run_eql_bool _ _ _ _ this
   ·refine aH.bool fun hk=> ?_;have:=hT.und;rw[hT.bool hk]at this;exact run_neq_bool _ _ _ _ this
   ·exact aH.no
  ·exact aH.no
 ·have key:∀r b,ti P t=some r→x.nil? =some b→(y= .nilp∨y= .nilm∨y= .nilf∨y= .nils) →
   aH P c (binOp op t xv yv) (match op with
    | .eql=>(r.kind.nilOf y=true∧r.kind.has x=true,.bool b)
    | .neq=>(r.kind.nilOf y=true∧r.kind.has x=true,.bool (!b))
    | _=>fF):=by
   intro r b hr hb hyn;obtain⟨i,d,z,hT⟩:=aF hr;have hbin:∀op',(op'= .eql∨op'= .neq)→(r.kind.nilOf y=true∧r.kind.has x=true)→binOp op' t xv yv=(if op'= .eql then(do pure (.bool (←Op.equal t xv yv)))else(do pure (.bool (!(←Op.equal t xv yv))))):=by
    rintro op' hop ⟨h1,h2⟩;rcases hyn with rfl | rfl | rfl | rfl <;> cases hk : r.kind <;> rw [hk] at h1 h2 <;> simp only [K.nilOf,Bool.false_eq_true] at h1 <;> cases x <;> simp only [K.has,Bool.false_eq_true] at h2 <;>
     simp only[VRel]at hx hy<;>subst hy <;>
     first
      | (subst hx;rcases hop with rfl | rfl<;>rfl)
      | (obtain⟨_,_,rfl⟩:=hx;rcases hop with rfl | rfl<;>rfl)
      | (obtain⟨_,_,_,rfl,_⟩:=hx;rcases hop with rfl | rfl<;>rfl)
      | (obtain⟨_,_,rfl,_⟩:=hx;rcases hop with rfl | rfl<;>rfl)
   split
   ·refine aH.bool fun hp=> ?_;rw[hbin _ (.inl rfl) hp,if_pos rfl];simp[pV hT hx hy hb hp.1 hp.2,Result.andThen]
   ·refine aH.bool fun hp=> ?_;rw[hbin _ (.inr rfl) hp,if_neg (by decide)];simp[pV hT hx hy hb hp.1 hp.2,Result.andThen]
   ·exact aH.no
  split
  ·exact key _ _ (by assumption) (by assumption) (.inl rfl)
  ·exact key _ _ (by assumption) (by assumption) (.inr (.inl rfl))
  ·exact key _ _ (by assumption) (by assumption) (.inr (.inr (.inl rfl)))
  ·exact key _ _ (by assumption) (by assumption) (.inr (.inr (.inr rfl)))
  ·rename ti P t = some _ => hr
   rename TI=>r
   obtain⟨i,d,z,hT⟩:=aF hr;have hq:∀u ev,r.kind= .iface→(Op.equal t (.iface u ev) .nilIface).run P c.w= .ok false c.w:=by intro u ev hk;obtain⟨ms,rfl⟩:=hT.iface hk;unfold Op.equal Op.maxDepth Op.equalIn;simp only[Sem.run_bind,hT.run_und,Result.andThen];rfl
   split
   ·simp only[VRel]at hx hy;obtain⟨ev,rfl,_⟩:=hx;subst hy;refine aH.bool fun hk=> ?_;show(do pure (Value.bool (←Op.equal t _ _)):Sem Value).run P c.w=_;simp[hq _ _ hk,Result.andThen]
   ·simp only[VRel]at hx hy;obtain⟨ev,rfl,_⟩:=hx;subst hy;refine aH.bool fun hk=> ?_;show(do pure (Value.bool (!(←Op.equal t _ _))):Sem Value).run P c.w=_;simp[hq _ _ hk,Result.andThen]
   ·exact aH.no
  ·exact aH.no
def ay (P:Program) (op:BinOp) (t:TypeId) (x:V):PV :=
 match ti P t,op,x with
 | some r,.eql,.iface _ _=>(r.kind= .iface,.bool false)
 | some r,.neq,.iface _ _=>(r.kind= .iface,.bool true)
 | some r,.eql,.nili=>(r.kind= .iface,.bool true)
 | some r,.neq,.nili=>(r.kind= .iface,.bool false)
 | _,_,_=>fF
theorem kE {P:Program} {op:BinOp} {t:TypeId} {a:Operand} {xv:Value} (w:World) (h:xv= .nilIface∨∃u ev,xv= .iface u ev):(eqGuard op t a (.const .nilIface) xv .nilIface).run P w= .ok () w:=by unfold eqGuard;rcases h with rfl | ⟨u,ev,rfl⟩<;>cases op<;>simp
theorem Jo {P:Program} {c:C} (op:BinOp) (t:TypeId) (a:Operand) {x:V} {xv:Value} (hx:VRel c x xv) :
 aH P c (do eqGuard op t a (.const .nilIface) xv .nilIface;binOp op t xv .nilIface) (ay P op t x):=by
 have hq:∀(r:TI) (v:Value) (b:Bool),ti P t=some r→r.kind= .iface→((v= .nilIface∧b=true)∨((∃u ev,v= .iface u ev)∧b=false))→(Op.equal t v .nilIface).run P c.w= .ok b c.w:=by intro r v b hr hk hv;obtain⟨i,d,z,hT⟩:=aF hr;obtain⟨ms,rfl⟩:=hT.iface hk;unfold Op.equal Op.maxDepth Op.equalIn;simp only[Sem.run_bind,hT.run_und,Result.andThen];rcases hv with⟨rfl,rfl⟩ | ⟨⟨u,ev,rfl⟩,rfl⟩<;>rfl
 unfold ay;split
 ·rename_i r u e hr;simp only[VRel]at hx;obtain⟨ev,rfl,_⟩:=hx;refine aH.bool fun hk=> ?_;simp only[Sem.run_bind,kE c.w (.inr ⟨u,ev,rfl⟩),Result.andThen];show(do pure (Value.bool (←Op.equal t _ _)):Sem Value).run P c.w=_;simp[hq r _ false hr hk (.inr ⟨⟨u,ev,rfl⟩,rfl⟩),Result.andThen]
 ·rename_i r u e hr;simp only[VRel]at hx;obtain⟨ev,rfl,_⟩:=hx;refine aH.bool fun hk=> ?_;simp only[Sem.run_bind,kE c.w (.inr ⟨u,ev,rfl⟩),Result.andThen];show(do pure (Value.bool (!(←Op.equal t _ _))):Sem Value).run P c.w=_;simp[hq r _ false hr hk (.inr ⟨⟨u,ev,rfl⟩,rfl⟩),Result.andThen]
 ·rename_i r hr;simp only[VRel]at hx;subst hx;refine aH.bool fun hk=> ?_;simp only[Sem.run_bind,kE c.w (.inl rfl),Result.andThen];show(do pure (Value.bool (←Op.equal t _ _)):Sem Value).run P c.w=_;simp[hq r _ true hr hk (.inl ⟨rfl,rfl⟩),Result.andThen]
 ·rename_i r hr;simp only[VRel]at hx;subst hx;refine aH.bool fun hk=> ?_;simp only[Sem.run_bind,kE c.w (.inl rfl),Result.andThen];show(do pure (Value.bool (!(←Op.equal t _ _))):Sem Value).run P c.w=_;simp[hq r _ true hr hk (.inl ⟨rfl,rfl⟩),Result.andThen]
 ·exact aH.no
section
variable {P:Program} {c:C}
def Ag (P:Program) (ft:TypeId) (off:Nat) (vs:List V):PV :=
 match ti P ft with
 | some r=>(off+r.size≤vs.length∧0<r.size∧(r.agg=false→r.size=1∧(vs.getD off .any).one=true),V.sub vs off r.size r.agg)
 | none=>fF
theorem Ah {ft:TypeId} {off:Nat} {vs:List V} {cs:Array Value} (h:VList c vs cs.toList):aH P c (part ft cs off) (Ag P ft off vs):=by
 unfold Ag;split
 ·rename_i r hr;obtain⟨i,d,z,hT⟩:=aF hr;rintro⟨h1,h2,h3⟩;have hl:=h.length;unfold part;simp only[Sem.run_bind,hT.agg,Result.andThen];cases ha:r.agg with
  | true=>refine⟨.agg (cs.extract off (off+r.size)),by simp[hT.run_size,Result.andThen],?_⟩;simp only[V.sub,cond_true,VRel];refine⟨_,rfl,?_⟩;have:=(h.dropN off).take r.size;rw[show(cs.extract off (off+r.size)).toList=(cs.toList.drop off).take r.size by simp];exact this
  | false =>
   obtain⟨v,hv⟩:∃v,vs[off]? =some v:=⟨_,List.getElem?_eq_getElem (show off<vs.length by omega)⟩;obtain⟨x,hx,hrel⟩:=h.get off v hv;have hx':cs[off]? =some x:=by simpa using hx
   refine⟨x,by simp[hx'],?_⟩;simp only[V.sub,cond_false,List.getD_eq_getElem?_getD,hv,Option.getD_some];exact hrel
 ·exact aH.no
def yz (P:Program) (t:TypeId) (x:V) (f:Nat):PV :=
 match ti P t,x with
 | some r,.agg vs=>match r.kind with
  | .struct fs=>match fs[f]? with
   | some (off,ft)=>Ag P ft off vs
   | none=>fF
  | _=>fF
 | _,_=>fF
theorem GY {t:TypeId} {x:V} {xv:Value} {f:Nat} (h:VRel c x xv):aH P c (Instr.field t xv f) (yz P t x f):=by
 unfold yz;split
 ·rename_i r vs hr;obtain ⟨i,d,z,hT⟩ := aF hr;split
  ·rename_i fs hk;obtain ⟨gs,rfl,hfs⟩ := hT.struct hk;split
   ·rename_i off ft hf;rw[hfs,List.getElem?_map]at hf;cases hg:gs.toList[f]? with
    | none=>rw[hg]at hf;cases hf
    | some g =>
     rw[hg]at hf;simp at hf;obtain⟨rfl,rfl⟩:=hf;simp only[VRel]at h;obtain⟨cs,rfl,hcs⟩:=h;intro hp;obtain⟨y,hy1,hy2⟩:=Ah (P:=P) (c:=c) hcs hp;refine⟨y,?_,hy2⟩;have hg':gs[f]? =some g:=by simpa using hg
     simp[Instr.field,hT.run_und,Result.andThen,hg',asAgg,hy1]
   ·exact aH.no
  ·exact aH.no
 ·exact aH.no
def TT (P:Program) (ft:TypeId) (off:Nat) (x:V):PV :=
 match ti P ft with
 | some r=>match x with
  | .lp id o=>(0<r.size,.lp id (o+off))
  | .ip (.agg vs)=>(off+r.size≤vs.length∧0<r.size∧(r.agg=false→r.size=1∧(vs.getD off .any).one=true),.ip (V.sub vs off r.size r.agg))
  | _=>fF
 | none=>fF
theorem Jp {b o off:Nat} {cs:Array Value} (h:qV c b o (.agg cs)) {n:Nat} (hn:off+n≤cs.size) :
 qV c b (o+off) (.agg (cs.extract off (off+n))):=by
 intro j hj;simp only[Value.cells]at hj;have hj':j<n:=by simp at hj;omega
 obtain⟨h1,h2⟩:=h (off+j) (by simp only[Value.cells];omega);refine⟨h1,?_⟩;rw[show o+off+j=o+(off+j) by omega,h2];simp only[Value.cells];rw[Array.getElem?_extract];simp;omega
theorem Jq {b o off:Nat} {cs:Array Value} (h:qV c b o (.agg cs)) {x:Value} (hx:cs[off]? =some x) (h1:x.cells=#[x]) :
 qV c b (o+off) x:=by
 intro j hj;rw[h1]at hj ⊢;have hj0:j=0:=by simpa using hj
 subst hj0;have hlt:off<cs.size:=(Array.getElem?_eq_some_iff.1 hx).1;obtain⟨h2,h3⟩:=h off (by simpa only[Value.cells]using hlt);refine⟨h2,?_⟩;rw[Nat.add_zero,h3];simp only[Value.cells];rw[hx];rfl
theorem Jr {ft:TypeId} {off:Nat} {x:V} {xv:Value} (h:VRel c x xv) (hp:(TT P ft off x).1) :
 ∃b o,xv= .pointer (some ⟨b,o,none⟩)∧VRel c (TT P ft off x).2 (.pointer (some ⟨b,o+off,none⟩))∧∃r,ti P ft=some r∧0<r.size:=by
 unfold TT at hp ⊢;split at hp
 ·rename_i r hr;split at hp
  ·simp only[VRel]at h ⊢;obtain⟨b,h1,rfl⟩:=h;exact⟨b,_,rfl,⟨b,h1,rfl⟩,r,hr,hp⟩
  ·rename_i vs;simp only[VRel]at h;obtain⟨b,o,ev,rfl,h2,h3,h4⟩:=h;obtain⟨cs,rfl,hcs⟩:=h4;obtain⟨p1,p2,p3⟩:=hp;have hl:=hcs.length;refine⟨b,o,rfl,?_,r,hr,p2⟩;simp only[VRel];cases ha:r.agg with
   | true =>
    refine⟨b,o+off,.agg (cs.extract off (off+r.size)),rfl,Jp h2 (by simp at hl;omega),?_,?_⟩
    ·simp only[Value.cells,Array.size_extract];simp at hl;omega
    ·simp only[V.sub,cond_true,VRel];refine⟨_,rfl,?_⟩;rw[show(cs.extract off (off+r.size)).toList=(cs.toList.drop off).take r.size by simp];exact(hcs.dropN off).take r.size
   | false=>obtain⟨p4,p5⟩:=p3 ha;obtain⟨v,hv⟩:∃v,vs[off]? =some v:=⟨_,List.getElem?_eq_getElem (show off<vs.length by omega)⟩;obtain⟨x,hx,hrel⟩:=hcs.get off v hv;rw[List.getD_eq_getElem?_getD,hv]at p5;have hone:=hrel.one p5;refine⟨b,o+off,x,rfl,Jq h2 (by simpa using hx) hone,by simp[hone],?_⟩;simp only[V.sub,cond_false,List.getD_eq_getElem?_getD,hv,Option.getD_some];exact hrel
  ·exact hp.elim
 ·exact hp.elim
def l9 (P:Program) (t:TypeId) (x:V) (f:Nat):PV :=
 match ti P t with
 | some r=>match r.kind with
  | .struct fs=>match fs[f]? with
   | some (off,ft)=>TT P ft off x
   | none=>fF
  | _=>fF
 | none=>fF
theorem oM {t:TypeId} {x:V} {xv:Value} {f:Nat} (h:VRel c x xv):aH P c (Instr.fieldAt t xv f) (l9 P t x f):=by
 unfold l9;split
 ·rename_i r hr;obtain ⟨i,d,z,hT⟩ := aF hr;split
  ·rename_i fs hk;obtain ⟨gs,rfl,hfs⟩ := hT.struct hk;split
   ·rename_i off ft hf;rw[hfs,List.getElem?_map]at hf;cases hg:gs.toList[f]? with
    | none=>rw[hg]at hf;cases hf
    | some g =>
     rw[hg]at hf;simp at hf;obtain⟨rfl,rfl⟩:=hf;intro hp;obtain⟨b,o,rfl,h1,r',hr',hs⟩:=Jr h hp;obtain⟨i',d',z',hT'⟩:=aF hr';have hg':gs[f]? =some g:=by simpa using hg
     refine⟨_,?_,h1⟩;have hne:¬r'.size=0:=by omega
     simp[Instr.fieldAt,hT.run_und,Result.andThen,hg',Instr.sureAddr,fieldPlace,hT'.run_size,hne,dD]
   ·exact aH.no
  ·exact aH.no
 ·exact aH.no
def mf (P:Program) (t:TypeId) (x i:V):PV :=
 match ti P t,i with
 | some r,.int _ n=>match r.kind with
  | .slice el=>match ti P el with
   | some re=>match x with
    | .ls id k off len _=>(0≤n∧n<len∧re.size=k,.lp id (off+n.toNat*k))
    | .is _ k es=>(0≤n∧n<es.length∧re.size=k∧0<k,.ip (es.getD n.toNat .any))
    | _=>fF
   | none=>fF
  | .arr m el _=>match ti P el with
   | some re=>let q:=TT P el (n.toNat*re.size) x;(0≤n∧n<m∧q.1,q.2)
   | none=>fF
  | _=>fF
 | _,_=>fF
theorem wR {t:TypeId} {x i:V} {xv iv:Value} (hx:VRel c x xv) (hi:VRel c i iv):aH P c (Instr.indexAt t xv iv) (mf P t x i):=by
 unfold mf;split
 ·rename_i r k n hr;obtain ⟨i,d,z,hT⟩ := aF hr;simp only [VRel] at hi;subst hi;split
  ·rename_i el hk;have hd := hT.slice hk;subst hd;split
   ·rename_i re hre;obtain ⟨i',d',z',hT'⟩ := aF hre;split
    ·rename_i id k' off len cap;rintro ⟨h0,h1,h2⟩;simp only [VRel] at hx;obtain ⟨a,cp,rfl,hcap,hlen,hmax,hh⟩ := hx;have hcp : cp ≠ 0 := by omega
     rcases hh with hh | ⟨b,arr,el',fz,hb,rfl,_⟩
     ·exact absurd hh hcp
     refine⟨.pointer (some ⟨b,off+n.toNat*k',none⟩),?_,?_⟩
     ·simp[Instr.indexAt,asIntOf,hT.run_und,Result.andThen,h0,h1,hT'.run_size,h2,dD]
     ·simp only[VRel];exact⟨b,hb,rfl⟩
    ·rename_i ex k' es;rintro ⟨h0,h1,h2,h3⟩;simp only [VRel] at hx;obtain ⟨a,cp,rfl,hlen,hmax,hex,hh⟩ := hx;rcases hh with rfl | ⟨b,off,rfl,hel⟩
     ·simp at h1;omega
     have hlt:n.toNat<es.length:=by omega
     obtain⟨v,hv⟩:∃v,es[n.toNat]? =some v:=⟨_,List.getElem?_eq_getElem hlt⟩;obtain⟨ev,he1,he2,he3⟩:=hel.get n.toNat hv;refine⟨.pointer (some ⟨b,off+n.toNat*k',none⟩),?_,?_⟩
     ·simp[Instr.indexAt,asIntOf,hT.run_und,Result.andThen,h0,h1,hT'.run_size,h2,dD]
     ·simp only[VRel,List.getD_eq_getElem?_getD,hv,Option.getD_some];exact⟨b,_,ev,rfl,he2,by omega,he3⟩
    ·exact aH.no
   ·exact aH.no
  ·rename_i m el hk;have hd := hT.arr hk;subst hd;split
   ·rename_i re hre;obtain⟨i',d',z',hT'⟩:=aF hre;rintro⟨h0,h1,hq⟩;obtain⟨b,o,rfl,h2,_⟩:=Jr hx hq;refine⟨_,?_,h2⟩;simp[Instr.indexAt,asIntOf,hT.run_und,Result.andThen,h0,h1,hT'.run_size,dD,Instr.sureAddr]
   ·exact aH.no
  ·exact aH.no
 ·exact aH.no
def yA (P:Program) (t:TypeId) (x i:V):PV :=
 match ti P t,x,i with
 | some r,.str l,.int _ n=>(r.kind= .str∧0≤n∧n<l.length,.int .u8 (l.getD n.toNat 0).toNat)
 | some r,.agg vs,.int _ n=>match r.kind with
  | .arr m el _=>match ti P el with
   | some re=>let q:=Ag P el (n.toNat*re.size) vs;(0≤n∧n<m∧q.1,q.2)
   | none=>fF
  | _=>fF
 | _,_,_=>fF
theorem GZ {t:TypeId} {x i:V} {xv iv:Value} (hx:VRel c x xv) (hi:VRel c i iv):aH P c (Instr.index t xv iv) (yA P t x i):=by
 unfold yA;split
 ·rename_i r l k n hr;obtain ⟨i,d,z,hT⟩ := aF hr;simp only [VRel] at hi hx;subst hi;obtain ⟨s,rfl,rfl,hs⟩ := hx;rintro ⟨hk,h0,h1⟩;have hd := hT.str hk;subst hd;have hlt : n.toNat < s.size := by rw [gQ];omega
  refine⟨.int .u8 (s[n.toNat]'hlt).toNat,?_,?_⟩
  ·simp[Instr.index,asIntOf,hT.run_und,Result.andThen,h0,hlt]
  ·simp only [VRel]
   congr 2
   have hlt':n.toNat<s.data.size:=hlt;simp only[List.getD_eq_getElem?_getD,Array.getElem?_toList,Array.getElem?_eq_getElem hlt',Option.getD_some];rfl
 ·rename_i r vs k n hr;obtain ⟨i,d,z,hT⟩ := aF hr;simp only [VRel] at hi hx;subst hi;obtain ⟨cs,rfl,hcs⟩ := hx;split
  ·rename_i m el hk;have hd := hT.arr hk;subst hd;split
   ·rename_i re hre;obtain⟨i',d',z',hT'⟩:=aF hre;rintro⟨h0,h1,hq⟩;obtain⟨y,hy1,hy2⟩:=Ah (P:=P) (c:=c) hcs hq;refine⟨y,?_,hy2⟩;simp[Instr.index,asIntOf,hT.run_und,Result.andThen,h0,h1,hT'.run_size,hy1]
   ·exact aH.no
  ·exact aH.no
 ·exact aH.no
end
def bH (h:H) (id:Nat):List V:=match h[id]? with | some (.cells cs)=>cs | some (.typed _ cs)=>cs | _=>[]
section
variable {P:Program} {c:C} {e:E} {ok:Nat→Prop} {pl:Nat→Option Nat} {w:World} {h:H}
theorem HSim.cellsAt (hs:HSim e ok pl h w) {id b:Nat} (hb:pl id=some b) {j:Nat} {v:V} (hv:(bH h id)[j]? =some v) :
 ∃x,w.cell? ⟨b,j,none⟩=some x∧VRel (cx ok pl w) v x:=by
 obtain⟨o,ho,hat⟩:=hs.obj id b hb;simp only[bH,ho]at hv;cases o with
 | cells cs=>dsimp only at hv;obtain⟨arr,el,fz,h1,h2,h3,h4⟩:=hat;obtain⟨x,hx,hr⟩:=h4.get j v hv;have hj:j<cs.length:=(List.getElem?_eq_some_iff.1 hv).1;refine⟨x,?_,hr⟩;simp only[cx]at h1;rw[List.getElem?_take_of_lt hj]at hx;simp[World.cell?,h1];simpa using hx
 | typed T cs=>dsimp only at hv;obtain⟨arr,fz,h1,h2,h3,h4⟩:=hat;obtain⟨x,hx,hr⟩:=h4.get j v hv;have hj:j<cs.length:=(List.getElem?_eq_some_iff.1 hv).1;refine⟨x,?_,hr⟩;simp only[cx]at h1;rw[List.getElem?_take_of_lt hj]at hx;simp[World.cell?,h1];simpa using hx
 | dead=>simp at hv
 | map _ _=>simp at hv
 | loop _ _ _ _ _ _ _=>simp at hv
 | misc _=>simp at hv
theorem HSim.cellsTake (hs:HSim e ok pl h w) {id b:Nat} (hb:pl id=some b) (off:Nat):∀(n:Nat),off+n≤(bH h id).length →
 ∃xs:List Value,xs.length=n∧(∀j v,xs[j]? =some v→w.cell? ⟨b,off+j,none⟩=some v)∧VList (cx ok pl w) (((bH h id).drop off).take n) xs
 | 0,_=>⟨[],rfl,by simp,by simp[VList]⟩
 | n+1,hn=>by
  obtain⟨xs,h1,h2,h3⟩:=HSim.cellsTake hs hb off n (by omega);obtain⟨v,hv⟩:∃v,(bH h id)[off+n]? =some v:=⟨_,List.getElem?_eq_getElem (by omega)⟩;obtain⟨x,hx1,hx2⟩:=hs.cellsAt hb hv;refine⟨xs++[x],by simp[h1],fun j u hj=> ?_,?_⟩
  ·by_cases hjn : j < n
   ·rw[List.getElem?_append_left (by omega)]at hj;exact h2 j u hj
   ·have : j = n := by have := (List.getElem?_eq_some_iff.1 hj).1;simp [h1] at this;omega
    subst this;rw[List.getElem?_append_right (by omega)]at hj;simp[h1]at hj;subst hj;exact hx1
  ·have:((bH h id).drop off).take (n+1)=((bH h id).drop off).take n++[v]:=by
    rw[List.take_succ_eq_append_getElem (by simp;omega)]
    congr 1
    simp only[List.getElem_drop];have:=(List.getElem?_eq_some_iff.1 hv).2;rw[this]
   rw[this];refine h3.append ?_;simp only[VList];exact⟨x,[],rfl,hx2,rfl⟩
def uw (P:Program) (h:H) (t:TypeId) (x:V):PV :=
 match ti P t with
 | some r=>match x with
  | .lp id off=>(off+r.size≤(bH h id).length∧(r.agg=false→r.size=1),V.sub (bH h id) off r.size r.agg)
  | .ip (.agg vs)=>(r.agg=true∧r.size=vs.length,.agg vs)
  | .ip e=>(r.agg=false∧e.one=true,e)
  | _=>fF
 | none=>fF
theorem uy (hs:HSim e ok pl h w) {t:TypeId} {x:V} {xv:Value} (hx:VRel (cx ok pl w) x xv):aH P (cx ok pl w) (Instr.loadAt t xv) (uw P h t x):=by
 unfold uw;split
 ·rename_i r hr;obtain ⟨i,d,z,hT⟩ := aF hr;split
  ·rename_i id off;rintro⟨h1,h2⟩;simp only[VRel]at hx;obtain⟨b,hb,rfl⟩:=hx;have hb':pl id=some b:=hb;cases ha:r.agg with
   | true =>
    obtain⟨xs,h3,h4,h5⟩:=hs.cellsTake hb' off r.size h1;refine⟨.agg xs.toArray,?_,?_⟩
    ·have:=run_loadCells_list (P:=P) w ⟨b,off,none⟩ xs (fun j v hj=>by rw[dD];exact h4 j v hj);rw[h3]at this;simp[Instr.loadAt,Instr.sureAddr,loadVar,hT.agg,ha,Result.andThen,hT.run_size,cx,this]
    ·simp only[V.sub,cond_true,VRel];exact⟨_,rfl,by simpa using h5⟩
   | false =>
    have hsz:=h2 ha;obtain⟨v,hv⟩:∃v,(bH h id)[off]? =some v:=⟨_,List.getElem?_eq_getElem (by omega)⟩;obtain⟨y,hy1,hy2⟩:=hs.cellsAt hb' hv;refine⟨y,?_,?_⟩
    ·simp[Instr.loadAt,Instr.sureAddr,loadVar,hT.agg,ha,Result.andThen,cx,hy1]
    ·simp only[V.sub,cond_false,List.getD_eq_getElem?_getD,hv,Option.getD_some];exact hy2
  ·rename_i vs;rintro ⟨ha,h2⟩;simp only [VRel] at hx;obtain ⟨b,o,ev,rfl,h3,h4,cs,rfl,hcs⟩ := hx;have hl := hcs.length;refine ⟨.agg cs,?_,?_⟩
   ·have:=run_loadCells_list (P:=P) w ⟨b,o,none⟩ cs.toList (fun j v hj=>by
     have hlt:j<cs.size:=by simpa using(List.getElem?_eq_some_iff.1 hj).1
     rw[dD];exact((h3 j hlt).2).trans (by simpa [Value.cells]using hj))
    rw[hl,←h2]at this;simp[Instr.loadAt,Instr.sureAddr,loadVar,hT.agg,ha,Result.andThen,hT.run_size,cx,this]
   ·simp only[VRel];exact⟨cs,rfl,VList.ofdata _ _ hcs⟩
  ·rename_i e' _;rintro ⟨ha,h2⟩;simp only [VRel] at hx;obtain ⟨b,o,ev,rfl,h3,h4,h5⟩ := hx;have h1 := h5.one h2;refine ⟨ev,?_,VRel.ofdata _ _ h5⟩;have := (h3 0 h4).2;rw [h1] at this;have hc : w.cell? ⟨b,o,none⟩ = some ev := by simpa [cx] using this
   simp[Instr.loadAt,Instr.sureAddr,loadVar,hT.agg,ha,Result.andThen,cx,hc]
  ·exact aH.no
 ·exact aH.no
def yB (P:Program) (t:TypeId) (x:V) (lo hi mx:Option V):PV :=
 let l:Option Int:=match lo with | none=>some 0 | some (.int _ n)=>some n | _=>none
 match ti P t,l with
 | some r,some l=>match x with
  | .str s=>match hi,mx with
   | none,none=>(r.kind= .str∧0≤l∧l≤s.length,.str (s.drop l.toNat))
   | some (.int _ n),none=>(r.kind= .str∧0≤l∧l≤n∧n≤s.length,.str ((s.drop l.toNat).take (n.toNat-l.toNat)))
   | _,_=>fF
  | .is ex k es=>match r.kind with
   | .slice el=>match ti P el with
    | some re=>match hi,mx with
     | none,none=>(re.size=k∧0≤l∧l≤es.length,.is ex k (es.drop l.toNat))
     | some (.int _ n),none=>(re.size=k∧0≤l∧l≤n∧n≤es.length,.is false k ((es.drop l.toNat).take (n.toNat-l.toNat)))
     | some (.int _ n),some (.int _ m)=>(re.size=k∧0≤l∧l≤n∧n≤es.length∧m=n,.is true k ((es.drop l.toNat).take (n.toNat-l.toNat)))
     | _,_=>fF
    | none=>fF
   | _=>fF
  | .ls id k off len cap=>match r.kind with
   | .slice el=>match ti P el with
    | some re=>match hi,mx with
     | none,none=>(re.size=k∧0≤l∧l≤len,.ls id k (off+l.toNat*k) (len-l.toNat) (cap-l.toNat))
     | some (.int _ n),none=>(re.size=k∧0≤l∧l≤n∧(n≤len∨n≤cap),.ls id k (off+l.toNat*k) (n.toNat-l.toNat) (cap-l.toNat))
     | _,_=>fF
    | none=>fF
   | _=>fF
  | _=>fF
 | _,_=>fF
theorem iF {P : Program} {w : World} (isSlice : Bool) (len cap : Nat) (kl : IntKind) (lo : Option V) (hi mx : Option V) (lov hiv mxv : Option Value) (l n m : Int)
 (hl:(lov=none∧l=0)∨∃k,lov=some (.int k l)) (hh:(hiv=none∧mxv=none∧n=len)∨∃k,hiv=some (.int k n)) (hm:(mxv=none∧m=cap)∨∃k,mxv=some (.int k m))
 (h0:0≤l) (h1:l≤n) (h2:n≤m) (h3:m≤cap):(Instr.sliceBounds isSlice len cap lov hiv mxv).run P w= .ok (l.toNat,n.toNat,m.toNat) w:=by
 have hb:∀(k:IntKind) (i:Int) (y:Nat) (code:BoundsCode),0≤i→i≤y→(Instr.sliceBound (.int k i) y code).run P w= .ok i.toNat w:=by intro k i y code h4 h5;simp[Instr.sliceBound,asIntOf,Result.andThen,h4,h5]
 have h5:0≤n:=by omega
 have h6:0≤m:=by omega
 have q1:n≤(m.toNat:Int):=by omega
 have q2:l≤(n.toNat:Int):=by omega
 have q3:(cap:Int).toNat=cap:=by omega
 unfold Instr.sliceBounds;rcases hm with⟨rfl,rfl⟩ | ⟨km,rfl⟩<;>rcases hh with⟨rfl,h7,rfl⟩ | ⟨kh,rfl⟩<;>rcases hl with⟨rfl,rfl⟩ | ⟨kl',rfl⟩<;>first | (cases h7;done) | skip
 all_goals simp_all [Result.andThen]
theorem Ud {c : C} {lo : Option V} {lov : Option Value} {l : Int} (h : (match lo with | none => some 0 | some (.int _ n) => some n | _ => none) = some l)
 (hr:∀v,lo=some v→∃x,lov=some x∧VRel c v x) (hn:lo=none→lov=none):(lov=none∧l=0)∨∃k,lov=some (.int k l):=by
 split at h
 ·exact .inl ⟨hn rfl,by cases h;rfl⟩
 ·rename_i k n;obtain⟨x,h1,h2⟩:=hr _ rfl;simp only[VRel]at h2;cases h;subst h2;exact .inr ⟨k,h1⟩
 ·cases h
theorem G5 {t : TypeId} {x : V} {xv : Value} {lo hi mx : Option V} {lov hiv mxv : Option Value} (hx : VRel c x xv)
 (hlo:(∀v,lo=some v→∃x,lov=some x∧VRel c v x)∧(lo=none→lov=none))
 (hhi:(∀v,hi=some v→∃x,hiv=some x∧VRel c v x)∧(hi=none→hiv=none))
 (hmx:(∀v,mx=some v→∃x,mxv=some x∧VRel c v x)∧(mx=none→mxv=none)) :
 aH P c (Instr.sliceAt t xv lov hiv mxv) (yB P t x lo hi mx):=by
 unfold yB;dsimp only;split
 ·rename_i r l hr hl;obtain ⟨i,d,z,hT⟩ := aF hr;have hl' := Ud hl hlo.1 hlo.2;split
  ·rename_i s;simp only [VRel] at hx;obtain ⟨u,rfl,rfl,hu⟩ := hx;split
   ·rintro ⟨hk,h0,h1⟩;have hd := hT.str hk;subst hd;have hh := hhi.2 rfl;have hm := hmx.2 rfl;subst hh;subst hm;have hb := iF (P := P) (w := c.w) false u.size u.size .i64 lo none none lov none none l u.size u.size hl' (.inl ⟨rfl,rfl,rfl⟩) (.inl ⟨rfl,rfl⟩) h0 (by rw [gQ];exact h1) (by omega) (by omega);refine ⟨.string (u.extract l.toNat u.size),?_,?_⟩
    ·simp[Instr.sliceAt,hT.run_und,Result.andThen,Instr.slice,hb]
    ·simp only[VRel];refine⟨_,rfl,?_,by rw[List.length_drop];omega⟩;rw[Lib.extract_data,List.take_of_length_le];rw[List.length_drop,gQ];omega
   ·rename_i k n;rintro ⟨hk,h0,h1,h2⟩;have hd := hT.str hk;subst hd;obtain ⟨hv,hh1,hh2⟩ := hhi.1 _ rfl;simp only [VRel] at hh2;have hm := hmx.2 rfl;subst hh1;subst hh2;subst hm;have hb := iF (P := P) (w := c.w) false u.size u.size .i64 lo (some (.int k n)) none lov (some (.int k n)) none l n u.size hl' (.inr ⟨k,rfl⟩) (.inl ⟨rfl,rfl⟩) h0 h1 (by rw [gQ];exact h2) (by omega);refine ⟨.string (u.extract l.toNat n.toNat),?_,?_⟩
    ·simp[Instr.sliceAt,hT.run_und,Result.andThen,Instr.slice,hb]
    ·simp only[VRel];refine⟨_,rfl,by rw[Lib.extract_data],?_⟩;rw[List.length_take,List.length_drop];omega
   ·exact aH.no
  ·rename_i ex k es;simp only [VRel] at hx;obtain ⟨a,cp,rfl,hlen,hmax,hex,hh⟩ := hx;split
   ·rename_i el hk;have hd := hT.slice hk;subst hd;split
    ·rename_i re hre;obtain⟨i',d',z',hT'⟩:=aF hre;have sub:∀(lo n:Nat) (a':Option Addr) (cp':Nat) (ex':Bool),lo≤n→n≤es.length→n-lo≤cp'→cp'≤maxLen→(ex'=true→cp'=n-lo) →
      (es≠[]→lo<n→a'=a.map (·.add (lo*k))) →
      VRel c (.is ex' k ((es.drop lo).take (n-lo))) (.slice a' (n-lo) cp'):=by
      intro lo n a' cp' ex' h1 h2 h3 h4 h5 h6;have hl:((es.drop lo).take (n-lo)).length=n-lo:=by rw[List.length_take,List.length_drop];omega
      simp only[VRel];refine⟨a',cp',by rw[hl],by rw[hl];exact h3,h4,by rw[hl];exact h5,?_⟩;rcases hh with rfl | ⟨b,off,rfl,hel⟩
      ·left;simp
      ·by_cases hln : lo < n
       ·right;have hne : es ≠ [] := by rintro rfl;simp at h2;omega
        refine⟨b,off+lo*k,?_,hel.sub lo (n-lo)⟩;rw[h6 hne hln];simp[dD]
       ·left;exact List.length_eq_zero_iff.1 (by rw[hl];omega)
     split
     ·rintro ⟨hs,h0,h1⟩;have hh1 := hhi.2 rfl;have hm := hmx.2 rfl;subst hh1;subst hm;have hb := iF (P := P) (w := c.w) true es.length cp .i64 lo none none lov none none l es.length cp hl' (.inl ⟨rfl,rfl,rfl⟩) (.inl ⟨rfl,rfl⟩) h0 (by omega) (by omega) (by omega);have e1 : es.drop l.toNat = (es.drop l.toNat).take (es.length - l.toNat) := by rw [List.take_of_length_le];simp
      refine⟨.slice (if cp=l.toNat then a else a.map (·.add (l.toNat*k))) (es.length-l.toNat) (cp-l.toNat),?_,?_⟩
      ·simp[Instr.sliceAt,hT.run_und,Result.andThen,Instr.slice,hb,hT'.run_size,hs]
      ·rw[e1];refine sub l.toNat es.length _ _ ex (by omega) (by omega) (by omega) (by omega) (fun hx=>by have:=hex hx;omega) (fun _ hlt=> ?_);rw[if_neg (by omega)]
     ·rename_i kk n;rintro ⟨hs,h0,h1,h2⟩;obtain ⟨hv,hh1,hh2⟩ := hhi.1 _ rfl;simp only [VRel] at hh2;have hm := hmx.2 rfl;subst hh1;subst hh2;subst hm;have hb := iF (P := P) (w := c.w) true es.length cp .i64 lo (some (.int kk n)) none lov (some (.int kk n)) none l n cp hl' (.inr ⟨kk,rfl⟩) (.inl ⟨rfl,rfl⟩) h0 h1 (by omega) (by omega);refine ⟨.slice (if cp = l.toNat then a else a.map (·.add (l.toNat * k))) (n.toNat - l.toNat) (cp - l.toNat),?_,?_⟩
      ·simp[Instr.sliceAt,hT.run_und,Result.andThen,Instr.slice,hb,hT'.run_size,hs]
      ·refine sub l.toNat n.toNat _ _ false (by omega) (by omega) (by omega) (by omega) (fun hx=>by cases hx) (fun _ hlt=> ?_);rw[if_neg (by omega)]
     ·rename_i kk n km m;rintro ⟨hs,h0,h1,h2,h3⟩;obtain ⟨hv,hh1,hh2⟩ := hhi.1 _ rfl;obtain ⟨mv,hm1,hm2⟩ := hmx.1 _ rfl;simp only [VRel] at hh2 hm2;subst hh1;subst hh2;subst hm1;subst hm2;have hb := iF (P := P) (w := c.w) true es.length cp .i64 lo (some (.int kk n)) (some (.int km m)) lov (some (.int kk n)) (some (.int km m)) l n m hl' (.inr ⟨kk,rfl⟩) (.inr ⟨km,rfl⟩) h0 h1 (by omega) (by omega);refine ⟨.slice (if m.toNat = l.toNat then a else a.map (·.add (l.toNat * k))) (n.toNat - l.toNat) (m.toNat - l.toNat),?_,?_⟩
      ·simp[Instr.sliceAt,hT.run_und,Result.andThen,Instr.slice,hb,hT'.run_size,hs]
      ·refine sub l.toNat n.toNat _ _ true (by omega) (by omega) (by omega) (by omega) (fun hx=>by omega) (fun _ hlt=> ?_);rw[if_neg (by omega)]
     ·exact aH.no
    ·exact aH.no
   ·exact aH.no
  ·rename_i id k off len cap;simp only [VRel] at hx;obtain ⟨a,cp,rfl,hcap,hlen,hmax,hh⟩ := hx;split
   ·rename_i el hk;have hd := hT.slice hk;subst hd;split
    ·rename_i re hre;obtain⟨i',d',z',hT'⟩:=aF hre;have sub:∀(lo n:Nat),lo≤n→n≤cp →
      VRel c (.ls id k (off+lo*k) (n-lo) (cap-lo)) (.slice (if cp=lo then a else a.map (·.add (lo*k))) (n-lo) (cp-lo)):=by
      intro lo n h1 h2;simp only[VRel];refine⟨_,_,rfl,by omega,by omega,by omega,?_⟩;by_cases hc:cp-lo=0
      ·exact .inl hc
      ·rcases hh with hh | ⟨b,arr,el',fz,hb,rfl,h3,h4⟩
       ·omega
       ·refine .inr ⟨b,arr,el',fz,hb,?_,h3,?_⟩
        ·rw[if_neg (by omega)];simp[dD]
        ·have : off + lo * k + (cp - lo) * k = off + cp * k := by rw [Nat.add_assoc,← Nat.add_mul];congr 2;omega
         omega
     split
     ·rintro⟨hs,h0,h1⟩;have hh1:=hhi.2 rfl;have hm:=hmx.2 rfl;subst hh1;subst hm;have hb:=iF (P:=P) (w:=c.w) true len cp .i64 lo none none lov none none l len cp hl' (.inl ⟨rfl,rfl,rfl⟩) (.inl ⟨rfl,rfl⟩) h0 (by omega) (by omega) (by omega);refine⟨.slice (if cp=l.toNat then a else a.map (·.add (l.toNat*k))) (len-l.toNat) (cp-l.toNat),?_,sub l.toNat len (by omega) (by omega)⟩;simp[Instr.sliceAt,hT.run_und,Result.andThen,Instr.slice,hb,hT'.run_size,hs]
     ·rename_i kk n;rintro⟨hs,h0,h1,h2⟩;obtain⟨hv,hh1,hh2⟩:=hhi.1 _ rfl;simp only[VRel]at hh2;have hm:=hmx.2 rfl;subst hh1;subst hh2;subst hm;have hb:=iF (P:=P) (w:=c.w) true len cp .i64 lo (some (.int kk n)) none lov (some (.int kk n)) none l n cp hl' (.inr ⟨kk,rfl⟩) (.inl ⟨rfl,rfl⟩) h0 h1 (by omega) (by omega);refine⟨.slice (if cp=l.toNat then a else a.map (·.add (l.toNat*k))) (n.toNat-l.toNat) (cp-l.toNat),?_,sub l.toNat n.toNat (by omega) (by omega)⟩;simp[Instr.sliceAt,hT.run_und,Result.andThen,Instr.slice,hb,hT'.run_size,hs]
     ·exact aH.no
    ·exact aH.no
   ·exact aH.no
  ·exact aH.no
 ·exact aH.no
end
section
variable {P:Program} {w:World}
theorem jy {e:TypeId} {q:IntKind} (he:P.underlying e=some (.int q)) {xs:Array Value} {i:Nat} {a:Value} (h:xs[i]? =some a):(part e xs i).run P w= .ok a w :=
 run_part_plain w (by simp[Program.plainKey,he]) h
theorem Js {e:TypeId} {q:IntKind} (he:P.underlying e=some (.int q)) (em:Bool) (n:Nat) (a:Value):(Instr.checkKey em (n+1) e a).run P w= .ok () w:=by simp[Instr.checkKey,run_underlying he]
theorem G6 {k e:TypeId} {q:IntKind} (hk:P.underlying k=some (.array 2 e)) (he:P.underlying e=some (.int q)) (em:Bool) (n:Nat) (a b:Value) (hs:(sizeOf e).run P w= .ok 1 w) :
 (Instr.checkKey em (n+2) k (.agg #[a,b])).run P w= .ok () w:=by
 have h0:(part e #[a,b] (0*1)).run P w= .ok a w:=jy he (by simp);have h1:(part e #[a,b] (1*1)).run P w= .ok b w:=jy he (by simp);rw[Instr.checkKey];simp[run_underlying hk,Std.Legacy.Range.forIn_eq_forIn_range',List.range',hs,h0,h1,Js he,Sem.run_bind,Result.andThen]
theorem nH {e:TypeId} {q:IntKind} (he:P.underlying e=some (.int q)) (n:Nat) (a b:Int):(Op.equalIn (n+1) e (.int q a) (.int q b)).run P w= .ok (a==b) w:=by simp[Op.equalIn,run_underlying he]
theorem G7 {k e:TypeId} {q:IntKind} (hk:P.underlying k=some (.array 2 e)) (he:P.underlying e=some (.int q)) (n:Nat) (a b c d:Int) (hs:(sizeOf e).run P w= .ok 1 w) :
 (Op.equalIn (n+2) k (.agg #[.int q a,.int q b]) (.agg #[.int q c,.int q d])).run P w= .ok ((a==c)&&(b==d)) w:=by
 have h0:(part e #[.int q a,.int q b] (0*1)).run P w= .ok (.int q a) w:=jy he (by simp);have h1:(part e #[.int q a,.int q b] (1*1)).run P w= .ok (.int q b) w:=jy he (by simp);have g0:(part e #[.int q c,.int q d] (0*1)).run P w= .ok (.int q c) w:=jy he (by simp);have g1:(part e #[.int q c,.int q d] (1*1)).run P w= .ok (.int q d) w:=jy he (by simp);rw[Op.equalIn];simp[run_underlying hk,Std.Legacy.Range.forIn_eq_forIn_range',List.range',hs,nH he,h0,h1,g0,g1,Sem.run_bind,Result.andThen];simp only[Nat.one_mul]at h1 g1;have e1:∀x y:Int,(x==y)=decide (x=y):=fun x y=>rfl;by_cases ha:a=c
 ·subst ha;by_cases hb : b = d
  ·subst hb;simp[h1,g1,nH he,Sem.run_bind,Result.andThen]
  ·have hb' : (b == d) = false := by simpa using hb
   simp[h1,g1,nH he,Sem.run_bind,Result.andThen,hb']
 ·simp[ha,Sem.run_bind,Result.andThen]
end
def keq : K → V → V → Option Bool
 | .int _,.int k a,.int k' b=>if k=k' then some (a==b)else none
 | .str,.str a,.str b=>some (a==b)
 | .bool,.bool a,.bool b=>some (a==b)
 | .arr n _ (some q),.agg [.int k a,.int k' b],.agg [.int l c,.int l' d]=>if n=2∧k=q∧k'=q∧l=q∧l'=q then some ((a==c)&&(b==d))else none
 | _,_,_=>none
def ji (kd : K) (key : V) : List V → Option (Option Nat)
 | []=>some none
 | k::ks=>match keq kd key k with
  | some true=>some (some 0)
  | some false=>match ji kd key ks with
   | some (some i)=>some (some (i+1))
   | r=>r
  | none=>none
section
variable {P:Program} {c:C} {e:E} {ok:Nat→Prop} {pl:Nat→Option Nat} {w:World} {h:H}
theorem Jt {t : TypeId} {r : TI} {i : TypeInfo} {d : TypeDesc} {z : Value} (hT : TIs P t r i d z) {a b : V} {av bv : Value} {q : Bool} (ha : VRel c a av) (hb : VRel c b bv)
 (hna:∀n e' q,r.kind≠ .arr n e' q) (hq:keq r.kind a b=some q):Instr.sameNow d av bv=some q:=by
 unfold keq at hq;split at hq
 ·rename_i hk;rw[hT.int hk];simp only[VRel]at ha hb;subst ha;subst hb;simpa [Instr.sameNow]using hq
 ·rename_i hk;rw[hT.str hk];simp only[VRel]at ha hb;obtain⟨s,rfl,rfl,_⟩:=ha;obtain⟨u,rfl,rfl,_⟩:=hb;rw[←hq];simp only[Instr.sameNow,beq_toListBytes,ByteArray.toList_eq]
 ·rename_i hk;rw[hT.bool hk];simp only[VRel]at ha hb;subst ha;subst hb;simpa [Instr.sameNow]using hq
 ·rename_i hk;exact absurd hk (hna _ _ _)
 ·cases hq
theorem Ai {t:TypeId} {r:TI} {i:TypeInfo} {d:TypeDesc} {z:Value} (hT:TIs P t r i d z) (hna:∀n e' q,r.kind≠ .arr n e' q) {key:V} {kv:Value} (hk:VRel c key kv) :
 ∀(ks:List V) (es:List MapEntry) (j:Nat) (q:Option Nat),VList c ks (es.map (·.key))→ji r.kind key ks=some q →
  ∃a,Instr.findNow d kv es j=some a∧(match q with
   | none=>a=none
   | some n=>∃en,es[n]? =some en∧a=some (j+n,en.val))
 | [],es,j,q,hr,hq=>by
  simp only[VList]at hr;have:es=[]:=by simpa using hr
  subst this;simp only[ji]at hq;cases hq;exact⟨none,rfl,rfl⟩
 | k::ks,es,j,q,hr,hq=>by
  simp only[VList]at hr;obtain⟨y,ys,h1,h2,h3⟩:=hr;cases es with
  | nil=>cases h1
  | cons en es =>
   simp only[List.map_cons,List.cons.injEq]at h1;obtain⟨rfl,rfl⟩:=h1;simp only[ji]at hq;split at hq
   ·rename_i hb;cases hq;exact⟨some (j,en.val),by simp[Instr.findNow,Jt hT hk h2 hna hb],en,rfl,by simp⟩
   ·rename_i hb;have hf:∀(q':Option Nat),ji r.kind key ks=some q'→∃a,Instr.findNow d kv es (j+1)=some a∧(match q' with
     | none=>a=none
     | some n=>∃en,es[n]? =some en∧a=some (j+1+n,en.val)):=fun q' hq'=>Ai hT hna hk ks es (j+1) q' h3 hq'
    split at hq
    ·rename_i n hn;cases hq;obtain⟨a,h4,en',h5,h6⟩:=hf _ hn;refine⟨a,by simp[Instr.findNow,Jt hT hk h2 hna hb,h4],en',by simpa using h5,?_⟩;rw[h6];congr 2;omega
    ·rename_i r' hr';cases hm:ji r.kind key ks with
     | none=>rw[hm]at hq;cases hq
     | some q' =>
      cases q' with
      | some n=>exact absurd hm (hr' n)
      | none=>rw[hm]at hq;cases hq;obtain⟨a,h4,h5⟩:=hf none hm;exact⟨a,by simp[Instr.findNow,Jt hT hk h2 hna hb,h4],h5⟩
   ·cases hq
theorem rY {t:TypeId} {r:TI} {i:TypeInfo} {d:TypeDesc} {z:Value} (hT:TIs P t r i d z) {n e':Nat} {q0:Option IntKind} (hka:r.kind= .arr n e' q0) {key:V} {kv:Value} (hk:VRel c key kv) :
 ∀(ks:List V) (es:List MapEntry) (j:Nat) (q:Option Nat),VList c ks (es.map (·.key))→ji r.kind key ks=some q →
  ∃a,(Instr.findAsking t kv es j).run P w= .ok a w∧(match q with
   | none=>a=none
   | some n=>∃en,es[n]? =some en∧a=some (j+n,en.val))
 | [],es,j,q,hr,hq=>by
  simp only[VList]at hr;have:es=[]:=by simpa using hr
  subst this;simp only[ji]at hq;cases hq;exact⟨none,rfl,rfl⟩
 | k::ks,es,j,q,hr,hq=>by
  simp only[VList]at hr;obtain⟨y,ys,h1,h2,h3⟩:=hr;cases es with
  | nil=>cases h1
  | cons en es =>
   simp only[List.map_cons,List.cons.injEq]at h1;obtain⟨rfl,rfl⟩:=h1;have heq:∀b,keq r.kind key k=some b→(Op.equal t kv en.key).run P w= .ok b w:=by
    intro b hb;rw[hka]at hb;unfold keq at hb;split at hb<;>first | (cases ‹K.arr _ _ _=_›;done) | skip
    ·rename_i q1 k1 a1 k2 b1 l1 c1 l2 d1 hk1;cases hk1;split at hb
     ·rename_i hc;obtain⟨hn2,hk1,hk2,hl1,hl2⟩:=hc;subst hn2;cases hb;obtain⟨hd,he,i',hi,hc1⟩:=hT.arrQ hka;subst hd;simp only[VRel,VList]at hk h2;obtain⟨cs,rfl,_,_,hcs,rfl,_,_,rfl,rfl,rfl⟩:=hk;obtain⟨ds,hds,_,_,hds2,rfl,_,_,rfl,rfl,rfl⟩:=h2;rw[hds];have e1:cs=#[.int k1 a1,.int k2 b1]:=Array.toList_inj.1 hcs;have e2:ds=#[.int l1 c1,.int l2 d1]:=Array.toList_inj.1 hds2;rw[e1,e2,hk1,hk2,hl1,hl2];exact G7 hT.und he 9998 _ _ _ _ (by rw[run_sizeOf w hi,hc1])
     ·cases hb
    ·cases hb
   simp only[ji]at hq;split at hq
   ·rename_i hb;cases hq;exact⟨some (j,en.val),by simp[Instr.findAsking,heq _ hb,Result.andThen],en,rfl,by simp⟩
   ·rename_i hb;have hf:∀(q':Option Nat),ji r.kind key ks=some q'→∃a,(Instr.findAsking t kv es (j+1)).run P w= .ok a w∧(match q' with
     | none=>a=none
     | some n=>∃en,es[n]? =some en∧a=some (j+1+n,en.val)):=fun q' hq'=>rY hT hka hk ks es (j+1) q' h3 hq'
    split at hq
    ·rename_i n hn;cases hq;obtain⟨a,h4,en',h5,h6⟩:=hf _ hn;refine⟨a,by simp[Instr.findAsking,heq _ hb,h4,Result.andThen],en',by simpa using h5,?_⟩;rw[h6];congr 2;omega
    ·rename_i r' hr';cases hm:ji r.kind key ks with
     | none=>rw[hm]at hq;cases hq
     | some q' =>
      cases q' with
      | some n=>exact absurd hm (hr' n)
      | none=>rw[hm]at hq;cases hq;obtain⟨a,h4,h5⟩:=hf none hm;exact⟨a,by simp[Instr.findAsking,heq _ hb,h4,Result.andThen],h5⟩
   ·cases hq
theorem tH {t : TypeId} {r : TI} {i : TypeInfo} {d : TypeDesc} {z : Value} (hT : TIs P t r i d z) {key : V} {kv : Value} (hk : VRel c key kv)
 (ks:List V) (es:List MapEntry) (q:Option Nat):VList c ks (es.map (·.key))→ji r.kind key ks=some q →
  ∃a,(Instr.findKey t kv es).run P w= .ok a w∧(match q with
   | none=>a=none
   | some n=>∃en,es[n]? =some en∧a=some (0+n,en.val)):=by
 intro hr hq;by_cases hna:∀n e' q,r.kind≠ .arr n e' q
 ·obtain⟨a,h1,h2⟩:=Ai hT hna hk ks es 0 q hr hq;exact⟨a,MapKept.run_findKey hT.und h1,h2⟩
 ·simp only[Classical.not_forall,ne_eq,Classical.not_not]at hna;obtain⟨n,e',q0,hka⟩:=hna;obtain⟨a,h1,h2⟩:=rY (w:=w) hT hka hk ks es 0 q hr hq;refine⟨a,?_,h2⟩;rw[run_findKey_eq w (by rw[hT.und,hT.arr hka]) kv es];exact h1
def K.keyOk : K → V → Bool
 | .int _,.int _ _=>true
 | .str,.str _=>true
 | .bool,.bool _=>true
 | .arr n _ (some q),.agg [.int k _,.int k' _]=>decide (n=2)
 | _,_=>false
theorem nI {t:TypeId} {r:TI} {i:TypeInfo} {d:TypeDesc} {z:Value} (hT:TIs P t r i d z) {key:V} {kv:Value} (hk:VRel c key kv) (ho:r.kind.keyOk key=true) (em:Bool) (w:World) :
 (Instr.checkKey em 10000 t kv).run P w= .ok () w:=by
 by_cases hna:∃n e' q,r.kind= .arr n e' (some q)
 ·obtain ⟨n,e',q,hka⟩ := hna;rw [hka] at ho;unfold K.keyOk at ho;split at ho <;> first | (cases ‹K.arr _ _ _ = _›;done) | skip
  ·rename_i n1 q1 k1 a1 k2 b1 hk1;cases hk1;have hn2:=of_decide_eq_true ho;subst hn2;obtain⟨hd,he,i',hi,hc1⟩:=hT.arrQ hka;subst hd;simp only[VRel,VList]at hk;obtain⟨cs,rfl,_,_,hcs,rfl,_,_,rfl,rfl,rfl⟩:=hk;have e1:cs=#[.int k1 a1,.int k2 b1]:=Array.toList_inj.1 hcs;rw[e1];exact G6 hT.und he em 9998 _ _ (by rw[run_sizeOf w hi,hc1])
  ·cases ho
 unfold Instr.checkKey;simp only[Sem.run_bind,hT.run_und,Result.andThen];cases hkk:r.kind<;>rw[hkk]at ho<;>cases key<;>simp only[K.keyOk,Bool.false_eq_true]at ho<;>simp only[VRel]at hk
 ·subst hk;rw[hT.bool hkk];rfl
 ·subst hk;rw[hT.int hkk];rfl
 ·obtain⟨s,rfl,_⟩:=hk;rw[hT.str hkk];rfl
 ·rename_i q vs;cases q with
  | none=>split at ho<;>first | (cases ‹K.arr _ _ _=_›;done) | (cases ho;done) | skip
  | some q=>exact absurd ⟨_,_,_,hkk⟩ hna
def tJ (kd:K) (key:V) (ks vs:List V) (zero:V) (commaOk:Bool):PV :=
 match ji kd key ks with
 | some (some n)=>(True,bif commaOk then .tup [vs.getD n .any,.bool true]else vs.getD n .any)
 | some none=>(True,bif commaOk then .tup [zero,.bool false]else zero)
 | none=>fF
def tK (P:Program) (h:H) (t:TypeId) (x key:V) (commaOk:Bool):PV :=
 match ti P t with
 | some r=>match r.kind with
  | .map kt et=>match ti P kt,ti P et with
   | some rk,some re=>match x with
    | .nilm=>(rk.kind.keyOk key=true,bif commaOk then .tup [re.zero,.bool false]else re.zero)
    | .im ks vs=>let q:=tJ rk.kind key ks vs re.zero commaOk;(rk.kind.keyOk key=true∧q.1,q.2)
    | .lm id=>match h[id]? with
     | some (.map ks vs)=>let q:=tJ rk.kind key ks vs re.zero commaOk;(rk.kind.keyOk key=true∧q.1,q.2)
     | _=>fF
    | _=>fF
   | _,_=>fF
  | _=>fF
 | none=>fF
theorem QU {m : C} {kt et : TypeId} {rk re : TI} {ik ie : TypeInfo} {dk de : TypeDesc} {zk ze : Value} (hK : TIs P kt rk ik dk zk) (hE : TIs P et re ie de ze)
 {key:V} {kv:Value} (hk:VRel m key kv) {ks vs:List V} {es:Array MapEntry} (h1:VList m ks (es.toList.map (·.key))) (h2:VList m vs (es.toList.map (·.val)))
 {commaOk:Bool} (hq:(tJ rk.kind key ks vs re.zero commaOk).1) :
 (∃j v,(Instr.findKey kt kv es.toList).run P w= .ok (some (j,v)) w∧VRel m (tJ rk.kind key ks vs re.zero commaOk).2 (if commaOk then .tuple #[v,.bool true]else v)) ∨
 ((Instr.findKey kt kv es.toList).run P w= .ok none w∧VRel m (tJ rk.kind key ks vs re.zero commaOk).2 (if commaOk then .tuple #[ze,.bool false]else ze)):=by
 unfold tJ at hq ⊢;split at hq
 ·rename_i n hn;obtain ⟨a,h3,en,h4,rfl⟩ := tH (w := w) hK hk ks es.toList _ h1 hn;have hlen := h2.length;have hlt : n < es.toList.length := (List.getElem?_eq_some_iff.1 h4).1;obtain ⟨v,hv⟩ : ∃ v,vs[n]? = some v := ⟨_,List.getElem?_eq_getElem (by simp at hlen hlt;omega)⟩;obtain ⟨x,hx1,hx2⟩ := h2.get n v hv;rw [List.getElem?_map,h4] at hx1;simp at hx1;subst hx1;refine .inl ⟨_,_,h3,?_⟩;simp only [List.getD_eq_getElem?_getD,hv,Option.getD_some];cases commaOk
  ·exact hx2
  ·simp only[cond_true,if_true,VRel,VList];exact⟨_,rfl,_,_,rfl,hx2,_,_,rfl,rfl,rfl⟩
 ·rename_i hn;obtain ⟨a,h3,rfl⟩ := tH (w := w) hK hk ks es.toList _ h1 hn;have hz : VRel m re.zero ze := hE.zv ▸ cZ m ze;refine .inr ⟨h3,?_⟩;cases commaOk
  ·exact hz
  ·simp only[cond_true,if_true,VRel,VList];exact⟨_,rfl,_,_,rfl,hz,_,_,rfl,rfl,rfl⟩
 ·exact hq.elim
theorem Dx (hs:HSim e ok pl h w) {t:TypeId} {x key:V} {xv kv:Value} {commaOk:Bool} (hx:VRel (cx ok pl w) x xv) (hk:VRel (cx ok pl w) key kv) :
 aH P (cx ok pl w) (Instr.lookup t xv kv commaOk) (tK P h t x key commaOk):=by
 unfold tK;split
 ·rename_i r hr;obtain ⟨i,d,z,hT⟩ := aF hr;split
  ·rename_i kt et hkd;have hd := hT.map hkd;subst hd;split
   ·rename_i rk re hrk hre;obtain⟨ik,dk,zk,hK⟩:=aF hrk;obtain⟨ie,de,ze,hE⟩:=aF hre;have fin:∀(es:Array MapEntry) (ks vs:List V),((xv= .map none∧es=#[])∨∃b clk,xv= .map (some b)∧w.heap[b]? =some (.map es clk)) →
     VList (cx ok pl w) ks (es.toList.map (·.key))→VList (cx ok pl w) vs (es.toList.map (·.val)) →
     (rk.kind.keyOk key=true∧(tJ rk.kind key ks vs re.zero commaOk).1) →
     ∃y,(Instr.lookup t xv kv commaOk).run P w= .ok y w∧VRel (cx ok pl w) (tJ rk.kind key ks vs re.zero commaOk).2 y:=by
     rintro es ks vs hxv h1 h2 ⟨h3,h4⟩;rcases QU (P:=P) (w:=w) hK hE hk h1 h2 h4 with⟨j,v,h5,h6⟩ | ⟨h5,h6⟩
     ·refine ⟨_,?_,h6⟩;rcases hxv with ⟨rfl,rfl⟩ | ⟨b,clk,rfl,hb⟩
      ·simp[Instr.lookup,hT.run_und,Result.andThen,nI hK hk h3,h5]
      ·simp[Instr.lookup,hT.run_und,Result.andThen,MapKept.run_getObj_map hb,nI hK hk h3,h5]
     ·refine ⟨_,?_,h6⟩;rcases hxv with ⟨rfl,rfl⟩ | ⟨b,clk,rfl,hb⟩
      ·simp[Instr.lookup,hT.run_und,Result.andThen,nI hK hk h3,h5,hE.run_zero]
      ·simp[Instr.lookup,hT.run_und,Result.andThen,MapKept.run_getObj_map hb,nI hK hk h3,h5,hE.run_zero]
    split
    ·intro hko;simp only[VRel]at hx;subst hx;obtain⟨y,hy1,hy2⟩:=fin #[] [] [] (.inl ⟨rfl,rfl⟩) (by simp[VList]) (by simp[VList]) ⟨hko,by simp[tJ,ji]⟩;exact⟨y,hy1,by simpa [tJ,ji]using hy2⟩
    ·rename_i ks vs;intro hko;simp only[VRel]at hx;obtain⟨b,es,clk,rfl,h1,h2,h3,h4⟩:=hx;exact fin es ks vs (.inr ⟨b,clk,rfl,h2⟩) (VList.ofdata _ _ h3) (VList.ofdata _ _ h4.1) hko
    ·rename_i id;split
     ·rename_i ks vs ho;intro hko;simp only[VRel]at hx;obtain⟨b,hb,rfl⟩:=hx;obtain⟨o,ho',hat⟩:=hs.obj id b hb;rw[ho]at ho';cases ho';obtain⟨es,clk,h2,h3,h4⟩:=hat;exact fin es ks vs (.inr ⟨b,clk,rfl,h2⟩) h3 h4.1 hko
     ·exact aH.no
    ·exact aH.no
   ·exact aH.no
  ·exact aH.no
 ·exact aH.no
def _root_.Go.Abs.K.isSlice:K→Bool | .slice _=>true | _=>false
def _root_.Go.Abs.K.isMap:K→Bool | .map _ _=>true | _=>false
def N7 (P:Program) (h:H) (t:TypeId) (x:V):PV :=
 match ti P t with
 | some r=>match x with
  | .str l=>(r.kind= .str,.int .i64 l.length)
  | .nils=>(r.kind.isSlice=true,.int .i64 0)
  | .is _ _ es=>(r.kind.isSlice=true,.int .i64 es.length)
  | .ls _ _ _ len _=>(r.kind.isSlice=true,.int .i64 len)
  | .nilm=>(r.kind.isMap=true,.int .i64 0)
  | .im ks _=>(r.kind.isMap=true,.int .i64 ks.length)
  | .lm id=>match h[id]? with
   | some (.map ks _)=>(r.kind.isMap=true,.int .i64 ks.length)
   | _=>fF
  | _=>match r.kind with
   | .arr n _ _=>(True,.int .i64 n)
   | _=>fF
 | none=>fF
theorem qW {k:K} (h:k.isSlice=true):∃e,k= .slice e:=by cases k<;>simp_all [K.isSlice]
theorem yC {k:K} (h:k.isMap=true):∃a b,k= .map a b:=by cases k<;>simp_all [K.isMap]
theorem N8 (hs:HSim e ok pl h w) {ts:Array TypeId} {t ty:TypeId} {x:V} {xv:Value} (ht:ts[0]? =some t) (hx:VRel (cx ok pl w) x xv) :
 aH P (cx ok pl w) (Builtin.len_ ts ty #[xv]) (N7 P h t x):=by
 unfold N7;split
 ·rename_i r hr;obtain⟨i,d,z,hT⟩:=aF hr;have mp:∀ks:List V,(∃b es clk,xv= .map (some b)∧w.heap[b]? =some (.map es clk)∧es.size=ks.length)→r.kind.isMap=true→(Builtin.len_ ts ty #[xv]).run P w= .ok (.int .i64 ks.length) w:=by
   rintro ks ⟨b,es,clk,rfl,hb,hl⟩ hk;obtain⟨k1,k2,hk⟩:=yC hk;have hu:P.underlying t=some (.map k1 k2):=by rw[hT.und,hT.map hk]
   simp[Builtin.len_,ht,run_underlying hu,MapKept.run_getObj_map hb,Result.andThen,hl,goInt]
  split
  ·refine aH.int fun hk => ?_;simp only [VRel] at hx;obtain ⟨s,rfl,rfl,_⟩ := hx;have hu : P.underlying t = some .string := by rw [hT.und,hT.str hk]
   rw[←gQ];simp[Builtin.len_,ht,run_underlying hu,Result.andThen,goInt]
  ·refine aH.int fun hk => ?_;simp only [VRel] at hx;subst hx;obtain ⟨k1,hk⟩ := qW hk;have hu : P.underlying t = some (.slice k1) := by rw [hT.und,hT.slice hk]
   simp[Builtin.len_,ht,run_underlying hu,Result.andThen,goInt]
  ·refine aH.int fun hk => ?_;simp only [VRel] at hx;obtain ⟨a,cp,rfl,_⟩ := hx;obtain ⟨k1,hk⟩ := qW hk;have hu : P.underlying t = some (.slice k1) := by rw [hT.und,hT.slice hk]
   simp[Builtin.len_,ht,run_underlying hu,Result.andThen,goInt]
  ·refine aH.int fun hk => ?_;simp only [VRel] at hx;obtain ⟨a,cp,rfl,_⟩ := hx;obtain ⟨k1,hk⟩ := qW hk;have hu : P.underlying t = some (.slice k1) := by rw [hT.und,hT.slice hk]
   simp[Builtin.len_,ht,run_underlying hu,Result.andThen,goInt]
  ·refine aH.int fun hk => ?_;simp only [VRel] at hx;subst hx;obtain ⟨k1,k2,hk⟩ := yC hk;have hu : P.underlying t = some (.map k1 k2) := by rw [hT.und,hT.map hk]
   simp[Builtin.len_,ht,run_underlying hu,Result.andThen,goInt]
  ·refine aH.int fun hk=> ?_;simp only[VRel]at hx;obtain⟨b,es,clk,rfl,_,hb,h1,_⟩:=hx;exact mp _ ⟨b,es,clk,rfl,hb,by have:=h1.length;simpa using this⟩ hk
  ·rename_i id;split
   ·rename_i ks vs ho;refine aH.int fun hk=> ?_;simp only[VRel]at hx;obtain⟨b,hb,rfl⟩:=hx;obtain⟨o,ho',hat⟩:=hs.obj id b hb;rw[ho]at ho';cases ho';obtain⟨es,clk,h2,h3,h4⟩:=hat;exact mp _ ⟨b,es,clk,rfl,h2,by have:=h3.length;simpa using this⟩ hk
   ·exact aH.no
  ·split
   ·rename_i n el _ hk;refine aH.int fun _ => ?_;have hu : P.underlying t = some (.array n el) := by rw [hT.und,hT.arr hk]
    simp[Builtin.len_,ht,run_underlying hu,Result.andThen,goInt]
   ·exact aH.no
 ·exact aH.no
def Dy (args:List V):PV :=
 match args with
 | [.int k a,.int _ b]=>(True,.int k (if b<a then b else a))
 | [.int k a,.int _ b,.int _ c]=>(True,.int k (let m:=if b<a then b else a;if c<m then c else m))
 | _=>fF
def uz (args:List V):PV :=
 match args with
 | [.int k a,.int _ b]=>(True,.int k (if a<b then b else a))
 | _=>fF
theorem N9 {ts:Array TypeId} {ty:TypeId} {args:List V} {xs:List Value} (h:VList c args xs):aH P c (Builtin.min_ ts ty xs.toArray) (Dy args):=by
 unfold Dy;split
 ·simp only[VList,VRel]at h;obtain⟨_,_,rfl,rfl,_,_,rfl,rfl,rfl⟩:=h;exact aH.int fun _=>run_min_int2 ..
 ·simp only[VList,VRel]at h;obtain⟨_,_,rfl,rfl,_,_,rfl,rfl,_,_,rfl,rfl,rfl⟩:=h;exact aH.int fun _=>run_min_int3 ..
 ·exact aH.no
theorem Oa {ts:Array TypeId} {ty:TypeId} {args:List V} {xs:List Value} (h:VList c args xs):aH P c (Builtin.max_ ts ty xs.toArray) (uz args):=by
 unfold uz;split
 ·simp only[VList,VRel]at h;obtain⟨_,_,rfl,rfl,_,_,rfl,rfl,rfl⟩:=h;exact aH.int fun _=>run_max_int2 ..
 ·exact aH.no
end
end Go.Abs
