/- Lemmas for the statement of this claim, part A2: they hold with no conditions but those that each one names. -/
import Derived.Test.YtfcpapokknfeeaaGreatDoorA1
import Derived.WalkLawsBesides
import Derived.WalkSpells
import Derived.MapKept
import Derived.Lib.Strings
set_option linter.unusedVariables false
set_option linter.unusedSimpArgs false
namespace Go.Abs
open Go.RowKit
abbrev PV := Prop × V
abbrev eG : PV := (False, .any)
def aJ (P : Program) (c : C) (s : Sem Value) (r : PV) : Prop := r.1 → ∃ x, s.run P c.w = .ok x c.w ∧ VRel c r.2 x
theorem aJ.no {P : Program} {c : C} {s : Sem Value} : aJ P c s eG := fun h => h.elim
def YS : UnOp → V → PV
 | .not, .bool b => (True, .bool (!b))
 | .neg, .int k n => (True, .int k (k.wrap (0 - n)))
 | _, _ => eG
theorem VE {P : Program} {c : C} (op : UnOp) {v : V} {x : Value} (h : VRel c v x) : aJ P c (Op.unary op x) (YS op v) := by
 unfold YS;split
 ·simp only [VRel] at h; subst h;exact fun _ => ⟨_, rfl, by simp only [VRel]⟩
 ·simp only [VRel] at h; subst h;exact fun _ => ⟨_, rfl, by simp only [VRel]⟩
 ·exact aJ.no
def Rt (op : BinOp) (k : IntKind) (a : Int) (k' : IntKind) (b : Int) : PV :=
 match op with
 | .add => (k = k', .int k (k.wrap (a + b)))
 | .sub => (k = k', .int k (k.wrap (a - b)))
 | .mul => (k = k', .int k (k.wrap (a * b)))
 | .quo => (k = k' ∧ b ≠ 0, .int k (k.wrap (a.tdiv b)))
 | .rem => (k = k' ∧ b ≠ 0, .int k (a.tmod b))
 | .and => (k = k', .int k (k.wrap (BitVec.ofInt k.bits a &&& BitVec.ofInt k.bits b).toNat))
 | .or => (k = k', .int k (k.wrap (BitVec.ofInt k.bits a ||| BitVec.ofInt k.bits b).toNat))
 | .xor => (k = k', .int k (k.wrap (BitVec.ofInt k.bits a ^^^ BitVec.ofInt k.bits b).toNat))
 | .andNot => (k = k', .int k (k.wrap (BitVec.ofInt k.bits a &&& ~~~ BitVec.ofInt k.bits b).toNat))
 | .shl => (0 ≤ b, .int k (k.wrap (a * 2 ^ (min b.toNat k.bits))))
 | .shr => (0 ≤ b, .int k (a.fdiv (2 ^ (min b.toNat k.bits))))
 | .eql => (k = k', .bool (a == b))
 | .neq => (k = k', .bool (a != b))
 | .lss => (k = k', .bool (decide (a < b)))
 | .leq => (k = k', .bool (decide (a ≤ b)))
 | .gtr => (k = k', .bool (decide (b < a)))
 | .geq => (k = k', .bool (decide (b ≤ a)))
theorem aJ.int {P : Program} {c : C} {s : Sem Value} {p : Prop} {k : IntKind} {n : Int} (h : p → s.run P c.w = .ok (.int k n) c.w) : aJ P c s (p, .int k n) :=
 fun hp => ⟨_, h hp, by simp only [VRel]⟩
theorem aJ.bool {P : Program} {c : C} {s : Sem Value} {p : Prop} {b : Bool} (h : p → s.run P c.w = .ok (.bool b) c.w) : aJ P c s (p, .bool b) :=
 fun hp => ⟨_, h hp, by simp only [VRel]⟩
theorem Ru {P : Program} {c : C} (op : BinOp) (t : TypeId) (k k' : IntKind) (a b : Int) : aJ P c (binOp op t (.int k a) (.int k' b)) (Rt op k a k' b) := by
 unfold Rt;cases op <;> dsimp only
 case shl =>
  refine aJ.int fun hc => ?_;simp only [binOp, Op.shift];rw [if_neg (by omega)]; rfl
 case shr =>
  refine aJ.int fun hc => ?_;simp only [binOp, Op.shift];rw [if_neg (by omega)]; rfl
 case quo =>
  refine aJ.int fun ⟨hk, hb⟩ => ?_;subst hk; simp [binOp, Op.intDiv, hb]
 case rem =>
  refine aJ.int fun ⟨hk, hb⟩ => ?_;subst hk; simp [binOp, Op.intDiv, hb]
 all_goals
  first
   | refine aJ.int fun hk => ?_
   | refine aJ.bool fun hk => ?_
  subst hk;simp [binOp, Op.intArith, Op.intBits, Op.intCmp]
def Rw (op : BinOp) (a b : List UInt8) : PV :=
 match op with
 | .add => (a.length + b.length ≤ maxLen, .str (a ++ b))
 | .eql => (True, .bool (a == b))
 | .neq => (True, .bool (!(a == b)))
 | .lss => (True, .bool (Op.bytesLess a b))
 | .leq => (True, .bool (Op.bytesLess a b || a == b))
 | .gtr => (True, .bool (!(Op.bytesLess a b || a == b)))
 | .geq => (True, .bool (!(Op.bytesLess a b)))
 | _ => eG
theorem fD (s : ByteArray) : s.size = s.data.toList.length := (Array.length_toList).symm
theorem Rx {P : Program} {c : C} (op : BinOp) (t : TypeId) {a b : List UInt8} {x y : Value} (ha : VRel c (.str a) x) (hb : VRel c (.str b) y) :
 aJ P c (binOp op t x y) (Rw op a b) := by
 simp only [VRel] at ha hb;obtain ⟨s, rfl, rfl, hs⟩ := ha;obtain ⟨u, rfl, rfl, hu⟩ := hb;unfold Rw;cases op <;> dsimp only <;> try exact aJ.no
 case add =>
  intro hc;refine ⟨.string (s ++ u), ?_, ?_⟩
  ·have : ¬ ((s.size + u.size : Nat) : Int) > IntKind.i64.max := by have h1 : IntKind.i64.max = 9223372036854775807 := rfl;rw [fD s, fD u];simp only [maxLen] at hc;omega
   simp only [binOp, Op.stringOp];rw [if_neg this]; rfl
  ·simp only [VRel];exact ⟨_, rfl, by simp, by rw [List.length_append]; exact hc⟩
 all_goals
  refine aJ.bool fun _ => ?_;simp [binOp, Op.stringOp, ByteArray.toList_eq]
def V.nil? : V → Option Bool
 | .nilp | .nilm | .nilf | .nili | .nils => some true
 | .lp _ _ | .ip _ | .lm _ | .im _ _ | .fn _ _ _ | .yd _ | .iface _ _ => some false
 | _ => none
def K.nilOf : K → V → Bool
 | .ptr _, .nilp => true
 | .map _ _, .nilm => true
 | .func, .nilf => true
 | .slice _, .nils => true
 | _, _ => false
def K.has : K → V → Bool
 | .ptr _, .nilp | .ptr _, .lp _ _ | .ptr _, .ip _ => true
 | .map _ _, .nilm | .map _ _, .lm _ | .map _ _, .im _ _ => true
 | .func, .nilf | .func, .fn _ _ _ | .func, .yd _ => true
 | .slice _, .nils => true
 | _, _ => false
def xY (P : Program) (op : BinOp) (t : TypeId) (x y : V) : PV :=
 match x, y with
 | .int k a, .int k' b => Rt op k a k' b
 | .str a, .str b => Rw op a b
 | .bool a, .bool b =>
  match ti P t with
  | some r => match op with
   | .eql => (r.kind = .bool, .bool (a == b))
   | .neq => (r.kind = .bool, .bool (!(a == b)))
   | _ => eG
  | none => eG
 | x, y =>
  match ti P t, x.nil?, y with
  | some r, some b, .nilp | some r, some b, .nilm | some r, some b, .nilf | some r, some b, .nils => match op with
   | .eql => (r.kind.nilOf y = true ∧ r.kind.has x = true, .bool b)
   | .neq => (r.kind.nilOf y = true ∧ r.kind.has x = true, .bool (!b))
   | _ => eG
  | some r, some b, .nili => match op, x with
   | .eql, .iface _ _ => (r.kind = .iface, .bool false)
   | .neq, .iface _ _ => (r.kind = .iface, .bool true)
   | _, _ => eG
  | _, _, _ => eG
theorem TIs.bool {P : Program} {t : TypeId} {r : TI} {i : TypeInfo} {d : TypeDesc} {z : Value} (h : TIs P t r i d z) (hk : r.kind = .bool) : d = .bool := by have := h.kind.symm.trans hk;cases d <;> simp_all [kF]
theorem TIs.ptr {P : Program} {t : TypeId} {r : TI} {i : TypeInfo} {d : TypeDesc} {z : Value} (h : TIs P t r i d z) {e : Nat} (hk : r.kind = .ptr e) : d = .pointer e := by have := h.kind.symm.trans hk;cases d <;> simp_all [kF]
theorem TIs.iface {P : Program} {t : TypeId} {r : TI} {i : TypeInfo} {d : TypeDesc} {z : Value} (h : TIs P t r i d z) (hk : r.kind = .iface) : ∃ ms, d = .interface ms := by have := h.kind.symm.trans hk;cases d <;> simp_all [kF]
theorem TIs.func {P : Program} {t : TypeId} {r : TI} {i : TypeInfo} {d : TypeDesc} {z : Value} (h : TIs P t r i d z) (hk : r.kind = .func) : ∃ a b c, d = .func a b c := by have := h.kind.symm.trans hk;cases d <;> simp_all [kF]
theorem o8 {P : Program} {c : C} {t : TypeId} {r : TI} {i : TypeInfo} {d : TypeDesc} {z : Value} (h : TIs P t r i d z) {x y : V} {xv yv : Value} {b : Bool}
 (hx : VRel c x xv) (hy : VRel c y yv) (hb : x.nil? = some b) (h1 : r.kind.nilOf y = true) (h2 : r.kind.has x = true) (w : World) :
 (Op.equal t xv yv).run P w = .ok b w := by
 unfold Op.equal Op.maxDepth Op.equalIn;simp only [Sem.run_bind, h.run_und, Result.andThen];cases hk : r.kind <;> rw [hk] at h1 h2 <;> cases y <;> simp only [K.nilOf, Bool.false_eq_true] at h1 <;> cases x <;> simp only [K.has, Bool.false_eq_true] at h2 <;> simp only [V.nil?, Option.some.injEq] at hb <;> subst hb <;> simp only [VRel] at hx hy <;> subst hy
 case ptr.nilp.nilp => rw [h.ptr hk]; subst hx; rfl
 case ptr.nilp.lp => rw [h.ptr hk]; obtain ⟨_, _, rfl⟩ := hx; rfl
 case ptr.nilp.ip => rw [h.ptr hk]; obtain ⟨_, _, _, rfl, _⟩ := hx; rfl
 case slice.nils.nils => rw [h.slice hk]; subst hx; rfl
 case map.nilm.nilm => rw [h.map hk]; subst hx; rfl
 case map.nilm.lm => rw [h.map hk]; obtain ⟨_, _, rfl⟩ := hx; rfl
 case map.nilm.im => rw [h.map hk]; obtain ⟨_, _, _, rfl, _⟩ := hx; rfl
 case func.nilf.nilf => obtain ⟨_, _, _, hd⟩ := h.func hk; rw [hd]; subst hx; rfl
 case func.nilf.fn => obtain ⟨_, _, _, hd⟩ := h.func hk; rw [hd]; obtain ⟨_, _, rfl, _⟩ := hx; rfl
 case func.nilf.yd => obtain ⟨_, _, _, hd⟩ := h.func hk; rw [hd]; obtain ⟨_, _, rfl⟩ := hx; rfl
theorem Ry {P : Program} {c : C} (op : BinOp) (t : TypeId) {x y : V} {xv yv : Value} (hx : VRel c x xv) (hy : VRel c y yv) :
 aJ P c (binOp op t xv yv) (xY P op t x y) := by
 unfold xY;split
 ·simp only [VRel] at hx hy; subst hx; subst hy; exact Ru (P := P) (c := c) op t _ _ _ _
 ·exact Rx _ _ hx hy
 ·simp only [VRel] at hx hy; subst hx; subst hy;split
  ·rename_i r hr;obtain ⟨i, d, z, hT⟩ := aN hr;split
   ·refine aJ.bool fun hk => ?_;have := hT.und; rw [hT.bool hk] at this;exact run_eql_bool _ _ _ _ this
   ·refine aJ.bool fun hk => ?_;have := hT.und; rw [hT.bool hk] at this;exact run_neq_bool _ _ _ _ this
   ·exact aJ.no
  ·exact aJ.no
 ·have key : ∀ r b, ti P t = some r → x.nil? = some b → (y = .nilp ∨ y = .nilm ∨ y = .nilf ∨ y = .nils) →
   aJ P c (binOp op t xv yv) (match op with
    | .eql => (r.kind.nilOf y = true ∧ r.kind.has x = true, .bool b)
    | .neq => (r.kind.nilOf y = true ∧ r.kind.has x = true, .bool (!b))
    | _ => eG) := by
   intro r b hr hb hyn;obtain ⟨i, d, z, hT⟩ := aN hr;have hbin : ∀ op', (op' = .eql ∨ op' = .neq) → (r.kind.nilOf y = true ∧ r.kind.has x = true) → binOp op' t xv yv = (if op' = .eql then (do pure (.bool (← Op.equal t xv yv))) else (do pure (.bool (!(← Op.equal t xv yv))))) := by
    rintro op' hop ⟨h1, h2⟩;rcases hyn with rfl | rfl | rfl | rfl <;> cases hk : r.kind <;> rw [hk] at h1 h2 <;> simp only [K.nilOf, Bool.false_eq_true] at h1 <;> cases x <;> simp only [K.has, Bool.false_eq_true] at h2 <;>
     simp only [VRel] at hx hy <;> subst hy <;>
     first
      | (subst hx; rcases hop with rfl | rfl <;> rfl)
      | (obtain ⟨_, _, rfl⟩ := hx; rcases hop with rfl | rfl <;> rfl)
      | (obtain ⟨_, _, _, rfl, _⟩ := hx; rcases hop with rfl | rfl <;> rfl)
      | (obtain ⟨_, _, rfl, _⟩ := hx; rcases hop with rfl | rfl <;> rfl)
   split
   ·refine aJ.bool fun hp => ?_;rw [hbin _ (.inl rfl) hp, if_pos rfl];simp [o8 hT hx hy hb hp.1 hp.2, Result.andThen]
   ·refine aJ.bool fun hp => ?_;rw [hbin _ (.inr rfl) hp, if_neg (by decide)];simp [o8 hT hx hy hb hp.1 hp.2, Result.andThen]
   ·exact aJ.no
  split
  ·exact key _ _ (by assumption) (by assumption) (.inl rfl)
  ·exact key _ _ (by assumption) (by assumption) (.inr (.inl rfl))
  ·exact key _ _ (by assumption) (by assumption) (.inr (.inr (.inl rfl)))
  ·exact key _ _ (by assumption) (by assumption) (.inr (.inr (.inr rfl)))
  ·rename ti P t = some _ => hr
   rename TI => r
   obtain ⟨i, d, z, hT⟩ := aN hr;have hq : ∀ u ev, r.kind = .iface → (Op.equal t (.iface u ev) .nilIface).run P c.w = .ok false c.w := by intro u ev hk;obtain ⟨ms, rfl⟩ := hT.iface hk;unfold Op.equal Op.maxDepth Op.equalIn;simp only [Sem.run_bind, hT.run_und, Result.andThen];rfl
   split
   ·simp only [VRel] at hx hy;obtain ⟨ev, rfl, _⟩ := hx; subst hy;refine aJ.bool fun hk => ?_;show (do pure (Value.bool (← Op.equal t _ _)) : Sem Value).run P c.w = _;simp [hq _ _ hk, Result.andThen]
   ·simp only [VRel] at hx hy;obtain ⟨ev, rfl, _⟩ := hx; subst hy;refine aJ.bool fun hk => ?_;show (do pure (Value.bool (!(← Op.equal t _ _))) : Sem Value).run P c.w = _;simp [hq _ _ hk, Result.andThen]
   ·exact aJ.no
  ·exact aJ.no
def au (P : Program) (op : BinOp) (t : TypeId) (x : V) : PV :=
 match ti P t, op, x with
 | some r, .eql, .iface _ _ => (r.kind = .iface, .bool false)
 | some r, .neq, .iface _ _ => (r.kind = .iface, .bool true)
 | some r, .eql, .nili => (r.kind = .iface, .bool true)
 | some r, .neq, .nili => (r.kind = .iface, .bool false)
 | _, _, _ => eG
theorem jI {P : Program} {op : BinOp} {t : TypeId} {a : Operand} {xv : Value} (w : World) (h : xv = .nilIface ∨ ∃ u ev, xv = .iface u ev) : (eqGuard op t a (.const .nilIface) xv .nilIface).run P w = .ok () w := by unfold eqGuard;rcases h with rfl | ⟨u, ev, rfl⟩ <;> cases op <;> simp
theorem Ll {P : Program} {c : C} (op : BinOp) (t : TypeId) (a : Operand) {x : V} {xv : Value} (hx : VRel c x xv) :
 aJ P c (do eqGuard op t a (.const .nilIface) xv .nilIface; binOp op t xv .nilIface) (au P op t x) := by
 have hq : ∀ (r : TI) (v : Value) (b : Bool), ti P t = some r → r.kind = .iface → ((v = .nilIface ∧ b = true) ∨ ((∃ u ev, v = .iface u ev) ∧ b = false)) → (Op.equal t v .nilIface).run P c.w = .ok b c.w := by intro r v b hr hk hv;obtain ⟨i, d, z, hT⟩ := aN hr;obtain ⟨ms, rfl⟩ := hT.iface hk;unfold Op.equal Op.maxDepth Op.equalIn;simp only [Sem.run_bind, hT.run_und, Result.andThen];rcases hv with ⟨rfl, rfl⟩ | ⟨⟨u, ev, rfl⟩, rfl⟩ <;> rfl
 unfold au;split
 ·rename_i r u e hr;simp only [VRel] at hx;obtain ⟨ev, rfl, _⟩ := hx;refine aJ.bool fun hk => ?_;simp only [Sem.run_bind, jI c.w (.inr ⟨u, ev, rfl⟩), Result.andThen];show (do pure (Value.bool (← Op.equal t _ _)) : Sem Value).run P c.w = _;simp [hq r _ false hr hk (.inr ⟨⟨u, ev, rfl⟩, rfl⟩), Result.andThen]
 ·rename_i r u e hr;simp only [VRel] at hx;obtain ⟨ev, rfl, _⟩ := hx;refine aJ.bool fun hk => ?_;simp only [Sem.run_bind, jI c.w (.inr ⟨u, ev, rfl⟩), Result.andThen];show (do pure (Value.bool (!(← Op.equal t _ _))) : Sem Value).run P c.w = _;simp [hq r _ false hr hk (.inr ⟨⟨u, ev, rfl⟩, rfl⟩), Result.andThen]
 ·rename_i r hr;simp only [VRel] at hx;subst hx;refine aJ.bool fun hk => ?_;simp only [Sem.run_bind, jI c.w (.inl rfl), Result.andThen];show (do pure (Value.bool (← Op.equal t _ _)) : Sem Value).run P c.w = _;simp [hq r _ true hr hk (.inl ⟨rfl, rfl⟩), Result.andThen]
 ·rename_i r hr;simp only [VRel] at hx;subst hx;refine aJ.bool fun hk => ?_;simp only [Sem.run_bind, jI c.w (.inl rfl), Result.andThen];show (do pure (Value.bool (!(← Op.equal t _ _))) : Sem Value).run P c.w = _;simp [hq r _ true hr hk (.inl ⟨rfl, rfl⟩), Result.andThen]
 ·exact aJ.no
section
variable {P : Program} {c : C}
def Az (P : Program) (ft : TypeId) (off : Nat) (vs : List V) : PV :=
 match ti P ft with
 | some r => (off + r.size ≤ vs.length ∧ 0 < r.size ∧ (r.agg = false → r.size = 1 ∧ (vs.getD off .any).one = true), V.sub vs off r.size r.agg)
 | none => eG
theorem AA {ft : TypeId} {off : Nat} {vs : List V} {cs : Array Value} (h : VList c vs cs.toList) : aJ P c (part ft cs off) (Az P ft off vs) := by
 unfold Az;split
 ·rename_i r hr;obtain ⟨i, d, z, hT⟩ := aN hr;rintro ⟨h1, h2, h3⟩;have hl := h.length;unfold part;simp only [Sem.run_bind, hT.agg, Result.andThen];cases ha : r.agg with
  | true => refine ⟨.agg (cs.extract off (off + r.size)), by simp [hT.run_size, Result.andThen], ?_⟩;simp only [V.sub, cond_true, VRel];refine ⟨_, rfl, ?_⟩;have := (h.dropN off).take r.size;rw [show (cs.extract off (off + r.size)).toList = (cs.toList.drop off).take r.size by simp];exact this
  | false =>
   obtain ⟨v, hv⟩ : ∃ v, vs[off]? = some v := ⟨_, List.getElem?_eq_getElem (show off < vs.length by omega)⟩;obtain ⟨x, hx, hrel⟩ := h.get off v hv;have hx' : cs[off]? = some x := by simpa using hx
   refine ⟨x, by simp [hx'], ?_⟩;simp only [V.sub, cond_false, List.getD_eq_getElem?_getD, hv, Option.getD_some];exact hrel
 ·exact aJ.no
def xZ (P : Program) (t : TypeId) (x : V) (f : Nat) : PV :=
 match ti P t, x with
 | some r, .agg vs => match r.kind with
  | .struct fs => match fs[f]? with
   | some (off, ft) => Az P ft off vs
   | none => eG
  | _ => eG
 | _, _ => eG
theorem Jv {t : TypeId} {x : V} {xv : Value} {f : Nat} (h : VRel c x xv) : aJ P c (Instr.field t xv f) (xZ P t x f) := by
 unfold xZ;split
 ·rename_i r vs hr;obtain ⟨i, d, z, hT⟩ := aN hr;split
  ·rename_i fs hk;obtain ⟨gs, rfl, hfs⟩ := hT.struct hk;split
   ·rename_i off ft hf;rw [hfs, List.getElem?_map] at hf;cases hg : gs.toList[f]? with
    | none => rw [hg] at hf; cases hf
    | some g =>
     rw [hg] at hf;simp at hf;obtain ⟨rfl, rfl⟩ := hf;simp only [VRel] at h;obtain ⟨cs, rfl, hcs⟩ := h;intro hp;obtain ⟨y, hy1, hy2⟩ := AA (P := P) (c := c) hcs hp;refine ⟨y, ?_, hy2⟩;have hg' : gs[f]? = some g := by simpa using hg
     simp [Instr.field, hT.run_und, Result.andThen, hg', asAgg, hy1]
   ·exact aJ.no
  ·exact aJ.no
 ·exact aJ.no
def Xh (P : Program) (ft : TypeId) (off : Nat) (x : V) : PV :=
 match ti P ft with
 | some r => match x with
  | .lp id o => (0 < r.size, .lp id (o + off))
  | .ip (.agg vs) => (off + r.size ≤ vs.length ∧ 0 < r.size ∧ (r.agg = false → r.size = 1 ∧ (vs.getD off .any).one = true), .ip (V.sub vs off r.size r.agg))
  | _ => eG
 | none => eG
theorem Lm {b o off : Nat} {cs : Array Value} (h : qC c b o (.agg cs)) {n : Nat} (hn : off + n ≤ cs.size) :
 qC c b (o + off) (.agg (cs.extract off (off + n))) := by
 intro j hj;simp only [Value.cells] at hj;have hj' : j < n := by simp at hj; omega
 obtain ⟨h1, h2⟩ := h (off + j) (by simp only [Value.cells]; omega);refine ⟨h1, ?_⟩;rw [show o + off + j = o + (off + j) by omega, h2];simp only [Value.cells];rw [Array.getElem?_extract];simp; omega
theorem Lp {b o off : Nat} {cs : Array Value} (h : qC c b o (.agg cs)) {x : Value} (hx : cs[off]? = some x) (h1 : x.cells = #[x]) :
 qC c b (o + off) x := by
 intro j hj;rw [h1] at hj ⊢;have hj0 : j = 0 := by simpa using hj
 subst hj0;have hlt : off < cs.size := (Array.getElem?_eq_some_iff.1 hx).1;obtain ⟨h2, h3⟩ := h off (by simpa only [Value.cells] using hlt);refine ⟨h2, ?_⟩;rw [Nat.add_zero, h3];simp only [Value.cells];rw [hx]; rfl
theorem Lr {ft : TypeId} {off : Nat} {x : V} {xv : Value} (h : VRel c x xv) (hp : (Xh P ft off x).1) :
 ∃ b o, xv = .pointer (some ⟨b, o, none⟩) ∧ VRel c (Xh P ft off x).2 (.pointer (some ⟨b, o + off, none⟩)) ∧ ∃ r, ti P ft = some r ∧ 0 < r.size := by
 unfold Xh at hp ⊢;split at hp
 ·rename_i r hr;split at hp
  ·simp only [VRel] at h ⊢;obtain ⟨b, h1, rfl⟩ := h;exact ⟨b, _, rfl, ⟨b, h1, rfl⟩, r, hr, hp⟩
  ·rename_i vs;simp only [VRel] at h;obtain ⟨b, o, ev, rfl, h2, h3, h4⟩ := h;obtain ⟨cs, rfl, hcs⟩ := h4;obtain ⟨p1, p2, p3⟩ := hp;have hl := hcs.length;refine ⟨b, o, rfl, ?_, r, hr, p2⟩;simp only [VRel];cases ha : r.agg with
   | true =>
    refine ⟨b, o + off, .agg (cs.extract off (off + r.size)), rfl, Lm h2 (by simp at hl; omega), ?_, ?_⟩
    ·simp only [Value.cells, Array.size_extract]; simp at hl; omega
    ·simp only [V.sub, cond_true, VRel];refine ⟨_, rfl, ?_⟩;rw [show (cs.extract off (off + r.size)).toList = (cs.toList.drop off).take r.size by simp];exact (hcs.dropN off).take r.size
   | false => obtain ⟨p4, p5⟩ := p3 ha;obtain ⟨v, hv⟩ : ∃ v, vs[off]? = some v := ⟨_, List.getElem?_eq_getElem (show off < vs.length by omega)⟩;obtain ⟨x, hx, hrel⟩ := hcs.get off v hv;rw [List.getD_eq_getElem?_getD, hv] at p5;have hone := hrel.one p5;refine ⟨b, o + off, x, rfl, Lp h2 (by simpa using hx) hone, by simp [hone], ?_⟩;simp only [V.sub, cond_false, List.getD_eq_getElem?_getD, hv, Option.getD_some];exact hrel
  ·exact hp.elim
 ·exact hp.elim
def kX (P : Program) (t : TypeId) (x : V) (f : Nat) : PV :=
 match ti P t with
 | some r => match r.kind with
  | .struct fs => match fs[f]? with
   | some (off, ft) => Xh P ft off x
   | none => eG
  | _ => eG
 | none => eG
theorem nX {t : TypeId} {x : V} {xv : Value} {f : Nat} (h : VRel c x xv) : aJ P c (Instr.fieldAt t xv f) (kX P t x f) := by
 unfold kX;split
 ·rename_i r hr;obtain ⟨i, d, z, hT⟩ := aN hr;split
  ·rename_i fs hk;obtain ⟨gs, rfl, hfs⟩ := hT.struct hk;split
   ·rename_i off ft hf;rw [hfs, List.getElem?_map] at hf;cases hg : gs.toList[f]? with
    | none => rw [hg] at hf; cases hf
    | some g =>
     rw [hg] at hf;simp at hf;obtain ⟨rfl, rfl⟩ := hf;intro hp;obtain ⟨b, o, rfl, h1, r', hr', hs⟩ := Lr h hp;obtain ⟨i', d', z', hT'⟩ := aN hr';have hg' : gs[f]? = some g := by simpa using hg
     refine ⟨_, ?_, h1⟩;have hne : ¬ r'.size = 0 := by omega
     simp [Instr.fieldAt, hT.run_und, Result.andThen, hg', Instr.sureAddr, fieldPlace, hT'.run_size, hne, bY]
   ·exact aJ.no
  ·exact aJ.no
 ·exact aJ.no
def kY (P : Program) (t : TypeId) (x i : V) : PV :=
 match ti P t, i with
 | some r, .int _ n => match r.kind with
  | .slice el => match ti P el with
   | some re => match x with
    | .ls id k off len _ => (0 ≤ n ∧ n < len ∧ re.size = k, .lp id (off + n.toNat * k))
    | .is _ k es => (0 ≤ n ∧ n < es.length ∧ re.size = k ∧ 0 < k, .ip (es.getD n.toNat .any))
    | _ => eG
   | none => eG
  | .arr m el _ => match ti P el with
   | some re => let q := Xh P el (n.toNat * re.size) x; (0 ≤ n ∧ n < m ∧ q.1, q.2)
   | none => eG
  | _ => eG
 | _, _ => eG
theorem wF {t : TypeId} {x i : V} {xv iv : Value} (hx : VRel c x xv) (hi : VRel c i iv) : aJ P c (Instr.indexAt t xv iv) (kY P t x i) := by
 unfold kY;split
 ·rename_i r k n hr;obtain ⟨i, d, z, hT⟩ := aN hr;simp only [VRel] at hi; subst hi;split
  ·rename_i el hk;have hd := hT.slice hk;subst hd;split
   ·rename_i re hre;obtain ⟨i', d', z', hT'⟩ := aN hre;split
    ·rename_i id k' off len cap;rintro ⟨h0, h1, h2⟩;simp only [VRel] at hx;obtain ⟨a, cp, rfl, hcap, hlen, hmax, hh⟩ := hx;have hcp : cp ≠ 0 := by omega
     rcases hh with hh | ⟨b, arr, el', fz, hb, rfl, _⟩
     ·exact absurd hh hcp
     refine ⟨.pointer (some ⟨b, off + n.toNat * k', none⟩), ?_, ?_⟩
     ·simp [Instr.indexAt, asIntOf, hT.run_und, Result.andThen, h0, h1, hT'.run_size, h2, bY]
     ·simp only [VRel]; exact ⟨b, hb, rfl⟩
    ·rename_i ex k' es;rintro ⟨h0, h1, h2, h3⟩;simp only [VRel] at hx;obtain ⟨a, cp, rfl, hlen, hmax, hex, hh⟩ := hx;rcases hh with rfl | ⟨b, off, rfl, hel⟩
     ·simp at h1; omega
     have hlt : n.toNat < es.length := by omega
     obtain ⟨v, hv⟩ : ∃ v, es[n.toNat]? = some v := ⟨_, List.getElem?_eq_getElem hlt⟩;obtain ⟨ev, he1, he2, he3⟩ := hel.get n.toNat hv;refine ⟨.pointer (some ⟨b, off + n.toNat * k', none⟩), ?_, ?_⟩
     ·simp [Instr.indexAt, asIntOf, hT.run_und, Result.andThen, h0, h1, hT'.run_size, h2, bY]
     ·simp only [VRel, List.getD_eq_getElem?_getD, hv, Option.getD_some];exact ⟨b, _, ev, rfl, he2, by omega, he3⟩
    ·exact aJ.no
   ·exact aJ.no
  ·rename_i m el hk;have hd := hT.arr hk;subst hd;split
   ·rename_i re hre;obtain ⟨i', d', z', hT'⟩ := aN hre;rintro ⟨h0, h1, hq⟩;obtain ⟨b, o, rfl, h2, _⟩ := Lr hx hq;refine ⟨_, ?_, h2⟩;simp [Instr.indexAt, asIntOf, hT.run_und, Result.andThen, h0, h1, hT'.run_size, bY, Instr.sureAddr]
   ·exact aJ.no
  ·exact aJ.no
 ·exact aJ.no
def x9 (P : Program) (t : TypeId) (x i : V) : PV :=
 match ti P t, x, i with
 | some r, .str l, .int _ n => (r.kind = .str ∧ 0 ≤ n ∧ n < l.length, .int .u8 (l.getD n.toNat 0).toNat)
 | some r, .agg vs, .int _ n => match r.kind with
  | .arr m el _ => match ti P el with
   | some re => let q := Az P el (n.toNat * re.size) vs; (0 ≤ n ∧ n < m ∧ q.1, q.2)
   | none => eG
  | _ => eG
 | _, _, _ => eG
theorem Jw {t : TypeId} {x i : V} {xv iv : Value} (hx : VRel c x xv) (hi : VRel c i iv) : aJ P c (Instr.index t xv iv) (x9 P t x i) := by
 unfold x9;split
 ·rename_i r l k n hr;obtain ⟨i, d, z, hT⟩ := aN hr;simp only [VRel] at hi hx; subst hi;obtain ⟨s, rfl, rfl, hs⟩ := hx;rintro ⟨hk, h0, h1⟩;have hd := hT.str hk;subst hd;have hlt : n.toNat < s.size := by rw [fD]; omega
  refine ⟨.int .u8 (s[n.toNat]'hlt).toNat, ?_, ?_⟩
  ·simp [Instr.index, asIntOf, hT.run_und, Result.andThen, h0, hlt]
  ·simp only [VRel]
   congr 2
   have hlt' : n.toNat < s.data.size := hlt;simp only [List.getD_eq_getElem?_getD, Array.getElem?_toList, Array.getElem?_eq_getElem hlt', Option.getD_some];rfl
 ·rename_i r vs k n hr;obtain ⟨i, d, z, hT⟩ := aN hr;simp only [VRel] at hi hx; subst hi;obtain ⟨cs, rfl, hcs⟩ := hx;split
  ·rename_i m el hk;have hd := hT.arr hk;subst hd;split
   ·rename_i re hre;obtain ⟨i', d', z', hT'⟩ := aN hre;rintro ⟨h0, h1, hq⟩;obtain ⟨y, hy1, hy2⟩ := AA (P := P) (c := c) hcs hq;refine ⟨y, ?_, hy2⟩;simp [Instr.index, asIntOf, hT.run_und, Result.andThen, h0, h1, hT'.run_size, hy1]
   ·exact aJ.no
  ·exact aJ.no
 ·exact aJ.no
end
def gY (h : H) (id : Nat) : List V := match h[id]? with | some (.cells cs) => cs | some (.typed _ cs) => cs | _ => []
section
variable {P : Program} {c : C} {e : E} {ok : Nat → Prop} {pl : Nat → Option Nat} {w : World} {h : H}
theorem HSim.cellsAt (hs : HSim e ok pl h w) {id b : Nat} (hb : pl id = some b) {j : Nat} {v : V} (hv : (gY h id)[j]? = some v) :
 ∃ x, w.cell? ⟨b, j, none⟩ = some x ∧ VRel (cx ok pl w) v x := by
 obtain ⟨o, ho, hat⟩ := hs.obj id b hb;simp only [gY, ho] at hv;cases o with
 | cells cs => dsimp only at hv;obtain ⟨arr, el, fz, h1, h2, h3, h4⟩ := hat;obtain ⟨x, hx, hr⟩ := h4.get j v hv;have hj : j < cs.length := (List.getElem?_eq_some_iff.1 hv).1;refine ⟨x, ?_, hr⟩;simp only [cx] at h1;rw [List.getElem?_take_of_lt hj] at hx;simp [World.cell?, h1];simpa using hx
 | typed T cs => dsimp only at hv;obtain ⟨arr, fz, h1, h2, h3, h4⟩ := hat;obtain ⟨x, hx, hr⟩ := h4.get j v hv;have hj : j < cs.length := (List.getElem?_eq_some_iff.1 hv).1;refine ⟨x, ?_, hr⟩;simp only [cx] at h1;rw [List.getElem?_take_of_lt hj] at hx;simp [World.cell?, h1];simpa using hx
 | dead => simp at hv
 | map _ _ => simp at hv
 | loop _ _ _ _ _ _ _ => simp at hv
 | misc _ => simp at hv
theorem HSim.cellsTake (hs : HSim e ok pl h w) {id b : Nat} (hb : pl id = some b) (off : Nat) : ∀ (n : Nat), off + n ≤ (gY h id).length →
 ∃ xs : List Value, xs.length = n ∧ (∀ j v, xs[j]? = some v → w.cell? ⟨b, off + j, none⟩ = some v) ∧ VList (cx ok pl w) (((gY h id).drop off).take n) xs
 | 0, _ => ⟨[], rfl, by simp, by simp [VList]⟩
 | n + 1, hn => by
  obtain ⟨xs, h1, h2, h3⟩ := HSim.cellsTake hs hb off n (by omega);obtain ⟨v, hv⟩ : ∃ v, (gY h id)[off + n]? = some v := ⟨_, List.getElem?_eq_getElem (by omega)⟩;obtain ⟨x, hx1, hx2⟩ := hs.cellsAt hb hv;refine ⟨xs ++ [x], by simp [h1], fun j u hj => ?_, ?_⟩
  ·by_cases hjn : j < n
   ·rw [List.getElem?_append_left (by omega)] at hj; exact h2 j u hj
   ·have : j = n := by have := (List.getElem?_eq_some_iff.1 hj).1;simp [h1] at this; omega
    subst this;rw [List.getElem?_append_right (by omega)] at hj;simp [h1] at hj; subst hj; exact hx1
  ·have : ((gY h id).drop off).take (n + 1) = ((gY h id).drop off).take n ++ [v] := by
    rw [List.take_succ_eq_append_getElem (by simp; omega)]
    congr 1
    simp only [List.getElem_drop];have := (List.getElem?_eq_some_iff.1 hv).2;rw [this]
   rw [this];refine h3.append ?_;simp only [VList];exact ⟨x, [], rfl, hx2, rfl⟩
def AB (P : Program) (h : H) (t : TypeId) (x : V) : PV :=
 match ti P t with
 | some r => match x with
  | .lp id off => (off + r.size ≤ (gY h id).length ∧ (r.agg = false → r.size = 1), V.sub (gY h id) off r.size r.agg)
  | .ip (.agg vs) => (r.agg = true ∧ r.size = vs.length, .agg vs)
  | .ip e => (r.agg = false ∧ e.one = true, e)
  | _ => eG
 | none => eG
theorem AC (hs : HSim e ok pl h w) {t : TypeId} {x : V} {xv : Value} (hx : VRel (cx ok pl w) x xv) : aJ P (cx ok pl w) (Instr.loadAt t xv) (AB P h t x) := by
 unfold AB;split
 ·rename_i r hr;obtain ⟨i, d, z, hT⟩ := aN hr;split
  ·rename_i id off;rintro ⟨h1, h2⟩;simp only [VRel] at hx;obtain ⟨b, hb, rfl⟩ := hx;have hb' : pl id = some b := hb;cases ha : r.agg with
   | true =>
    obtain ⟨xs, h3, h4, h5⟩ := hs.cellsTake hb' off r.size h1;refine ⟨.agg xs.toArray, ?_, ?_⟩
    ·have := run_loadCells_list (P := P) w ⟨b, off, none⟩ xs (fun j v hj => by rw [bY]; exact h4 j v hj);rw [h3] at this;simp [Instr.loadAt, Instr.sureAddr, loadVar, hT.agg, ha, Result.andThen, hT.run_size, cx, this]
    ·simp only [V.sub, cond_true, VRel];exact ⟨_, rfl, by simpa using h5⟩
   | false =>
    have hsz := h2 ha;obtain ⟨v, hv⟩ : ∃ v, (gY h id)[off]? = some v := ⟨_, List.getElem?_eq_getElem (by omega)⟩;obtain ⟨y, hy1, hy2⟩ := hs.cellsAt hb' hv;refine ⟨y, ?_, ?_⟩
    ·simp [Instr.loadAt, Instr.sureAddr, loadVar, hT.agg, ha, Result.andThen, cx, hy1]
    ·simp only [V.sub, cond_false, List.getD_eq_getElem?_getD, hv, Option.getD_some]; exact hy2
  ·rename_i vs;rintro ⟨ha, h2⟩;simp only [VRel] at hx;obtain ⟨b, o, ev, rfl, h3, h4, cs, rfl, hcs⟩ := hx;have hl := hcs.length;refine ⟨.agg cs, ?_, ?_⟩
   ·have := run_loadCells_list (P := P) w ⟨b, o, none⟩ cs.toList (fun j v hj => by
     have hlt : j < cs.size := by simpa using (List.getElem?_eq_some_iff.1 hj).1
     rw [bY];exact ((h3 j hlt).2).trans (by simpa [Value.cells] using hj))
    rw [hl, ← h2] at this;simp [Instr.loadAt, Instr.sureAddr, loadVar, hT.agg, ha, Result.andThen, hT.run_size, cx, this]
   ·simp only [VRel]; exact ⟨cs, rfl, VList.ofdata _ _ hcs⟩
  ·rename_i e' _;rintro ⟨ha, h2⟩;simp only [VRel] at hx;obtain ⟨b, o, ev, rfl, h3, h4, h5⟩ := hx;have h1 := h5.one h2;refine ⟨ev, ?_, VRel.ofdata _ _ h5⟩;have := (h3 0 h4).2;rw [h1] at this;have hc : w.cell? ⟨b, o, none⟩ = some ev := by simpa [cx] using this
   simp [Instr.loadAt, Instr.sureAddr, loadVar, hT.agg, ha, Result.andThen, cx, hc]
  ·exact aJ.no
 ·exact aJ.no
def yg (P : Program) (t : TypeId) (x : V) (lo hi mx : Option V) : PV :=
 let l : Option Int := match lo with | none => some 0 | some (.int _ n) => some n | _ => none
 match ti P t, l with
 | some r, some l => match x with
  | .str s => match hi, mx with
   | none, none => (r.kind = .str ∧ 0 ≤ l ∧ l ≤ s.length, .str (s.drop l.toNat))
   | some (.int _ n), none => (r.kind = .str ∧ 0 ≤ l ∧ l ≤ n ∧ n ≤ s.length, .str ((s.drop l.toNat).take (n.toNat - l.toNat)))
   | _, _ => eG
  | .is ex k es => match r.kind with
   | .slice el => match ti P el with
    | some re => match hi, mx with
     | none, none => (re.size = k ∧ 0 ≤ l ∧ l ≤ es.length, .is ex k (es.drop l.toNat))
     | some (.int _ n), none => (re.size = k ∧ 0 ≤ l ∧ l ≤ n ∧ n ≤ es.length, .is false k ((es.drop l.toNat).take (n.toNat - l.toNat)))
     | some (.int _ n), some (.int _ m) => (re.size = k ∧ 0 ≤ l ∧ l ≤ n ∧ n ≤ es.length ∧ m = n, .is true k ((es.drop l.toNat).take (n.toNat - l.toNat)))
     | _, _ => eG
    | none => eG
   | _ => eG
  | .ls id k off len cap => match r.kind with
   | .slice el => match ti P el with
    | some re => match hi, mx with
     | none, none => (re.size = k ∧ 0 ≤ l ∧ l ≤ len, .ls id k (off + l.toNat * k) (len - l.toNat) (cap - l.toNat))
     | some (.int _ n), none => (re.size = k ∧ 0 ≤ l ∧ l ≤ n ∧ (n ≤ len ∨ n ≤ cap), .ls id k (off + l.toNat * k) (n.toNat - l.toNat) (cap - l.toNat))
     | _, _ => eG
    | none => eG
   | _ => eG
  | _ => eG
 | _, _ => eG
theorem fP {P : Program} {w : World} (isSlice : Bool) (len cap : Nat) (kl : IntKind) (lo : Option V) (hi mx : Option V) (lov hiv mxv : Option Value) (l n m : Int)
 (hl : (lov = none ∧ l = 0) ∨ ∃ k, lov = some (.int k l)) (hh : (hiv = none ∧ mxv = none ∧ n = len) ∨ ∃ k, hiv = some (.int k n)) (hm : (mxv = none ∧ m = cap) ∨ ∃ k, mxv = some (.int k m))
 (h0 : 0 ≤ l) (h1 : l ≤ n) (h2 : n ≤ m) (h3 : m ≤ cap) : (Instr.sliceBounds isSlice len cap lov hiv mxv).run P w = .ok (l.toNat, n.toNat, m.toNat) w := by
 have hb : ∀ (k : IntKind) (i : Int) (y : Nat) (code : BoundsCode), 0 ≤ i → i ≤ y → (Instr.sliceBound (.int k i) y code).run P w = .ok i.toNat w := by intro k i y code h4 h5;simp [Instr.sliceBound, asIntOf, Result.andThen, h4, h5]
 have h5 : 0 ≤ n := by omega
 have h6 : 0 ≤ m := by omega
 have q1 : n ≤ (m.toNat : Int) := by omega
 have q2 : l ≤ (n.toNat : Int) := by omega
 have q3 : (cap : Int).toNat = cap := by omega
 unfold Instr.sliceBounds;rcases hm with ⟨rfl, rfl⟩ | ⟨km, rfl⟩ <;> rcases hh with ⟨rfl, h7, rfl⟩ | ⟨kh, rfl⟩ <;> rcases hl with ⟨rfl, rfl⟩ | ⟨kl', rfl⟩ <;> first | (cases h7; done) | skip
 all_goals simp_all [Result.andThen]
theorem Xo {c : C} {lo : Option V} {lov : Option Value} {l : Int} (h : (match lo with | none => some 0 | some (.int _ n) => some n | _ => none) = some l)
 (hr : ∀ v, lo = some v → ∃ x, lov = some x ∧ VRel c v x) (hn : lo = none → lov = none) : (lov = none ∧ l = 0) ∨ ∃ k, lov = some (.int k l) := by
 split at h
 ·exact .inl ⟨hn rfl, by cases h; rfl⟩
 ·rename_i k n;obtain ⟨x, h1, h2⟩ := hr _ rfl;simp only [VRel] at h2;cases h; subst h2; exact .inr ⟨k, h1⟩
 ·cases h
theorem Jy {t : TypeId} {x : V} {xv : Value} {lo hi mx : Option V} {lov hiv mxv : Option Value} (hx : VRel c x xv)
 (hlo : (∀ v, lo = some v → ∃ x, lov = some x ∧ VRel c v x) ∧ (lo = none → lov = none))
 (hhi : (∀ v, hi = some v → ∃ x, hiv = some x ∧ VRel c v x) ∧ (hi = none → hiv = none))
 (hmx : (∀ v, mx = some v → ∃ x, mxv = some x ∧ VRel c v x) ∧ (mx = none → mxv = none)) :
 aJ P c (Instr.sliceAt t xv lov hiv mxv) (yg P t x lo hi mx) := by
 unfold yg;dsimp only;split
 ·rename_i r l hr hl;obtain ⟨i, d, z, hT⟩ := aN hr;have hl' := Xo hl hlo.1 hlo.2;split
  ·rename_i s;simp only [VRel] at hx;obtain ⟨u, rfl, rfl, hu⟩ := hx;split
   ·rintro ⟨hk, h0, h1⟩;have hd := hT.str hk;subst hd;have hh := hhi.2 rfl;have hm := hmx.2 rfl;subst hh; subst hm;have hb := fP (P := P) (w := c.w) false u.size u.size .i64 lo none none lov none none l u.size u.size hl' (.inl ⟨rfl, rfl, rfl⟩) (.inl ⟨rfl, rfl⟩) h0 (by rw [fD]; exact h1) (by omega) (by omega);refine ⟨.string (u.extract l.toNat u.size), ?_, ?_⟩
    ·simp [Instr.sliceAt, hT.run_und, Result.andThen, Instr.slice, hb]
    ·simp only [VRel];refine ⟨_, rfl, ?_, by rw [List.length_drop]; omega⟩;rw [Lib.extract_data, List.take_of_length_le];rw [List.length_drop, fD]; omega
   ·rename_i k n;rintro ⟨hk, h0, h1, h2⟩;have hd := hT.str hk;subst hd;obtain ⟨hv, hh1, hh2⟩ := hhi.1 _ rfl;simp only [VRel] at hh2;have hm := hmx.2 rfl;subst hh1; subst hh2; subst hm;have hb := fP (P := P) (w := c.w) false u.size u.size .i64 lo (some (.int k n)) none lov (some (.int k n)) none l n u.size hl' (.inr ⟨k, rfl⟩) (.inl ⟨rfl, rfl⟩) h0 h1 (by rw [fD]; exact h2) (by omega);refine ⟨.string (u.extract l.toNat n.toNat), ?_, ?_⟩
    ·simp [Instr.sliceAt, hT.run_und, Result.andThen, Instr.slice, hb]
    ·simp only [VRel];refine ⟨_, rfl, by rw [Lib.extract_data], ?_⟩;rw [List.length_take, List.length_drop]; omega
   ·exact aJ.no
  ·rename_i ex k es;simp only [VRel] at hx;obtain ⟨a, cp, rfl, hlen, hmax, hex, hh⟩ := hx;split
   ·rename_i el hk;have hd := hT.slice hk;subst hd;split
    ·rename_i re hre;obtain ⟨i', d', z', hT'⟩ := aN hre;have sub : ∀ (lo n : Nat) (a' : Option Addr) (cp' : Nat) (ex' : Bool), lo ≤ n → n ≤ es.length → n - lo ≤ cp' → cp' ≤ maxLen → (ex' = true → cp' = n - lo) →
      (es ≠ [] → lo < n → a' = a.map (·.add (lo * k))) →
      VRel c (.is ex' k ((es.drop lo).take (n - lo))) (.slice a' (n - lo) cp') := by
      intro lo n a' cp' ex' h1 h2 h3 h4 h5 h6;have hl : ((es.drop lo).take (n - lo)).length = n - lo := by rw [List.length_take, List.length_drop]; omega
      simp only [VRel];refine ⟨a', cp', by rw [hl], by rw [hl]; exact h3, h4, by rw [hl]; exact h5, ?_⟩;rcases hh with rfl | ⟨b, off, rfl, hel⟩
      ·left; simp
      ·by_cases hln : lo < n
       ·right;have hne : es ≠ [] := by rintro rfl; simp at h2; omega
        refine ⟨b, off + lo * k, ?_, hel.sub lo (n - lo)⟩;rw [h6 hne hln];simp [bY]
       ·left;exact List.length_eq_zero_iff.1 (by rw [hl]; omega)
     split
     ·rintro ⟨hs, h0, h1⟩;have hh1 := hhi.2 rfl;have hm := hmx.2 rfl;subst hh1; subst hm;have hb := fP (P := P) (w := c.w) true es.length cp .i64 lo none none lov none none l es.length cp hl' (.inl ⟨rfl, rfl, rfl⟩) (.inl ⟨rfl, rfl⟩) h0 (by omega) (by omega) (by omega);have e1 : es.drop l.toNat = (es.drop l.toNat).take (es.length - l.toNat) := by rw [List.take_of_length_le]; simp
      refine ⟨.slice (if cp = l.toNat then a else a.map (·.add (l.toNat * k))) (es.length - l.toNat) (cp - l.toNat), ?_, ?_⟩
      ·simp [Instr.sliceAt, hT.run_und, Result.andThen, Instr.slice, hb, hT'.run_size, hs]
      ·rw [e1];refine sub l.toNat es.length _ _ ex (by omega) (by omega) (by omega) (by omega) (fun hx => by have := hex hx; omega) (fun _ hlt => ?_);rw [if_neg (by omega)]
     ·rename_i kk n;rintro ⟨hs, h0, h1, h2⟩;obtain ⟨hv, hh1, hh2⟩ := hhi.1 _ rfl;simp only [VRel] at hh2;have hm := hmx.2 rfl;subst hh1; subst hh2; subst hm;have hb := fP (P := P) (w := c.w) true es.length cp .i64 lo (some (.int kk n)) none lov (some (.int kk n)) none l n cp hl' (.inr ⟨kk, rfl⟩) (.inl ⟨rfl, rfl⟩) h0 h1 (by omega) (by omega);refine ⟨.slice (if cp = l.toNat then a else a.map (·.add (l.toNat * k))) (n.toNat - l.toNat) (cp - l.toNat), ?_, ?_⟩
      ·simp [Instr.sliceAt, hT.run_und, Result.andThen, Instr.slice, hb, hT'.run_size, hs]
      ·refine sub l.toNat n.toNat _ _ false (by omega) (by omega) (by omega) (by omega) (fun hx => by cases hx) (fun _ hlt => ?_);rw [if_neg (by omega)]
     ·rename_i kk n km m;rintro ⟨hs, h0, h1, h2, h3⟩;obtain ⟨hv, hh1, hh2⟩ := hhi.1 _ rfl;obtain ⟨mv, hm1, hm2⟩ := hmx.1 _ rfl;simp only [VRel] at hh2 hm2;subst hh1; subst hh2; subst hm1; subst hm2;have hb := fP (P := P) (w := c.w) true es.length cp .i64 lo (some (.int kk n)) (some (.int km m)) lov (some (.int kk n)) (some (.int km m)) l n m hl' (.inr ⟨kk, rfl⟩) (.inr ⟨km, rfl⟩) h0 h1 (by omega) (by omega);refine ⟨.slice (if m.toNat = l.toNat then a else a.map (·.add (l.toNat * k))) (n.toNat - l.toNat) (m.toNat - l.toNat), ?_, ?_⟩
      ·simp [Instr.sliceAt, hT.run_und, Result.andThen, Instr.slice, hb, hT'.run_size, hs]
      ·refine sub l.toNat n.toNat _ _ true (by omega) (by omega) (by omega) (by omega) (fun hx => by omega) (fun _ hlt => ?_);rw [if_neg (by omega)]
     ·exact aJ.no
    ·exact aJ.no
   ·exact aJ.no
  ·rename_i id k off len cap;simp only [VRel] at hx;obtain ⟨a, cp, rfl, hcap, hlen, hmax, hh⟩ := hx;split
   ·rename_i el hk;have hd := hT.slice hk;subst hd;split
    ·rename_i re hre;obtain ⟨i', d', z', hT'⟩ := aN hre;have sub : ∀ (lo n : Nat), lo ≤ n → n ≤ cp →
      VRel c (.ls id k (off + lo * k) (n - lo) (cap - lo)) (.slice (if cp = lo then a else a.map (·.add (lo * k))) (n - lo) (cp - lo)) := by
      intro lo n h1 h2;simp only [VRel];refine ⟨_, _, rfl, by omega, by omega, by omega, ?_⟩;by_cases hc : cp - lo = 0
      ·exact .inl hc
      ·rcases hh with hh | ⟨b, arr, el', fz, hb, rfl, h3, h4⟩
       ·omega
       ·refine .inr ⟨b, arr, el', fz, hb, ?_, h3, ?_⟩
        ·rw [if_neg (by omega)]; simp [bY]
        ·have : off + lo * k + (cp - lo) * k = off + cp * k := by rw [Nat.add_assoc, ← Nat.add_mul]; congr 2; omega
         omega
     split
     ·rintro ⟨hs, h0, h1⟩;have hh1 := hhi.2 rfl;have hm := hmx.2 rfl;subst hh1; subst hm;have hb := fP (P := P) (w := c.w) true len cp .i64 lo none none lov none none l len cp hl' (.inl ⟨rfl, rfl, rfl⟩) (.inl ⟨rfl, rfl⟩) h0 (by omega) (by omega) (by omega);refine ⟨.slice (if cp = l.toNat then a else a.map (·.add (l.toNat * k))) (len - l.toNat) (cp - l.toNat), ?_, sub l.toNat len (by omega) (by omega)⟩;simp [Instr.sliceAt, hT.run_und, Result.andThen, Instr.slice, hb, hT'.run_size, hs]
     ·rename_i kk n;rintro ⟨hs, h0, h1, h2⟩;obtain ⟨hv, hh1, hh2⟩ := hhi.1 _ rfl;simp only [VRel] at hh2;have hm := hmx.2 rfl;subst hh1; subst hh2; subst hm;have hb := fP (P := P) (w := c.w) true len cp .i64 lo (some (.int kk n)) none lov (some (.int kk n)) none l n cp hl' (.inr ⟨kk, rfl⟩) (.inl ⟨rfl, rfl⟩) h0 h1 (by omega) (by omega);refine ⟨.slice (if cp = l.toNat then a else a.map (·.add (l.toNat * k))) (n.toNat - l.toNat) (cp - l.toNat), ?_, sub l.toNat n.toNat (by omega) (by omega)⟩;simp [Instr.sliceAt, hT.run_und, Result.andThen, Instr.slice, hb, hT'.run_size, hs]
     ·exact aJ.no
    ·exact aJ.no
   ·exact aJ.no
  ·exact aJ.no
 ·exact aJ.no
end
end Go.Abs
