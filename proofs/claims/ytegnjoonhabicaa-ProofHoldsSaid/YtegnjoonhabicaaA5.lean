/- Abstract values, heaps and frames over the calculus, part 5. -/
import Derived.Test.YtegnjoonhabicaaA4
import Derived.WalkLawsBesides
import Derived.WalkSpells
import Derived.MapKept
set_option linter.unusedVariables false
set_option linter.unusedSimpArgs false
namespace Go.Abs
open Go.RowKit

abbrev PV := Prop × V
abbrev pvNo : PV := (False, .any)

/-- What a pair of a condition and a value is worth: under the condition the run gives such a value, the world as it was. -/
def Gives (P : Program) (c : C) (s : Sem Value) (r : PV) : Prop := r.1 → ∃ x, s.run P c.w = .ok x c.w ∧ VRel c r.2 x

theorem Gives.no {P : Program} {c : C} {s : Sem Value} : Gives P c s pvNo := fun h => h.elim

def pvUn : UnOp → V → PV
  | .not, .bool b => (True, .bool (!b))
  | .neg, .int k n => (True, .int k (k.wrap (0 - n)))
  | _, _ => pvNo

theorem pvUn_ok {P : Program} {c : C} (op : UnOp) {v : V} {x : Value} (h : VRel c v x) : Gives P c (Op.unary op x) (pvUn op v) := by
  unfold pvUn
  split
  · simp only [VRel] at h; subst h
    exact fun _ => ⟨_, rfl, by simp only [VRel]⟩
  · simp only [VRel] at h; subst h
    exact fun _ => ⟨_, rfl, by simp only [VRel]⟩
  · exact Gives.no

def pvInt (op : BinOp) (k : IntKind) (a : Int) (k' : IntKind) (b : Int) : PV :=
  match op with
  | .add => (k = k', .int k (k.wrap (a + b)))
  | .sub => (k = k', .int k (k.wrap (a - b)))
  | .mul => (k = k', .int k (k.wrap (a * b)))
  | .quo => (k = k' ∧ b ≠ 0, .int k (k.wrap (a.tdiv b)))
  | .rem => (k = k' ∧ b ≠ 0, .int k (a.tmod b))
  | .and => (k = k', .int k (k.wrap (BitVec.ofInt k.bits a &&& BitVec.ofInt k.bits b).toNat))
  | .or => (k = k', .int k (k.wrap (BitVec.ofInt k.bits a ||| BitVec.ofInt k.bits b).toNat))
  | .xor => (k = k', .int k (k.wrap (BitVec.ofInt k.bits a ^^^ BitVec.ofInt k.bits b).toNat))
  | .andNot => (k = k', .int k (k.wrap (BitVec.ofInt k.bits a &&& ~~~ BitVec.ofInt k.bits b).toNat))
  | .shl => (0 ≤ b, .int k (k.wrap (a * 2 ^ (min b.toNat k.bits))))
  | .shr => (0 ≤ b, .int k (a.fdiv (2 ^ (min b.toNat k.bits))))
  | .eql => (k = k', .bool (a == b))
  | .neq => (k = k', .bool (a != b))
  | .lss => (k = k', .bool (decide (a < b)))
  | .leq => (k = k', .bool (decide (a ≤ b)))
  | .gtr => (k = k', .bool (decide (b < a)))
  | .geq => (k = k', .bool (decide (b ≤ a)))

theorem Gives.int {P : Program} {c : C} {s : Sem Value} {p : Prop} {k : IntKind} {n : Int} (h : p → s.run P c.w = .ok (.int k n) c.w) : Gives P c s (p, .int k n) :=
  fun hp => ⟨_, h hp, by simp only [VRel]⟩
theorem Gives.bool {P : Program} {c : C} {s : Sem Value} {p : Prop} {b : Bool} (h : p → s.run P c.w = .ok (.bool b) c.w) : Gives P c s (p, .bool b) :=
  fun hp => ⟨_, h hp, by simp only [VRel]⟩

theorem pvInt_ok {P : Program} {c : C} (op : BinOp) (t : TypeId) (k k' : IntKind) (a b : Int) : Gives P c (binOp op t (.int k a) (.int k' b)) (pvInt op k a k' b) := by
  unfold pvInt
  cases op <;> dsimp only
  case shl =>
    refine Gives.int fun hc => ?_
    simp only [binOp, Op.shift]
    rw [if_neg (by omega)]; rfl
  case shr =>
    refine Gives.int fun hc => ?_
    simp only [binOp, Op.shift]
    rw [if_neg (by omega)]; rfl
  case quo =>
    refine Gives.int fun ⟨hk, hb⟩ => ?_
    subst hk; simp [binOp, Op.intDiv, hb]
  case rem =>
    refine Gives.int fun ⟨hk, hb⟩ => ?_
    subst hk; simp [binOp, Op.intDiv, hb]
  all_goals
    first
      | refine Gives.int fun hk => ?_
      | refine Gives.bool fun hk => ?_
    subst hk
    simp [binOp, Op.intArith, Op.intBits, Op.intCmp]

def pvStr (op : BinOp) (a b : List UInt8) : PV :=
  match op with
  | .add => (a.length + b.length ≤ maxLen, .str (a ++ b))
  | .eql => (True, .bool (a == b))
  | .neq => (True, .bool (!(a == b)))
  | .lss => (True, .bool (Op.bytesLess a b))
  | .leq => (True, .bool (Op.bytesLess a b || a == b))
  | .gtr => (True, .bool (!(Op.bytesLess a b || a == b)))
  | .geq => (True, .bool (!(Op.bytesLess a b)))
  | _ => pvNo

theorem size_data (s : ByteArray) : s.size = s.data.toList.length := (Array.length_toList).symm

theorem pvStr_ok {P : Program} {c : C} (op : BinOp) (t : TypeId) {a b : List UInt8} {x y : Value} (ha : VRel c (.str a) x) (hb : VRel c (.str b) y) :
    Gives P c (binOp op t x y) (pvStr op a b) := by
  simp only [VRel] at ha hb
  obtain ⟨s, rfl, rfl, hs⟩ := ha
  obtain ⟨u, rfl, rfl, hu⟩ := hb
  unfold pvStr
  cases op <;> dsimp only <;> try exact Gives.no
  case add =>
    intro hc
    refine ⟨.string (s ++ u), ?_, ?_⟩
    · have : ¬ ((s.size + u.size : Nat) : Int) > IntKind.i64.max := by
        have h1 : IntKind.i64.max = 9223372036854775807 := rfl
        rw [size_data s, size_data u]
        simp only [maxLen] at hc
        omega
      simp only [binOp, Op.stringOp]
      rw [if_neg this]; rfl
    · simp only [VRel]
      exact ⟨_, rfl, by simp, by rw [List.length_append]; exact hc⟩
  all_goals
    refine Gives.bool fun _ => ?_
    simp [binOp, Op.stringOp, ByteArray.toList_eq]

/-- Is it nil? (Of a slice that data is, or that may be empty, nothing is told.) -/
def V.nil? : V → Option Bool
  | .nilp | .nilm | .nilf | .nili | .nils => some true
  | .lp _ _ | .ip _ | .lm _ | .im _ _ | .fn _ _ _ | .yd _ | .iface _ _ => some false
  | _ => none

def K.nilOf : K → V → Bool
  | .ptr _, .nilp => true
  | .map _ _, .nilm => true
  | .func, .nilf => true
  | .slice _, .nils => true
  | _, _ => false

/-- Values of kinds that have a nil, held against it. -/
def K.has : K → V → Bool
  | .ptr _, .nilp | .ptr _, .lp _ _ | .ptr _, .ip _ => true
  | .map _ _, .nilm | .map _ _, .lm _ | .map _ _, .im _ _ => true
  | .func, .nilf | .func, .fn _ _ _ | .func, .yd _ => true
  | .slice _, .nils => true
  | _, _ => false

def pvBin (P : Program) (op : BinOp) (t : TypeId) (x y : V) : PV :=
  match x, y with
  | .int k a, .int k' b => pvInt op k a k' b
  | .str a, .str b => pvStr op a b
  | .bool a, .bool b =>
    match ti P t with
    | some r => match op with
      | .eql => (r.kind = .bool, .bool (a == b))
      | .neq => (r.kind = .bool, .bool (!(a == b)))
      | _ => pvNo
    | none => pvNo
  | x, y =>
    match ti P t, x.nil?, y with
    | some r, some b, .nilp | some r, some b, .nilm | some r, some b, .nilf | some r, some b, .nils => match op with
      | .eql => (r.kind.nilOf y = true ∧ r.kind.has x = true, .bool b)
      | .neq => (r.kind.nilOf y = true ∧ r.kind.has x = true, .bool (!b))
      | _ => pvNo
    | some r, some b, .nili => match op, x with
      | .eql, .iface _ _ => (r.kind = .iface, .bool false)
      | .neq, .iface _ _ => (r.kind = .iface, .bool true)
      | _, _ => pvNo
    | _, _, _ => pvNo

theorem TIs.bool {P : Program} {t : TypeId} {r : TI} {i : TypeInfo} {d : TypeDesc} {z : Value} (h : TIs P t r i d z) (hk : r.kind = .bool) : d = .bool := by
  have := h.kind.symm.trans hk
  cases d <;> simp_all [kindOf]
theorem TIs.ptr {P : Program} {t : TypeId} {r : TI} {i : TypeInfo} {d : TypeDesc} {z : Value} (h : TIs P t r i d z) {e : Nat} (hk : r.kind = .ptr e) : d = .pointer e := by
  have := h.kind.symm.trans hk
  cases d <;> simp_all [kindOf]
theorem TIs.iface {P : Program} {t : TypeId} {r : TI} {i : TypeInfo} {d : TypeDesc} {z : Value} (h : TIs P t r i d z) (hk : r.kind = .iface) : ∃ ms, d = .interface ms := by
  have := h.kind.symm.trans hk
  cases d <;> simp_all [kindOf]
theorem TIs.func {P : Program} {t : TypeId} {r : TI} {i : TypeInfo} {d : TypeDesc} {z : Value} (h : TIs P t r i d z) (hk : r.kind = .func) : ∃ a b c, d = .func a b c := by
  have := h.kind.symm.trans hk
  cases d <;> simp_all [kindOf]

theorem run_equal_nil {P : Program} {c : C} {t : TypeId} {r : TI} {i : TypeInfo} {d : TypeDesc} {z : Value} (h : TIs P t r i d z) {x y : V} {xv yv : Value} {b : Bool}
    (hx : VRel c x xv) (hy : VRel c y yv) (hb : x.nil? = some b) (h1 : r.kind.nilOf y = true) (h2 : r.kind.has x = true) (w : World) :
    (Op.equal t xv yv).run P w = .ok b w := by
  unfold Op.equal Op.maxDepth Op.equalIn
  simp only [Sem.run_bind, h.run_und, Result.andThen]
  cases hk : r.kind <;> rw [hk] at h1 h2 <;> cases y <;> simp only [K.nilOf, Bool.false_eq_true] at h1 <;> cases x <;> simp only [K.has, Bool.false_eq_true] at h2 <;> simp only [V.nil?, Option.some.injEq] at hb <;> subst hb <;> simp only [VRel] at hx hy <;> subst hy
  case ptr.nilp.nilp => rw [h.ptr hk]; subst hx; rfl
  case ptr.nilp.lp => rw [h.ptr hk]; obtain ⟨_, _, rfl⟩ := hx; rfl
  case ptr.nilp.ip => rw [h.ptr hk]; obtain ⟨_, _, _, rfl, _⟩ := hx; rfl
  case slice.nils.nils => rw [h.slice hk]; subst hx; rfl
  case map.nilm.nilm => rw [h.map hk]; subst hx; rfl
  case map.nilm.lm => rw [h.map hk]; obtain ⟨_, _, rfl⟩ := hx; rfl
  case map.nilm.im => rw [h.map hk]; obtain ⟨_, _, _, rfl, _⟩ := hx; rfl
  case func.nilf.nilf => obtain ⟨_, _, _, hd⟩ := h.func hk; rw [hd]; subst hx; rfl
  case func.nilf.fn => obtain ⟨_, _, _, hd⟩ := h.func hk; rw [hd]; obtain ⟨_, _, rfl, _⟩ := hx; rfl
  case func.nilf.yd => obtain ⟨_, _, _, hd⟩ := h.func hk; rw [hd]; obtain ⟨_, _, rfl⟩ := hx; rfl


theorem pvBin_ok {P : Program} {c : C} (op : BinOp) (t : TypeId) {x y : V} {xv yv : Value} (hx : VRel c x xv) (hy : VRel c y yv) :
    Gives P c (binOp op t xv yv) (pvBin P op t x y) := by
  unfold pvBin
  split
  · simp only [VRel] at hx hy; subst hx; subst hy; exact pvInt_ok (P := P) (c := c) op t _ _ _ _
  · exact pvStr_ok _ _ hx hy
  · simp only [VRel] at hx hy; subst hx; subst hy
    split
    · rename_i r hr
      obtain ⟨i, d, z, hT⟩ := ti_some hr
      split
      · refine Gives.bool fun hk => ?_
        have := hT.und; rw [hT.bool hk] at this
        exact run_eql_bool _ _ _ _ this
      · refine Gives.bool fun hk => ?_
        have := hT.und; rw [hT.bool hk] at this
        exact run_neq_bool _ _ _ _ this
      · exact Gives.no
    · exact Gives.no
  · have key : ∀ r b, ti P t = some r → x.nil? = some b → (y = .nilp ∨ y = .nilm ∨ y = .nilf ∨ y = .nils) →
        Gives P c (binOp op t xv yv) (match op with
          | .eql => (r.kind.nilOf y = true ∧ r.kind.has x = true, .bool b)
          | .neq => (r.kind.nilOf y = true ∧ r.kind.has x = true, .bool (!b))
          | _ => pvNo) := by
      intro r b hr hb hyn
      obtain ⟨i, d, z, hT⟩ := ti_some hr
      have hbin : ∀ op', (op' = .eql ∨ op' = .neq) → (r.kind.nilOf y = true ∧ r.kind.has x = true) → binOp op' t xv yv = (if op' = .eql then (do pure (.bool (← Op.equal t xv yv))) else (do pure (.bool (!(← Op.equal t xv yv))))) := by
        rintro op' hop ⟨h1, h2⟩
        rcases hyn with rfl | rfl | rfl | rfl <;> cases hk : r.kind <;> rw [hk] at h1 h2 <;> simp only [K.nilOf, Bool.false_eq_true] at h1 <;> cases x <;> simp only [K.has, Bool.false_eq_true] at h2 <;>
          simp only [VRel] at hx hy <;> subst hy <;>
          first
            | (subst hx; rcases hop with rfl | rfl <;> rfl)
            | (obtain ⟨_, _, rfl⟩ := hx; rcases hop with rfl | rfl <;> rfl)
            | (obtain ⟨_, _, _, rfl, _⟩ := hx; rcases hop with rfl | rfl <;> rfl)
            | (obtain ⟨_, _, rfl, _⟩ := hx; rcases hop with rfl | rfl <;> rfl)
      split
      · refine Gives.bool fun hp => ?_
        rw [hbin _ (.inl rfl) hp, if_pos rfl]
        simp [run_equal_nil hT hx hy hb hp.1 hp.2, Result.andThen]
      · refine Gives.bool fun hp => ?_
        rw [hbin _ (.inr rfl) hp, if_neg (by decide)]
        simp [run_equal_nil hT hx hy hb hp.1 hp.2, Result.andThen]
      · exact Gives.no
    split
    · exact key _ _ (by assumption) (by assumption) (.inl rfl)
    · exact key _ _ (by assumption) (by assumption) (.inr (.inl rfl))
    · exact key _ _ (by assumption) (by assumption) (.inr (.inr (.inl rfl)))
    · exact key _ _ (by assumption) (by assumption) (.inr (.inr (.inr rfl)))
    · rename ti P t = some _ => hr
      rename TI => r
      obtain ⟨i, d, z, hT⟩ := ti_some hr
      have hq : ∀ u ev, r.kind = .iface → (Op.equal t (.iface u ev) .nilIface).run P c.w = .ok false c.w := by
        intro u ev hk
        obtain ⟨ms, rfl⟩ := hT.iface hk
        unfold Op.equal Op.maxDepth Op.equalIn
        simp only [Sem.run_bind, hT.run_und, Result.andThen]
        rfl
      split
      · simp only [VRel] at hx hy
        obtain ⟨ev, rfl, _⟩ := hx; subst hy
        refine Gives.bool fun hk => ?_
        show (do pure (Value.bool (← Op.equal t _ _)) : Sem Value).run P c.w = _
        simp [hq _ _ hk, Result.andThen]
      · simp only [VRel] at hx hy
        obtain ⟨ev, rfl, _⟩ := hx; subst hy
        refine Gives.bool fun hk => ?_
        show (do pure (Value.bool (!(← Op.equal t _ _))) : Sem Value).run P c.w = _
        simp [hq _ _ hk, Result.andThen]
      · exact Gives.no
    · exact Gives.no

end Go.Abs
