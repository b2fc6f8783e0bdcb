/- Abstract values, heaps and frames over the calculus, part 3. -/
import Derived.Test.YtegnjoonhabicaaA2
import Derived.ShutString
set_option linter.unusedVariables false
namespace Go.Abs

/-! ### Types -/
inductive K where
  | bool | int (k : IntKind) | str | ptr (e : Nat) | slice (e : Nat) | arr (n e : Nat) | map (k e : Nat)
  | struct (fs : List (Nat × Nat))
  | func | iface | other
  deriving DecidableEq

structure TI where
  kind : K
  size : Nat
  bytes : Nat
  zero : V

def aggT (P : Program) (t : TypeId) : Bool := match P.underlying t with | some (.struct _) | some (.array _ _) => true | _ => false

def ofZero : Value → V
  | .agg cs => .agg (cs.toList.map ofVal)
  | v => ofVal v

def kindOf (P : Program) : TypeDesc → K
  | .bool => .bool
  | .int k => .int k
  | .string => .str
  | .pointer e => .ptr e
  | .slice e => .slice e
  | .array n e => .arr n e
  | .map k e => .map k e
  | .struct fs => .struct (fs.toList.map fun f => (f.offset, f.type))
  | .func .. => .func
  | .interface _ => .iface
  | _ => .other

def ti (P : Program) (t : TypeId) : Option TI :=
  match P.info? t, P.underlying t with
  | some i, some d => match i.zero with
    | some z => some ⟨kindOf P d, i.size, i.bytes, ofZero z⟩
    | none => none
  | _, _ => none

theorem ofZero_rel (c : C) (v : Value) : VRel c (ofZero v) v := by
  unfold ofZero
  split
  · rename_i cs
    simp only [VRel]
    refine ⟨cs, rfl, VList.of_get (by simp) fun i v x hv hx => ?_⟩
    rw [List.getElem?_map] at hv
    rw [hx] at hv
    have : ofVal x = v := by simpa using hv
    subst this
    exact ofVal_rel c x
  · exact ofVal_rel c _

structure TIs (P : Program) (t : TypeId) (r : TI) (i : TypeInfo) (d : TypeDesc) (z : Value) : Prop where
  info : P.info? t = some i
  und : P.underlying t = some d
  zero : i.zero = some z
  kind : r.kind = kindOf P d
  size : r.size = i.size
  bytes : r.bytes = i.bytes
  zv : r.zero = ofZero z

theorem ti_some {P : Program} {t : TypeId} {r : TI} (h : ti P t = some r) : ∃ i d z, TIs P t r i d z := by
  unfold ti at h
  split at h
  · rename_i i d hi hd
    split at h
    · rename_i z hz
      cases h
      exact ⟨i, d, z, hi, hd, hz, rfl, rfl, rfl, rfl⟩
    · cases h
  · cases h

theorem TIs.slice {P : Program} {t : TypeId} {r : TI} {i : TypeInfo} {d : TypeDesc} {z : Value} (h : TIs P t r i d z) {e : Nat} (hk : r.kind = .slice e) : d = .slice e := by
  have := h.kind.symm.trans hk
  cases d <;> simp_all [kindOf]
theorem TIs.int {P : Program} {t : TypeId} {r : TI} {i : TypeInfo} {d : TypeDesc} {z : Value} (h : TIs P t r i d z) {k : IntKind} (hk : r.kind = .int k) : d = .int k := by
  have := h.kind.symm.trans hk
  cases d <;> simp_all [kindOf]
theorem TIs.str {P : Program} {t : TypeId} {r : TI} {i : TypeInfo} {d : TypeDesc} {z : Value} (h : TIs P t r i d z) (hk : r.kind = .str) : d = .string := by
  have := h.kind.symm.trans hk
  cases d <;> simp_all [kindOf]
theorem TIs.map {P : Program} {t : TypeId} {r : TI} {i : TypeInfo} {d : TypeDesc} {z : Value} (h : TIs P t r i d z) {k e : Nat} (hk : r.kind = .map k e) : d = .map k e := by
  have := h.kind.symm.trans hk
  cases d <;> simp_all [kindOf]
theorem TIs.arr {P : Program} {t : TypeId} {r : TI} {i : TypeInfo} {d : TypeDesc} {z : Value} (h : TIs P t r i d z) {k e : Nat} (hk : r.kind = .arr k e) : d = .array k e := by
  have := h.kind.symm.trans hk
  cases d <;> simp_all [kindOf]
theorem TIs.struct {P : Program} {t : TypeId} {r : TI} {i : TypeInfo} {d : TypeDesc} {z : Value} (h : TIs P t r i d z) {fs : List (Nat × Nat)} (hk : r.kind = .struct fs) :
    ∃ gs, d = .struct gs ∧ fs = gs.toList.map fun f => (f.offset, f.type) := by
  have := h.kind.symm.trans hk
  cases d <;> simp_all [kindOf]

def TI.agg (r : TI) : Bool := match r.kind with | .struct _ | .arr _ _ => true | _ => false

theorem TIs.agg {P : Program} {t : TypeId} {r : TI} {i : TypeInfo} {d : TypeDesc} {z : Value} (h : TIs P t r i d z) (w : World) : (isAgg t).run P w = .ok r.agg w := by
  have : r.agg = aggT P t := by
    unfold TI.agg aggT
    rw [h.kind, h.und]
    cases d <;> rfl
  rw [this]
  unfold isAgg underlying aggT
  simp only [Sem.run_bind, run_program, Result.andThen, h.und, Sem.run_pure]
  cases d <;> simp

theorem TIs.run_size {P : Program} {t : TypeId} {r : TI} {i : TypeInfo} {d : TypeDesc} {z : Value} (h : TIs P t r i d z) (w : World) : (sizeOf t).run P w = .ok r.size w := by
  unfold sizeOf typeInfo
  simp [h.info, h.size]

theorem TIs.run_und {P : Program} {t : TypeId} {r : TI} {i : TypeInfo} {d : TypeDesc} {z : Value} (h : TIs P t r i d z) (w : World) : (underlying t).run P w = .ok d w := by
  unfold underlying
  simp [h.und]

theorem TIs.run_zero {P : Program} {t : TypeId} {r : TI} {i : TypeInfo} {d : TypeDesc} {z : Value} (h : TIs P t r i d z) (w : World) : (zeroValue t).run P w = .ok z w := by
  unfold zeroValue typeInfo
  simp [h.info, h.zero]

/-! ### Quiet operations -/
def YieldsTo (P : Program) (S : Value → World → Prop) : Result Next → Prop
  | .ok (.value x) w => S x w
  | .ok .skip w => S undef w
  | .ok (.enter g args) w => Calls P g args w fun e w' => ∃ x, e = .returned x ∧ S x w'
  | _ => False

/-- The operation, its operands being such, yields such a value; nothing that was there turns. -/
def AQ (e : E) (o : Oper) (ρ : Operand → V) (h : H) (v : V) : Prop :=
  ∀ ok pl w (ev : Operand → Value), HSim e ok pl h w → (∀ x ∈ o.op.operands, VRel (cx ok pl w) (ρ x) (ev x)) →
    YieldsTo e.P (fun x w' => WExt w w' ∧ VRel (cx ok pl w') v x) ((execOp ev o).run e.P w)

theorem AQ.of_value {e : E} {o : Oper} {ρ : Operand → V} {h : H} {v : V}
    (hh : ∀ ok pl w (ev : Operand → Value), HSim e ok pl h w → (∀ x ∈ o.op.operands, VRel (cx ok pl w) (ρ x) (ev x)) →
      ∃ x, (execOp ev o).run e.P w = .ok (.value x) w ∧ VRel (cx ok pl w) v x) : AQ e o ρ h v := by
  intro ok pl w ev hs hr
  obtain ⟨x, h1, h2⟩ := hh ok pl w ev hs hr
  rw [h1]
  exact ⟨WExt.refl w, h2⟩

/-- Runs a value operation. -/
theorem run_v {P : Program} {w : World} {s : Sem Value} {x : Value} {w' : World} (h : s.run P w = .ok x w') :
    (do pure (Next.value (← s)) : Sem Next).run P w = .ok (.value x) w' := by
  simp [h, Result.andThen]

end Go.Abs
