/- Abstract values, heaps and frames over the calculus, part 7. -/
import Derived.Test.YtboolnpmlmgpkaaGreatDoorA6
set_option linter.unusedVariables false
set_option linter.unusedSimpArgs false
namespace Go.Abs
open Go.RowKit

/-! ### How a condition is worked out -/
theorem PV.and_mk {p c : Prop} {v : V} : PV.and p (c, v) = (p ∧ c, v) := rfl

section
variable {e : E} {n : Nat} {r : Option Nat} {Q : XE → Fr → H → Prop} {f : Fr} {h : H} {ops : Array Oper}

theorem vc_skip : vc e n r .skip Q f h = Q .normal f h := rfl
theorem vc_label {l : Nat} : vc e n r (.label l) Q f h = Q .normal f h := rfl
theorem vc_exit {i : Nat} : vc e n r (.exit i) Q f h = Q (.exit i) f h := rfl
theorem vc_goto {i : Nat} : vc e n r (.goto i) Q f h = Q (.goto i) f h := rfl
theorem vc_ret : vc e n r .ret Q f h = Q .ret f h := rfl
theorem vc_seq {x y : Code} : vc e n r (.seq x y) Q f h = vc e n r x (XE.seq (vc e n r y Q) Q) f h := rfl
theorem vc_cond {c : Operand} {x y : Code} : vc e n r (.cond c x y) Q f h = (match (f.ev e c).sv with
    | .bool b => (f.ev e c).sc ∧ vcB b (vc e n r x Q) (vc e n r y Q) f h
    | _ => False) := rfl
theorem vc_block {i : Nat} {x : Code} : vc e n r (.block i x) Q f h = vc e n r x (XE.block i Q) f h := rfl
theorem vc_region {i : Nat} {l : List Oper} : vc e n r (.region i l.toArray false) Q f h = vcOps e n l.toArray Q l f h := rfl
theorem vc_drawn {i : Nat} {l : List Oper} : vc e n r (.region i l.toArray true) Q f h = (match l.all quietOp with
    | true => Region.lexB .any l.toArray = true ∧ vcQuiet e n l.toArray h (normK Q h) l f
    | false => awp e n r (.region i l.toArray true) Q f h) := rfl
theorem vc_loop {c : Code} : vc e n r (.loop c) Q f h = awp e n r (.loop c) Q f h := rfl

theorem seq_normal {Kn : Fr → H → Prop} : XE.seq Kn Q .normal = Kn := rfl
theorem seq_exit {Kn : Fr → H → Prop} {i : Nat} : XE.seq Kn Q (.exit i) = Q (.exit i) := rfl
theorem seq_goto {Kn : Fr → H → Prop} {i : Nat} : XE.seq Kn Q (.goto i) = Q (.goto i) := rfl
theorem seq_ret {Kn : Fr → H → Prop} : XE.seq Kn Q .ret = Q .ret := rfl
theorem seq_pan {Kn : Fr → H → Prop} {v : V} : XE.seq Kn Q (.pan v) = Q (.pan v) := rfl
theorem block_normal {i : Nat} : XE.block i Q .normal = Q .normal := rfl
theorem block_exit {i j : Nat} : XE.block i Q (.exit j) = (match j == i with | true => Q .normal | false => Q (.exit j)) := rfl
theorem block_goto {i j : Nat} : XE.block i Q (.goto j) = Q (.goto j) := rfl
theorem block_ret {i : Nat} : XE.block i Q .ret = Q .ret := rfl
theorem block_pan {i : Nat} {v : V} : XE.block i Q (.pan v) = Q (.pan v) := rfl

theorem vcOps_nil : vcOps e n ops Q [] f h = Q .normal f h := rfl
theorem vcOps_cons {d : Option Tmp} {op : Op} {t : TypeId} {p : String} {af : Array Edge} {l : List Oper} : vcOps e n ops Q (⟨d, op, t, p, af, none⟩ :: l) f h = (dstOk n d = true ∧
      match isEff op with
      | true => vcEff e n ⟨d, op, t, p, af, none⟩ f h (vcOps e n ops Q l) Q
      | false => PV.go true (pvOp e.P ⟨d, op, t, p, af, none⟩ (f.ev e) h) d (vcOps e n ops Q l) f h) := by
  simp only [vcOps, gd]
  congr 1
  cases isEff op
  · rfl
  · simp [effG]
theorem vcOps_grd {d : Option Tmp} {op : Op} {t : TypeId} {p : String} {af : Array Edge} {g : Nat × Bool} {l : List Oper} : vcOps e n ops Q (⟨d, op, t, p, af, some g⟩ :: l) f h = (match gd ops f ⟨d, op, t, p, af, some g⟩ with
    | none => False
    | some q => dstOk n d = true ∧
      match isEff op with
      | true => effG q e n ⟨d, op, t, p, af, none⟩ (vcOps e n ops Q l) Q f h
      | false => PV.go q (pvOp e.P ⟨d, op, t, p, af, none⟩ (f.ev e) h) d (vcOps e n ops Q l) f h) := rfl
theorem vcQuiet_cons {Qn : Fr → Prop} {d : Option Tmp} {op : Op} {t : TypeId} {p : String} {af : Array Edge} {l : List Oper} : vcQuiet e n ops h Qn (⟨d, op, t, p, af, none⟩ :: l) f = (dstOk n d = true ∧
      match isEff op with
      | true => match op with
        | .call { callee := .value fx, args, .. } => match callOn e (f.ev e) fx args with
          | some (q, vs) => vcEv e true q vs (callSc (f.ev e) fx args) d (vcQuiet e n ops h Qn l) f
          | none => False
        | _ => False
      | false => goQ true (pvOp e.P ⟨d, op, t, p, af, none⟩ (f.ev e) h) d (vcQuiet e n ops h Qn l) f) := rfl
theorem vcQuiet_grd {Qn : Fr → Prop} {d : Option Tmp} {op : Op} {t : TypeId} {p : String} {af : Array Edge} {g : Nat × Bool} {l : List Oper} : vcQuiet e n ops h Qn (⟨d, op, t, p, af, some g⟩ :: l) f = (match gd ops f ⟨d, op, t, p, af, some g⟩ with
    | none => False
    | some b => dstOk n d = true ∧
      match isEff op with
      | true => match op with
        | .call { callee := .value fx, args, .. } => match callOn e (f.ev e) fx args with
          | some (q, vs) => vcEv e b q vs (callSc (f.ev e) fx args) d (vcQuiet e n ops h Qn l) f
          | none => False
        | _ => False
      | false => goQ b (pvOp e.P ⟨d, op, t, p, af, none⟩ (f.ev e) h) d (vcQuiet e n ops h Qn l) f) := rfl
theorem callK_ret {dst : Option Tmp} {Kn : Fr → H → Prop} {v : V} : callK dst Kn Q f (.ret v) h (fun _ => false) = Kn (f.put dst v) h := by simp [callK]
theorem vcQuiet_nil {Qn : Fr → Prop} : vcQuiet e n ops h Qn [] f = Qn f := rfl
theorem goQ_true {q : Prop} {v : V} {d : Option Tmp} {Kn : Fr → Prop} : goQ true (q, v) d Kn f = (q ∧ Kn (f.put d v)) := by simp [goQ, V.guard]
theorem goQ_false {q : PV} {d : Option Tmp} {Kn : Fr → Prop} : goQ false q d Kn f = Kn (f.put d (.grd false q.2)) := by simp [goQ, V.guard]
theorem goQ_sym {g : Bool} {q : Prop} {v : V} {d : Option Tmp} {Kn : Fr → Prop} : goQ g (q, v) d Kn f = ((g = true → q) ∧ Kn (f.put d (V.guard g v))) := rfl
theorem effG_true {o : Oper} {Kn : Fr → H → Prop} : effG true e n o Kn Q f h = vcEff e n o f h Kn Q := by simp [effG]
theorem effG_false {o : Oper} {Kn : Fr → H → Prop} : effG false e n o Kn Q f h = skipK o.dst Kn f h := by simp [effG]
theorem effG.ev {g : Bool} {d : Option Tmp} {t : TypeId} {p : String} {af : Array Edge} {gu : Option (Nat × Bool)} {fx : Operand} {args : Array Operand} {ts : Array TypeId} {Kn : Fr → H → Prop} {q : FuncId} {vs : List V} {rv : V}
    (hon : callOn e (f.ev e) fx args = some (q, vs)) (hsc : g = true → callSc (f.ev e) fx args) (hen : enters e.P q = true) (hv : g = true → Ev e q vs rv) (hd : g = true → V.dats vs = true) (hk : Kn (f.put d (V.guard g rv)) h) :
    effG g e n ⟨d, .call { callee := .value fx, args := args, argTypes := ts }, t, p, af, gu⟩ Kn Q f h := by
  refine ⟨fun hg => ?_, fun hg => ?_⟩
  · subst hg
    simp only [vcEff, vcCall, hon]
    refine ⟨hsc rfl, hen, ACalls.ev (hv rfl) (hd rfl) ?_⟩
    simpa [callK, V.guard] using hk
  · subst hg
    exact ⟨rv, hk⟩

theorem put_ev {i : Tmp} {v : V} {j : Tmp} : (f.put (some i) v).ev e (.tmp j) = if j = i then v else f.ev e (.tmp j) := rfl
theorem put_none {v : V} : f.put none v = f := rfl
theorem ev_const {v : Value} : f.ev e (.const v) = ofVal v := rfl
theorem ev_global {g : Nat} : f.ev e (.global g) = glv e g := rfl
theorem ev_func {g : Nat} : f.ev e (.func g) = .fn (.func g) [] [] := rfl
theorem put_t {i : Tmp} {v : V} {j : Tmp} : (f.put (some i) v).t j = if j = i then v else f.t j := rfl
theorem ev_tmp {j : Tmp} : f.ev e (.tmp j) = f.t j := rfl
theorem put_d {i : Option Tmp} {v : V} : (f.put i v).d = f.d := by cases i <;> rfl
theorem put_k {i : Option Tmp} {v : V} : (f.put i v).k = f.k := by cases i <;> rfl
theorem init_t {args : List V} {i : Nat} : (Fr.init args).t i = args.getD i undefV := rfl
theorem init_d {args : List V} : (Fr.init args).d = [] := rfl
end
end Go.Abs

set_option linter.unusedVariables false
set_option linter.unusedSimpArgs false
namespace Go.Abs
open Go.RowKit

/-! ### Lengths -/
mutual
def V.bnd : V → Prop
  | .str s => s.length ≤ maxLen
  | .is _ _ es => es.length ≤ maxLen ∧ V.bnds es
  | .ls _ _ _ len _ => len ≤ maxLen
  | .ip e => e.bnd
  | .im ks vs => V.bnds ks ∧ V.bnds vs
  | .agg vs => V.bnds vs
  | .tup vs => V.bnds vs
  | .iface _ e => e.bnd
  | .fn _ a b => V.bnds a ∧ V.bnds b
  | _ => True
def V.bnds : List V → Prop
  | [] => True
  | v :: vs => v.bnd ∧ V.bnds vs
end

mutual
theorem VRel.bnd : ∀ {c : C} {v : V} {x : Value}, VRel c v x → v.bnd
  | c, .str s, x, h => by simp only [VRel] at h; obtain ⟨_, _, _, h⟩ := h; exact h
  | c, .is ex k es, x, h => by
    simp only [VRel] at h
    obtain ⟨a, cp, _, h1, h2, _, h3⟩ := h
    refine ⟨by omega, ?_⟩
    rcases h3 with rfl | ⟨b, off, _, h3⟩
    · trivial
    · exact VElems.bnd h3
  | c, .ls id k off len cap, x, h => by simp only [VRel] at h; obtain ⟨a, cp, _, _, h1, h2, _⟩ := h; simp only [V.bnd]; omega
  | c, .ip e, x, h => by simp only [VRel] at h; obtain ⟨_, _, _, _, _, _, h⟩ := h; simp only [V.bnd]; exact VRel.bnd h
  | c, .im ks vs, x, h => by simp only [VRel] at h; obtain ⟨_, _, _, _, _, _, h1, h2, _⟩ := h; exact ⟨VList.bnd h1, VList.bnd h2⟩
  | c, .agg vs, x, h => by simp only [VRel] at h; obtain ⟨_, _, h⟩ := h; simp only [V.bnd]; exact VList.bnd h
  | c, .tup vs, x, h => by simp only [VRel] at h; obtain ⟨_, _, h⟩ := h; simp only [V.bnd]; exact VList.bnd h
  | c, .iface t e, x, h => by simp only [VRel] at h; obtain ⟨_, _, h⟩ := h; simp only [V.bnd]; exact VRel.bnd h
  | c, .fn f a b, x, h => by simp only [VRel] at h; obtain ⟨_, _, _, h1, h2⟩ := h; exact ⟨VList.bnd h1, VList.bnd h2⟩
  | c, .any, x, h | c, .bool _, x, h | c, .int _ _, x, h | c, .nilp, x, h | c, .lp _ _, x, h | c, .nils, x, h | c, .nilm, x, h | c, .lm _, x, h | c, .yd _, x, h | c, .nilf, x, h | c, .nili, x, h | c, .grd _ _, x, h | c, .row _ _, x, h => by simp only [V.bnd]
theorem VList.bnd : ∀ {c : C} {vs : List V} {xs : List Value}, VList c vs xs → V.bnds vs
  | c, [], xs, h => trivial
  | c, v :: vs, xs, h => by simp only [VList] at h; obtain ⟨_, _, _, h1, h2⟩ := h; exact ⟨VRel.bnd h1, VList.bnd h2⟩
theorem VElems.bnd : ∀ {c : C} {k : Nat} {es : List V} {b off : Nat}, VElems c k es b off → V.bnds es
  | c, k, [], b, off, h => trivial
  | c, k, e :: es, b, off, h => by simp only [VElems] at h; obtain ⟨⟨_, _, _, h1⟩, h2⟩ := h; exact ⟨VRel.bnd h1, VElems.bnd h2⟩
end

theorem Ev.bnd {e : E} {g : FuncId} {args : List V} {r : V} (h : V.bnds args → Ev e g args r) : Ev e g args r :=
  fun ok w vs hs hl => h hl.bnd ok w vs hs hl
theorem ACalls.bnd {e : E} {g : FuncId} {args : List V} {h : H} {R : AEnd → H → (Nat → Bool) → Prop} (hh : V.bnds args → ACalls e g args h R) : ACalls e g args h R :=
  fun ok pl w vs hs hl => hh hl.bnd ok pl w vs hs hl
theorem awp_bnd {e : E} {n : Nat} {r : Option Nat} {c : Code} {Q : XE → Fr → H → Prop} {f : Fr} {h : H} (i : Nat) (hh : (f.t i).bnd → awp e n r c Q f h) : awp e n r c Q f h :=
  fun ok pl0 w0 pl w a s => hh (s.val i).bnd ok pl0 w0 pl w a s

theorem V.bnds_iff : ∀ {vs : List V}, V.bnds vs ↔ ∀ v ∈ vs, v.bnd
  | [] => by simp [V.bnds]
  | v :: vs => by simp [V.bnds, V.bnds_iff]

/-! ### Numbers and rows -/
theorem wrap64 {n : Int} (h1 : -9223372036854775808 ≤ n) (h2 : n < 9223372036854775808) : IntKind.i64.wrap n = n := by
  have key : IntKind.i64.wrap n = if n % 18446744073709551616 ≥ 9223372036854775808 then n % 18446744073709551616 - 18446744073709551616 else n % 18446744073709551616 := by
    simp [IntKind.wrap, IntKind.bits, IntKind.signed]
  rw [key]
  split <;> omega
theorem wrap_succ {i : Nat} (h : i < maxLen) : IntKind.i64.wrap ((i : Int) + 1) = ((i + 1 : Nat) : Int) := by
  have : maxLen = 9223372036854775807 := rfl
  rw [wrap64 (by omega) (by omega)]; rfl
theorem getD_map {α β : Type} {f : α → β} {l : List α} {i : Nat} (h : i < l.length) (d : β) : (l.map f).getD i d = f l[i] := by
  simp [List.getD_eq_getElem?_getD, h]
theorem Int.natCast_lt {a b : Nat} : decide ((a : Int) < (b : Int)) = decide (a < b) := by simp
theorem Int.natCast_le {a b : Nat} : decide ((a : Int) ≤ (b : Int)) = decide (a ≤ b) := by simp

end Go.Abs

set_option linter.unusedVariables false
set_option linter.unusedSimpArgs false
namespace Go.Abs
open Go.RowKit

/-! ### What does not look at the world -/
def Blind (P : Program) {α : Type} (s : Sem α) : Prop := ∀ w x w1, s.run P w = .ok x w1 → ∀ w', s.run P w' = .ok x w'
def Never (P : Program) {α : Type} (s : Sem α) : Prop := ∀ w x w1, s.run P w ≠ .ok x w1
theorem Never.blind {P : Program} {α : Type} {s : Sem α} (h : Never P s) : Blind P s := fun w x w1 hr => absurd hr (h w x w1)
theorem Blind.pure {P : Program} {α : Type} (a : α) : Blind P (pure a : Sem α) := fun w x w1 h w' => by
  rw [Sem.run_pure] at h ⊢
  cases h; rfl
theorem Never.stuck {P : Program} {α : Type} (why : String) : Never P (stuck why : Sem α) := fun w x w1 h => by cases h
theorem Never.unsupported {P : Program} {α : Type} (u : Unsupported) : Never P (unsupported u : Sem α) := fun w x w1 h => by cases h
theorem Never.goPanic {P : Program} {α : Type} (v : Value) : Never P (goPanic v : Sem α) := fun w x w1 h => by cases h
theorem Blind.bind {P : Program} {α β : Type} {s : Sem α} {f : α → Sem β} (hs : Blind P s) (hf : ∀ a, Blind P (f a)) : Blind P (s >>= f) := fun w x w1 h w' => by
  rw [Sem.run_bind] at h ⊢
  cases hr : s.run P w with
  | ok a w2 =>
    rw [hr] at h
    have h2 := hs w a w2 hr
    have e := (h2 w).symm.trans hr
    cases e
    rw [h2 w']
    exact hf a w x w1 h w'
  | halt a b => rw [hr] at h; cases h
theorem Never.bindr {P : Program} {α β : Type} {s : Sem α} {f : α → Sem β} (hf : ∀ a, Never P (f a)) : Never P (s >>= f) := fun w x w1 h => by
  rw [Sem.run_bind] at h
  cases hr : s.run P w with
  | ok a w2 => rw [hr] at h; exact hf a w2 x w1 h
  | halt a b => rw [hr] at h; cases h
theorem Blind.program {P : Program} : Blind P program := fun w x w1 h w' => by
  rw [run_program] at h ⊢
  cases h; rfl
theorem Blind.underlying {P : Program} (t : TypeId) : Blind P (underlying t) := by
  unfold Go.underlying
  refine Blind.program.bind fun p => ?_
  split
  · exact Blind.pure _
  · exact (Never.stuck _).blind
theorem Blind.sizeOf {P : Program} (t : TypeId) : Blind P (sizeOf t) := by
  unfold Go.sizeOf typeInfo
  refine Blind.bind (Blind.program.bind fun p => ?_) fun _ => Blind.pure _
  split
  · exact Blind.pure _
  · exact (Never.stuck _).blind
theorem Never.runtimePanic {P : Program} {α : Type} (e : RuntimeError) : Never P (runtimePanic e : Sem α) := by
  unfold Go.runtimePanic
  refine Never.bindr fun p => ?_
  cases e <;> first | exact Never.goPanic _ | exact Never.bindr fun _ => Never.bindr fun _ => Never.goPanic _
theorem Never.boundsPanic {P : Program} {α : Type} (k : IntKind) (x y : Int) (c : BoundsCode) : Never P (boundsPanic k x y c : Sem α) := by
  unfold Go.boundsPanic
  dsimp only
  split <;> exact Never.bindr fun _ => Never.runtimePanic _
theorem Blind.asIntOf {P : Program} (v : Value) : Blind P (asIntOf v) := by
  unfold Go.asIntOf
  split
  · exact Blind.pure _
  · exact (Never.unsupported _).blind
  · exact (Never.stuck _).blind
theorem Blind.sureAddr {P : Program} (v : Value) : Blind P (Instr.sureAddr v) := by
  unfold Instr.sureAddr
  split
  · exact Blind.pure _
  all_goals first | exact (Never.runtimePanic _).blind | exact (Never.stuck _).blind | exact (Never.unsupported _).blind
theorem Blind.indexAt {P : Program} (t : TypeId) (x i : Value) : Blind P (Instr.indexAt t x i) := by
  unfold Instr.indexAt
  repeat' first
    | exact Blind.pure _
    | exact Blind.asIntOf _
    | exact Blind.underlying _
    | exact Blind.sizeOf _
    | exact Blind.sureAddr _
    | exact (Never.stuck _).blind
    | exact (Never.unsupported _).blind
    | exact (Never.boundsPanic _ _ _ _).blind
    | refine Blind.bind ?_ (fun _ => ?_)
    | split
    | dsimp only
theorem Blind.sliceBound {P : Program} (v : Value) (y : Nat) (c : BoundsCode) : Blind P (Instr.sliceBound v y c) := by
  unfold Instr.sliceBound
  refine (Blind.asIntOf v).bind fun ki => ?_
  dsimp only
  split
  · exact Blind.pure _
  · exact (Never.boundsPanic _ _ _ _).blind
theorem Blind.sliceBounds {P : Program} (b : Bool) (len cap : Nat) (lo hi mx : Option Value) : Blind P (Instr.sliceBounds b len cap lo hi mx) := by
  unfold Instr.sliceBounds
  repeat' first
    | exact Blind.pure _
    | exact Blind.sliceBound _ _ _
    | exact (Never.stuck _).blind
    | refine Blind.bind ?_ (fun _ => ?_)
    | split
    | dsimp only
theorem Blind.asAddr {P : Program} (v : Value) : Blind P (asAddr v) := by
  unfold Go.asAddr
  split
  all_goals first | exact Blind.pure _ | exact (Never.runtimePanic _).blind | exact (Never.stuck _).blind | exact (Never.unsupported _).blind
theorem Blind.slice {P : Program} (t : TypeId) (x : Value) (lo hi mx : Option Value) : Blind P (Instr.slice t x lo hi mx) := by
  unfold Instr.slice
  repeat' first
    | exact Blind.pure _
    | exact Blind.sliceBounds _ _ _ _ _ _
    | exact Blind.underlying _
    | exact Blind.sizeOf _
    | exact Blind.asAddr _
    | exact (Never.stuck _).blind
    | refine Blind.bind ?_ (fun _ => ?_)
    | split
    | dsimp only
theorem Blind.sliceAt {P : Program} (t : TypeId) (x : Value) (lo hi mx : Option Value) : Blind P (Instr.sliceAt t x lo hi mx) := by
  unfold Instr.sliceAt
  refine (Blind.underlying t).bind fun d => ?_
  split
  · exact (Blind.sureAddr _).bind fun _ => (Blind.sliceBounds _ _ _ _ _ _).bind fun _ => (Blind.sizeOf _).bind fun _ => Blind.pure _
  · exact Blind.slice _ _ _ _ _
theorem Blind.makeInterface {P : Program} (t : TypeId) (x : Value) : Blind P (Instr.makeInterface t x) := by
  unfold Instr.makeInterface
  refine (Blind.underlying t).bind fun d => ?_
  split
  · exact (Never.stuck _).blind
  · exact Blind.pure _
theorem Blind.neg {P : Program} (x : Value) : Blind P (Op.unary .neg x) := by
  unfold Op.unary
  split <;> first | exact Blind.pure _ | exact (Never.stuck _).blind | exact (Never.unsupported _).blind | (rename_i h; cases h)
theorem blind_next {P : Program} {s : Sem Value} (h : Blind P s) : Blind P (do pure (Next.value (← s)) : Sem Next) := Blind.bind h fun _ => Blind.pure _
theorem Blind.arith {P : Program} {op : BinOp} (t : TypeId) (k k' : IntKind) (x y : Int) (h : op = .add ∨ op = .sub) : Blind P (binOp op t (.int k x) (.int k' y)) := by
  rcases h with rfl | rfl <;> (
    unfold binOp
    dsimp only
    split
    · exact (Never.stuck _).blind
    · exact Blind.pure _)
theorem Blind.concat {P : Program} {op : BinOp} (t : TypeId) (x y : ByteArray) (h : op = .add ∨ op = .sub) : Blind P (binOp op t (.string x) (.string y)) := by
  rcases h with rfl | rfl
  · unfold binOp Op.stringOp
    dsimp only
    split
    · exact (Never.unsupported _).blind
    · exact Blind.pure _
  · unfold binOp Op.stringOp
    exact (Never.stuck _).blind

/-- Of an operation that does not look at the world. -/
theorem yields_blind {P : Program} {c : C} {s : Sem Value} {ev : Operand → Value} {o : Oper} {v : V} (hb : Blind P s) (he : execOp ev o = (do pure (Next.value (← s))))
    (hy : YieldsTo P (fun x w' => WExt c.w w' ∧ VRel { c with w := w' } v x) ((execOp ev o).run P c.w)) : ∃ x, (∀ w', (execOp ev o).run P w' = .ok (.value x) w') ∧ VRel c v x := by
  rw [he] at hy ⊢
  rw [Sem.run_bind] at hy
  cases hr : s.run P c.w with
  | ok a w2 =>
    have h2 := hb _ a w2 hr
    have e := (h2 c.w).symm.trans hr
    cases e
    rw [hr] at hy
    refine ⟨a, fun w' => ?_, hy.2⟩
    rw [Sem.run_bind, h2 w']
    rfl
  | halt a b => rw [hr] at hy; exact hy.elim
/-! ### Regions that draw their order and turn the heap: a plan of the orders -/
def isPure0 (P : Program) : Op → Bool
  | .move _ | .assign _ => true
  | .fieldAddr s _ f => match P.underlying s with
    | some (.struct fs) => match fs[f]? with
      | some fd => match P.info? fd.type with
        | some i => i.size != 0
        | none => false
      | none => false
    | _ => false
  | _ => false

theorem pure_run {P : Program} {o : Oper} (hp : isPure0 P o.op = true) (ev : Operand → Value) {w : World} {x : Value} (h : (execOp ev o).run P w = .ok (.value x) w) (w' : World) :
    (execOp ev o).run P w' = .ok (.value x) w' := by
  cases hop : o.op <;> rw [hop] at hp <;> simp only [isPure0, Bool.false_eq_true] at hp
  case move y =>
    have e1 : execOp ev o = pure (Next.value (ev y)) := by simp [execOp, hop]
    rw [e1] at h ⊢
    simp only [Sem.run_pure, Result.ok.injEq, Next.value.injEq, and_true] at h ⊢
    exact h
  case assign y =>
    have e1 : execOp ev o = pure (Next.value (ev y)) := by simp [execOp, hop]
    rw [e1] at h ⊢
    simp only [Sem.run_pure, Result.ok.injEq, Next.value.injEq, and_true] at h ⊢
    exact h
  case fieldAddr s y f =>
    have e1 : execOp ev o = (do pure (Next.value (← Instr.fieldAt s (ev y) f))) := by simp [execOp, hop]
    rw [e1] at h ⊢
    revert h
    split at hp
    · rename_i fs hu
      split at hp
      · rename_i fd hf
        split at hp
        · rename_i i hi
          have hsz : ¬ i.size = 0 := by simpa using hp
          unfold Instr.fieldAt underlying
          simp only [Sem.run_bind, run_program, Result.andThen, hu, Sem.run_pure, hf]
          cases ev y <;> simp [Instr.sureAddr, Result.andThen, stuck]
          rename_i a
          cases a <;> simp [Instr.sureAddr, Result.andThen, stuck, fieldPlace, sizeOf, typeInfo, hi, hsz]
        · cases hp
      · cases hp
    · cases hp

/-- More operations that do not look at the world. -/
def isPure1 : Op → Bool
  | .nilCheck _ | .unOp .neg _ _ | .indexAddr _ _ _ | .slice _ _ _ _ _ | .makeInterface _ _ => true
  | .binOp .add _ _ (.const (.int _ _)) _ | .binOp .sub _ _ (.const (.int _ _)) _ => true
  | _ => false
def isPure (P : Program) (o : Op) : Bool := isPure0 P o || isPure1 o

theorem pure_plain {P : Program} {o : Oper} (hp : isPure P o.op = true) : (∀ c, o.op ≠ .call c) ∧ (∀ c, o.op ≠ .defer c) ∧ ∀ cs b, o.op ≠ .select cs b := by
  cases hop : o.op <;> rw [hop] at hp <;> simp [isPure, isPure0, isPure1] at hp ⊢

theorem pure_about {P : Program} {o : Oper} (hp : isPure P o.op = true) (w : World) (ρ : Operand → Value) : o.about P w ρ = none := by
  unfold Oper.about
  cases hop : o.op <;> rw [hop] at hp <;> first | rfl | simp [isPure, isPure0, isPure1] at hp

/-- Nothing in the region is deferred, and no channel is waited for. -/
def plainOps (ops : Array Oper) : Bool := ops.toList.all fun o => match o.op with | .defer _ | .select _ _ => false | _ => true

theorem plainOps_spec {ops : Array Oper} (h : plainOps ops = true) {j : Nat} {o : Oper} (hj : ops[j]? = some o) : (∀ c, o.op ≠ .defer c) ∧ ∀ cs b, o.op ≠ .select cs b := by
  have : o ∈ ops.toList := by
    rw [Array.mem_toList_iff]
    exact Array.mem_of_getElem? hj
  have := (List.all_eq_true.1 h) o this
  cases hop : o.op <;> rw [hop] at this <;> simp at this ⊢

section
variable {e : E} {n : Nat} {r : Option Nat} {ops : Array Oper} {md : Region.Mode} {Q : Exit → Act → World → Prop} {P : Program}

theorem yields_wpOpIn {i : Nat} {o : Oper} {v : Value} {a : Act} (hp : isPure P o.op = true) (hi : ops[i]? = some o) (hy : Yields P ops o v a) {K : Act → World → Prop} {w : World} (h : K (a.put o.dst v) w) :
    wpOpIn (RF r) 0 P ops Q i K a w := by
  unfold Go.wpOpIn
  simp only [hi]
  rcases hy with ⟨hw, hv⟩ | ⟨hw, rfl⟩
  · rw [if_pos hw]
    refine ⟨fun g _ => RF_fn r g, ?_⟩
    rw [RF_round, Oper.semAt_eq r a.eval o (pure_plain hp).2.1, hv w]
    exact h
  · rw [if_neg (by rw [hw]; simp)]
    exact ⟨fun g _ => RF_fn r g, h⟩

theorem wpOpIn_put' {j : Nat} {oi oj : Oper} {v : Value} (hj : ops[j]? = some oj) (hap : oi.apart ops oj = true)
    (hsi : ∀ cs b, oi.op ≠ .select cs b) (hsj : ∀ cs b, oj.op ≠ .select cs b) (hdj : ∀ c, oj.op ≠ .defer c)
    (hQ : ∀ c a w, Q (.panic c) (a.put oi.dst v) w → Q (.panic c) a w) {K : Act → World → Prop} {a : Act} {w : World}
    (hy : Yields P ops oi v a) (h : wpOpIn (RF r) 0 P ops Q j K (a.put oi.dst v) w) :
    wpOpIn (RF r) 0 P ops Q j (fun a' w' => Yields P ops oi v a' ∧ K (a'.put oi.dst v) w') a w := by
  obtain ⟨h1, h2, h3⟩ := Oper.apart_spec hap
  have keep : ∀ (a : Act), Yields P ops oi v a → ∀ u, Yields P ops oi v (a.put oj.dst u) := fun a hy u =>
    hy.of_same (execOp_put oi hsi a oj.dst u h3) (wanted_put oi a oj.dst u h3)
  have keepD : ∀ d, Yields P ops oi v { a with defers := d :: a.defers } := fun d => hy.of_same rfl rfl
  unfold wpOpIn at *
  simp only [hj] at *
  rw [wanted_put oj a oi.dst v h1] at h
  split
  · rename_i hw
    simp only [hw, if_true] at h
    unfold Oper.wpIn at *
    refine ⟨fun g _ => RF_fn r g, ?_⟩
    have h := h.2
    rw [RF_round, Oper.semAt_eq r _ oj hdj, execOp_put oj hsj a oi.dst v h1] at h
    rw [RF_round, Oper.semAt_eq r _ oj hdj]
    generalize (execOp a.eval oj).run P w = rr at *
    cases rr with
    | ok x w' =>
      cases x <;> simp only [Oper.uponIn] at h ⊢
      case value u => exact ⟨keep a hy u, by rw [← Act.put_comm a v u h2]; exact h⟩
      case skip => exact ⟨keep a hy _, by rw [← Act.put_comm a v undef h2]; exact h⟩
      case defer d =>
        refine ⟨keep _ (keepD d) _, ?_⟩
        rw [← Act.put_comm _ v undef h2, ← Act.put_defers]
        exact h
      case enter f args =>
        refine ⟨h.1, CallsIn.mono h.2 fun e w'' he => ?_⟩
        cases e with
        | returned u => exact ⟨keep a hy u, by rw [← Act.put_comm a v u h2]; exact he⟩
        | panicked c => exact hQ _ _ _ he
        | outgrown => exact he
      case row row args => exact ⟨h.1, RowsIn.mono h.2 fun u w'' he => ⟨keep a hy u, by rw [← Act.put_comm a v u h2]; exact he⟩⟩
      case round l f tmps assign body =>
        refine ⟨h.1, RoundIn.mono h.2 fun e w'' he => ?_⟩
        cases e with
        | returned u => exact ⟨keep a hy u, by rw [← Act.put_comm a v u h2]; exact he⟩
        | panicked c => exact hQ _ _ _ he
        | outgrown => exact he
    | halt x w' =>
      cases x <;> simp only [Oper.uponIn] at h ⊢
      case panic u => exact hQ _ _ _ h
  · rename_i hw
    simp only [hw] at h
    exact ⟨fun g _ => RF_fn r g, keep a hy _, by rw [← Act.put_comm a v undef h2]; exact h.2⟩

theorem wpAnyIn_first' {i : Nat} {oi : Oper} {v : Value} (hp : isPure P oi.op = true) (hi : ops[i]? = some oi) (hpl : plainOps ops = true)
    (hQ : ∀ c a w, Q (.panic c) (a.put oi.dst v) w → Q (.panic c) a w) :
    ∀ (fuel : Nat) (listed : Array Bool) (a : Act) (w : World),
      (∀ j oj, ops[j]? = some oj → j ≠ i → listed.getD j true = false → (∀ e ∈ oj.after, Region.binds md e = true → e.on ≠ i) → oi.apart ops oj = true) →
      i ∈ Region.ready md ops listed → Yields P ops oi v a →
      wpAnyIn (RF r) 0 P md ops Q fuel (listed.setIfInBounds i true) (a.put oi.dst v) w → wpAnyIn (RF r) 0 P md ops Q (fuel + 1) listed a w := by
  intro fuel
  induction fuel with
  | zero =>
    intro listed a w _ hr hy H
    refine ⟨fun h => (by rw [h] at hr; cases hr), fun j hj => ?_⟩
    by_cases hji : j = i
    · subst hji; exact yields_wpOpIn hp hi hy H
    · have := ready_mono hj hji
      rw [H.1] at this
      cases this
  | succ fuel ih =>
    intro listed a w hfree hr hy H
    refine ⟨fun h => (by rw [h] at hr; cases hr), fun j hj => ?_⟩
    by_cases hji : j = i
    · subst hji; exact yields_wpOpIn hp hi hy H
    · have h1 := H.2 j (ready_mono hj hji)
      obtain ⟨hjun, oj, hoj, hall⟩ := mem_ready.1 hj
      have hnot : ∀ e ∈ oj.after, Region.binds md e = true → e.on ≠ i := fun e he hb heq => by
        have h1 := hall e he hb
        have h0 := (mem_ready.1 hr).1
        rw [heq] at h1
        rcases Nat.lt_or_ge i listed.size with h' | h'
        · simp [h'] at h0 h1; rw [h0] at h1; cases h1
        · simp [Array.getElem?_eq_none h'] at h1
      have h2 := wpOpIn_put' hoj (hfree j oj hoj hji hjun hnot) (plainOps_spec hpl hi).2 (plainOps_spec hpl hoj).2 (plainOps_spec hpl hoj).1 hQ hy h1
      have hfree' : ∀ k ok, ops[k]? = some ok → k ≠ i → (listed.setIfInBounds j true).getD k true = false →
          (∀ e ∈ ok.after, Region.binds md e = true → e.on ≠ i) → oi.apart ops ok = true := fun k ok hk hki hun hno => by
        refine hfree k ok hk hki ?_ hno
        by_cases hjk : j = k
        · subst hjk; exact hjun
        · rw [getD_set_ne true hjk] at hun; exact hun
      refine wpOpIn_mono (fun a' w' h3 => ih (listed.setIfInBounds j true) a' w' hfree' (ready_mono hr (Ne.symm hji)) h3.1 ?_) h2
      rw [Array.setIfInBounds_comm _ _ hji]
      exact h3.2
end

/-- A plan: which operation is taken first, or which may come up now. -/
inductive Plan where
  | fin
  | take (i : Nat) (p : Plan)
  | one (i : Nat) (p : Plan)
  | alt (i : Nat) (p : Plan) (q : Plan)

/-- The operations that the alternatives begin with. -/
def Plan.heads : Plan → List Nat
  | .one i _ => [i]
  | .alt i _ q => i :: q.heads
  | _ => []

/-- Does the plan speak of all the orders? -/
def planOk (P : Program) (ops : Array Oper) : Plan → Nat → Array Bool → Bool
  | .fin, _, listed => (Region.ready .any ops listed).isEmpty
  | .take i p, fuel, listed => match fuel, ops[i]? with
    | fuel + 1, some o => isPure P o.op && (Region.ready .any ops listed).contains i && Region.free .any ops listed i && planOk P ops p fuel (listed.setIfInBounds i true)
    | _, _ => false
  | .one i p, fuel, listed => match fuel with
    | fuel + 1 => (Region.ready .any ops listed == [i]) && planOk P ops p fuel (listed.setIfInBounds i true)
    | _ => false
  | .alt i p q, fuel, listed => match fuel with
    | fuel + 1 => (Region.ready .any ops listed == i :: q.heads) && planOk P ops p fuel (listed.setIfInBounds i true) && planAlts P ops q fuel listed
    | _ => false
where planAlts (P : Program) (ops : Array Oper) : Plan → Nat → Array Bool → Bool
  | .one i p, fuel, listed => planOk P ops p fuel (listed.setIfInBounds i true)
  | .alt i p q, fuel, listed => planOk P ops p fuel (listed.setIfInBounds i true) && planAlts P ops q fuel listed
  | _, _, _ => false

/-- One operation, and what follows. -/
def vcOp (e : E) (n : Nat) (ops : Array Oper) (i : Nat) (Kn : Fr → H → Prop) (Q : XE → Fr → H → Prop) (f : Fr) (h : H) : Prop :=
  match ops[i]? with
  | some o => match gd ops f o with
    | none => False
    | some g => dstOk n o.dst = true ∧
      match isEff o.op with
      | true => effG g e n o Kn Q f h
      | false => PV.go g (pvOp e.P o (f.ev e) h) o.dst Kn f h
  | none => False

def vcPlan (e : E) (n : Nat) (ops : Array Oper) (Q : XE → Fr → H → Prop) : Plan → Fr → H → Prop
  | .fin, f, h => Q .normal f h
  | .take i p, f, h => vcOp e n ops i (vcPlan e n ops Q p) Q f h
  | .one i p, f, h => vcOp e n ops i (vcPlan e n ops Q p) Q f h
  | .alt i p q, f, h => vcOp e n ops i (vcPlan e n ops Q p) Q f h ∧ vcPlan e n ops Q q f h

section
variable {e : E} {n : Nat} {r : Option Nat} {ops : Array Oper} {Q : XE → Fr → H → Prop} {ok : Nat → Prop} {pl0 : Nat → Option Nat} {w0 : World}

theorem vcOp_ok {i : Nat} {Kn : Fr → H → Prop} {f : Fr} {h : H} (hv : vcOp e n ops i Kn Q f h) {K' : Act → World → Prop}
    (hk : ∀ f h pl w a, SSim e n ok pl0 w0 f h pl w a → Kn f h → K' a w) {pl : Nat → Option Nat} {w : World} {a : Act} (s : SSim e n ok pl0 w0 f h pl w a) :
    wpOpIn (RF r) 0 e.P ops (APost e n ok pl0 w0 Q) i K' a w := by
  unfold vcOp at hv
  unfold wpOpIn
  split at hv
  · rename_i o ho
    simp only [ho]
    cases hg : gd ops f o with
    | none => rw [hg] at hv; exact hv.elim
    | some g =>
      rw [hg] at hv
      obtain ⟨hd, hv⟩ := hv
      have hw := gd_ok s.val hg
      have nx : ∀ a' w', NPost e n ok pl0 w0 Kn a' w' → K' a' w' := fun a' w' ⟨pl', f', h', s', hk'⟩ => hk _ _ _ _ _ s' hk'
      cases he : isEff o.op with
      | true =>
        rw [he] at hv
        dsimp only at hv
        cases g with
        | true =>
          rw [if_pos hw]
          exact Oper.wpIn_mono nx (vcEff_ok (r := r) (hv.1 rfl) ok pl0 w0 pl w a s hd)
        | false =>
          rw [if_neg (by rw [hw]; simp)]
          obtain ⟨v, hv'⟩ := hv.2 rfl
          exact ⟨fun g _ => RF_fn r g, hk _ _ _ _ _ (s.put hd (guard_rel (g := false) (v := v) (fun hf => by cases hf) (fun _ => rfl))) hv'⟩
      | false =>
        rw [he] at hv
        dsimp only at hv
        obtain ⟨hc, hk'⟩ := hv
        cases g with
        | true =>
          rw [if_pos hw]
          exact Oper.wpIn_mono nx (Eff.of_AQ (K := Kn) (pvOp_ok (hc rfl)) hk' ok pl0 w0 pl w a s hd)
        | false =>
          rw [if_neg (by rw [hw]; simp)]
          exact ⟨fun g _ => RF_fn r g, hk _ _ _ _ _ (s.put hd (guard_rel (fun hf => by cases hf) (fun _ => rfl))) hk'⟩
  · exact hv.elim

theorem pure_yields {i : Nat} {o : Oper} (ho : ops[i]? = some o) (hp : isPure e.P o.op = true) {Kn : Fr → H → Prop} {f : Fr} {h : H} (hv : vcOp e n ops i Kn Q f h) {pl : Nat → Option Nat} {w : World} {a : Act} (s : SSim e n ok pl0 w0 f h pl w a) :
    ∃ x f', Yields e.P ops o x a ∧ SSim e n ok pl0 w0 f' h pl w (a.put o.dst x) ∧ Kn f' h := by
  unfold vcOp at hv
  rw [ho] at hv
  dsimp only at hv
  cases hg : gd ops f o with
  | none => rw [hg] at hv; exact hv.elim
  | some g =>
    rw [hg] at hv
    obtain ⟨hd, hv⟩ := hv
    have hw := gd_ok s.val hg
    have he : isEff o.op = false := by
      have hp' := hp
      cases hop : o.op with
      | binOp op t x y u =>
        rw [hop] at hp'
        cases op <;> simp [isPure, isPure0, isPure1] at hp' <;> rfl
      | _ => rw [hop] at hp'; simp [isPure, isPure0, isPure1, isEff] at hp' ⊢
    rw [he] at hv
    dsimp only at hv
    obtain ⟨hc, hk'⟩ := hv
    cases g with
    | true =>
      have this := pvOp_ok (e := e) (hc rfl) ok pl w a.eval s.hs s.evs
      have hq : (pvOp e.P o (f.ev e) h).1 := hc rfl
      have hrun : ∃ x, (∀ w', (execOp a.eval o).run e.P w' = .ok (.value x) w') ∧ VRel (cx ok pl w) (pvOp e.P o (f.ev e) h).2 x := by
        unfold isPure at hp
        rw [Bool.or_eq_true] at hp
        rcases hp with hp | hp
        · suffices hh : ∃ x, (execOp a.eval o).run e.P w = .ok (.value x) w ∧ VRel (cx ok pl w) (pvOp e.P o (f.ev e) h).2 x by
            obtain ⟨x, h1, h2⟩ := hh
            exact ⟨x, pure_run hp a.eval h1, h2⟩
          revert this
          cases hop : o.op <;> rw [hop] at hp <;> simp only [isPure0, Bool.false_eq_true] at hp
          case move y =>
            have e1 : execOp a.eval o = pure (Next.value (a.eval y)) := by simp [execOp, hop]
            rw [e1]
            rintro ⟨_, hv⟩
            exact ⟨_, rfl, hv⟩
          case assign y =>
            have e1 : execOp a.eval o = pure (Next.value (a.eval y)) := by simp [execOp, hop]
            rw [e1]
            rintro ⟨_, hv⟩
            exact ⟨_, rfl, hv⟩
          case fieldAddr st y fi =>
            intro this
            simp only [pvOp, hop, PV.and] at hq ⊢
            have h1 := (s.ev y).sv hq.1
            obtain ⟨x, hx1, hx2⟩ := pvFieldAddr_ok (P := e.P) (t := st) (f := fi) h1 hq.2
            have e1 : execOp a.eval o = (do pure (Next.value (← Instr.fieldAt st (a.eval y) fi))) := by simp [execOp, hop]
            exact ⟨x, by rw [e1]; exact run_v hx1, hx2⟩
        · cases hop : o.op with
          | nilCheck y =>
            simp only [pvOp, hop] at hq ⊢
            have key : (f.ev e y).sc → (∃ ad, a.eval y = .pointer (some ad)) → VRel (cx ok pl w) (f.ev e y).sv (a.eval y) → ∃ x, (∀ w', (execOp a.eval o).run e.P w' = .ok (.value x) w') ∧ VRel (cx ok pl w) (f.ev e y).sv x := by
              rintro _ ⟨ad, h1⟩ h2
              exact ⟨a.eval y, fun w' => by simp [execOp, hop, h1], h2⟩
            split at hq
            · rename_i id off hx
              have h1 := (s.ev y).sv hq
              have h2 := h1
              rw [hx] at h1
              simp only [VRel] at h1
              obtain ⟨b, _, h4⟩ := h1
              have := key hq ⟨_, h4⟩ h2
              rw [hx] at this
              exact this
            · rename_i ee hx
              have h1 := (s.ev y).sv hq
              have h2 := h1
              rw [hx] at h1
              simp only [VRel] at h1
              obtain ⟨b, off, ev2, h4, _⟩ := h1
              have := key hq ⟨_, h4⟩ h2
              rw [hx] at this
              exact this
            · exact hq.elim
          | unOp op t y =>
            rw [hop] at hp
            cases op <;> simp [isPure1] at hp
            exact yields_blind (c := cx ok pl w) (s := Op.unary .neg (a.eval y)) (Blind.neg _) (by simp [execOp, hop]) this
          | indexAddr t y i => exact yields_blind (c := cx ok pl w) (s := Instr.indexAt t (a.eval y) (a.eval i)) (Blind.indexAt _ _ _) (by simp [execOp, hop]) this
          | slice t y lo hi mx => exact yields_blind (c := cx ok pl w) (s := Instr.sliceAt t (a.eval y) (lo.map a.eval) (hi.map a.eval) (mx.map a.eval)) (Blind.sliceAt _ _ _ _ _) (by simp [execOp, hop]) this
          | makeInterface t y => exact yields_blind (c := cx ok pl w) (s := Instr.makeInterface t (a.eval y)) (Blind.makeInterface _ _) (by simp [execOp, hop]) this
          | binOp op t y z u =>
            rw [hop] at hp
            obtain ⟨hop2, k', n', hz⟩ : (op = .add ∨ op = .sub) ∧ ∃ k' n', z = .const (.int k' n') := by
              unfold isPure1 at hp
              split at hp <;> first | (rename_i hx; cases hx; done) | skip
              all_goals first | (rename_i hx; cases hx; exact ⟨.inl rfl, _, _, rfl⟩) | (rename_i hx; cases hx; exact ⟨.inr rfl, _, _, rfl⟩) | cases hp
            subst hz
            have hq2 : (pvBin e.P op t (f.ev e y).sv (f.ev e (.const (.int k' n'))).sv).1 ∧ (f.ev e y).sc := by
              rcases hop2 with rfl | rfl <;> (simp only [pvOp, hop, PV.and] at hq; have hq9 := hq.2; change (pvBin2 e.P _ t _ (.int k' n')).1 at hq9; rw [pvBin2_int] at hq9; exact ⟨hq9, hq.1.1⟩)
            have h1 := (s.ev y).sv hq2.2
            have hev : a.eval (.const (.int k' n')) = .int k' n' := rfl
            have hblind : Blind e.P (do eqGuard op t y (.const (.int k' n')) (a.eval y) (a.eval (.const (.int k' n'))); binOp op t (a.eval y) (a.eval (.const (.int k' n')))) := by
              have hg : ∀ w', (eqGuard op t y (.const (.int k' n')) (a.eval y) (a.eval (.const (.int k' n')))).run e.P w' = .ok () w' := fun w' => run_eqGuard w' (.inl ⟨by rw [hev]; simp, by rw [hev]; simp⟩)
              refine Blind.bind (fun w x w1 hr w' => ?_) fun _ => ?_
              · cases x; exact hg w'
              · rw [hev]
                have hq3 := hq2.1
                have hcv : (f.ev e (.const (.int k' n'))).sv = .int k' n' := rfl
                rw [hcv] at hq3
                unfold pvBin at hq3
                cases hvy : (f.ev e y).sv with
                | int k m =>
                  rw [hvy] at h1
                  simp only [VRel] at h1
                  rw [h1]
                  exact Blind.arith _ _ _ _ _ hop2
                | _ =>
                  rw [hvy] at hq3
                  exfalso
                  revert hq3
                  rcases hop2 with rfl | rfl <;> (dsimp only; split <;> first | exact fun h => h | (split <;> exact fun h => h))
            exact yields_blind (c := cx ok pl w) hblind (by simp [execOp, hop]) this
          | _ => rw [hop] at hp; simp [isPure1] at hp
      obtain ⟨x, hx1, hx2⟩ := hrun
      exact ⟨x, _, .inl ⟨hw, hx1⟩, s.put hd hx2, hk'⟩
    | false => exact ⟨undef, _, .inr ⟨hw, rfl⟩, s.put hd (guard_rel (fun hf => by cases hf) (fun _ => rfl)), hk'⟩

theorem vcPlan_ok (hQ : ∀ v f h, ¬ Q (.pan v) f h) (hpl : plainOps ops = true) : ∀ (p : Plan),
    (∀ (fuel : Nat) (listed : Array Bool) (f : Fr) (h : H), planOk e.P ops p fuel listed = true → vcPlan e n ops Q p f h → ∀ pl w a, SSim e n ok pl0 w0 f h pl w a → wpAnyIn (RF r) 0 e.P .any ops (APost e n ok pl0 w0 Q) fuel listed a w) ∧
    (∀ (fuel : Nat) (listed : Array Bool) (f : Fr) (h : H), planOk.planAlts e.P ops p fuel listed = true → vcPlan e n ops Q p f h → ∀ pl w a, SSim e n ok pl0 w0 f h pl w a →
      ∀ i ∈ p.heads, wpOpIn (RF r) 0 e.P ops (APost e n ok pl0 w0 Q) i (wpAnyIn (RF r) 0 e.P .any ops (APost e n ok pl0 w0 Q) fuel (listed.setIfInBounds i true)) a w)
  | .fin => by
    refine ⟨fun fuel listed f h hp hv pl w a s => ?_, fun fuel listed f h hp hv pl w a s i hi => (by simp [Plan.heads] at hi)⟩
    simp only [planOk, List.isEmpty_iff] at hp
    exact wpAnyIn_done hp ⟨pl, f, h, .normal, s, trivial, hv⟩ fuel
  | .take i p => by
    refine ⟨fun fuel listed f h hp hv pl w a s => ?_, fun fuel listed f h hp hv pl w a s i hi => (by simp [Plan.heads] at hi)⟩
    simp only [planOk] at hp
    split at hp
    · rename_i fuel o ho
      simp only [Bool.and_eq_true] at hp
      obtain ⟨⟨⟨h1, h2⟩, h3⟩, h4⟩ := hp
      obtain ⟨x, f', hy, s', hk⟩ := pure_yields ho h1 hv s
      refine wpAnyIn_first' h1 ho hpl ?_ fuel listed a w (Region.free_spec ho h3) (by simpa using h2) hy ((vcPlan_ok hQ hpl p).1 fuel _ f' h h4 hk pl w _ s')
      rintro c a w ⟨pl', f', h', xe, _, hx, hq⟩
      cases xe <;> first | exact hx.elim | exact (hQ _ _ _ hq).elim
    · cases hp
  | .one i p => by
    refine ⟨fun fuel listed f h hp hv pl w a s => ?_, fun fuel listed f h hp hv pl w a s j hj => ?_⟩
    · simp only [planOk] at hp
      split at hp
      · rename_i fuel
        simp only [Bool.and_eq_true, beq_iff_eq] at hp
        refine ⟨fun h0 => (by rw [hp.1] at h0; cases h0), fun j hj => ?_⟩
        rw [hp.1] at hj
        simp only [List.mem_singleton] at hj
        subst hj
        exact vcOp_ok hv (fun f h pl w a s hk => (vcPlan_ok hQ hpl p).1 fuel _ f h hp.2 hk pl w a s) s
      · cases hp
    · simp only [planOk.planAlts] at hp
      simp only [Plan.heads, List.mem_singleton] at hj
      subst hj
      exact vcOp_ok hv (fun f h pl w a s hk => (vcPlan_ok hQ hpl p).1 fuel _ f h hp hk pl w a s) s
  | .alt i p q => by
    refine ⟨fun fuel listed f h hp hv pl w a s => ?_, fun fuel listed f h hp hv pl w a s j hj => ?_⟩
    · simp only [planOk] at hp
      split at hp
      · rename_i fuel
        simp only [Bool.and_eq_true, beq_iff_eq] at hp
        obtain ⟨⟨h1, h2⟩, h3⟩ := hp
        refine ⟨fun h0 => (by rw [h1] at h0; cases h0), fun j hj => ?_⟩
        rw [h1] at hj
        rcases List.mem_cons.1 hj with rfl | hj
        · exact vcOp_ok hv.1 (fun f h pl w a s hk => (vcPlan_ok hQ hpl p).1 fuel _ f h h2 hk pl w a s) s
        · exact (vcPlan_ok hQ hpl q).2 fuel listed f h h3 hv.2 pl w a s j hj
      · cases hp
    · simp only [planOk.planAlts, Bool.and_eq_true] at hp
      rcases List.mem_cons.1 hj with rfl | hj
      · exact vcOp_ok hv.1 (fun f h pl w a s hk => (vcPlan_ok hQ hpl p).1 fuel _ f h hp.1 hk pl w a s) s
      · exact (vcPlan_ok hQ hpl q).2 fuel listed f h hp.2 hv.2 pl w a s j hj

/-- Such a region, by a plan; what is behind it is told once. -/
def onlyN (R : Fr → H → Prop) : XE → Fr → H → Prop
  | .normal => R
  | _ => fun _ _ => False

theorem awp_plan (hm : e.P.follows .mixedOrders = true) {id : Nat} (p : Plan) (R : Fr → H → Prop) {f : Fr} {h : H} (hp : planOk e.P ops p ops.size (Array.replicate ops.size false) = true) (hpl : plainOps ops = true)
    (hv : vcPlan e n ops (onlyN R) p f h) (hk : ∀ f h, R f h → Q .normal f h) : awp e n r (.region id ops true) Q f h := by
  intro ok pl0 w0 pl w a s
  have x : WExt w { w with drawn := w.drawn + 1 } := WExt.drew w
  have := (vcPlan_ok (e := e) (n := n) (r := r) (ops := ops) (Q := onlyN R) (ok := ok) (pl0 := pl0) (w0 := w0) (fun v f h hh => hh) hpl p).1 ops.size _ f h hp hv pl _ a (s.next0 (s.hs.wext x) (x.keeps s.hs))
  refine wpIn_mono (wpIn_region_any hm this) ?_
  rintro ex a' w' ⟨pl', f', h', xe, s', hx, hq⟩
  cases xe <;> first
    | exact ⟨pl', f', h', _, s', hx, hk _ _ hq⟩
    | exact hq.elim

theorem vcNext.mk {b : Bool} {l : List UInt8} {pos id : Nat} {dst : Option Tmp} {Kn : Fr → H → Prop} {f : Fr} {h : H} (h1 : b = true → vcNext true l pos id dst Kn f h) (h2 : b = false → vcNext false l pos id dst Kn f h) : vcNext b l pos id dst Kn f h := by
  cases b
  · exact h2 rfl
  · exact h1 rfl
theorem O.drop_cells {p : Nat → Bool} {cs : List V} : (O.cells cs).drop p = .cells (V.drops p cs) := rfl
theorem O.drop_map {p : Nat → Bool} {ks vs : List V} : (O.map ks vs).drop p = .map (V.drops p ks) (V.drops p vs) := rfl
theorem O.drop_misc {p : Nat → Bool} {m : Misc} : (O.misc m).drop p = .misc m := rfl
theorem O.drop_typed {p : Nat → Bool} {T : TypeId} {cs : List V} : (O.typed T cs).drop p = .typed T (V.drops p cs) := rfl
theorem O.drop_dead {p : Nat → Bool} : O.dead.drop p = .dead := rfl
theorem V.guard_false (v : V) : V.guard false v = .grd false v := rfl
theorem V.guard_gval2 (g g' b want : Bool) : gval (V.guard g (V.guard g' (.bool b))) want = some (g && g' && (b == want)) := by
  cases g <;> cases g' <;> cases want <;> cases b <;> rfl
theorem V.guard_gval3 (g g' g'' b want : Bool) : gval (V.guard g (V.guard g' (V.guard g'' (.bool b)))) want = some (g && g' && g'' && (b == want)) := by
  cases g <;> cases g' <;> cases g'' <;> cases want <;> cases b <;> rfl
theorem drop_t {f : Fr} {p : Nat → Bool} {i : Nat} : (f.drop p).t i = (f.t i).drop p := rfl
theorem drop_d {f : Fr} {p : Nat → Bool} : (f.drop p).d = f.d := rfl
theorem drops_strs {p : Nat → Bool} {l : List (List UInt8)} : V.drops p (l.map V.str) = l.map V.str := by
  induction l with
  | nil => rfl
  | cons a l ih => simp only [List.map_cons, V.drops, V.drop, ih]
theorem allOne_strs {l : List (List UInt8)} : allOne (l.map V.str) = true := by
  induction l with
  | nil => rfl
  | cons a l ih => simp only [List.map_cons, allOne, ih, V.one, Bool.and_self]
theorem allFit_strs {l : List (List UInt8)} : allFit 1 (l.map V.str) = true := by
  induction l with
  | nil => rfl
  | cons a l ih => simp [allFit, ih, V.fit, V.one, V.dat, V.vc]
theorem flat_strs {l : List (List UInt8)} : (l.map V.str).flatMap V.vc = l.map V.str := by
  induction l with
  | nil => rfl
  | cons a l ih => simp only [List.map_cons, List.flatMap_cons, ih, V.vc, List.singleton_append]
theorem dats_strs {l : List (List UInt8)} : V.dats (l.map V.str) = true := by
  induction l with
  | nil => rfl
  | cons a l ih => simp only [List.map_cons, V.dats, ih, V.dat, Bool.and_self]
theorem Reif.ls_strs {h : H} {id len cap : Nat} {l : List (List UInt8)} (hc : h[id]? = some (.cells (l.map V.str))) (hl : len = l.length) : Reif e h (.ls id 1 0 len cap) (.is false 1 (l.map V.str)) :=
  Reif.ls hc (Reifs.dat dats_strs) allFit_strs flat_strs (by simpa using hl)

theorem vcOp_mk {i : Nat} {Kn : Fr → H → Prop} {f : Fr} {h : H} : vcOp e n ops i Kn Q f h = (match ops[i]? with
  | some o => match gd ops f o with
    | none => False
    | some g => dstOk n o.dst = true ∧
      match isEff o.op with
      | true => effG g e n o Kn Q f h
      | false => PV.go g (pvOp e.P o (f.ev e) h) o.dst Kn f h
  | none => False) := rfl
theorem vcPlan_fin {f : Fr} {h : H} : vcPlan e n ops Q .fin f h = Q .normal f h := rfl
theorem vcPlan_take {i : Nat} {p : Plan} {f : Fr} {h : H} : vcPlan e n ops Q (.take i p) f h = vcOp e n ops i (vcPlan e n ops Q p) Q f h := rfl
theorem vcPlan_one {i : Nat} {p : Plan} {f : Fr} {h : H} : vcPlan e n ops Q (.one i p) f h = vcOp e n ops i (vcPlan e n ops Q p) Q f h := rfl
theorem vcPlan_alt {i : Nat} {p q : Plan} {f : Fr} {h : H} : vcPlan e n ops Q (.alt i p q) f h = (vcOp e n ops i (vcPlan e n ops Q p) Q f h ∧ vcPlan e n ops Q q f h) := rfl
end
end Go.Abs

set_option linter.unusedVariables false
set_option linter.unusedSimpArgs false
namespace Go.Abs
open Go.RowKit

section
variable {e : E} {n : Nat} {r : Option Nat} {f : Fr} {h : H} {Q : XE → Fr → H → Prop}
theorem vc_rangeFunc {g : Operand} {ps : Array Tmp} {asg body : Code} : vc e n r (.rangeFunc g ps asg body) Q f h = awp e n r (.rangeFunc g ps asg body) Q f h := rfl
theorem drop_k {p : Nat → Bool} : (f.drop p).k = fun i => f.k i || p i := rfl
theorem init_k {args : List V} : (Fr.init args).k = fun _ => false := rfl
end

/-! ### Values that say less -/
def VLe (v v' : V) : Prop := ∀ c x, VRel c v x → VRel c v' x
def VLes (vs vs' : List V) : Prop := ∀ c xs, VList c vs xs → VList c vs' xs
theorem VLe.refl (v : V) : VLe v v := fun _ _ h => h
theorem VLes.nil : VLes [] [] := fun _ _ h => h
theorem VLes.refl (vs : List V) : VLes vs vs := fun _ _ h => h
theorem VLes.cons {v v' : V} {vs vs' : List V} (h1 : VLe v v') (h2 : VLes vs vs') : VLes (v :: vs) (v' :: vs') := by
  intro c xs h
  simp only [VList] at h ⊢
  obtain ⟨y, ys, rfl, h3, h4⟩ := h
  exact ⟨y, ys, rfl, h1 c y h3, h2 c ys h4⟩
theorem VLe.exact {k : Nat} {es : List V} : VLe (.is true k es) (.is false k es) := by
  intro c x h
  simp only [VRel] at h ⊢
  obtain ⟨a, cp, h1, h2, h3, h4, h5⟩ := h
  exact ⟨a, cp, h1, h2, h3, fun hf => (by cases hf), h5⟩
theorem VLe.nils {x : Bool} {k : Nat} : VLe .nils (.is x k []) := by
  intro c x h
  simp only [VRel] at h ⊢
  exact ⟨none, 0, h, Nat.le_refl _, Nat.zero_le _, fun _ => rfl, .inl trivial⟩
theorem VLe.agg {vs vs' : List V} (h1 : VLes vs vs') : VLe (.agg vs) (.agg vs') := by
  intro c x h
  simp only [VRel] at h ⊢
  obtain ⟨cs, rfl, h2⟩ := h
  exact ⟨cs, rfl, h1 c _ h2⟩
theorem Ev.le {e : E} {g : FuncId} {args args' : List V} {r : V} (h : VLes args args') (hv : Ev e g args' r) : Ev e g args r :=
  fun ok w vs hs hl => hv ok w vs hs (h _ _ hl)

/-! ### Iterators, and the loops over them -/
def roundS (id : Nat) (S : Option Code → H → (Nat → Bool) → Prop) (xe : XE) (f2 : Fr) (h2 : H) : Prop :=
  match xe.jump, h2[id]? with
  | some j, some (.loop t n ps asg body st pend) => f2.k id = false ∧ S j (h2.set id (.loop t n ps asg body (if j.isNone then .ready else .done) j)) f2.k
  | _, _ => False

def beginS (e : E) (n : Nat) (l id : Nat) (body : Code) (S : Option Code → H → (Nat → Bool) → Prop) (f1 : Fr) (h1 : H) : Prop :=
  match h1[id]? with
  | some (.loop t n' ps asg body' .ready pend) => f1.k id = false ∧ awp e n (some l) body (roundS id S) f1 (h1.set id (.loop t n' ps asg body' .busy pend))
  | _ => False

/-- What a loop over a function does with what it is handed. -/
def Gets (e : E) (id : Nat) (vs : List V) (h : H) (S : Option Code → H → (Nat → Bool) → Prop) : Prop :=
  ∃ t n' ps asg body pend, h[id]? = some (.loop t n' ps asg body .ready pend) ∧ vs.length = ps.size ∧ (ps.toList.all fun p => decide (p < n')) = true ∧
    ∀ l, awp e n' (some l) asg (XE.seq (beginS e n' l id body S) (fun _ _ _ => False)) (putAll { t := t } ps.toList vs) h

section
variable {e : E} {n : Nat} {f : Fr} {h : H} {Q : XE → Fr → H → Prop}

theorem yieldK_of {n' id : Nat} {t : Nat → V} {ps : Array Tmp} {asg body : Code} {dst : Option Tmp} {Kn : Fr → H → Prop} {vs : List V} {S : Option Code → H → (Nat → Bool) → Prop}
    (hg : ∀ l, awp e n' (some l) asg (XE.seq (beginS e n' l id body S) (fun _ _ _ => False)) (putAll { t := t } ps.toList vs) h)
    (hk : ∀ j h' p, p id = false → S j h' p → (∀ i ∈ f.d, p i = false) ∧ Kn ((f.drop p).put dst (.bool j.isNone)) h') : yieldK e n' id t ps asg body dst Kn f vs h := by
  intro l
  refine awp_mono ?_ (hg l)
  intro xe f1 h1 hq
  cases xe <;> try exact hq
  unfold XE.seq beginS at hq
  unfold XE.seq beginK
  dsimp only at hq ⊢
  split at hq
  · rename_i t1 n1 ps1 asg1 body1 pend1 hc
    rw [hc]
    refine ⟨hq.1, awp_mono ?_ hq.2⟩
    intro xe f2 h2 hq2
    unfold roundS at hq2
    unfold roundQ
    split at hq2
    · rename_i j t2 n2 ps2 asg2 body2 st2 pend2 hj hc2
      rw [hj, hc2]
      dsimp only
      obtain ⟨g1, g2⟩ := hk j _ _ hq2.1 hq2.2
      exact ⟨⟨hq2.1, g1⟩, g2⟩
    · exact hq2.elim
  · exact hq.elim

/-- A function that hands on these, one after another, as long as it is told to go on. -/
def Iter (e : E) (q : FuncId) (first captured : List V) (items : List (List V)) : Prop :=
  ∀ (id : Nat) (h : H) (I : Nat → H → (Nat → Bool) → Prop) (Stop : Option Code → H → (Nat → Bool) → Prop), I 0 h (fun _ => false) →
    (∀ i h' k (hi : i < items.length), k id = false → I i h' k → Gets e id items[i] h' fun j h'' p => match j with
      | none => I (i + 1) h'' (fun i => k i || p i)
      | some c => Stop (some c) h'' (fun i => k i || p i)) →
    ACalls e q (first ++ [.yd id] ++ captured) h fun ae h' p => p id = false ∧ match ae with
      | .ret _ => I items.length h' p ∨ ∃ c, Stop (some c) h' p
      | .pan _ => False

theorem O.loop_drop {p : Nat → Bool} {t : Nat → V} {n : Nat} {ps : Array Tmp} {asg body : Code} {st : LoopState} {pend : Option Code} :
    (O.loop t n ps asg body st pend).drop p = .loop (fun i => (t i).drop p) n ps asg body st pend := rfl

/-- Where a round's body begins, of a loop whose record stands as L. -/
def roundB (e : E) (n l id : Nat) (body : Code) (L : (Nat → V) → LoopState → O) (In : H → (Nat → Bool) → Prop) (f1 : Fr) (h1 : H) : Prop :=
  f1.k id = false ∧ ∃ t, h1[id]? = some (L t .ready) ∧ awp e n (some l) body (fun xe f2 h2 => match xe with
    | .normal => f2.k id = false ∧ ∃ t, h2[id]? = some (L t .busy) ∧ In (h2.set id (L t .ready)) f2.k
    | _ => False) f1 (h1.set id (L t .busy))

/-- A loop over an iterator; no round leaves it. -/
theorem awp_range {g : Operand} {ps : Array Tmp} {asg body : Code} {q : FuncId} {first captured : List V} {items : List (List V)} (hsc : (f.ev e g).sc) (hg : (f.ev e g).sv = .fn (.func q) first captured) (hen : enters e.P q = true)
    (hit : Iter e q first captured items) (hsz : ∀ v ∈ items, v.length = ps.size) (hps : (ps.toList.all fun p => decide (p < n)) = true)
    (I : ((Nat → V) → LoopState → O) → Nat → H → (Nat → Bool) → Prop)
    (start : ∀ L, I L 0 (h ++ [.misc .dfd] ++ [L f.t .ready]) (fun _ => false))
    (step : ∀ L l i h' k (hi : i < items.length), (∀ p t st, (L t st).drop p = L (fun i => (t i).drop p) st) → k (h.length + 1) = false → I L i h' k →
      ∃ t, h'[h.length + 1]? = some (L t .ready) ∧ awp e n (some l) asg (XE.seq (roundB e n l (h.length + 1) body L fun h'' p => I L (i + 1) h'' (fun i => k i || p i)) (fun _ _ _ => False)) (putAll { t := t } ps.toList items[i]) h')
    (fin : ∀ L h' k, k (h.length + 1) = false → I L items.length h' k → ∃ t, h'[h.length + 1]? = some (L t .ready) ∧ (∀ i ∈ h.length :: f.d, k i = false) ∧ Q .normal (({ f with d := h.length :: f.d } : Fr).drop k) (h'.set (h.length + 1) (L t .exhausted))) :
    awp e n none (.rangeFunc g ps asg body) Q f h := by
  refine awp_rangeFunc hsc hg hen ?_
  refine ACalls.mono (hit (h.length + 1) _ (I (fun t st => .loop t n ps asg body st none)) (fun _ _ _ => False) (start (fun t st => .loop t n ps asg body st none)) ?_) ?_
  · intro i h' k hi hk hI
    obtain ⟨t, hc, _⟩ := step (fun t st => .loop t n ps asg body st none) 0 i h' k hi (fun _ _ _ => rfl) hk hI
    refine ⟨t, n, ps, asg, body, none, hc, hsz _ (List.getElem_mem hi), hps, fun l => ?_⟩
    obtain ⟨t', hc', hw2⟩ := step (fun t st => .loop t n ps asg body st none) l i h' k hi (fun _ _ _ => rfl) hk hI
    have : t' = t := by rw [hc] at hc'; simpa using hc'.symm
    subst this
    refine awp_mono ?_ hw2
    intro xe f1 h1 hq
    cases xe <;> try exact hq
    obtain ⟨h1k, t1, hc1, hb⟩ := hq
    unfold XE.seq beginS
    dsimp only
    rw [hc1]
    refine ⟨h1k, awp_mono ?_ hb⟩
    intro xe f2 h2 hq2
    cases xe <;> try exact hq2.elim
    obtain ⟨h2k, t2, hc2, hI2⟩ := hq2
    unfold roundS
    simp only [XE.jump, hc2]
    exact ⟨h2k, hI2⟩
  · rintro ae h' p ⟨hp, hr⟩
    cases ae with
    | pan v => exact hr.elim
    | ret v =>
      rcases hr with hI | ⟨c, hf⟩
      · obtain ⟨t, hc, hd, hQ⟩ := fin _ h' p hp hI
        refine ⟨hd, ?_⟩
        dsimp only
        rw [hc]
        exact ⟨⟨hp, by simp⟩, hQ⟩
      · exact hf.elim
end
end Go.Abs
