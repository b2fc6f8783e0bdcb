/- Abstract values, heaps and frames over the calculus, part 21. -/
import Derived.Test.YtegnjoonhabicaaA20
set_option linter.unusedVariables false
set_option linter.unusedSimpArgs false
namespace Go.Abs
open Go.RowKit

/-! ### How a condition is worked out -/
theorem PV.and_mk {p c : Prop} {v : V} : PV.and p (c, v) = (p ∧ c, v) := rfl

section
variable {e : E} {n : Nat} {r : Option Nat} {Q : XE → Fr → H → Prop} {f : Fr} {h : H} {ops : Array Oper}

theorem vc_skip : vc e n r .skip Q f h = Q .normal f h := rfl
theorem vc_label {l : Nat} : vc e n r (.label l) Q f h = Q .normal f h := rfl
theorem vc_exit {i : Nat} : vc e n r (.exit i) Q f h = Q (.exit i) f h := rfl
theorem vc_goto {i : Nat} : vc e n r (.goto i) Q f h = Q (.goto i) f h := rfl
theorem vc_ret : vc e n r .ret Q f h = Q .ret f h := rfl
theorem vc_seq {x y : Code} : vc e n r (.seq x y) Q f h = vc e n r x (XE.seq (vc e n r y Q) Q) f h := rfl
theorem vc_cond {c : Operand} {x y : Code} : vc e n r (.cond c x y) Q f h = (match (f.ev e c).sv with
    | .bool b => (f.ev e c).sc ∧ vcB b (vc e n r x Q) (vc e n r y Q) f h
    | _ => False) := rfl
theorem vc_block {i : Nat} {x : Code} : vc e n r (.block i x) Q f h = vc e n r x (XE.block i Q) f h := rfl
theorem vc_region {i : Nat} {l : List Oper} : vc e n r (.region i l.toArray false) Q f h = vcOps e n l.toArray Q l f h := rfl
theorem vc_drawn {i : Nat} {l : List Oper} : vc e n r (.region i l.toArray true) Q f h = (match l.all quietOp with
    | true => Region.lexB .any l.toArray = true ∧ vcQuiet e n l.toArray h (normK Q h) l f
    | false => awp e n r (.region i l.toArray true) Q f h) := rfl
theorem vc_loop {c : Code} : vc e n r (.loop c) Q f h = awp e n r (.loop c) Q f h := rfl

theorem seq_normal {Kn : Fr → H → Prop} : XE.seq Kn Q .normal = Kn := rfl
theorem seq_exit {Kn : Fr → H → Prop} {i : Nat} : XE.seq Kn Q (.exit i) = Q (.exit i) := rfl
theorem seq_goto {Kn : Fr → H → Prop} {i : Nat} : XE.seq Kn Q (.goto i) = Q (.goto i) := rfl
theorem seq_ret {Kn : Fr → H → Prop} : XE.seq Kn Q .ret = Q .ret := rfl
theorem seq_pan {Kn : Fr → H → Prop} {v : V} : XE.seq Kn Q (.pan v) = Q (.pan v) := rfl
theorem block_normal {i : Nat} : XE.block i Q .normal = Q .normal := rfl
theorem block_exit {i j : Nat} : XE.block i Q (.exit j) = (match j == i with | true => Q .normal | false => Q (.exit j)) := rfl
theorem block_goto {i j : Nat} : XE.block i Q (.goto j) = Q (.goto j) := rfl
theorem block_ret {i : Nat} : XE.block i Q .ret = Q .ret := rfl
theorem block_pan {i : Nat} {v : V} : XE.block i Q (.pan v) = Q (.pan v) := rfl

theorem vcOps_nil : vcOps e n ops Q [] f h = Q .normal f h := rfl
theorem vcOps_cons {d : Option Tmp} {op : Op} {t : TypeId} {p : String} {af : Array Edge} {l : List Oper} : vcOps e n ops Q (⟨d, op, t, p, af, none⟩ :: l) f h = (dstOk n d = true ∧
      match isEff op with
      | true => vcEff e n ⟨d, op, t, p, af, none⟩ f h (vcOps e n ops Q l) Q
      | false => PV.go true (pvOp e.P ⟨d, op, t, p, af, none⟩ (f.ev e) h) d (vcOps e n ops Q l) f h) := by
  simp only [vcOps, gd]
  congr 1
  cases isEff op
  · rfl
  · simp [effG]
theorem vcOps_grd {d : Option Tmp} {op : Op} {t : TypeId} {p : String} {af : Array Edge} {g : Nat × Bool} {l : List Oper} : vcOps e n ops Q (⟨d, op, t, p, af, some g⟩ :: l) f h = (match gd ops f ⟨d, op, t, p, af, some g⟩ with
    | none => False
    | some q => dstOk n d = true ∧
      match isEff op with
      | true => effG q e n ⟨d, op, t, p, af, none⟩ (vcOps e n ops Q l) Q f h
      | false => PV.go q (pvOp e.P ⟨d, op, t, p, af, none⟩ (f.ev e) h) d (vcOps e n ops Q l) f h) := rfl
theorem vcQuiet_cons {Qn : Fr → Prop} {d : Option Tmp} {op : Op} {t : TypeId} {p : String} {af : Array Edge} {l : List Oper} : vcQuiet e n ops h Qn (⟨d, op, t, p, af, none⟩ :: l) f = (dstOk n d = true ∧
      match isEff op with
      | true => match op with
        | .call { callee := .value fx, args, .. } => match callOn e (f.ev e) fx args with
          | some (q, vs) => vcEv e true q vs (callSc (f.ev e) fx args) d (vcQuiet e n ops h Qn l) f
          | none => False
        | _ => False
      | false => goQ true (pvOp e.P ⟨d, op, t, p, af, none⟩ (f.ev e) h) d (vcQuiet e n ops h Qn l) f) := rfl
theorem vcQuiet_grd {Qn : Fr → Prop} {d : Option Tmp} {op : Op} {t : TypeId} {p : String} {af : Array Edge} {g : Nat × Bool} {l : List Oper} : vcQuiet e n ops h Qn (⟨d, op, t, p, af, some g⟩ :: l) f = (match gd ops f ⟨d, op, t, p, af, some g⟩ with
    | none => False
    | some b => dstOk n d = true ∧
      match isEff op with
      | true => match op with
        | .call { callee := .value fx, args, .. } => match callOn e (f.ev e) fx args with
          | some (q, vs) => vcEv e b q vs (callSc (f.ev e) fx args) d (vcQuiet e n ops h Qn l) f
          | none => False
        | _ => False
      | false => goQ b (pvOp e.P ⟨d, op, t, p, af, none⟩ (f.ev e) h) d (vcQuiet e n ops h Qn l) f) := rfl
theorem callK_ret {dst : Option Tmp} {Kn : Fr → H → Prop} {v : V} : callK dst Kn Q f (.ret v) h (fun _ => false) = Kn (f.put dst v) h := by simp [callK]
theorem vcQuiet_nil {Qn : Fr → Prop} : vcQuiet e n ops h Qn [] f = Qn f := rfl
theorem goQ_true {q : Prop} {v : V} {d : Option Tmp} {Kn : Fr → Prop} : goQ true (q, v) d Kn f = (q ∧ Kn (f.put d v)) := by simp [goQ, V.guard]
theorem goQ_false {q : PV} {d : Option Tmp} {Kn : Fr → Prop} : goQ false q d Kn f = Kn (f.put d (.grd false q.2)) := by simp [goQ, V.guard]
theorem goQ_sym {g : Bool} {q : Prop} {v : V} {d : Option Tmp} {Kn : Fr → Prop} : goQ g (q, v) d Kn f = ((g = true → q) ∧ Kn (f.put d (V.guard g v))) := rfl
theorem effG_true {o : Oper} {Kn : Fr → H → Prop} : effG true e n o Kn Q f h = vcEff e n o f h Kn Q := by simp [effG]
theorem effG_false {o : Oper} {Kn : Fr → H → Prop} : effG false e n o Kn Q f h = skipK o.dst Kn f h := by simp [effG]
theorem effG.ev {g : Bool} {d : Option Tmp} {t : TypeId} {p : String} {af : Array Edge} {gu : Option (Nat × Bool)} {fx : Operand} {args : Array Operand} {ts : Array TypeId} {Kn : Fr → H → Prop} {q : FuncId} {vs : List V} {rv : V}
    (hon : callOn e (f.ev e) fx args = some (q, vs)) (hsc : g = true → callSc (f.ev e) fx args) (hen : enters e.P q = true) (hv : g = true → Ev e q vs rv) (hd : g = true → V.dats vs = true) (hk : Kn (f.put d (V.guard g rv)) h) :
    effG g e n ⟨d, .call { callee := .value fx, args := args, argTypes := ts }, t, p, af, gu⟩ Kn Q f h := by
  refine ⟨fun hg => ?_, fun hg => ?_⟩
  · subst hg
    simp only [vcEff, vcCall, hon]
    refine ⟨hsc rfl, hen, ACalls.ev (hv rfl) (hd rfl) ?_⟩
    simpa [callK, V.guard] using hk
  · subst hg
    exact ⟨rv, hk⟩

theorem put_ev {i : Tmp} {v : V} {j : Tmp} : (f.put (some i) v).ev e (.tmp j) = if j = i then v else f.ev e (.tmp j) := rfl
theorem put_none {v : V} : f.put none v = f := rfl
theorem ev_const {v : Value} : f.ev e (.const v) = ofVal v := rfl
theorem ev_global {g : Nat} : f.ev e (.global g) = glv e g := rfl
theorem ev_func {g : Nat} : f.ev e (.func g) = .fn (.func g) [] [] := rfl
theorem put_t {i : Tmp} {v : V} {j : Tmp} : (f.put (some i) v).t j = if j = i then v else f.t j := rfl
theorem ev_tmp {j : Tmp} : f.ev e (.tmp j) = f.t j := rfl
theorem put_d {i : Option Tmp} {v : V} : (f.put i v).d = f.d := by cases i <;> rfl
theorem put_k {i : Option Tmp} {v : V} : (f.put i v).k = f.k := by cases i <;> rfl
theorem init_t {args : List V} {i : Nat} : (Fr.init args).t i = args.getD i undefV := rfl
theorem init_d {args : List V} : (Fr.init args).d = [] := rfl
end
end Go.Abs
