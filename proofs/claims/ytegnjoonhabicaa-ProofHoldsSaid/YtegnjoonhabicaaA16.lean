/- Abstract values, heaps and frames over the calculus, part 16. -/
import Derived.Test.YtegnjoonhabicaaA15
set_option linter.unusedVariables false
set_option linter.unusedSimpArgs false
namespace Go.Abs
open Go.RowKit

/-! ### Calls -/
inductive AEnd where
  | ret (v : V)
  | pan (v : V)

def EndRel (c : C) : AEnd → Ending → Prop
  | .ret v, .returned x => VRel c v x
  | .pan v, .panicked ch => ∃ x, ch = [{ v := x, recovered := false }] ∧ VRel c v x
  | _, _ => False

def ACalls (e : E) (g : FuncId) (args : List V) (h : H) (R : AEnd → H → (Nat → Bool) → Prop) : Prop :=
  ∀ ok pl w vs, HSim e ok pl h w → VList (cx ok pl w) args vs →
    Calls e.P g vs.toArray w fun en w' => ∃ p pl' h' ae, HSim e ok pl' h' w' ∧ Keeps p pl w pl' w' ∧ EndRel (cx ok pl' w') ae en ∧ R ae h' p

/-- A function that only computes: data goes in, data comes out, nothing turns. -/
def Ev (e : E) (g : FuncId) (args : List V) (r : V) : Prop :=
  ∀ ok w vs, HSim e ok (fun _ => none) [] w → VList (cx ok (fun _ => none) w) args vs →
    Calls e.P g vs.toArray w fun en w' => ∃ x, en = .returned x ∧ WExt w w' ∧ VRel (cx ok (fun _ => none) w') r x

theorem ACalls.mono {e : E} {g : FuncId} {args : List V} {h : H} {R R' : AEnd → H → (Nat → Bool) → Prop} (hc : ACalls e g args h R) (hr : ∀ ae h' p, R ae h' p → R' ae h' p) : ACalls e g args h R' :=
  fun ok pl w vs hs hv => (hc ok pl w vs hs hv).mono fun en w' ⟨p, pl', h', ae, h1, h2, h3, h4⟩ => ⟨p, pl', h', ae, h1, h2, h3, hr _ _ _ h4⟩

theorem cext_data (ok : Nat → Prop) (pl : Nat → Option Nat) (w : World) : CExt (fun _ => false) (cx ok pl w).data (cx (fun b => ok b ∧ ∀ i, pl i ≠ some b) (fun _ => none) w) :=
  ⟨fun b hb hok => ⟨⟨hok, fun i hi => (by cases hi)⟩, rfl⟩, fun i b _ hi => (by cases hi), fun b arr el fz hb => ⟨arr, fz, hb, rfl⟩⟩

theorem cext_data' (ok : Nat → Prop) (pl : Nat → Option Nat) (w : World) : CExt (fun _ => false) (cx (fun b => ok b ∧ ∀ i, pl i ≠ some b) (fun _ => none) w) (cx ok pl w) :=
  ⟨fun b hb hok => ⟨hok.1, rfl⟩, fun i b _ hi => (by cases hi), fun b arr el fz hb => ⟨arr, fz, hb, rfl⟩⟩

theorem HSim.toData {e : E} {ok : Nat → Prop} {pl : Nat → Option Nat} {h : H} {w : World} (hs : HSim e ok pl h w) : HSim e (fun b => ok b ∧ ∀ i, pl i ≠ some b) (fun _ => none) [] w where
  fresh b hb := ⟨hs.fresh b hb, fun i hi => by have := hs.lt i b hi; omega⟩
  lt i b hi := by cases hi
  okl i b hi := by cases hi
  inj i j b hi := by cases hi
  obj i b hi := by cases hi
  bare i o ho := by simp at ho
  glob g v hg := by
    have h1 := hs.glob g v hg
    exact VRel.mono (cext_data ok pl w) _ _ (VRel.todata (.ip v) _ rfl h1)

theorem Ev.run {e : E} {g : FuncId} {args : List V} {r : V} (hv : Ev e g args r) (hd : V.dats args = true) {ok : Nat → Prop} {pl : Nat → Option Nat} {h : H} {w : World} {vs : List Value}
    (hs : HSim e ok pl h w) (hl : VList (cx ok pl w) args vs) : Calls e.P g vs.toArray w fun en w' => ∃ x, en = .returned x ∧ WExt w w' ∧ VRel (cx ok pl w') r x :=
  (hv _ w vs hs.toData (VList.mono (cext_data ok pl w) _ _ (VList.todata _ _ hd hl))).mono fun en w' ⟨x, h1, h2, h3⟩ =>
    ⟨x, h1, h2, VRel.mono (cext_data' ok pl w') _ _ h3⟩

theorem ACalls.ev {e : E} {g : FuncId} {args : List V} {r : V} {h : H} {R : AEnd → H → (Nat → Bool) → Prop} (hv : Ev e g args r) (hd : V.dats args = true) (hr : R (.ret r) h (fun _ => false)) : ACalls e g args h R :=
  fun ok pl w vs hs hl => (hv.run hd hs hl).mono fun en w' ⟨x, h1, h2, h3⟩ => ⟨fun _ => false, pl, h, .ret r, hs.wext h2, h2.keeps hs, by rw [h1]; exact h3, hr⟩

def enters (P : Program) (g : FuncId) : Bool :=
  match P.funcs[g]? with
  | some fn => fn.body.isSome && !(fn.name == "runtime.NumGoroutine")
  | none => false

theorem enters_run {P : Program} {g : FuncId} (h : enters P g = true) (args : Array Value) (w : World) : (callFunc g args).run P w = .ok (.enter g args) w := by
  unfold enters at h
  split at h
  · rename_i fn hfn
    simp only [Bool.and_eq_true, Bool.not_eq_true'] at h
    unfold callFunc
    have h2 : ¬ (fn.body.isNone = true) := by
      cases hb : fn.body with
      | none => rw [hb] at h; simp at h
      | some _ => simp
    simp only [Sem.run_bind, run_program, Result.andThen, hfn]
    rw [if_neg (by rw [h.2]; simp), if_neg h2]
    rfl
  · cases h

/-- What a call leads to. -/
def callOn (e : E) (ρ : Operand → V) (fx : Operand) (args : Array Operand) : Option (FuncId × List V) :=
  match (ρ fx).sv with
  | .fn (.func g) first captured => some (g, first ++ (args.toList.map fun x => (ρ x).sv) ++ captured)
  | _ => none

def callSc (ρ : Operand → V) (fx : Operand) (args : Array Operand) : Prop := (ρ fx).sc ∧ allSc (args.toList.map ρ)

section
variable {e : E} {n : Nat} {r : Option Nat} {o : Oper} {f : Fr} {h : H} {Kn : Fr → H → Prop} {Q : XE → Fr → H → Prop}

theorem call_exec {ρ : Operand → V} {ok : Nat → Prop} {pl : Nat → Option Nat} {w : World} {fx : Operand} {args : Array Operand} {ts : Array TypeId} (hop : o.op = .call { callee := .value fx, args := args, argTypes := ts })
    {ev : Operand → Value} (hr : ∀ x ∈ o.op.operands, VRel (cx ok pl w) (ρ x) (ev x)) {g : FuncId} {vs : List V} (hon : callOn e ρ fx args = some (g, vs)) (hsc : callSc ρ fx args) (hen : enters e.P g = true) :
    ∃ xs : List Value, (execOp ev o).run e.P w = .ok (.enter g xs.toArray) w ∧ VList (cx ok pl w) vs xs := by
  unfold callOn at hon
  split at hon
  · rename_i g' first captured hfx
    cases hon
    have h1 := (hr fx (by simp [hop, Op.operands, Call.operands])).sv hsc.1
    rw [hfx] at h1
    simp only [VRel] at h1
    obtain ⟨fs, cs, h2, h3, h4⟩ := h1
    have h5 := (VList.of_map (c := cx ok pl w) (ρ := ρ) (ev := ev) args.toList fun x hx => hr x (by simp [hop, Op.operands, Call.operands]; exact .inr (Array.mem_toList_iff.1 hx))).sv hsc.2
    rw [List.map_map] at h5
    refine ⟨fs.toList ++ args.toList.map ev ++ cs.toList, ?_, (h3.append h5).append h4⟩
    have : execOp ev o = (do let d ← resolve ev { callee := .value fx, args := args, argTypes := ts } o.type; invoke d.target d.args) := by simp [execOp, hop]
    rw [this]
    have h6 : (resolve ev { callee := .value fx, args := args, argTypes := ts } o.type).run e.P w = .ok { target := .fn (.func g) cs, args := fs ++ args.map ev } w := by
      simp [resolve, h2, Deferred.ofValue]
    simp only [Sem.run_bind, h6, Result.andThen, invoke]
    rw [enters_run hen]
    congr 2
    apply Array.ext'
    simp
  · cases hon

theorem eff_call {fx : Operand} {args : Array Operand} {ts : Array TypeId} (hop : o.op = .call { callee := .value fx, args := args, argTypes := ts }) {g : FuncId} {vs : List V}
    (hon : callOn e (f.ev e) fx args = some (g, vs)) (hsc : callSc (f.ev e) fx args) (hen : enters e.P g = true)
    (hc : ACalls e g vs h fun ae h' p => (∀ i ∈ f.d, p i = false) ∧ match ae with
      | .ret v => Kn ((f.drop p).put o.dst v) h'
      | .pan v => Q (.pan v) (f.drop p) h') : Eff e n r o f h Kn Q := by
  intro ok pl0 w0 pl w a s hd
  obtain ⟨xs, hrun, hl⟩ := call_exec (e := e) hop (s.evs (o := o)) hon hsc hen
  refine ⟨fun g _ => RF_fn r g, ?_⟩
  rw [RF_round, Oper.semAt_eq r a.eval o (fun c => by rw [hop]; exact fun h => by cases h), hrun]
  refine ⟨fun hd' => (by rw [RF_depth] at hd'; cases hd'), CallsIn.ofCalls ((hc ok pl w xs s.hs hl).mono ?_)⟩
  rintro en w' ⟨p, pl', h', ae, hs', k, hend, hp, hk⟩
  cases ae with
  | ret v =>
    cases en with
    | returned x => exact ⟨pl', _, h', (s.next hs' k hp).put hd hend, hk⟩
    | panicked ch => exact hend.elim
    | outgrown => exact hend.elim
  | pan v =>
    cases en with
    | returned x => exact hend.elim
    | panicked ch => exact ⟨pl', _, h', .pan v, s.next hs' k hp, hend, hk⟩
    | outgrown => exact hend.elim

theorem AQ.call {fx : Operand} {args : Array Operand} {ts : Array TypeId} (hop : o.op = .call { callee := .value fx, args := args, argTypes := ts }) {ρ : Operand → V} {g : FuncId} {vs : List V} {rv : V}
    (hon : callOn e ρ fx args = some (g, vs)) (hsc : callSc ρ fx args) (hen : enters e.P g = true) (hd : V.dats vs = true) (hv : Ev e g vs rv) : AQ e o ρ h rv := by
  intro ok pl w ev hs hr
  obtain ⟨xs, hrun, hl⟩ := call_exec (e := e) hop hr hon hsc hen
  rw [hrun]
  exact hv.run hd hs hl

/-! ### Guards -/
def gval : V → Bool → Option Bool
  | .bool b, true => some b
  | .bool b, false => some (!b)
  | .grd false _, _ => some false
  | .grd true v, want => gval v want
  | .tup [], _ => some false
  | _, _ => none

def gd (ops : Array Oper) (f : Fr) (o : Oper) : Option Bool :=
  match o.guard with
  | none => some true
  | some (j, want) => match (ops[j]?).bind (·.dst) with
    | some d => gval (f.t d) want
    | none => some false

theorem gval_ok {c : C} : ∀ {v : V} {want g : Bool} {x : Value}, VRel c v x → gval v want = some g → ((match x with | .bool b => some b | _ => none) == some want) = g
  | .bool b, true, g, x, h, hg => by
    simp only [VRel] at h; subst h
    simp only [gval, Option.some.injEq] at hg; subst hg
    cases b <;> rfl
  | .bool b, false, g, x, h, hg => by
    simp only [VRel] at h; subst h
    simp only [gval, Option.some.injEq] at hg; subst hg
    cases b <;> rfl
  | .grd true v, want, g, x, h, hg => by
    simp only [VRel] at h
    simp only [gval] at hg
    exact gval_ok (h.1 trivial) hg
  | .grd false v, want, g, x, h, hg => by
    simp only [VRel] at h
    rw [h.2 trivial]
    simp only [gval, Option.some.injEq] at hg
    simp [undef, ← hg]
  | .tup [], want, g, x, h, hg => by
    simp only [VRel, VList] at h
    obtain ⟨cs, rfl, _⟩ := h
    simp only [gval, Option.some.injEq] at hg; subst hg
    rfl
  | .tup (_ :: _), want, _, _, _, hg => by simp [gval] at hg
  | .any, w, _, _, _, hg | .int _ _, w, _, _, _, hg | .str _, w, _, _, _, hg | .nilp, w, _, _, _, hg | .lp _ _, w, _, _, _, hg | .ip _, w, _, _, _, hg | .nils, w, _, _, _, hg
  | .ls _ _ _ _ _, w, _, _, _, hg | .is _ _ _, w, _, _, _, hg | .nilm, w, _, _, _, hg | .lm _, w, _, _, _, hg | .im _ _, w, _, _, _, hg | .fn _ _ _, w, _, _, _, hg
  | .yd _, w, _, _, _, hg | .nilf, w, _, _, _, hg | .iface _ _, w, _, _, _, hg | .nili, w, _, _, _, hg | .agg _, w, _, _, _, hg => by cases w <;> simp [gval] at hg

theorem gd_ok {ops : Array Oper} {c : C} {a : Act} (hv : ∀ i, VRel c (f.t i) (a.tmps.getD i undef)) {g : Bool} (hg : gd ops f o = some g) : Region.wanted o (yielded ops a.tmps) = g := by
  unfold gd at hg
  unfold Region.wanted
  cases ho : o.guard with
  | none => rw [ho] at hg; simpa using hg
  | some jw =>
    obtain ⟨j, want⟩ := jw
    rw [ho] at hg
    dsimp only at hg ⊢
    unfold yielded
    cases hd : (ops[j]?).bind (·.dst) with
    | none => rw [hd] at hg; simp at hg; subst hg; rfl
    | some d =>
      rw [hd] at hg
      have h1 := gval_ok (hv d) hg
      rw [← h1]
      cases ht : a.tmps[d]? with
      | none =>
        have h2 : a.tmps.getD d undef = undef := by rw [Array.getD_eq_getD_getElem?, ht]; rfl
        rw [h2]; simp [undef, ht]
      | some x =>
        have h2 : a.tmps.getD d undef = x := by rw [Array.getD_eq_getD_getElem?, ht]; rfl
        rw [h2]; simp only [Option.bind_some, ht]
        cases x <;> rfl

def V.guard (g : Bool) (v : V) : V := match g with | true => v | false => .grd false v

theorem V.guard_true (v : V) : V.guard true v = v := rfl
theorem V.guard_sv (g : Bool) (v : V) : (V.guard g v).sv = v.sv := by cases g <;> simp [V.guard, V.sv]
theorem V.guard_sc (g : Bool) (v : V) : (V.guard g v).sc = (g = true ∧ v.sc) := by cases g <;> simp [V.guard, V.sc]
theorem V.guard_gval (g b want : Bool) : gval (V.guard g (.bool b)) want = some (g && (b == want)) := by
  cases g <;> cases want <;> cases b <;> rfl

/-- A condition and a value, behind a guard, and what follows. -/
def PV.go (g : Bool) (q : Prop × V) (d : Option Tmp) (Kn : Fr → H → Prop) (f : Fr) (h : H) : Prop := (g = true → q.1) ∧ Kn (f.put d (V.guard g q.2)) h
theorem PV.go_true (c : Prop) (v : V) (d : Option Tmp) (Kn : Fr → H → Prop) (f : Fr) (h : H) : PV.go true (c, v) d Kn f h = (c ∧ Kn (f.put d v) h) := by simp [PV.go, V.guard]
theorem PV.go_false (q : Prop × V) (d : Option Tmp) (Kn : Fr → H → Prop) (f : Fr) (h : H) : PV.go false q d Kn f h = Kn (f.put d (.grd false q.2)) h := by simp [PV.go, V.guard]
theorem PV.go_sym (g : Bool) (c : Prop) (v : V) (d : Option Tmp) (Kn : Fr → H → Prop) (f : Fr) (h : H) : PV.go g (c, v) d Kn f h = ((g = true → c) ∧ Kn (f.put d (V.guard g v)) h) := rfl

/-- A value behind a guard. -/
theorem guard_rel {c : C} {g : Bool} {v : V} {x : Value} (h1 : g = true → VRel c v x) (h2 : g = false → x = undef) : VRel c (V.guard g v) x := by
  cases g
  · simp only [V.guard, VRel]; exact ⟨h1, fun _ => h2 rfl⟩
  · exact h1 rfl
end
end Go.Abs
