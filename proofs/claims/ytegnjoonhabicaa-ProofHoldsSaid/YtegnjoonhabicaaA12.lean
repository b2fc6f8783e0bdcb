/- Abstract values, heaps and frames over the calculus, part 12. -/
import Derived.Test.YtegnjoonhabicaaA11
import Derived.RangeFuncCalls
set_option linter.unusedVariables false
set_option linter.unusedSimpArgs false
namespace Go.Abs
open Go.RowKit

def RF : Option Nat → Fence
  | none => Fence.wide
  | some l => Fence.wide.inRound l

theorem RF_fn (r : Option Nat) (f : FuncId) : (RF r).fn f := by cases r <;> trivial
theorem RF_round (r : Option Nat) : (RF r).round = r := by cases r <;> rfl
theorem RF_depth (r : Option Nat) : (RF r).depth = none := by cases r <;> rfl

theorem CallsIn.ofCalls {r : Option Nat} {n : Nat} {P : Program} {f : FuncId} {args : Array Value} {w : World} {R : Ending → World → Prop} (h : Calls P f args w R) : CallsIn (RF r) n P f args w R := by
  cases r with
  | none => exact callsIn_wide.2 h
  | some l => exact CallsIn.inRound l (callsIn_wide.2 h)

theorem CallsIn.toCalls {r : Option Nat} {n : Nat} {P : Program} {f : FuncId} {args : Array Value} {w : World} {R : Ending → World → Prop} (h : CallsIn (RF r) n P f args w R) : Calls P f args w R := by
  cases r with
  | none => exact callsIn_wide.1 h
  | some l => exact callsIn_wide.1 (CallsIn.outOfRound h)

/-- How a piece of code is left. -/
inductive XE where
  | normal
  | exit (id : Nat)
  | goto (l : Nat)
  | ret
  | pan (v : V)

def XRel (c : C) : XE → Exit → Prop
  | .normal, .normal => True
  | .exit i, .exit j => i = j
  | .goto i, .goto j => i = j
  | .ret, .ret => True
  | .pan v, .panic ch => ∃ x, ch = [{ v := x, recovered := false }] ∧ VRel c v x
  | _, _ => False

def APost (e : E) (n : Nat) (ok : Nat → Prop) (pl0 : Nat → Option Nat) (w0 : World) (Q : XE → Fr → H → Prop) : Exit → Act → World → Prop :=
  fun ex a' w' => ∃ pl' f' h' xe, SSim e n ok pl0 w0 f' h' pl' w' a' ∧ XRel (cx ok pl' w') xe ex ∧ Q xe f' h'

/-- Behind an operation. -/
def NPost (e : E) (n : Nat) (ok : Nat → Prop) (pl0 : Nat → Option Nat) (w0 : World) (K : Fr → H → Prop) : Act → World → Prop :=
  fun a' w' => ∃ pl' f' h', SSim e n ok pl0 w0 f' h' pl' w' a' ∧ K f' h'

def Eff (e : E) (n : Nat) (r : Option Nat) (o : Oper) (f : Fr) (h : H) (K : Fr → H → Prop) (Q : XE → Fr → H → Prop) : Prop :=
  ∀ ok pl0 w0 pl w a, SSim e n ok pl0 w0 f h pl w a → dstOk n o.dst = true → o.wpIn (RF r) 0 e.P a w (NPost e n ok pl0 w0 K) (APost e n ok pl0 w0 Q)

section
variable {e : E} {n : Nat} {r : Option Nat} {o : Oper} {f : Fr} {h : H} {K : Fr → H → Prop} {Q : XE → Fr → H → Prop}

theorem SSim.evs {ok : Nat → Prop} {pl0 pl : Nat → Option Nat} {w0 w : World} {a : Act} (s : SSim e n ok pl0 w0 f h pl w a) : ∀ x ∈ o.op.operands, VRel (cx ok pl w) (f.ev e x) (a.eval x) := fun x _ => s.ev x

theorem Eff.of_AQ {v : V} (hq : AQ e o (f.ev e) h v) (hk : K (f.put o.dst v) h) : Eff e n r o f h K Q := by
  intro ok pl0 w0 pl w a s hd
  have := hq ok pl w a.eval s.hs s.evs
  refine ⟨fun g _ => RF_fn r g, ?_⟩
  have hnd : o.semAt (RF r).round a.eval = execOp a.eval o := by
    rw [RF_round]
    refine Oper.semAt_eq r a.eval o fun c hc => ?_
    unfold execOp at this
    rw [hc] at this
    simp only [Sem.run_bind] at this
    revert this
    cases (resolve a.eval c o.type).run e.P w <;> simp [YieldsTo, Result.andThen]
  rw [hnd]
  revert this
  cases (execOp a.eval o).run e.P w with
  | halt x w' => simp [YieldsTo]
  | ok nx w' =>
    cases nx <;> simp only [YieldsTo, Oper.uponIn] <;> try (intro hf; exact hf.elim)
    case value x =>
      rintro ⟨hx, hv⟩
      have hs' := s.hs.wext hx
      have k := hx.keeps s.hs
      exact ⟨pl, _, h, (s.next0 hs' k).put hd hv, hk⟩
    case skip =>
      rintro ⟨hx, hv⟩
      have hs' := s.hs.wext hx
      have k := hx.keeps s.hs
      exact ⟨pl, _, h, (s.next0 hs' k).put hd hv, hk⟩
    case enter g args =>
      intro hc
      refine ⟨fun hd' => (by rw [RF_depth] at hd'; cases hd'), CallsIn.ofCalls (hc.mono ?_)⟩
      rintro en w'' ⟨x, rfl, hx, hv⟩
      have hs' := s.hs.wext hx
      have k := hx.keeps s.hs
      exact ⟨pl, _, h, (s.next0 hs' k).put hd hv, hk⟩

/-- An operation that turns the heap. -/
def EffV (e : E) (o : Oper) (ρ : Operand → V) (h : H) (S : (Nat → Bool) → V → H → Prop) : Prop :=
  ∀ ok pl w (ev : Operand → Value), HSim e ok pl h w → (∀ x ∈ o.op.operands, VRel (cx ok pl w) (ρ x) (ev x)) →
    ∃ p v h' pl' w' x, ((execOp ev o).run e.P w = .ok (.value x) w' ∨ ((execOp ev o).run e.P w = .ok .skip w' ∧ x = undef)) ∧
      HSim e ok pl' h' w' ∧ Keeps p pl w pl' w' ∧ VRel (cx ok pl' w') v x ∧ S p v h'

theorem Eff.of_EffV (hq : EffV e o (f.ev e) h (fun p v h' => (∀ i ∈ f.d, p i = false) ∧ K ((f.drop p).put o.dst v) h')) (hnd : ∀ c, o.op ≠ .defer c) : Eff e n r o f h K Q := by
  intro ok pl0 w0 pl w a s hd
  obtain ⟨p, v, h', pl', w', x, hrun, hs', k, hv, hp, hk⟩ := hq ok pl w a.eval s.hs s.evs
  refine ⟨fun g _ => RF_fn r g, ?_⟩
  rw [RF_round, Oper.semAt_eq r a.eval o hnd]
  have fin : NPost e n ok pl0 w0 K (a.put o.dst x) w' := ⟨pl', _, h', (s.next hs' k hp).put hd hv, hk⟩
  rcases hrun with hrun | ⟨hrun, rfl⟩
  · rw [hrun]; exact fin
  · rw [hrun]; exact fin

/-- No operation of a kind that has no result: the place of its result is turned all the same. -/
abbrev undefV : V := .tup []

theorem undef_rel (c : C) : VRel c undefV undef := by
  simp only [VRel, VList]; exact ⟨#[], rfl, rfl⟩

/-! ### New objects -/
theorem cells_new {ok : Nat → Prop} {pl : Nat → Option Nat} {w : World} (hs : HSim e ok pl h w) {cs : List V} {arr : Array Value} (hc : VList (cx ok pl w) cs arr.toList) (el : TypeId) {w1 : World} (x : WExt w w1) :
    HSim e ok (plNew pl h.length w1.heap.size) (h ++ [.cells cs]) (w1.alloc (.cells arr el)) ∧ Keeps (fun _ => false) pl w (plNew pl h.length w1.heap.size) (w1.alloc (.cells arr el)) := by
  have x2 := x.trans (WExt.alloc w1 (.cells arr el))
  have hl := hc.length
  have hb : (w1.alloc (.cells arr el)).heap[w1.heap.size]? = some (.cells arr el) := by rw [World.alloc]; simp
  have key : ∀ (c' : C), CExt (fun _ => false) (cx ok pl w) c' → c'.w = w1.alloc (.cells arr el) → OAt c' w1.heap.size (.cells cs) := by
    intro c' hx hw
    refine ⟨arr, el, (0, 0), by rw [hw]; exact hb, fun j _ => by simp, by simp at hl; omega, ?_⟩
    have := VList.mono hx cs _ hc
    rw [List.take_of_length_le (by omega)]; exact this
  have hfr : ∀ i, pl i ≠ some w1.heap.size := fun i hi => by have := hs.lt i _ hi; have := x.size; omega
  have k : CExt (fun _ => false) (cx ok pl w) (cx ok (plNew pl h.length w1.heap.size) (w1.alloc (.cells arr el))) := by
    refine ⟨fun b hb' hok => ⟨⟨hok.1, fun i hi => ?_⟩, x2.same b hb'⟩, fun i b _ hi => ?_, fun b arr' el' fz hb' => ⟨arr', fz, (x2.same b (lt_of_heap hb')).trans hb', rfl⟩⟩
    · simp only [plNew] at hi
      split at hi
      · cases hi; have := x.size; simp only [cx] at hb'; omega
      · exact hok.2 i hi
    · have := hs.pl_lt hi
      simp only [cx, plNew]; rw [if_neg (by omega)]; exact hi
  exact hs.new x2 (.cells arr el) (.cells cs) x.size (by simp) (key _ k rfl)

theorem eff_alloc {t : TypeId} (hop : o.op = .alloc t) {q : TI} (hq : ti e.P t = some q) (hf : q.zero.fit = true)
    (hk : K (f.put o.dst (.lp h.length 0)) (h ++ [.cells q.zero.vc])) : Eff e n r o f h K Q := by
  refine Eff.of_EffV ?_ (fun c => by rw [hop]; exact fun h => by cases h)
  intro ok pl w ev hs _
  obtain ⟨i, d, z, hT⟩ := ti_some hq
  have hz : VList (cx ok pl w) q.zero.vc z.cells.toList := by
    rw [hT.zv] at hf ⊢; exact (ofZero_rel _ z).vc hf
  obtain ⟨h1, h2⟩ := cells_new hs hz t (WExt.refl w)
  refine ⟨fun _ => false, .lp h.length 0, _, _, _, .pointer (some ⟨w.heap.size, 0, none⟩), .inl ?_, h1, h2, ?_, fun _ _ => rfl, by simpa using hk⟩
  · have : (Instr.alloc t true (.tuple #[])).run e.P w = .ok (.pointer (some ⟨w.heap.size, 0, none⟩)) (w.alloc (.cells z.cells t)) := by
      unfold Instr.alloc
      simp only [Sem.run_bind, hT.run_zero, Result.andThen]
      rfl
    have h3 : execOp ev o = (do pure (Next.value (← Instr.alloc t true (.tuple #[])))) := by simp [execOp, hop]
    rw [h3]; exact run_v this
  · simp only [VRel]; exact ⟨w.heap.size, by simp [cx, plNew], rfl⟩

theorem eff_box {t : TypeId} {x : Operand} (hop : o.op = .box t x) (hsc : (f.ev e x).sc) (hf : (f.ev e x).sv.fit = true)
    (hk : K (f.put o.dst (.lp h.length 0)) (h ++ [.cells (f.ev e x).sv.vc])) : Eff e n r o f h K Q := by
  refine Eff.of_EffV ?_ (fun c => by rw [hop]; exact fun h => by cases h)
  intro ok pl w ev hs hr
  have h0 := ((hr x (by simp [hop, Op.operands])).sv hsc).vc hf
  obtain ⟨h1, h2⟩ := cells_new hs h0 t (WExt.refl w)
  refine ⟨fun _ => false, .lp h.length 0, _, _, _, .pointer (some ⟨w.heap.size, 0, none⟩), .inl ?_, h1, h2, ?_, fun _ _ => rfl, by simpa using hk⟩
  · have h3 : execOp ev o = (do pure (Next.value (← Instr.box t (ev x)))) := by simp [execOp, hop]
    rw [h3]; exact run_v rfl
  · simp only [VRel]; exact ⟨w.heap.size, by simp [cx, plNew], rfl⟩

theorem eff_makeMap {t : TypeId} (hop : o.op = .makeMap t none)
    (hk : K (f.put o.dst (.lm h.length)) (h ++ [.map [] []])) : Eff e n r o f h K Q := by
  refine Eff.of_EffV ?_ (fun c => by rw [hop]; exact fun h => by cases h)
  intro ok pl w ev hs hr
  have hb : (w.alloc (.map #[] 0)).heap[w.heap.size]? = some (.map #[] 0) := by rw [World.alloc]; simp
  obtain ⟨h1, h2⟩ := hs.new (WExt.alloc w (.map #[] 0)) (.map #[] 0) (.map [] []) (Nat.le_refl _) (by simp) ⟨#[], 0, hb, by simp [VList], by simp [VList], by simp, by simp⟩
  refine ⟨fun _ => false, .lm h.length, _, _, _, .map (some w.heap.size), .inl ?_, h1, h2, ?_, fun _ _ => rfl, by simpa using hk⟩
  · have h3 : execOp ev o = (do pure (Next.value (← Instr.makeMap t none))) := by simp [execOp, hop]
    rw [h3]; exact run_v rfl
  · simp only [VRel]; exact ⟨w.heap.size, by simp [cx, plNew], rfl⟩
end
end Go.Abs
