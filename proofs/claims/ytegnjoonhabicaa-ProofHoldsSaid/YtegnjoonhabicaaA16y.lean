/- Abstract values, heaps and frames over the calculus, part 16y. -/
import Derived.Test.YtegnjoonhabicaaA16
import Derived.RangeFuncNested
set_option linter.unusedVariables false
set_option linter.unusedSimpArgs false
namespace Go.Abs
open Go.RowKit

/-! ### Code, as it is asked of frames and heaps -/
def awp (e : E) (n : Nat) (r : Option Nat) (c : Code) (Q : XE → Fr → H → Prop) (f : Fr) (h : H) : Prop :=
  ∀ ok pl0 w0 pl w a, SSim e n ok pl0 w0 f h pl w a → c.wpIn (RF r) 0 e.P (APost e n ok pl0 w0 Q) a w

def XE.seq (Kn : Fr → H → Prop) (Q : XE → Fr → H → Prop) : XE → Fr → H → Prop
  | .normal => Kn
  | .exit i => Q (.exit i)
  | .goto l => Q (.goto l)
  | .ret => Q .ret
  | .pan v => Q (.pan v)

/-! ### A call of yield -/
def putAll : Fr → List Tmp → List V → Fr
  | f, p :: ps, v :: vs => putAll (f.put (some p) v) ps vs
  | f, _, _ => f

def XE.jump : XE → Option (Option Code)
  | .normal => some none
  | .ret => some (some .ret)
  | .exit i => some (some (.exit i))
  | .goto l => some (some (.goto l))
  | .pan _ => none

/-- At the end of a round's body. -/
def roundQ (id : Nat) (dst : Option Tmp) (Kn : Fr → H → Prop) (f : Fr) (xe : XE) (f2 : Fr) (h2 : H) : Prop :=
  match xe.jump, h2[id]? with
  | some j, some (.loop t n ps asg body st pend) => (f2.k id = false ∧ ∀ i ∈ f.d, f2.k i = false) ∧
      Kn ((f.drop f2.k).put dst (.bool j.isNone)) (h2.set id (.loop t n ps asg body (if j.isNone then .ready else .done) j))
  | _, _ => False

/-- Where a round's body begins. -/
def beginK (e : E) (n : Nat) (l id : Nat) (body : Code) (dst : Option Tmp) (Kn : Fr → H → Prop) (f : Fr) (f1 : Fr) (h1 : H) : Prop :=
  match h1[id]? with
  | some (.loop t n' ps asg body' .ready pend) => f1.k id = false ∧ awp e n (some l) body (roundQ id dst Kn f) f1 (h1.set id (.loop t n' ps asg body' .busy pend))
  | _ => False

section
variable {e : E} {n : Nat} {r : Option Nat} {o : Oper} {f : Fr} {h : H} {Kn : Fr → H → Prop} {Q : XE → Fr → H → Prop}

structure TRel (c : C) (n : Nat) (f : Fr) (tmps : Array Value) : Prop where
  size : tmps.size = n
  val : ∀ i, VRel c (f.t i) (tmps.getD i undef)

theorem TRel.put {c : C} {n : Nat} {f : Fr} {tmps : Array Value} (s : TRel c n f tmps) {i : Nat} {v : V} {x : Value} (hi : i < n) (hv : VRel c v x) : TRel c n (f.put (some i) v) (tmps.setIfInBounds i x) := by
  refine ⟨by simp [s.size], fun j => ?_⟩
  simp only [Fr.put]
  by_cases hj : j = i
  · subst hj
    have : (tmps.setIfInBounds j x).getD j undef = x := by simp [Array.getD_eq_getD_getElem?, s.size, hi]
    rw [if_pos rfl, this]; exact hv
  · have : (tmps.setIfInBounds i x).getD j undef = tmps.getD j undef := by simp [Array.getD_eq_getD_getElem?, Ne.symm hj]
    rw [if_neg hj, this]; exact s.val j

theorem TRel.all {c : C} {n : Nat} : ∀ {ps : List Tmp} {vs : List V} {xs : List Value} {f : Fr} {tmps : Array Value}, TRel c n f tmps → (ps.all fun p => decide (p < n)) = true → VList c vs xs →
    TRel c n (putAll f ps vs) ((ps.zip xs).foldl (fun tmps (t, a) => tmps.setIfInBounds t a) tmps)
  | [], vs, xs, f, tmps, s, _, _ => by simpa [putAll] using s
  | p :: ps, [], xs, f, tmps, s, _, hv => by simp only [VList] at hv; subst hv; simpa [putAll] using s
  | p :: ps, v :: vs, xs, f, tmps, s, hp, hv => by
    simp only [VList] at hv
    obtain ⟨y, ys, rfl, h1, h2⟩ := hv
    simp only [List.all_cons, Bool.and_eq_true, decide_eq_true_eq] at hp
    simp only [putAll, List.zip_cons_cons, List.foldl_cons]
    exact TRel.all (s.put hp.1 h1) hp.2 h2

theorem RF_inRound (r : Option Nat) (l : Nat) : (RF r).inRound l = RF (some l) := by cases r <;> rfl

theorem HSim.loopSet {ok : Nat → Prop} {pl : Nat → Option Nat} {w : World} (hs : HSim e ok pl h w) {id b : Nat} (hb : pl id = some b) {t : Nat → V} {n : Nat} {ps : Array Tmp} {asg body : Code} {st : LoopState} {pend : Option Code}
    (hc : h[id]? = some (.loop t n ps asg body st pend)) (st' : LoopState) (pend' : Option Code) :
    ∃ rec : Loop, w.heap[b]? = some (.loop rec) ∧ rec.state = st ∧ rec.pending = pend ∧ rec.params = ps ∧ rec.assign = asg ∧ rec.body = body ∧ TRel (cx ok pl w) n { t := t } rec.tmps ∧
      HSim e ok pl (h.set id (.loop t n ps asg body st' pend')) (w.putObj b (.loop { rec with state := st', pending := pend' })) ∧ Keeps (fun _ => false) pl w pl (w.putObj b (.loop { rec with state := st', pending := pend' })) := by
  obtain ⟨o, ho, hat⟩ := hs.obj id b hb
  rw [hc] at ho; cases ho
  obtain ⟨rec, h1, h2, h3, h4, h5, h6, h7, h8⟩ := hat
  have h1 : w.heap[b]? = some (.loop rec) := h1
  have hlt := hs.lt id b hb
  refine ⟨rec, h1, h2, h3, h4, h5, h6, ⟨h7, h8⟩, ?_⟩
  refine hs.upd hb (.loop t n ps asg body st' pend') rfl rfl rfl (by simp) (fun i hi => World.putObj_heap_other hi) (fun arr el fz hh => by rw [h1] at hh; cases hh) (fun k => ?_)
  exact ⟨{ rec with state := st', pending := pend' }, World.putObj_heap_same hlt, rfl, rfl, h4, h5, h6, h7, fun i => VRel.mono k _ _ (h8 i)⟩

theorem eff_yield {fx : Operand} {args : Array Operand} {ts : Array TypeId} (hop : o.op = .call { callee := .value fx, args := args, argTypes := ts }) {id : Nat} (hfx : (f.ev e fx).sv = .yd id)
    (hsc : callSc (f.ev e) fx args) {t : Nat → V} {n' : Nat} {ps : Array Tmp} {asg body : Code} {pend : Option Code} (hc : h[id]? = some (.loop t n' ps asg body .ready pend))
    (hl : args.size = ps.size) (hps : (ps.toList.all fun p => decide (p < n')) = true)
    (hv : ∀ l, awp e n' (some l) asg (XE.seq (beginK e n' l id body o.dst Kn f) (fun _ _ _ => False)) (putAll { t := t } ps.toList (args.toList.map fun x => (f.ev e x).sv)) h) : Eff e n r o f h Kn Q := by
  intro ok pl0 w0 pl w a s hd
  have h1 := (s.ev fx).sv hsc.1
  rw [hfx] at h1
  simp only [VRel] at h1
  obtain ⟨b, hb, hx⟩ := h1
  have hb : pl id = some b := hb
  have h5 := (VList.of_map (c := cx ok pl w) (ρ := f.ev e) (ev := a.eval) args.toList fun x hx => s.ev x).sv hsc.2
  rw [List.map_map] at h5
  obtain ⟨rec, g1, g2, g3, g4, g5, g6, g7, _⟩ := s.hs.loopSet hb hc .ready pend
  have hrun : (execOp a.eval o).run e.P w = .ok (.round b rec.fn ((rec.params.zip (args.map a.eval)).foldl (fun tmps (t, a) => tmps.setIfInBounds t a) rec.tmps) rec.assign rec.body) w := by
    have : execOp a.eval o = (do let d ← resolve a.eval { callee := .value fx, args := args, argTypes := ts } o.type; invoke d.target d.args) := by simp [execOp, hop]
    rw [this]
    have h6 : (resolve a.eval { callee := .value fx, args := args, argTypes := ts } o.type).run e.P w = .ok { target := .fn (.yield b) #[], args := args.map a.eval } w := by
      simp [resolve, hx, Deferred.ofValue]
    simp only [Sem.run_bind, h6, Result.andThen, invoke]
    exact run_yield g1 (by simp [g4, hl])
  refine ⟨fun g _ => RF_fn r g, ?_⟩
  rw [RF_round, Oper.semAt_eq r a.eval o (fun c => by rw [hop]; exact fun h => by cases h), hrun]
  refine ⟨fun hd' => (by rw [RF_depth] at hd'; cases hd'), ?_⟩
  rw [g5, g6]
  have tr := TRel.all (ps := ps.toList) g7 hps h5
  have htm : (rec.params.zip (args.map a.eval)).foldl (fun tmps (t, a) => tmps.setIfInBounds t a) rec.tmps = ((ps.toList.zip (args.toList.map a.eval)).foldl (fun tmps (t, a) => tmps.setIfInBounds t a) rec.tmps) := by
    rw [g4, ← Array.foldl_toList, Array.toList_zip, Array.toList_map]
  rw [htm]
  have s0 : SSim e n' ok pl w (putAll { t := t } ps.toList (args.toList.map fun x => (f.ev e x).sv)) h pl w { tmps := ((ps.toList.zip (args.toList.map a.eval)).foldl (fun tmps (t, a) => tmps.setIfInBounds t a) rec.tmps), defers := [] } := by
    have hk : ∀ (ps : List Tmp) (vs : List V) (f : Fr), (putAll f ps vs).k = f.k ∧ (putAll f ps vs).d = f.d := by
      intro ps
      induction ps with
      | nil => intro vs f; cases vs <;> exact ⟨rfl, rfl⟩
      | cons p ps ih => intro vs f; cases vs with
        | nil => exact ⟨rfl, rfl⟩
        | cons v vs => exact ih vs (f.put (some p) v)
    refine ⟨s.hs, ?_, tr.size, tr.val, ?_⟩
    · rw [(hk _ _ _).1]; exact Keeps.refl pl w
    · rw [(hk _ _ _).2]; rfl
  refine roundIn_of_wpIn (RF_fn r _) ?_
  rw [RF_inRound]
  refine wpIn_mono (hv b ok pl w pl w _ s0) ?_
  rintro ex a1 w1 ⟨pl1, f1, h1, xe, s1, hx1, hq1⟩
  cases xe <;> (try exact hq1.elim)
  cases ex <;> (try exact hx1.elim)
  unfold XE.seq beginK at hq1
  dsimp only at hq1
  split at hq1
  · rename_i t1 n1 ps1 asg1 body1 pend1 hc1
    obtain ⟨hk1, hbody⟩ := hq1
    have hb1 : pl1 id = some b := s1.kp.keep id b hk1 hb
    obtain ⟨rec1, g1, g2, g3, g4, g5, g6, g7, hs2, k2⟩ := s1.hs.loopSet hb1 hc1 .busy pend1
    refine ⟨_, run_beginRound g1 g2, ?_⟩
    have hrec : ({ rec1 with state := .busy } : Loop) = { rec1 with state := .busy, pending := pend1 } := by rw [← g3]
    rw [hrec]
    refine wpIn_mono (hbody ok pl w pl1 _ a1 (s1.next0 hs2 k2)) ?_
    rintro ex a2 w2 ⟨pl2, f2, h2, xe2, s2, hx2, hq2⟩
    unfold roundQ at hq2
    split at hq2
    · rename_i j t2 n2 ps2 asg2 body2 st2 pend2 hj hc2
      obtain ⟨⟨hk2, hd2⟩, hK⟩ := hq2
      have hb2 : pl2 id = some b := s2.kp.keep id b hk2 hb
      obtain ⟨rec2, g1, g2, g3, g4, g5, g6, g7, hs3, k3⟩ := s2.hs.loopSet hb2 hc2 (if j.isNone then .ready else .done) j
      have fin : ∃ v w', (Instr.endRound b j).run e.P w2 = .ok v w' ∧ NPost e n ok pl0 w0 Kn (a.put o.dst v) w' := by
        refine ⟨_, _, run_endRound j g1, pl2, _, _, ?_, hK⟩
        have s3 := s2.next0 hs3 k3
        exact (s.next s3.hs s3.kp hd2).put hd (by simp only [VRel])
      cases xe2 <;> cases ex <;> (try exact hx2.elim) <;> simp only [XE.jump, Option.some.injEq, reduceCtorEq] at hj
      case normal => subst hj; exact fin
      case ret => subst hj; exact fin
      case exit i j' => cases hx2; subst hj; exact fin
      case goto i j' => cases hx2; subst hj; exact fin
    · exact hq2.elim
  · exact hq1.elim
end
end Go.Abs
