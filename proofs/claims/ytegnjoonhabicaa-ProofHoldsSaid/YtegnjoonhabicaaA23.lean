/- Abstract values, heaps and frames over the calculus, part 23. -/
import Derived.Test.YtegnjoonhabicaaA22
set_option linter.unusedVariables false
set_option linter.unusedSimpArgs false
namespace Go.Abs
open Go.RowKit

/-! ### Regions that draw their order and turn the heap: a plan of the orders -/
def isPure (P : Program) : Op → Bool
  | .move _ | .assign _ => true
  | .fieldAddr s _ f => match P.underlying s with
    | some (.struct fs) => match fs[f]? with
      | some fd => match P.info? fd.type with
        | some i => i.size != 0
        | none => false
      | none => false
    | _ => false
  | _ => false

theorem pure_run {P : Program} {o : Oper} (hp : isPure P o.op = true) (ev : Operand → Value) {w : World} {x : Value} (h : (execOp ev o).run P w = .ok (.value x) w) (w' : World) :
    (execOp ev o).run P w' = .ok (.value x) w' := by
  cases hop : o.op <;> rw [hop] at hp <;> simp only [isPure, Bool.false_eq_true] at hp
  case move y =>
    have e1 : execOp ev o = pure (Next.value (ev y)) := by simp [execOp, hop]
    rw [e1] at h ⊢
    simp only [Sem.run_pure, Result.ok.injEq, Next.value.injEq, and_true] at h ⊢
    exact h
  case assign y =>
    have e1 : execOp ev o = pure (Next.value (ev y)) := by simp [execOp, hop]
    rw [e1] at h ⊢
    simp only [Sem.run_pure, Result.ok.injEq, Next.value.injEq, and_true] at h ⊢
    exact h
  case fieldAddr s y f =>
    have e1 : execOp ev o = (do pure (Next.value (← Instr.fieldAt s (ev y) f))) := by simp [execOp, hop]
    rw [e1] at h ⊢
    revert h
    split at hp
    · rename_i fs hu
      split at hp
      · rename_i fd hf
        split at hp
        · rename_i i hi
          have hsz : ¬ i.size = 0 := by simpa using hp
          unfold Instr.fieldAt underlying
          simp only [Sem.run_bind, run_program, Result.andThen, hu, Sem.run_pure, hf]
          cases ev y <;> simp [Instr.sureAddr, Result.andThen, stuck]
          rename_i a
          cases a <;> simp [Instr.sureAddr, Result.andThen, stuck, fieldPlace, sizeOf, typeInfo, hi, hsz]
        · cases hp
      · cases hp
    · cases hp

theorem pure_plain {P : Program} {o : Oper} (hp : isPure P o.op = true) : (∀ c, o.op ≠ .call c) ∧ (∀ c, o.op ≠ .defer c) ∧ ∀ cs b, o.op ≠ .select cs b := by
  cases hop : o.op <;> rw [hop] at hp <;> simp [isPure] at hp ⊢

theorem pure_about {P : Program} {o : Oper} (hp : isPure P o.op = true) (w : World) (ρ : Operand → Value) : o.about P w ρ = none := by
  unfold Oper.about
  cases hop : o.op <;> rw [hop] at hp <;> first | rfl | simp [isPure] at hp

/-- Nothing in the region is deferred, and no channel is waited for. -/
def plainOps (ops : Array Oper) : Bool := ops.toList.all fun o => match o.op with | .defer _ | .select _ _ => false | _ => true

theorem plainOps_spec {ops : Array Oper} (h : plainOps ops = true) {j : Nat} {o : Oper} (hj : ops[j]? = some o) : (∀ c, o.op ≠ .defer c) ∧ ∀ cs b, o.op ≠ .select cs b := by
  have : o ∈ ops.toList := by
    rw [Array.mem_toList_iff]
    exact Array.mem_of_getElem? hj
  have := (List.all_eq_true.1 h) o this
  cases hop : o.op <;> rw [hop] at this <;> simp at this ⊢

section
variable {e : E} {n : Nat} {r : Option Nat} {ops : Array Oper} {md : Region.Mode} {Q : Exit → Act → World → Prop} {P : Program}

theorem yields_wpOpIn {i : Nat} {o : Oper} {v : Value} {a : Act} (hp : isPure P o.op = true) (hi : ops[i]? = some o) (hy : Yields P ops o v a) {K : Act → World → Prop} {w : World} (h : K (a.put o.dst v) w) :
    wpOpIn (RF r) 0 P ops Q i K a w := by
  unfold Go.wpOpIn
  simp only [hi]
  rcases hy with ⟨hw, hv⟩ | ⟨hw, rfl⟩
  · rw [if_pos hw]
    refine ⟨fun g _ => RF_fn r g, ?_⟩
    rw [RF_round, Oper.semAt_eq r a.eval o (pure_plain hp).2.1, hv w]
    exact h
  · rw [if_neg (by rw [hw]; simp)]
    exact ⟨fun g _ => RF_fn r g, h⟩

theorem wpOpIn_put' {j : Nat} {oi oj : Oper} {v : Value} (hj : ops[j]? = some oj) (hap : oi.apart ops oj = true)
    (hsi : ∀ cs b, oi.op ≠ .select cs b) (hsj : ∀ cs b, oj.op ≠ .select cs b) (hdj : ∀ c, oj.op ≠ .defer c)
    (hQ : ∀ c a w, Q (.panic c) (a.put oi.dst v) w → Q (.panic c) a w) {K : Act → World → Prop} {a : Act} {w : World}
    (hy : Yields P ops oi v a) (h : wpOpIn (RF r) 0 P ops Q j K (a.put oi.dst v) w) :
    wpOpIn (RF r) 0 P ops Q j (fun a' w' => Yields P ops oi v a' ∧ K (a'.put oi.dst v) w') a w := by
  obtain ⟨h1, h2, h3⟩ := Oper.apart_spec hap
  have keep : ∀ (a : Act), Yields P ops oi v a → ∀ u, Yields P ops oi v (a.put oj.dst u) := fun a hy u =>
    hy.of_same (execOp_put oi hsi a oj.dst u h3) (wanted_put oi a oj.dst u h3)
  have keepD : ∀ d, Yields P ops oi v { a with defers := d :: a.defers } := fun d => hy.of_same rfl rfl
  unfold wpOpIn at *
  simp only [hj] at *
  rw [wanted_put oj a oi.dst v h1] at h
  split
  · rename_i hw
    simp only [hw, if_true] at h
    unfold Oper.wpIn at *
    refine ⟨fun g _ => RF_fn r g, ?_⟩
    have h := h.2
    rw [RF_round, Oper.semAt_eq r _ oj hdj, execOp_put oj hsj a oi.dst v h1] at h
    rw [RF_round, Oper.semAt_eq r _ oj hdj]
    generalize (execOp a.eval oj).run P w = rr at *
    cases rr with
    | ok x w' =>
      cases x <;> simp only [Oper.uponIn] at h ⊢
      case value u => exact ⟨keep a hy u, by rw [← Act.put_comm a v u h2]; exact h⟩
      case skip => exact ⟨keep a hy _, by rw [← Act.put_comm a v undef h2]; exact h⟩
      case defer d =>
        refine ⟨keep _ (keepD d) _, ?_⟩
        rw [← Act.put_comm _ v undef h2, ← Act.put_defers]
        exact h
      case enter f args =>
        refine ⟨h.1, CallsIn.mono h.2 fun e w'' he => ?_⟩
        cases e with
        | returned u => exact ⟨keep a hy u, by rw [← Act.put_comm a v u h2]; exact he⟩
        | panicked c => exact hQ _ _ _ he
        | outgrown => exact he
      case row row args => exact ⟨h.1, RowsIn.mono h.2 fun u w'' he => ⟨keep a hy u, by rw [← Act.put_comm a v u h2]; exact he⟩⟩
      case round l f tmps assign body =>
        refine ⟨h.1, RoundIn.mono h.2 fun e w'' he => ?_⟩
        cases e with
        | returned u => exact ⟨keep a hy u, by rw [← Act.put_comm a v u h2]; exact he⟩
        | panicked c => exact hQ _ _ _ he
        | outgrown => exact he
    | halt x w' =>
      cases x <;> simp only [Oper.uponIn] at h ⊢
      case panic u => exact hQ _ _ _ h
  · rename_i hw
    simp only [hw] at h
    exact ⟨fun g _ => RF_fn r g, keep a hy _, by rw [← Act.put_comm a v undef h2]; exact h.2⟩

theorem wpAnyIn_first' {i : Nat} {oi : Oper} {v : Value} (hp : isPure P oi.op = true) (hi : ops[i]? = some oi) (hpl : plainOps ops = true)
    (hQ : ∀ c a w, Q (.panic c) (a.put oi.dst v) w → Q (.panic c) a w) :
    ∀ (fuel : Nat) (listed : Array Bool) (a : Act) (w : World),
      (∀ j oj, ops[j]? = some oj → j ≠ i → listed.getD j true = false → (∀ e ∈ oj.after, Region.binds md e = true → e.on ≠ i) → oi.apart ops oj = true) →
      i ∈ Region.ready md ops listed → Yields P ops oi v a →
      wpAnyIn (RF r) 0 P md ops Q fuel (listed.setIfInBounds i true) (a.put oi.dst v) w → wpAnyIn (RF r) 0 P md ops Q (fuel + 1) listed a w := by
  intro fuel
  induction fuel with
  | zero =>
    intro listed a w _ hr hy H
    refine ⟨fun h => (by rw [h] at hr; cases hr), fun j hj => ?_⟩
    by_cases hji : j = i
    · subst hji; exact yields_wpOpIn hp hi hy H
    · have := ready_mono hj hji
      rw [H.1] at this
      cases this
  | succ fuel ih =>
    intro listed a w hfree hr hy H
    refine ⟨fun h => (by rw [h] at hr; cases hr), fun j hj => ?_⟩
    by_cases hji : j = i
    · subst hji; exact yields_wpOpIn hp hi hy H
    · have h1 := H.2 j (ready_mono hj hji)
      obtain ⟨hjun, oj, hoj, hall⟩ := mem_ready.1 hj
      have hnot : ∀ e ∈ oj.after, Region.binds md e = true → e.on ≠ i := fun e he hb heq => by
        have h1 := hall e he hb
        have h0 := (mem_ready.1 hr).1
        rw [heq] at h1
        rcases Nat.lt_or_ge i listed.size with h' | h'
        · simp [h'] at h0 h1; rw [h0] at h1; cases h1
        · simp [Array.getElem?_eq_none h'] at h1
      have h2 := wpOpIn_put' hoj (hfree j oj hoj hji hjun hnot) (plainOps_spec hpl hi).2 (plainOps_spec hpl hoj).2 (plainOps_spec hpl hoj).1 hQ hy h1
      have hfree' : ∀ k ok, ops[k]? = some ok → k ≠ i → (listed.setIfInBounds j true).getD k true = false →
          (∀ e ∈ ok.after, Region.binds md e = true → e.on ≠ i) → oi.apart ops ok = true := fun k ok hk hki hun hno => by
        refine hfree k ok hk hki ?_ hno
        by_cases hjk : j = k
        · subst hjk; exact hjun
        · rw [getD_set_ne true hjk] at hun; exact hun
      refine wpOpIn_mono (fun a' w' h3 => ih (listed.setIfInBounds j true) a' w' hfree' (ready_mono hr (Ne.symm hji)) h3.1 ?_) h2
      rw [Array.setIfInBounds_comm _ _ hji]
      exact h3.2
end

/-- A plan: which operation is taken first, or which may come up now. -/
inductive Plan where
  | fin
  | take (i : Nat) (p : Plan)
  | one (i : Nat) (p : Plan)
  | alt (i : Nat) (p : Plan) (q : Plan)

/-- The operations that the alternatives begin with. -/
def Plan.heads : Plan → List Nat
  | .one i _ => [i]
  | .alt i _ q => i :: q.heads
  | _ => []

/-- Does the plan speak of all the orders? -/
def planOk (P : Program) (ops : Array Oper) : Plan → Nat → Array Bool → Bool
  | .fin, _, listed => (Region.ready .any ops listed).isEmpty
  | .take i p, fuel, listed => match fuel, ops[i]? with
    | fuel + 1, some o => isPure P o.op && (Region.ready .any ops listed).contains i && Region.free .any ops listed i && planOk P ops p fuel (listed.setIfInBounds i true)
    | _, _ => false
  | .one i p, fuel, listed => match fuel with
    | fuel + 1 => (Region.ready .any ops listed == [i]) && planOk P ops p fuel (listed.setIfInBounds i true)
    | _ => false
  | .alt i p q, fuel, listed => match fuel with
    | fuel + 1 => (Region.ready .any ops listed == i :: q.heads) && planOk P ops p fuel (listed.setIfInBounds i true) && planAlts P ops q fuel listed
    | _ => false
where planAlts (P : Program) (ops : Array Oper) : Plan → Nat → Array Bool → Bool
  | .one i p, fuel, listed => planOk P ops p fuel (listed.setIfInBounds i true)
  | .alt i p q, fuel, listed => planOk P ops p fuel (listed.setIfInBounds i true) && planAlts P ops q fuel listed
  | _, _, _ => false

/-- One operation, and what follows. -/
def vcOp (e : E) (n : Nat) (ops : Array Oper) (i : Nat) (Kn : Fr → H → Prop) (Q : XE → Fr → H → Prop) (f : Fr) (h : H) : Prop :=
  match ops[i]? with
  | some o => match gd ops f o with
    | none => False
    | some g => dstOk n o.dst = true ∧
      match isEff o.op with
      | true => effG g e n o Kn Q f h
      | false => PV.go g (pvOp e.P o (f.ev e) h) o.dst Kn f h
  | none => False

def vcPlan (e : E) (n : Nat) (ops : Array Oper) (Q : XE → Fr → H → Prop) : Plan → Fr → H → Prop
  | .fin, f, h => Q .normal f h
  | .take i p, f, h => vcOp e n ops i (vcPlan e n ops Q p) Q f h
  | .one i p, f, h => vcOp e n ops i (vcPlan e n ops Q p) Q f h
  | .alt i p q, f, h => vcOp e n ops i (vcPlan e n ops Q p) Q f h ∧ vcPlan e n ops Q q f h

section
variable {e : E} {n : Nat} {r : Option Nat} {ops : Array Oper} {Q : XE → Fr → H → Prop} {ok : Nat → Prop} {pl0 : Nat → Option Nat} {w0 : World}

theorem vcOp_ok {i : Nat} {Kn : Fr → H → Prop} {f : Fr} {h : H} (hv : vcOp e n ops i Kn Q f h) {K' : Act → World → Prop}
    (hk : ∀ f h pl w a, SSim e n ok pl0 w0 f h pl w a → Kn f h → K' a w) {pl : Nat → Option Nat} {w : World} {a : Act} (s : SSim e n ok pl0 w0 f h pl w a) :
    wpOpIn (RF r) 0 e.P ops (APost e n ok pl0 w0 Q) i K' a w := by
  unfold vcOp at hv
  unfold wpOpIn
  split at hv
  · rename_i o ho
    simp only [ho]
    cases hg : gd ops f o with
    | none => rw [hg] at hv; exact hv.elim
    | some g =>
      rw [hg] at hv
      obtain ⟨hd, hv⟩ := hv
      have hw := gd_ok s.val hg
      have nx : ∀ a' w', NPost e n ok pl0 w0 Kn a' w' → K' a' w' := fun a' w' ⟨pl', f', h', s', hk'⟩ => hk _ _ _ _ _ s' hk'
      cases he : isEff o.op with
      | true =>
        rw [he] at hv
        dsimp only at hv
        cases g with
        | true =>
          rw [if_pos hw]
          exact Oper.wpIn_mono nx (vcEff_ok (r := r) (hv.1 rfl) ok pl0 w0 pl w a s hd)
        | false =>
          rw [if_neg (by rw [hw]; simp)]
          obtain ⟨v, hv'⟩ := hv.2 rfl
          exact ⟨fun g _ => RF_fn r g, hk _ _ _ _ _ (s.put hd (guard_rel (g := false) (v := v) (fun hf => by cases hf) (fun _ => rfl))) hv'⟩
      | false =>
        rw [he] at hv
        dsimp only at hv
        obtain ⟨hc, hk'⟩ := hv
        cases g with
        | true =>
          rw [if_pos hw]
          exact Oper.wpIn_mono nx (Eff.of_AQ (K := Kn) (pvOp_ok (hc rfl)) hk' ok pl0 w0 pl w a s hd)
        | false =>
          rw [if_neg (by rw [hw]; simp)]
          exact ⟨fun g _ => RF_fn r g, hk _ _ _ _ _ (s.put hd (guard_rel (fun hf => by cases hf) (fun _ => rfl))) hk'⟩
  · exact hv.elim

theorem pure_yields {i : Nat} {o : Oper} (ho : ops[i]? = some o) (hp : isPure e.P o.op = true) {Kn : Fr → H → Prop} {f : Fr} {h : H} (hv : vcOp e n ops i Kn Q f h) {pl : Nat → Option Nat} {w : World} {a : Act} (s : SSim e n ok pl0 w0 f h pl w a) :
    ∃ x f', Yields e.P ops o x a ∧ SSim e n ok pl0 w0 f' h pl w (a.put o.dst x) ∧ Kn f' h := by
  unfold vcOp at hv
  rw [ho] at hv
  dsimp only at hv
  cases hg : gd ops f o with
  | none => rw [hg] at hv; exact hv.elim
  | some g =>
    rw [hg] at hv
    obtain ⟨hd, hv⟩ := hv
    have hw := gd_ok s.val hg
    have he : isEff o.op = false := by cases hop : o.op <;> rw [hop] at hp <;> simp [isPure, isEff] at hp ⊢
    rw [he] at hv
    dsimp only at hv
    obtain ⟨hc, hk'⟩ := hv
    cases g with
    | true =>
      have := pvOp_ok (e := e) (hc rfl) ok pl w a.eval s.hs s.evs
      have hrun : ∃ x, (execOp a.eval o).run e.P w = .ok (.value x) w ∧ VRel (cx ok pl w) (pvOp e.P o (f.ev e) h).2 x := by
        revert this
        cases hop : o.op <;> rw [hop] at hp <;> simp only [isPure, Bool.false_eq_true] at hp
        case move y =>
          have e1 : execOp a.eval o = pure (Next.value (a.eval y)) := by simp [execOp, hop]
          rw [e1]
          rintro ⟨_, hv⟩
          exact ⟨_, rfl, hv⟩
        case assign y =>
          have e1 : execOp a.eval o = pure (Next.value (a.eval y)) := by simp [execOp, hop]
          rw [e1]
          rintro ⟨_, hv⟩
          exact ⟨_, rfl, hv⟩
        case fieldAddr st y fi =>
          intro this
          have hq : (pvOp e.P o (f.ev e) h).1 := hc rfl
          simp only [pvOp, hop, PV.and] at hq ⊢
          have h1 := (s.ev y).sv hq.1
          obtain ⟨x, hx1, hx2⟩ := pvFieldAddr_ok (P := e.P) (t := st) (f := fi) h1 hq.2
          have e1 : execOp a.eval o = (do pure (Next.value (← Instr.fieldAt st (a.eval y) fi))) := by simp [execOp, hop]
          exact ⟨x, by rw [e1]; exact run_v hx1, hx2⟩
      obtain ⟨x, hx1, hx2⟩ := hrun
      exact ⟨x, _, .inl ⟨hw, pure_run hp a.eval hx1⟩, s.put hd hx2, hk'⟩
    | false => exact ⟨undef, _, .inr ⟨hw, rfl⟩, s.put hd (guard_rel (fun hf => by cases hf) (fun _ => rfl)), hk'⟩

theorem vcPlan_ok (hQ : ∀ v f h, ¬ Q (.pan v) f h) (hpl : plainOps ops = true) : ∀ (p : Plan),
    (∀ (fuel : Nat) (listed : Array Bool) (f : Fr) (h : H), planOk e.P ops p fuel listed = true → vcPlan e n ops Q p f h → ∀ pl w a, SSim e n ok pl0 w0 f h pl w a → wpAnyIn (RF r) 0 e.P .any ops (APost e n ok pl0 w0 Q) fuel listed a w) ∧
    (∀ (fuel : Nat) (listed : Array Bool) (f : Fr) (h : H), planOk.planAlts e.P ops p fuel listed = true → vcPlan e n ops Q p f h → ∀ pl w a, SSim e n ok pl0 w0 f h pl w a →
      ∀ i ∈ p.heads, wpOpIn (RF r) 0 e.P ops (APost e n ok pl0 w0 Q) i (wpAnyIn (RF r) 0 e.P .any ops (APost e n ok pl0 w0 Q) fuel (listed.setIfInBounds i true)) a w)
  | .fin => by
    refine ⟨fun fuel listed f h hp hv pl w a s => ?_, fun fuel listed f h hp hv pl w a s i hi => (by simp [Plan.heads] at hi)⟩
    simp only [planOk, List.isEmpty_iff] at hp
    exact wpAnyIn_done hp ⟨pl, f, h, .normal, s, trivial, hv⟩ fuel
  | .take i p => by
    refine ⟨fun fuel listed f h hp hv pl w a s => ?_, fun fuel listed f h hp hv pl w a s i hi => (by simp [Plan.heads] at hi)⟩
    simp only [planOk] at hp
    split at hp
    · rename_i fuel o ho
      simp only [Bool.and_eq_true] at hp
      obtain ⟨⟨⟨h1, h2⟩, h3⟩, h4⟩ := hp
      obtain ⟨x, f', hy, s', hk⟩ := pure_yields ho h1 hv s
      refine wpAnyIn_first' h1 ho hpl ?_ fuel listed a w (Region.free_spec ho h3) (by simpa using h2) hy ((vcPlan_ok hQ hpl p).1 fuel _ f' h h4 hk pl w _ s')
      rintro c a w ⟨pl', f', h', xe, _, hx, hq⟩
      cases xe <;> first | exact hx.elim | exact (hQ _ _ _ hq).elim
    · cases hp
  | .one i p => by
    refine ⟨fun fuel listed f h hp hv pl w a s => ?_, fun fuel listed f h hp hv pl w a s j hj => ?_⟩
    · simp only [planOk] at hp
      split at hp
      · rename_i fuel
        simp only [Bool.and_eq_true, beq_iff_eq] at hp
        refine ⟨fun h0 => (by rw [hp.1] at h0; cases h0), fun j hj => ?_⟩
        rw [hp.1] at hj
        simp only [List.mem_singleton] at hj
        subst hj
        exact vcOp_ok hv (fun f h pl w a s hk => (vcPlan_ok hQ hpl p).1 fuel _ f h hp.2 hk pl w a s) s
      · cases hp
    · simp only [planOk.planAlts] at hp
      simp only [Plan.heads, List.mem_singleton] at hj
      subst hj
      exact vcOp_ok hv (fun f h pl w a s hk => (vcPlan_ok hQ hpl p).1 fuel _ f h hp hk pl w a s) s
  | .alt i p q => by
    refine ⟨fun fuel listed f h hp hv pl w a s => ?_, fun fuel listed f h hp hv pl w a s j hj => ?_⟩
    · simp only [planOk] at hp
      split at hp
      · rename_i fuel
        simp only [Bool.and_eq_true, beq_iff_eq] at hp
        obtain ⟨⟨h1, h2⟩, h3⟩ := hp
        refine ⟨fun h0 => (by rw [h1] at h0; cases h0), fun j hj => ?_⟩
        rw [h1] at hj
        rcases List.mem_cons.1 hj with rfl | hj
        · exact vcOp_ok hv.1 (fun f h pl w a s hk => (vcPlan_ok hQ hpl p).1 fuel _ f h h2 hk pl w a s) s
        · exact (vcPlan_ok hQ hpl q).2 fuel listed f h h3 hv.2 pl w a s j hj
      · cases hp
    · simp only [planOk.planAlts, Bool.and_eq_true] at hp
      rcases List.mem_cons.1 hj with rfl | hj
      · exact vcOp_ok hv.1 (fun f h pl w a s hk => (vcPlan_ok hQ hpl p).1 fuel _ f h hp.1 hk pl w a s) s
      · exact (vcPlan_ok hQ hpl q).2 fuel listed f h hp.2 hv.2 pl w a s j hj

/-- Such a region, by a plan; what is behind it is told once. -/
def onlyN (R : Fr → H → Prop) : XE → Fr → H → Prop
  | .normal => R
  | _ => fun _ _ => False

theorem awp_plan (hm : e.P.follows .mixedOrders = true) {id : Nat} (p : Plan) (R : Fr → H → Prop) {f : Fr} {h : H} (hp : planOk e.P ops p ops.size (Array.replicate ops.size false) = true) (hpl : plainOps ops = true)
    (hv : vcPlan e n ops (onlyN R) p f h) (hk : ∀ f h, R f h → Q .normal f h) : awp e n r (.region id ops true) Q f h := by
  intro ok pl0 w0 pl w a s
  have x : WExt w { w with drawn := w.drawn + 1 } := WExt.drew w
  have := (vcPlan_ok (e := e) (n := n) (r := r) (ops := ops) (Q := onlyN R) (ok := ok) (pl0 := pl0) (w0 := w0) (fun v f h hh => hh) hpl p).1 ops.size _ f h hp hv pl _ a (s.next0 (s.hs.wext x) (x.keeps s.hs))
  refine wpIn_mono (wpIn_region_any hm this) ?_
  rintro ex a' w' ⟨pl', f', h', xe, s', hx, hq⟩
  cases xe <;> first
    | exact ⟨pl', f', h', _, s', hx, hk _ _ hq⟩
    | exact hq.elim

theorem vcNext.mk {b : Bool} {l : List UInt8} {pos id : Nat} {dst : Option Tmp} {Kn : Fr → H → Prop} {f : Fr} {h : H} (h1 : b = true → vcNext true l pos id dst Kn f h) (h2 : b = false → vcNext false l pos id dst Kn f h) : vcNext b l pos id dst Kn f h := by
  cases b
  · exact h2 rfl
  · exact h1 rfl
theorem O.drop_cells {p : Nat → Bool} {cs : List V} : (O.cells cs).drop p = .cells (V.drops p cs) := rfl
theorem O.drop_map {p : Nat → Bool} {ks vs : List V} : (O.map ks vs).drop p = .map (V.drops p ks) (V.drops p vs) := rfl
theorem O.drop_misc {p : Nat → Bool} {m : Misc} : (O.misc m).drop p = .misc m := rfl
theorem O.drop_dead {p : Nat → Bool} : O.dead.drop p = .dead := rfl
theorem V.guard_false (v : V) : V.guard false v = .grd false v := rfl
theorem V.guard_gval2 (g g' b want : Bool) : gval (V.guard g (V.guard g' (.bool b))) want = some (g && g' && (b == want)) := by
  cases g <;> cases g' <;> cases want <;> cases b <;> rfl
theorem V.guard_gval3 (g g' g'' b want : Bool) : gval (V.guard g (V.guard g' (V.guard g'' (.bool b)))) want = some (g && g' && g'' && (b == want)) := by
  cases g <;> cases g' <;> cases g'' <;> cases want <;> cases b <;> rfl
theorem drop_t {f : Fr} {p : Nat → Bool} {i : Nat} : (f.drop p).t i = (f.t i).drop p := rfl
theorem drop_d {f : Fr} {p : Nat → Bool} : (f.drop p).d = f.d := rfl
theorem drops_strs {p : Nat → Bool} {l : List (List UInt8)} : V.drops p (l.map V.str) = l.map V.str := by
  induction l with
  | nil => rfl
  | cons a l ih => simp only [List.map_cons, V.drops, V.drop, ih]
theorem allOne_strs {l : List (List UInt8)} : allOne (l.map V.str) = true := by
  induction l with
  | nil => rfl
  | cons a l ih => simp only [List.map_cons, allOne, ih, V.one, Bool.and_self]
theorem allFit_strs {l : List (List UInt8)} : allFit 1 (l.map V.str) = true := by
  induction l with
  | nil => rfl
  | cons a l ih => simp [allFit, ih, V.fit, V.one, V.dat, V.vc]
theorem flat_strs {l : List (List UInt8)} : (l.map V.str).flatMap V.vc = l.map V.str := by
  induction l with
  | nil => rfl
  | cons a l ih => simp only [List.map_cons, List.flatMap_cons, ih, V.vc, List.singleton_append]
theorem dats_strs {l : List (List UInt8)} : V.dats (l.map V.str) = true := by
  induction l with
  | nil => rfl
  | cons a l ih => simp only [List.map_cons, V.dats, ih, V.dat, Bool.and_self]
theorem Reif.ls_strs {h : H} {id len cap : Nat} {l : List (List UInt8)} (hc : h[id]? = some (.cells (l.map V.str))) (hl : len = l.length) : Reif e h (.ls id 1 0 len cap) (.is false 1 (l.map V.str)) :=
  Reif.ls hc (Reifs.dat dats_strs) allFit_strs flat_strs (by simpa using hl)

theorem vcOp_mk {i : Nat} {Kn : Fr → H → Prop} {f : Fr} {h : H} : vcOp e n ops i Kn Q f h = (match ops[i]? with
  | some o => match gd ops f o with
    | none => False
    | some g => dstOk n o.dst = true ∧
      match isEff o.op with
      | true => effG g e n o Kn Q f h
      | false => PV.go g (pvOp e.P o (f.ev e) h) o.dst Kn f h
  | none => False) := rfl
theorem vcPlan_fin {f : Fr} {h : H} : vcPlan e n ops Q .fin f h = Q .normal f h := rfl
theorem vcPlan_take {i : Nat} {p : Plan} {f : Fr} {h : H} : vcPlan e n ops Q (.take i p) f h = vcOp e n ops i (vcPlan e n ops Q p) Q f h := rfl
theorem vcPlan_one {i : Nat} {p : Plan} {f : Fr} {h : H} : vcPlan e n ops Q (.one i p) f h = vcOp e n ops i (vcPlan e n ops Q p) Q f h := rfl
theorem vcPlan_alt {i : Nat} {p q : Plan} {f : Fr} {h : H} : vcPlan e n ops Q (.alt i p q) f h = (vcOp e n ops i (vcPlan e n ops Q p) Q f h ∧ vcPlan e n ops Q q f h) := rfl
end
end Go.Abs
