/- Abstract values, heaps and frames over the calculus, part 28. -/
import Derived.Test.YtegnjoonhabicaaA27
set_option linter.unusedVariables false
namespace Go.Abs
open Go
section
variable {e : E} {n : Nat} {f : Fr} {h : H} {Q : XE → Fr → H → Prop}

/-- At the end of a round's body, of a loop whose record stands as L. -/
def roundG (id : Nat) (L : (Nat → V) → LoopState → Option Code → O) (S : Option Code → H → (Nat → Bool) → Prop) (xe : XE) (f2 : Fr) (h2 : H) : Prop :=
  match xe.jump with
  | some j => f2.k id = false ∧ ∃ t st, h2[id]? = some (L t st none) ∧ S j (h2.set id (L t (if j.isNone then .ready else .done) j)) f2.k
  | none => False

def beginG (e : E) (n l id : Nat) (body : Code) (L : (Nat → V) → LoopState → Option Code → O) (S : Option Code → H → (Nat → Bool) → Prop) (f1 : Fr) (h1 : H) : Prop :=
  f1.k id = false ∧ ∃ t, h1[id]? = some (L t .ready none) ∧ awp e n (some l) body (roundG id L S) f1 (h1.set id (L t .busy none))

def rangeG (id : Nat) (L : (Nat → V) → LoopState → Option Code → O) (Q : XE → Fr → H → Prop) (f1 : Fr) (ae : AEnd) (h2 : H) (p : Nat → Bool) : Prop :=
  (∀ i ∈ f1.d, p i = false) ∧ match ae with
    | .ret _ => p id = false ∧ ∃ t st c, st ≠ .busy ∧ h2[id]? = some (L t st c) ∧ jumpQ Q c (f1.drop p) (h2.set id (L t .exhausted c))
    | .pan v => Q (.pan v) (f1.drop p) h2

theorem awp_rangeG {g : Operand} {ps : Array Tmp} {asg body : Code} {q : FuncId} {first captured : List V} (hsc : (f.ev e g).sc) (hg : (f.ev e g).sv = .fn (.func q) first captured) (hen : enters e.P q = true)
    (hps : (ps.toList.all fun p => decide (p < n)) = true)
    (main : ∀ L : (Nat → V) → LoopState → Option Code → O, (∀ p t st c, (L t st c).drop p = L (fun i => (t i).drop p) st c) →
      (∀ h' vs S t, h'[h.length + 1]? = some (L t .ready none) → vs.length = ps.size →
        (∀ lb, awp e n (some lb) asg (XE.seq (beginG e n lb (h.length + 1) body L S) (fun _ _ _ => False)) (putAll { t := t } ps.toList vs) h') → Gets e (h.length + 1) vs h' S) →
      ACalls e q (first ++ [.yd (h.length + 1)] ++ captured) (h ++ [.misc .dfd] ++ [L f.t .ready none]) (rangeG (h.length + 1) L Q { f with d := h.length :: f.d })) :
    awp e n none (.rangeFunc g ps asg body) Q f h := by
  refine awp_rangeFunc hsc hg hen ?_
  refine ACalls.mono (main (fun t st c => .loop t n ps asg body st c) (fun _ _ _ _ => rfl) ?_) ?_
  · intro h' vs S t hc hsz hw
    refine ⟨t, n, ps, asg, body, none, hc, hsz, hps, fun lb => awp_mono ?_ (hw lb)⟩
    intro xe f1 h1 hq
    cases xe <;> try exact hq
    obtain ⟨h1k, t1, hc1, hb⟩ := hq
    unfold XE.seq beginS
    dsimp only
    rw [hc1]
    refine ⟨h1k, awp_mono ?_ hb⟩
    intro xe f2 h2 hq2
    unfold roundG at hq2
    unfold roundS
    split at hq2
    · rename_i j hj
      obtain ⟨h2k, t2, st2, hc2, hS⟩ := hq2
      simp only [hj, hc2]
      exact ⟨h2k, hS⟩
    · exact hq2.elim
  · rintro ae h' p ⟨hd, hr⟩
    refine ⟨hd, ?_⟩
    cases ae with
    | pan v => exact hr
    | ret v =>
      obtain ⟨hp, t, st, c, hst, hc, hQ⟩ := hr
      dsimp only
      rw [hc]
      exact ⟨⟨hp, hst⟩, hQ⟩
end
end Go.Abs
