/- Abstract values, heaps and frames over the calculus, part 24. -/
import Derived.Test.YtegnjoonhabicaaA23
set_option linter.unusedVariables false
set_option linter.unusedSimpArgs false
namespace Go.Abs
open Go.RowKit

section
variable {e : E} {n : Nat} {r : Option Nat} {f : Fr} {h : H} {Q : XE → Fr → H → Prop}
theorem vc_rangeFunc {g : Operand} {ps : Array Tmp} {asg body : Code} : vc e n r (.rangeFunc g ps asg body) Q f h = awp e n r (.rangeFunc g ps asg body) Q f h := rfl
theorem drop_k {p : Nat → Bool} : (f.drop p).k = fun i => f.k i || p i := rfl
theorem init_k {args : List V} : (Fr.init args).k = fun _ => false := rfl
end

/-! ### Values that say less -/
def VLe (v v' : V) : Prop := ∀ c x, VRel c v x → VRel c v' x
def VLes (vs vs' : List V) : Prop := ∀ c xs, VList c vs xs → VList c vs' xs
theorem VLe.refl (v : V) : VLe v v := fun _ _ h => h
theorem VLes.nil : VLes [] [] := fun _ _ h => h
theorem VLes.refl (vs : List V) : VLes vs vs := fun _ _ h => h
theorem VLes.cons {v v' : V} {vs vs' : List V} (h1 : VLe v v') (h2 : VLes vs vs') : VLes (v :: vs) (v' :: vs') := by
  intro c xs h
  simp only [VList] at h ⊢
  obtain ⟨y, ys, rfl, h3, h4⟩ := h
  exact ⟨y, ys, rfl, h1 c y h3, h2 c ys h4⟩
theorem VLe.exact {k : Nat} {es : List V} : VLe (.is true k es) (.is false k es) := by
  intro c x h
  simp only [VRel] at h ⊢
  obtain ⟨a, cp, h1, h2, h3, h4, h5⟩ := h
  exact ⟨a, cp, h1, h2, h3, fun hf => (by cases hf), h5⟩
theorem VLe.nils {x : Bool} {k : Nat} : VLe .nils (.is x k []) := by
  intro c x h
  simp only [VRel] at h ⊢
  exact ⟨none, 0, h, Nat.le_refl _, Nat.zero_le _, fun _ => rfl, .inl trivial⟩
theorem VLe.agg {vs vs' : List V} (h1 : VLes vs vs') : VLe (.agg vs) (.agg vs') := by
  intro c x h
  simp only [VRel] at h ⊢
  obtain ⟨cs, rfl, h2⟩ := h
  exact ⟨cs, rfl, h1 c _ h2⟩
theorem Ev.le {e : E} {g : FuncId} {args args' : List V} {r : V} (h : VLes args args') (hv : Ev e g args' r) : Ev e g args r :=
  fun ok w vs hs hl => hv ok w vs hs (h _ _ hl)

/-! ### Iterators, and the loops over them -/
def roundS (id : Nat) (S : Option Code → H → (Nat → Bool) → Prop) (xe : XE) (f2 : Fr) (h2 : H) : Prop :=
  match xe.jump, h2[id]? with
  | some j, some (.loop t n ps asg body st pend) => f2.k id = false ∧ S j (h2.set id (.loop t n ps asg body (if j.isNone then .ready else .done) j)) f2.k
  | _, _ => False

def beginS (e : E) (n : Nat) (l id : Nat) (body : Code) (S : Option Code → H → (Nat → Bool) → Prop) (f1 : Fr) (h1 : H) : Prop :=
  match h1[id]? with
  | some (.loop t n' ps asg body' .ready pend) => f1.k id = false ∧ awp e n (some l) body (roundS id S) f1 (h1.set id (.loop t n' ps asg body' .busy pend))
  | _ => False

/-- What a loop over a function does with what it is handed. -/
def Gets (e : E) (id : Nat) (vs : List V) (h : H) (S : Option Code → H → (Nat → Bool) → Prop) : Prop :=
  ∃ t n' ps asg body pend, h[id]? = some (.loop t n' ps asg body .ready pend) ∧ vs.length = ps.size ∧ (ps.toList.all fun p => decide (p < n')) = true ∧
    ∀ l, awp e n' (some l) asg (XE.seq (beginS e n' l id body S) (fun _ _ _ => False)) (putAll { t := t } ps.toList vs) h

section
variable {e : E} {n : Nat} {f : Fr} {h : H} {Q : XE → Fr → H → Prop}

theorem yieldK_of {n' id : Nat} {t : Nat → V} {ps : Array Tmp} {asg body : Code} {dst : Option Tmp} {Kn : Fr → H → Prop} {vs : List V} {S : Option Code → H → (Nat → Bool) → Prop}
    (hg : ∀ l, awp e n' (some l) asg (XE.seq (beginS e n' l id body S) (fun _ _ _ => False)) (putAll { t := t } ps.toList vs) h)
    (hk : ∀ j h' p, p id = false → S j h' p → (∀ i ∈ f.d, p i = false) ∧ Kn ((f.drop p).put dst (.bool j.isNone)) h') : yieldK e n' id t ps asg body dst Kn f vs h := by
  intro l
  refine awp_mono ?_ (hg l)
  intro xe f1 h1 hq
  cases xe <;> try exact hq
  unfold XE.seq beginS at hq
  unfold XE.seq beginK
  dsimp only at hq ⊢
  split at hq
  · rename_i t1 n1 ps1 asg1 body1 pend1 hc
    rw [hc]
    refine ⟨hq.1, awp_mono ?_ hq.2⟩
    intro xe f2 h2 hq2
    unfold roundS at hq2
    unfold roundQ
    split at hq2
    · rename_i j t2 n2 ps2 asg2 body2 st2 pend2 hj hc2
      rw [hj, hc2]
      dsimp only
      obtain ⟨g1, g2⟩ := hk j _ _ hq2.1 hq2.2
      exact ⟨⟨hq2.1, g1⟩, g2⟩
    · exact hq2.elim
  · exact hq.elim

/-- A function that hands on these, one after another, as long as it is told to go on. -/
def Iter (e : E) (q : FuncId) (first captured : List V) (items : List (List V)) : Prop :=
  ∀ (id : Nat) (h : H) (I : Nat → H → (Nat → Bool) → Prop) (Stop : Option Code → H → (Nat → Bool) → Prop), I 0 h (fun _ => false) →
    (∀ i h' k (hi : i < items.length), k id = false → I i h' k → Gets e id items[i] h' fun j h'' p => match j with
      | none => I (i + 1) h'' (fun i => k i || p i)
      | some c => Stop (some c) h'' (fun i => k i || p i)) →
    ACalls e q (first ++ [.yd id] ++ captured) h fun ae h' p => p id = false ∧ match ae with
      | .ret _ => I items.length h' p ∨ ∃ c, Stop (some c) h' p
      | .pan _ => False

theorem O.loop_drop {p : Nat → Bool} {t : Nat → V} {n : Nat} {ps : Array Tmp} {asg body : Code} {st : LoopState} {pend : Option Code} :
    (O.loop t n ps asg body st pend).drop p = .loop (fun i => (t i).drop p) n ps asg body st pend := rfl

/-- Where a round's body begins, of a loop whose record stands as L. -/
def roundB (e : E) (n l id : Nat) (body : Code) (L : (Nat → V) → LoopState → O) (In : H → (Nat → Bool) → Prop) (f1 : Fr) (h1 : H) : Prop :=
  f1.k id = false ∧ ∃ t, h1[id]? = some (L t .ready) ∧ awp e n (some l) body (fun xe f2 h2 => match xe with
    | .normal => f2.k id = false ∧ ∃ t, h2[id]? = some (L t .busy) ∧ In (h2.set id (L t .ready)) f2.k
    | _ => False) f1 (h1.set id (L t .busy))

/-- A loop over an iterator; no round leaves it. -/
theorem awp_range {g : Operand} {ps : Array Tmp} {asg body : Code} {q : FuncId} {first captured : List V} {items : List (List V)} (hsc : (f.ev e g).sc) (hg : (f.ev e g).sv = .fn (.func q) first captured) (hen : enters e.P q = true)
    (hit : Iter e q first captured items) (hsz : ∀ v ∈ items, v.length = ps.size) (hps : (ps.toList.all fun p => decide (p < n)) = true)
    (I : ((Nat → V) → LoopState → O) → Nat → H → (Nat → Bool) → Prop)
    (start : ∀ L, I L 0 (h ++ [.misc .dfd] ++ [L f.t .ready]) (fun _ => false))
    (step : ∀ L l i h' k (hi : i < items.length), (∀ p t st, (L t st).drop p = L (fun i => (t i).drop p) st) → k (h.length + 1) = false → I L i h' k →
      ∃ t, h'[h.length + 1]? = some (L t .ready) ∧ awp e n (some l) asg (XE.seq (roundB e n l (h.length + 1) body L fun h'' p => I L (i + 1) h'' (fun i => k i || p i)) (fun _ _ _ => False)) (putAll { t := t } ps.toList items[i]) h')
    (fin : ∀ L h' k, k (h.length + 1) = false → I L items.length h' k → ∃ t, h'[h.length + 1]? = some (L t .ready) ∧ (∀ i ∈ h.length :: f.d, k i = false) ∧ Q .normal (({ f with d := h.length :: f.d } : Fr).drop k) (h'.set (h.length + 1) (L t .exhausted))) :
    awp e n none (.rangeFunc g ps asg body) Q f h := by
  refine awp_rangeFunc hsc hg hen ?_
  refine ACalls.mono (hit (h.length + 1) _ (I (fun t st => .loop t n ps asg body st none)) (fun _ _ _ => False) (start (fun t st => .loop t n ps asg body st none)) ?_) ?_
  · intro i h' k hi hk hI
    obtain ⟨t, hc, _⟩ := step (fun t st => .loop t n ps asg body st none) 0 i h' k hi (fun _ _ _ => rfl) hk hI
    refine ⟨t, n, ps, asg, body, none, hc, hsz _ (List.getElem_mem hi), hps, fun l => ?_⟩
    obtain ⟨t', hc', hw2⟩ := step (fun t st => .loop t n ps asg body st none) l i h' k hi (fun _ _ _ => rfl) hk hI
    have : t' = t := by rw [hc] at hc'; simpa using hc'.symm
    subst this
    refine awp_mono ?_ hw2
    intro xe f1 h1 hq
    cases xe <;> try exact hq
    obtain ⟨h1k, t1, hc1, hb⟩ := hq
    unfold XE.seq beginS
    dsimp only
    rw [hc1]
    refine ⟨h1k, awp_mono ?_ hb⟩
    intro xe f2 h2 hq2
    cases xe <;> try exact hq2.elim
    obtain ⟨h2k, t2, hc2, hI2⟩ := hq2
    unfold roundS
    simp only [XE.jump, hc2]
    exact ⟨h2k, hI2⟩
  · rintro ae h' p ⟨hp, hr⟩
    cases ae with
    | pan v => exact hr.elim
    | ret v =>
      rcases hr with hI | ⟨c, hf⟩
      · obtain ⟨t, hc, hd, hQ⟩ := fin _ h' p hp hI
        refine ⟨hd, ?_⟩
        dsimp only
        rw [hc]
        exact ⟨⟨hp, by simp⟩, hQ⟩
      · exact hf.elim
end
end Go.Abs
