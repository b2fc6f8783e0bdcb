/- Abstract values, heaps and frames over the calculus, part 9. -/
import Derived.Test.YtbikgbnhngmohaaDoorA8
import Derived.ProofKit
import Derived.SizedLaws
import Derived.JoinedCond
set_option linter.unusedVariables false
namespace Go.Abs
open Go
section
variable {e : E} {n : Nat} {f : Fr} {h : H} {Q : XE → Fr → H → Prop}

/-- At the end of a round's body, of a loop whose record stands as L. -/
def roundG (id : Nat) (L : (Nat → V) → LoopState → Option Code → O) (S : Option Code → H → (Nat → Bool) → Prop) (xe : XE) (f2 : Fr) (h2 : H) : Prop :=
  match xe.jump with
  | some j => f2.k id = false ∧ ∃ t st, h2[id]? = some (L t st none) ∧ S j (h2.set id (L t (if j.isNone then .ready else .done) j)) f2.k
  | none => False

def beginG (e : E) (n l id : Nat) (body : Code) (L : (Nat → V) → LoopState → Option Code → O) (S : Option Code → H → (Nat → Bool) → Prop) (f1 : Fr) (h1 : H) : Prop :=
  f1.k id = false ∧ ∃ t, h1[id]? = some (L t .ready none) ∧ awp e n (some l) body (roundG id L S) f1 (h1.set id (L t .busy none))

def rangeG (id : Nat) (L : (Nat → V) → LoopState → Option Code → O) (Q : XE → Fr → H → Prop) (f1 : Fr) (ae : AEnd) (h2 : H) (p : Nat → Bool) : Prop :=
  (∀ i ∈ f1.d, p i = false) ∧ match ae with
    | .ret _ => p id = false ∧ ∃ t st c, st ≠ .busy ∧ h2[id]? = some (L t st c) ∧ jumpQ Q c (f1.drop p) (h2.set id (L t .exhausted c))
    | .pan v => Q (.pan v) (f1.drop p) h2

theorem awp_rangeG {g : Operand} {ps : Array Tmp} {asg body : Code} {q : FuncId} {first captured : List V} (hsc : (f.ev e g).sc) (hg : (f.ev e g).sv = .fn (.func q) first captured) (hen : enters e.P q = true)
    (hps : (ps.toList.all fun p => decide (p < n)) = true)
    (main : ∀ L : (Nat → V) → LoopState → Option Code → O, (∀ p t st c, (L t st c).drop p = L (fun i => (t i).drop p) st c) →
      (∀ h' vs S t, h'[h.length + 1]? = some (L t .ready none) → vs.length = ps.size →
        (∀ lb, awp e n (some lb) asg (XE.seq (beginG e n lb (h.length + 1) body L S) (fun _ _ _ => False)) (putAll { t := t } ps.toList vs) h') → Gets e (h.length + 1) vs h' S) →
      ACalls e q (first ++ [.yd (h.length + 1)] ++ captured) (h ++ [.misc .dfd] ++ [L f.t .ready none]) (rangeG (h.length + 1) L Q { f with d := h.length :: f.d })) :
    awp e n none (.rangeFunc g ps asg body) Q f h := by
  refine awp_rangeFunc hsc hg hen ?_
  refine ACalls.mono (main (fun t st c => .loop t n ps asg body st c) (fun _ _ _ _ => rfl) ?_) ?_
  · intro h' vs S t hc hsz hw
    refine ⟨t, n, ps, asg, body, none, hc, hsz, hps, fun lb => awp_mono ?_ (hw lb)⟩
    intro xe f1 h1 hq
    cases xe <;> try exact hq
    obtain ⟨h1k, t1, hc1, hb⟩ := hq
    unfold XE.seq beginS
    dsimp only
    rw [hc1]
    refine ⟨h1k, awp_mono ?_ hb⟩
    intro xe f2 h2 hq2
    unfold roundG at hq2
    unfold roundS
    split at hq2
    · rename_i j hj
      obtain ⟨h2k, t2, st2, hc2, hS⟩ := hq2
      simp only [hj, hc2]
      exact ⟨h2k, hS⟩
    · exact hq2.elim
  · rintro ae h' p ⟨hd, hr⟩
    refine ⟨hd, ?_⟩
    cases ae with
    | pan v => exact hr
    | ret v =>
      obtain ⟨hp, t, st, c, hst, hc, hQ⟩ := hr
      dsimp only
      rw [hc]
      exact ⟨⟨hp, hst⟩, hQ⟩
end
end Go.Abs

set_option linter.unusedVariables false
set_option linter.unusedSimpArgs false
namespace Go.Abs
open Go Go.RowKit
section
variable {e : E} {g : FuncId} {args : List V} {h : H} {R : AEnd → H → (Nat → Bool) → Prop}

/-- A function that only computes; what it tells is one of these. -/
def EvR (e : E) (g : FuncId) (args : List V) (S : V → Prop) : Prop :=
  ∀ ok w vs, HSim e ok (fun _ => none) [] w → VList (cx ok (fun _ => none) w) args vs →
    Calls e.P g vs.toArray w fun en w' => ∃ x r, S r ∧ en = .returned x ∧ WExt w w' ∧ VRel (cx ok (fun _ => none) w') r x

theorem EvR.of_calls {S : V → Prop} (hv : ACalls e g args [] fun ae h _ => match ae with | .ret v => ∃ r, S r ∧ Reif e h v r | .pan _ => False) : EvR e g args S := by
  intro ok w vs hs hl
  refine (hv ok _ w vs hs hl).mono ?_
  rintro en w' ⟨p, pl', h', ae, hs', k, he, hr⟩
  cases ae with
  | pan v => exact hr.elim
  | ret v =>
    obtain ⟨r, hS, hr⟩ := hr
    cases en with
    | returned x => exact ⟨x, r, hS, rfl, ⟨k.os, k.tape, k.output, k.size, fun b hb => k.same b hb (fun i hi => by cases hi)⟩, hr ok pl' w' x hs' he⟩
    | panicked ch => exact he.elim
    | outgrown => exact he.elim

theorem Ev.evR {r : V} {S : V → Prop} (hv : Ev e g args r) (h : S r) : EvR e g args S :=
  fun ok w vs hs hl => (hv ok w vs hs hl).mono fun en w' ⟨x, h1, h2, h3⟩ => ⟨x, r, h, h1, h2, h3⟩

theorem EvR.run {S : V → Prop} (hv : EvR e g args S) (hd : V.dats args = true) {ok : Nat → Prop} {pl : Nat → Option Nat} {h : H} {w : World} {vs : List Value}
    (hs : HSim e ok pl h w) (hl : VList (cx ok pl w) args vs) : Calls e.P g vs.toArray w fun en w' => ∃ x r, S r ∧ en = .returned x ∧ WExt w w' ∧ VRel (cx ok pl w') r x :=
  (hv _ w vs hs.toData (VList.mono (cext_data ok pl w) _ _ (VList.todata _ _ hd hl))).mono fun en w' ⟨x, r, h0, h1, h2, h3⟩ =>
    ⟨x, r, h0, h1, h2, VRel.mono (cext_data' ok pl w') _ _ h3⟩

theorem ACalls.evR {S : V → Prop} (hv : EvR e g args S) (hd : V.dats args = true) (hr : ∀ r, S r → R (.ret r) h (fun _ => false)) : ACalls e g args h R :=
  fun ok pl w vs hs hl => (hv.run hd hs hl).mono fun en w' ⟨x, r, h0, h1, h2, h3⟩ => ⟨fun _ => false, pl, h, .ret r, hs.wext h2, h2.keeps hs, by rw [h1]; exact h3, hr r h0⟩

theorem ACalls.lendR {args' : List V} {S : V → Prop} (hv : EvR e g args' S) (hr : Reifs e h args args') (hk : ∀ r, S r → r.plain = true ∧ R (.ret r) h (fun _ => false)) : ACalls e g args h R :=
  fun ok pl w vs hs hl => (hv ok w vs hs.lend (hr ok pl w vs hs hl)).mono fun en w' ⟨x, r, h0, h1, h2, h3⟩ =>
    ⟨fun _ => false, pl, h, .ret r, hs.wext h2, h2.keeps hs, by rw [h1]; exact h3.plain (hk r h0).1, (hk r h0).2⟩

/-- The heap of some objects alone. -/
def keepP (p : Nat → Bool) : Nat → H → H
  | _, [] => []
  | i, o :: h => (if p i = true then o.drop (fun j => !p j) else .dead) :: keepP p (i + 1) h
/-- The heap without some objects. -/
def dropP (p : Nat → Bool) : Nat → H → H
  | _, [] => []
  | i, o :: h => (if p i = true then .dead else o.drop p) :: dropP p (i + 1) h

theorem keepP_get {p : Nat → Bool} : ∀ {h : H} {k i : Nat}, (keepP p k h)[i]? = (h[i]?).map fun o => if p (k + i) = true then o.drop (fun j => !p j) else .dead
  | [], k, i => by simp [keepP]
  | o :: h, k, 0 => by simp [keepP]
  | o :: h, k, i + 1 => by
    rw [keepP, List.getElem?_cons_succ, keepP_get, List.getElem?_cons_succ, show k + 1 + i = k + (i + 1) by omega]
theorem dropP_get {p : Nat → Bool} : ∀ {h : H} {k i : Nat}, (dropP p k h)[i]? = (h[i]?).map fun o => if p (k + i) = true then .dead else o.drop p
  | [], k, i => by simp [dropP]
  | o :: h, k, 0 => by simp [dropP]
  | o :: h, k, i + 1 => by
    rw [dropP, List.getElem?_cons_succ, dropP_get, List.getElem?_cons_succ, show k + 1 + i = k + (i + 1) by omega]

theorem bare_drop {o : O} {p : Nat → Bool} (h : o = .dead ∨ o = .cells []) : o.drop p = .dead ∨ o.drop p = .cells [] := by
  rcases h with rfl | rfl
  · exact .inl rfl
  · exact .inr (by simp [O.drop, V.drops])

theorem cext_sub (p : Nat → Bool) (ok : Nat → Prop) (pl : Nat → Option Nat) (w : World) :
    CExt (fun j => !p j) (cx ok pl w) (cx (fun b => ok b ∧ ∀ i, p i = false → pl i ≠ some b) (fun i => if p i = true then pl i else none) w) :=
  ⟨fun b hb hok => ⟨⟨⟨hok.1, fun i _ => hok.2 i⟩, fun i hi => by
      try dsimp only at hi
      split at hi
      · exact hok.2 i hi
      · cases hi⟩, rfl⟩,
    fun i b hp hi => by
      have hp : p i = true := by simpa using hp
      simp only [cx, hp, if_true]
      exact hi,
    fun b arr el fz hb => ⟨arr, fz, hb, rfl⟩⟩

theorem HSim.sub {ok : Nat → Prop} {pl : Nat → Option Nat} {w : World} (hs : HSim e ok pl h w) (p : Nat → Bool) :
    HSim e (fun b => ok b ∧ ∀ i, p i = false → pl i ≠ some b) (fun i => if p i = true then pl i else none) (keepP p 0 h) w where
  fresh b hb := ⟨hs.fresh b hb, fun i _ hi => by have := hs.lt i b hi; omega⟩
  lt i b hi := by
    try dsimp only at hi
    split at hi
    · exact hs.lt i b hi
    · cases hi
  okl i b hi := by
    try dsimp only at hi
    split at hi
    · rename_i hp
      refine ⟨hs.okl i b hi, fun j hj hj2 => ?_⟩
      have := hs.inj i j b hi hj2
      subst this
      rw [hp] at hj; cases hj
    · cases hi
  inj i j b hi hj := by
    try dsimp only at hi
    split at hi
    · try dsimp only at hj
      split at hj
      · exact hs.inj i j b hi hj
      · cases hj
    · cases hi
  obj i b hi := by
    try dsimp only at hi
    split at hi
    · rename_i hp
      obtain ⟨o, ho, hat⟩ := hs.obj i b hi
      exact ⟨o.drop (fun j => !p j), by rw [keepP_get, ho]; simp [hp], OAt.mdrop (cext_sub p ok pl w) rfl hat⟩
    · cases hi
  bare i o ho hi := by
    rw [keepP_get] at ho
    cases hh : h[i]? with
    | none => rw [hh] at ho; cases ho
    | some o1 =>
      rw [hh] at ho
      simp only [Option.map_some, Nat.zero_add, Option.some.injEq] at ho
      subst ho
      split
      · rename_i hp
        rw [if_pos hp] at hi
        exact bare_drop (hs.bare i o1 hh hi)
      · exact .inl rfl
  glob g v hg := (hs.glob g v hg).glob_next (cext_sub p ok pl w)
  exa g cs hg := (hs.exa g cs hg).next (cext_sub p ok pl w)

theorem dropP_ext {p : Nat → Bool} {ok : Nat → Prop} {pl : Nat → Option Nat} {w w' : World} (hs : HSim e ok pl h w) (x : WExt w w') :
    HSim e ok (fun i => if p i = true then none else pl i) (dropP p 0 h) w' ∧ Keeps p pl w (fun i => if p i = true then none else pl i) w' := by
  have k : Keeps p pl w (fun i => if p i = true then none else pl i) w' :=
    ⟨x.os, x.tape, x.output, x.size, fun b hb _ => x.same b hb, fun i b hi => by
        try dsimp only at hi
        split at hi
        · cases hi
        · exact .inl ⟨i, hi⟩,
      fun i b hp hi => by rw [if_neg (by simp [hp])]; exact hi,
      fun b arr el fz hb => ⟨arr, fz, (x.same b (lt_of_heap hb)).trans hb, rfl⟩⟩
  refine ⟨hs.next k (fun i b hi => ?_) (fun i j b hi hj => ?_) (fun i b hi => ?_) (fun i o ho hi => ?_), k⟩
  · try dsimp only at hi
    try dsimp only at hi
    split at hi
    · cases hi
    · exact Nat.lt_of_lt_of_le (hs.lt i b hi) x.size
  · try dsimp only at hi hj
    try dsimp only at hi
    split at hi
    · cases hi
    · try dsimp only at hj
      split at hj
      · cases hj
      · exact hs.inj i j b hi hj
  · try dsimp only at hi
    try dsimp only at hi
    split at hi
    · cases hi
    · rename_i hp
      refine .inl ⟨hi, x.same b (hs.lt i b hi), ?_⟩
      rw [dropP_get]
      simp [hp]
  · rw [dropP_get] at ho
    cases hh : h[i]? with
    | none => rw [hh] at ho; cases ho
    | some o1 =>
      rw [hh] at ho
      simp only [Option.map_some, Nat.zero_add, Option.some.injEq] at ho
      subst ho
      split
      · exact .inl rfl
      · rename_i hp
        rw [if_neg hp] at hi
        exact bare_drop (hs.bare i o1 hh hi)

/-- Local objects are handed over for good: they are data from there on. -/
theorem ACalls.giveR {args' : List V} {S : V → Prop} (p : Nat → Bool) (hv : EvR e g args' S) (hd : V.drops (fun j => !p j) args = args) (hr : Reifs e (keepP p 0 h) args args')
    (hk : ∀ r, S r → R (.ret r) (dropP p 0 h) p) : ACalls e g args h R := by
  intro ok pl w vs hs hl
  have hl2 := VList.mdrop (cext_sub p ok pl w) _ _ hl
  rw [hd] at hl2
  have hs2 := hs.sub p
  refine (hv _ w vs hs2.lend (hr _ _ w vs hs2 hl2)).mono ?_
  rintro en w' ⟨x, r, h0, h1, h2, h3⟩
  obtain ⟨k1, k2⟩ := dropP_ext (p := p) hs h2
  refine ⟨p, _, _, .ret r, k1, k2, ?_, hk r h0⟩
  rw [h1]
  refine VRel.mono (c := cx (fun b => ok b ∧ ∀ i, p i = false → pl i ≠ some b) (fun _ => none) w') ?_ _ _ h3
  refine ⟨fun b hb hok => ⟨⟨hok.1.1, fun i hi => ?_⟩, rfl⟩, fun i b _ hi => (by cases hi), fun b arr el fz hb => ⟨arr, fz, hb, rfl⟩⟩
  try dsimp only at hi
  split at hi
  · cases hi
  · rename_i hp
    exact hok.1.2 i (by simpa using hp) hi
theorem ACalls.give {args' : List V} {r : V} (p : Nat → Bool) (hv : Ev e g args' r) (hd : V.drops (fun j => !p j) args = args) (hr : Reifs e (keepP p 0 h) args args')
    (hk : R (.ret r) (dropP p 0 h) p) : ACalls e g args h R :=
  ACalls.giveR (S := fun v => v = r) p (hv.evR rfl) hd hr fun v hv => by subst hv; exact hk

theorem keepP_all : ∀ {h : H} {k : Nat}, keepP (fun _ => true) k h = h
  | [], k => rfl
  | o :: h, k => by
    rw [keepP, keepP_all, if_pos rfl]
    congr 1
    exact O.drop_none o
theorem dropP_all : ∀ {h : H} {k : Nat}, dropP (fun _ => true) k h = h.map fun _ => .dead
  | [], k => rfl
  | o :: h, k => by rw [dropP, dropP_all, if_pos rfl, List.map_cons]
/-- All local objects are handed over. -/
theorem ACalls.giveAllR {args' : List V} {S : V → Prop} (hv : EvR e g args' S) (hr : Reifs e h args args')
    (hk : ∀ r, S r → R (.ret r) (h.map fun _ => .dead) (fun _ => true)) : ACalls e g args h R :=
  ACalls.giveR (fun _ => true) hv (V.drop_none.V.drops_none args) (by rw [keepP_all]; exact hr) (by rw [dropP_all]; exact hk)

/-- Local objects become data. -/
theorem awp_give {n : Nat} {r : Option Nat} {c : Code} {Q : XE → Fr → H → Prop} {f : Fr} (p : Nat → Bool) (t : Nat → V) (ht : ∀ i, t i = (f.t i).drop p ∨ ((f.t i).drop (fun j => !p j) = f.t i ∧ Reif e (keepP p 0 h) (f.t i) (t i)))
    (hd : ∀ i ∈ f.d, p i = false) (hw : awp e n r c Q { f with t := t, k := fun i => f.k i || p i } (dropP p 0 h)) : awp e n r c Q f h := by
  intro ok pl0 w0 pl w a s
  obtain ⟨k1, k2⟩ := dropP_ext (p := p) s.hs (WExt.refl w)
  refine hw ok pl0 w0 (fun i => if p i = true then none else pl i) w a ⟨k1, s.kp.trans k2, s.size, fun i => ?_, ?_⟩
  · rcases ht i with h1 | ⟨h1, h2⟩
    · show VRel _ (t i) _
      rw [h1]
      exact VRel.mdrop k2.cext _ _ (s.val i)
    · have h3 := VRel.mdrop (cext_sub p ok pl w) _ _ (s.val i)
      rw [h1] at h3
      have h4 := h2 _ _ w _ (s.hs.sub p) h3
      refine VRel.mono (c := cx (fun b => ok b ∧ ∀ i, p i = false → pl i ≠ some b) (fun _ => none) w) ?_ _ _ h4
      refine ⟨fun b hb hok => ⟨⟨hok.1.1, fun i hi => ?_⟩, rfl⟩, fun i b _ hi => (by cases hi), fun b arr el fz hb => ⟨arr, fz, hb, rfl⟩⟩
      try dsimp only at hi
      split at hi
      · cases hi
      · rename_i hp
        exact hok.1.2 i (by simpa using hp) hi
  · have : ∀ (is : List Nat) (l : List Deferred), (∀ i ∈ is, p i = false) → DRel (cx ok pl w) is l → DRel (cx ok (fun i => if p i = true then none else pl i) w) is l := by
      intro is
      induction is with
      | nil => intro l _ hl; exact hl
      | cons i is ih =>
        rintro l hi ⟨b, rest, h1, h2, h3⟩
        exact ⟨b, rest, h1, k2.keep _ _ (hi i (by simp)) h2, ih rest (fun j hj => hi j (by simp [hj])) h3⟩
    exact this f.d _ hd s.dfr
end
end Go.Abs

set_option linter.unusedVariables false
namespace Go.Abs
open Go Go.RowKit
section
variable {e : E} {h : H}

/-- All local objects are forgotten. -/
theorem awp_forget {n : Nat} {r : Option Nat} {c : Code} {Q : XE → Fr → H → Prop} {f : Fr} (hd : f.d = []) (hw : awp e n r c Q { t := fun i => (f.t i).drop fun _ => true, d := [], k := fun _ => true } []) : awp e n r c Q f h := by
  intro ok pl0 w0 pl w a s
  have kp := s.kp
  refine hw ok pl0 w0 (fun _ => none) w a ⟨s.hs.lend, ⟨kp.os, kp.tape, kp.output, kp.size, kp.same, fun i b hi => (by cases hi), fun i b hi => (by cases hi), kp.row⟩, s.size, fun i => ?_, ?_⟩
  · refine VRel.mdrop (c := cx ok pl w) (p := fun _ => true) ?_ _ _ (s.val i)
    exact ⟨fun b hb hok => ⟨⟨hok.1, fun i hi => (by cases hi)⟩, rfl⟩, fun i b hi => (by cases hi), fun b arr el fz hb => ⟨arr, fz, hb, rfl⟩⟩
  · have := s.dfr
    rw [hd] at this
    exact this
end
end Go.Abs

set_option linter.unusedVariables false
namespace Go.Abs
open Go Go.RowKit
section
variable {e : E} {h : H}

/-- A value, after some objects have become data. -/
def GV (e : E) (p : Nat → Bool) (h : H) (v v' : V) : Prop := v' = v.drop p ∨ (v.drop (fun j => !p j) = v ∧ Reif e (keepP p 0 h) v v')
def GVs (e : E) (p : Nat → Bool) (h : H) : List V → List V → Prop
  | [], [] => True
  | v :: vs, v' :: vs' => GV e p h v v' ∧ GVs e p h vs vs'
  | _, _ => False

theorem GV.rel {p : Nat → Bool} {ok : Nat → Prop} {pl : Nat → Option Nat} {w : World} (hs : HSim e ok pl h w) {v v' : V} {x : Value} (hg : GV e p h v v') (hx : VRel (cx ok pl w) v x) :
    VRel (cx ok (fun i => if p i = true then none else pl i) w) v' x := by
  obtain ⟨k1, k2⟩ := dropP_ext (p := p) hs (WExt.refl w)
  rcases hg with h1 | ⟨h1, h2⟩
  · rw [h1]
    exact VRel.mdrop k2.cext _ _ hx
  · have h3 := VRel.mdrop (cext_sub p ok pl w) _ _ hx
    rw [h1] at h3
    have h4 := h2 _ _ w _ (hs.sub p) h3
    refine VRel.mono (c := cx (fun b => ok b ∧ ∀ i, p i = false → pl i ≠ some b) (fun _ => none) w) ?_ _ _ h4
    refine ⟨fun b hb hok => ⟨⟨hok.1.1, fun i hi => ?_⟩, rfl⟩, fun i b _ hi => (by cases hi), fun b arr el fz hb => ⟨arr, fz, hb, rfl⟩⟩
    try dsimp only at hi
    split at hi
    · cases hi
    · rename_i hp
      exact hok.1.2 i (by simpa using hp) hi

theorem GVs.rel {p : Nat → Bool} {ok : Nat → Prop} {pl : Nat → Option Nat} {w : World} (hs : HSim e ok pl h w) : ∀ {vs vs' : List V} {xs : List Value}, GVs e p h vs vs' → VList (cx ok pl w) vs xs →
    VList (cx ok (fun i => if p i = true then none else pl i) w) vs' xs
  | [], [], xs, _, hx => by
    simp only [VList] at hx ⊢
    exact hx
  | v :: vs, v' :: vs', xs, hg, hx => by
    simp only [VList] at hx ⊢
    obtain ⟨y, ys, h1, h2, h3⟩ := hx
    exact ⟨y, ys, h1, hg.1.rel hs h2, GVs.rel hs hg.2 h3⟩
  | [], v' :: vs', _, hg, _ => hg.elim
  | v :: vs, [], _, hg, _ => hg.elim

theorem GVs.length {p : Nat → Bool} : ∀ {vs vs' : List V}, GVs e p h vs vs' → vs'.length = vs.length
  | [], [], _ => rfl
  | v :: vs, v' :: vs', hg => by simp [GVs.length hg.2]
  | [], v' :: vs', hg => hg.elim
  | v :: vs, [], hg => hg.elim

theorem awp_giveH {n : Nat} {r : Option Nat} {c : Code} {Q : XE → Fr → H → Prop} {f : Fr} (p : Nat → Bool) (h' : H)
    (hh : ∀ i, p i = false → h'[i]? = (h[i]?).map (O.drop p) ∨ ∃ cs cs', h[i]? = some (.cells cs) ∧ h'[i]? = some (.cells cs') ∧ GVs e p h cs cs')
    (hb : ∀ i o, p i = true → h'[i]? = some o → o = .dead)
    (hd : ∀ i ∈ f.d, p i = false) (hw : awp e n r c Q { f with t := fun i => (f.t i).drop p, k := fun i => f.k i || p i } h') : awp e n r c Q f h := by
  intro ok pl0 w0 pl w a s
  obtain ⟨k1, k2⟩ := dropP_ext (p := p) s.hs (WExt.refl w)
  have hs' : HSim e ok (fun i => if p i = true then none else pl i) h' w := by
    refine s.hs.next k2 k1.lt k1.inj (fun i b hi => ?_) (fun i o ho hi => ?_)
    · try dsimp only at hi
      split at hi
      · cases hi
      · rename_i hp
        have hp : p i = false := by simpa using hp
        rcases hh i hp with h1 | ⟨cs, cs', h1, h2, h3⟩
        · exact .inl ⟨hi, rfl, h1⟩
        · obtain ⟨o, h4, h5⟩ := s.hs.obj i b hi
          rw [h1] at h4
          cases h4
          obtain ⟨arr, el, fz, g1, g2, g3, g4⟩ := h5
          refine .inr ⟨_, h2, arr, el, fz, g1, g2, by rw [h3.length]; exact g3, ?_⟩
          rw [h3.length]
          exact h3.rel s.hs g4
    · by_cases hp : p i = true
      · exact .inl (hb i o hp ho)
      · have hp : p i = false := by simpa using hp
        have hi2 : pl i = none := by
          try dsimp only at hi
          rw [if_neg (by simp [hp])] at hi
          exact hi
        rcases hh i hp with h1 | ⟨cs, cs', h1, h2, h3⟩
        · rw [h1] at ho
          cases h4 : h[i]? with
          | none => rw [h4] at ho; cases ho
          | some o1 =>
            rw [h4] at ho
            simp only [Option.map_some, Option.some.injEq] at ho
            subst ho
            exact bare_drop (s.hs.bare i o1 h4 hi2)
        · rw [h2] at ho
          cases ho
          rcases s.hs.bare i _ h1 hi2 with h4 | h4
          · cases h4
          · simp only [O.cells.injEq] at h4
            subst h4
            cases cs' with
            | nil => exact .inr rfl
            | cons v vs => exact h3.elim
  refine hw ok pl0 w0 (fun i => if p i = true then none else pl i) w a ⟨hs', s.kp.trans k2, s.size, fun i => VRel.mdrop k2.cext _ _ (s.val i), ?_⟩
  have : ∀ (is : List Nat) (l : List Deferred), (∀ i ∈ is, p i = false) → DRel (cx ok pl w) is l → DRel (cx ok (fun i => if p i = true then none else pl i) w) is l := by
    intro is
    induction is with
    | nil => intro l _ hl; exact hl
    | cons i is ih =>
      rintro l hi ⟨b, rest, h1, h2, h3⟩
      exact ⟨b, rest, h1, k2.keep _ _ (hi i (by simp)) h2, ih rest (fun j hj => hi j (by simp [hj])) h3⟩
  exact this f.d _ hd s.dfr
end
end Go.Abs

set_option linter.unusedVariables false
namespace Go.Abs
open Go Go.RowKit
section
variable {e : E} {h : H}

theorem awp_settle {n : Nat} {r : Option Nat} {c : Code} {Q : XE → Fr → H → Prop} {f : Fr} (j : Nat) (v : V) (hd : f.d = []) (hj : Reif e h (f.t j) v)
    (hw : awp e n r c Q { t := fun i => if i = j then v else (f.t i).drop fun _ => true, d := [], k := fun _ => true } []) : awp e n r c Q f h := by
  intro ok pl0 w0 pl w a s
  have kp := s.kp
  refine hw ok pl0 w0 (fun _ => none) w a ⟨s.hs.lend, ⟨kp.os, kp.tape, kp.output, kp.size, kp.same, fun i b hi => (by cases hi), fun i b hi => (by cases hi), kp.row⟩, s.size, fun i => ?_, ?_⟩
  · by_cases hi : i = j
    · subst hi
      show VRel _ (if i = i then v else _) _
      rw [if_pos rfl]
      exact hj _ _ w _ s.hs (s.val i)
    · show VRel _ (if i = j then v else _) _
      rw [if_neg hi]
      refine VRel.mdrop (c := cx ok pl w) (p := fun _ => true) ?_ _ _ (s.val i)
      exact ⟨fun b hb hok => ⟨⟨hok.1, fun i hi => (by cases hi)⟩, rfl⟩, fun i b hi => (by cases hi), fun b arr el fz hb => ⟨arr, fz, hb, rfl⟩⟩
  · have := s.dfr
    rw [hd] at this
    exact this
end
end Go.Abs

set_option linter.unusedVariables false
set_option linter.unusedSimpArgs false
namespace Go.Abs
open Go.RowKit Go.ChangeShapes
section
variable {H : Type} {enc : TypeId × Value → H} {P : Program}
/-- A law that only computes, and says true of whatever it is handed. -/
theorem law_contractX {fn : Func} {f : FuncId} {s : ChangeSpec} {shs : List Sh} (hl : laidOutB P = true) (hlen : shs.length = fn.params.size)
    (hok : ∀ (i : Nat) sh t, shs[i]? = some sh → fn.params[i]? = some t → sh.ok P t = true) (hread : (fn.params.toList.all fun t => P.readableRec t && decide (t < P.types.size)) = true)
    (hres : ∃ tb, fn.resultTypes = #[tb] ∧ P.underlying tb = some .bool) (hvars : s.vars = [])
    (hspec : ∀ ds : List (DataW H), ds.length = shs.length → (s.fn H (ds ++ [])).results = [.lit (.bool true)] ∧ (s.fn H (ds ++ [])).args = ds ∧ (s.fn H (ds ++ [])).vars = [])
    (e : E) (heP : e.P = P) (heg : e.gl = fun _ => none) (hev : ∀ us, Sh.Iss shs us → Ev e f us (.bool true))
    (W : World) (base : Nat) (args : Array Value) (ds gs : List (DataW H)) (before : List MemPlace)
    (hval : ∀ (j : Nat) t v, fn.params[j]? = some t → args[j]? = some v → Value.okWide P W .any base t v)
    (hW : DataW.Whole enc P fn.params.toList s.vars false W args.toList ds gs before)
    (hex : ∀ g p, e.gx g = some p → ∃ cs ty fz, W.heap[g]? = some (.cells cs ty fz) ∧ p cs) :
    Calls P f args W fun e W' => ∃ v, e = .returned v ∧ s.post enc P fn false true false false W args v W' := by
  have hW' := hW
  obtain ⟨p, q, hA, hV, rfl, hfz, hnd⟩ := hW
  rw [hvars] at hV
  obtain ⟨rfl, rfl⟩ := trodVars_none hV
  obtain ⟨us, k1, k2⟩ := trodAll_took shs fn.params.toList args.toList ds p (by simpa using hlen) (fun i sh t h1 h2 => hok i sh t h1 (by simpa using h2)) (fun i sh v h1 h2 => by
    have hi : i < fn.params.size := by have := (List.getElem?_eq_some_iff.1 h1).1; omega
    exact flat_of_okWide (hok i sh fn.params[i] h1 (by simp [hi])) (hval i fn.params[i] v (by simp [hi]) (by simpa using h2))) hA
  subst heP
  have hs : HSim e (fun _ => True) (fun _ => none) [] W := ⟨fun _ _ => trivial, fun i b hi => (by cases hi), fun i b hi => (by cases hi), fun i j b hi => (by cases hi), fun i b hi => (by cases hi), fun i o ho => (by simp at ho), fun g v hg => (by rw [heg] at hg; cases hg), fun g p hg => ⟨⟨trivial, fun i hi => (by cases hi)⟩, hex g p hg⟩⟩
  have hc := hev us k1 _ W args.toList hs k2
  rw [show args.toList.toArray = args from Array.toArray_toList] at hc
  refine hc.mono ?_
  rintro en W' ⟨x, rfl, hx, hv⟩
  simp only [VRel] at hv
  subst hv
  obtain ⟨tb, hr1, hr2⟩ := hres
  have hdl : ds.length = shs.length := by rw [trod_len hA, hlen]; simp
  obtain ⟨e1, e2, e3⟩ := hspec ds hdl
  refine ⟨_, rfl, ds, [], p ++ [], [], p, [], hW', ?_, ?_, ?_, hx.below.frame _, fun h => (by cases h)⟩
  · rw [e1, hr1]
    exact trodAll_mk1 ⟨1, by simp [DataW.trod, Value.cells, hr2]⟩
  · rw [e2]
    exact trodAll_stays hl hx.below fn.params.toList args.toList ds p hread (fun y hy => hA.lt y hy) hA
  · rw [e3, hvars]
    rfl
end
end Go.Abs
