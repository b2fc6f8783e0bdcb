/- Abstract values, heaps and frames over the calculus, part 29. -/
import Derived.Test.YtegnjoonhabicaaA28
set_option linter.unusedVariables false
set_option linter.unusedSimpArgs false
namespace Go.Abs
open Go Go.RowKit
section
variable {e : E} {g : FuncId} {args : List V} {h : H} {R : AEnd → H → (Nat → Bool) → Prop}

/-- A function that only computes; what it tells is one of these. -/
def EvR (e : E) (g : FuncId) (args : List V) (S : V → Prop) : Prop :=
  ∀ ok w vs, HSim e ok (fun _ => none) [] w → VList (cx ok (fun _ => none) w) args vs →
    Calls e.P g vs.toArray w fun en w' => ∃ x r, S r ∧ en = .returned x ∧ WExt w w' ∧ VRel (cx ok (fun _ => none) w') r x

theorem EvR.of_calls {S : V → Prop} (hv : ACalls e g args [] fun ae h _ => match ae with | .ret v => ∃ r, S r ∧ Reif e h v r | .pan _ => False) : EvR e g args S := by
  intro ok w vs hs hl
  refine (hv ok _ w vs hs hl).mono ?_
  rintro en w' ⟨p, pl', h', ae, hs', k, he, hr⟩
  cases ae with
  | pan v => exact hr.elim
  | ret v =>
    obtain ⟨r, hS, hr⟩ := hr
    cases en with
    | returned x => exact ⟨x, r, hS, rfl, ⟨k.os, k.tape, k.output, k.size, fun b hb => k.same b hb (fun i hi => by cases hi)⟩, hr ok pl' w' x hs' he⟩
    | panicked ch => exact he.elim
    | outgrown => exact he.elim

theorem Ev.evR {r : V} {S : V → Prop} (hv : Ev e g args r) (h : S r) : EvR e g args S :=
  fun ok w vs hs hl => (hv ok w vs hs hl).mono fun en w' ⟨x, h1, h2, h3⟩ => ⟨x, r, h, h1, h2, h3⟩

theorem EvR.run {S : V → Prop} (hv : EvR e g args S) (hd : V.dats args = true) {ok : Nat → Prop} {pl : Nat → Option Nat} {h : H} {w : World} {vs : List Value}
    (hs : HSim e ok pl h w) (hl : VList (cx ok pl w) args vs) : Calls e.P g vs.toArray w fun en w' => ∃ x r, S r ∧ en = .returned x ∧ WExt w w' ∧ VRel (cx ok pl w') r x :=
  (hv _ w vs hs.toData (VList.mono (cext_data ok pl w) _ _ (VList.todata _ _ hd hl))).mono fun en w' ⟨x, r, h0, h1, h2, h3⟩ =>
    ⟨x, r, h0, h1, h2, VRel.mono (cext_data' ok pl w') _ _ h3⟩

theorem ACalls.evR {S : V → Prop} (hv : EvR e g args S) (hd : V.dats args = true) (hr : ∀ r, S r → R (.ret r) h (fun _ => false)) : ACalls e g args h R :=
  fun ok pl w vs hs hl => (hv.run hd hs hl).mono fun en w' ⟨x, r, h0, h1, h2, h3⟩ => ⟨fun _ => false, pl, h, .ret r, hs.wext h2, h2.keeps hs, by rw [h1]; exact h3, hr r h0⟩

theorem ACalls.lendR {args' : List V} {S : V → Prop} (hv : EvR e g args' S) (hr : Reifs e h args args') (hk : ∀ r, S r → r.plain = true ∧ R (.ret r) h (fun _ => false)) : ACalls e g args h R :=
  fun ok pl w vs hs hl => (hv ok w vs hs.lend (hr ok pl w vs hs hl)).mono fun en w' ⟨x, r, h0, h1, h2, h3⟩ =>
    ⟨fun _ => false, pl, h, .ret r, hs.wext h2, h2.keeps hs, by rw [h1]; exact h3.plain (hk r h0).1, (hk r h0).2⟩

/-- The heap of some objects alone. -/
def keepP (p : Nat → Bool) : Nat → H → H
  | _, [] => []
  | i, o :: h => (if p i = true then o.drop (fun j => !p j) else .dead) :: keepP p (i + 1) h
/-- The heap without some objects. -/
def dropP (p : Nat → Bool) : Nat → H → H
  | _, [] => []
  | i, o :: h => (if p i = true then .dead else o.drop p) :: dropP p (i + 1) h

theorem keepP_get {p : Nat → Bool} : ∀ {h : H} {k i : Nat}, (keepP p k h)[i]? = (h[i]?).map fun o => if p (k + i) = true then o.drop (fun j => !p j) else .dead
  | [], k, i => by simp [keepP]
  | o :: h, k, 0 => by simp [keepP]
  | o :: h, k, i + 1 => by
    rw [keepP, List.getElem?_cons_succ, keepP_get, List.getElem?_cons_succ, show k + 1 + i = k + (i + 1) by omega]
theorem dropP_get {p : Nat → Bool} : ∀ {h : H} {k i : Nat}, (dropP p k h)[i]? = (h[i]?).map fun o => if p (k + i) = true then .dead else o.drop p
  | [], k, i => by simp [dropP]
  | o :: h, k, 0 => by simp [dropP]
  | o :: h, k, i + 1 => by
    rw [dropP, List.getElem?_cons_succ, dropP_get, List.getElem?_cons_succ, show k + 1 + i = k + (i + 1) by omega]

theorem bare_drop {o : O} {p : Nat → Bool} (h : o = .dead ∨ o = .cells []) : o.drop p = .dead ∨ o.drop p = .cells [] := by
  rcases h with rfl | rfl
  · exact .inl rfl
  · exact .inr (by simp [O.drop, V.drops])

theorem cext_sub (p : Nat → Bool) (ok : Nat → Prop) (pl : Nat → Option Nat) (w : World) :
    CExt (fun j => !p j) (cx ok pl w) (cx (fun b => ok b ∧ ∀ i, p i = false → pl i ≠ some b) (fun i => if p i = true then pl i else none) w) :=
  ⟨fun b hb hok => ⟨⟨⟨hok.1, fun i _ => hok.2 i⟩, fun i hi => by
      try dsimp only at hi
      split at hi
      · exact hok.2 i hi
      · cases hi⟩, rfl⟩,
    fun i b hp hi => by
      have hp : p i = true := by simpa using hp
      simp only [cx, hp, if_true]
      exact hi,
    fun b arr el fz hb => ⟨arr, fz, hb, rfl⟩⟩

theorem HSim.sub {ok : Nat → Prop} {pl : Nat → Option Nat} {w : World} (hs : HSim e ok pl h w) (p : Nat → Bool) :
    HSim e (fun b => ok b ∧ ∀ i, p i = false → pl i ≠ some b) (fun i => if p i = true then pl i else none) (keepP p 0 h) w where
  fresh b hb := ⟨hs.fresh b hb, fun i _ hi => by have := hs.lt i b hi; omega⟩
  lt i b hi := by
    try dsimp only at hi
    split at hi
    · exact hs.lt i b hi
    · cases hi
  okl i b hi := by
    try dsimp only at hi
    split at hi
    · rename_i hp
      refine ⟨hs.okl i b hi, fun j hj hj2 => ?_⟩
      have := hs.inj i j b hi hj2
      subst this
      rw [hp] at hj; cases hj
    · cases hi
  inj i j b hi hj := by
    try dsimp only at hi
    split at hi
    · try dsimp only at hj
      split at hj
      · exact hs.inj i j b hi hj
      · cases hj
    · cases hi
  obj i b hi := by
    try dsimp only at hi
    split at hi
    · rename_i hp
      obtain ⟨o, ho, hat⟩ := hs.obj i b hi
      exact ⟨o.drop (fun j => !p j), by rw [keepP_get, ho]; simp [hp], OAt.mdrop (cext_sub p ok pl w) rfl hat⟩
    · cases hi
  bare i o ho hi := by
    rw [keepP_get] at ho
    cases hh : h[i]? with
    | none => rw [hh] at ho; cases ho
    | some o1 =>
      rw [hh] at ho
      simp only [Option.map_some, Nat.zero_add, Option.some.injEq] at ho
      subst ho
      split
      · rename_i hp
        rw [if_pos hp] at hi
        exact bare_drop (hs.bare i o1 hh hi)
      · exact .inl rfl
  glob g v hg := (hs.glob g v hg).glob_next (cext_sub p ok pl w)

theorem dropP_ext {p : Nat → Bool} {ok : Nat → Prop} {pl : Nat → Option Nat} {w w' : World} (hs : HSim e ok pl h w) (x : WExt w w') :
    HSim e ok (fun i => if p i = true then none else pl i) (dropP p 0 h) w' ∧ Keeps p pl w (fun i => if p i = true then none else pl i) w' := by
  have k : Keeps p pl w (fun i => if p i = true then none else pl i) w' :=
    ⟨x.os, x.tape, x.output, x.size, fun b hb _ => x.same b hb, fun i b hi => by
        try dsimp only at hi
        split at hi
        · cases hi
        · exact .inl ⟨i, hi⟩,
      fun i b hp hi => by rw [if_neg (by simp [hp])]; exact hi,
      fun b arr el fz hb => ⟨arr, fz, (x.same b (lt_of_heap hb)).trans hb, rfl⟩⟩
  refine ⟨hs.next k (fun i b hi => ?_) (fun i j b hi hj => ?_) (fun i b hi => ?_) (fun i o ho hi => ?_), k⟩
  · try dsimp only at hi
    try dsimp only at hi
    split at hi
    · cases hi
    · exact Nat.lt_of_lt_of_le (hs.lt i b hi) x.size
  · try dsimp only at hi hj
    try dsimp only at hi
    split at hi
    · cases hi
    · try dsimp only at hj
      split at hj
      · cases hj
      · exact hs.inj i j b hi hj
  · try dsimp only at hi
    try dsimp only at hi
    split at hi
    · cases hi
    · rename_i hp
      refine .inl ⟨hi, x.same b (hs.lt i b hi), ?_⟩
      rw [dropP_get]
      simp [hp]
  · rw [dropP_get] at ho
    cases hh : h[i]? with
    | none => rw [hh] at ho; cases ho
    | some o1 =>
      rw [hh] at ho
      simp only [Option.map_some, Nat.zero_add, Option.some.injEq] at ho
      subst ho
      split
      · exact .inl rfl
      · rename_i hp
        rw [if_neg hp] at hi
        exact bare_drop (hs.bare i o1 hh hi)

/-- Local objects are handed over for good: they are data from there on. -/
theorem ACalls.giveR {args' : List V} {S : V → Prop} (p : Nat → Bool) (hv : EvR e g args' S) (hd : V.drops (fun j => !p j) args = args) (hr : Reifs e (keepP p 0 h) args args')
    (hk : ∀ r, S r → R (.ret r) (dropP p 0 h) p) : ACalls e g args h R := by
  intro ok pl w vs hs hl
  have hl2 := VList.mdrop (cext_sub p ok pl w) _ _ hl
  rw [hd] at hl2
  have hs2 := hs.sub p
  refine (hv _ w vs hs2.lend (hr _ _ w vs hs2 hl2)).mono ?_
  rintro en w' ⟨x, r, h0, h1, h2, h3⟩
  obtain ⟨k1, k2⟩ := dropP_ext (p := p) hs h2
  refine ⟨p, _, _, .ret r, k1, k2, ?_, hk r h0⟩
  rw [h1]
  refine VRel.mono (c := cx (fun b => ok b ∧ ∀ i, p i = false → pl i ≠ some b) (fun _ => none) w') ?_ _ _ h3
  refine ⟨fun b hb hok => ⟨⟨hok.1.1, fun i hi => ?_⟩, rfl⟩, fun i b _ hi => (by cases hi), fun b arr el fz hb => ⟨arr, fz, hb, rfl⟩⟩
  try dsimp only at hi
  split at hi
  · cases hi
  · rename_i hp
    exact hok.1.2 i (by simpa using hp) hi
theorem ACalls.give {args' : List V} {r : V} (p : Nat → Bool) (hv : Ev e g args' r) (hd : V.drops (fun j => !p j) args = args) (hr : Reifs e (keepP p 0 h) args args')
    (hk : R (.ret r) (dropP p 0 h) p) : ACalls e g args h R :=
  ACalls.giveR (S := fun v => v = r) p (hv.evR rfl) hd hr fun v hv => by subst hv; exact hk

theorem keepP_all : ∀ {h : H} {k : Nat}, keepP (fun _ => true) k h = h
  | [], k => rfl
  | o :: h, k => by
    rw [keepP, keepP_all, if_pos rfl]
    congr 1
    exact O.drop_none o
theorem dropP_all : ∀ {h : H} {k : Nat}, dropP (fun _ => true) k h = h.map fun _ => .dead
  | [], k => rfl
  | o :: h, k => by rw [dropP, dropP_all, if_pos rfl, List.map_cons]
/-- All local objects are handed over. -/
theorem ACalls.giveAllR {args' : List V} {S : V → Prop} (hv : EvR e g args' S) (hr : Reifs e h args args')
    (hk : ∀ r, S r → R (.ret r) (h.map fun _ => .dead) (fun _ => true)) : ACalls e g args h R :=
  ACalls.giveR (fun _ => true) hv (V.drop_none.V.drops_none args) (by rw [keepP_all]; exact hr) (by rw [dropP_all]; exact hk)

/-- Local objects become data. -/
theorem awp_give {n : Nat} {r : Option Nat} {c : Code} {Q : XE → Fr → H → Prop} {f : Fr} (p : Nat → Bool) (t : Nat → V) (ht : ∀ i, t i = (f.t i).drop p ∨ ((f.t i).drop (fun j => !p j) = f.t i ∧ Reif e (keepP p 0 h) (f.t i) (t i)))
    (hd : ∀ i ∈ f.d, p i = false) (hw : awp e n r c Q { f with t := t, k := fun i => f.k i || p i } (dropP p 0 h)) : awp e n r c Q f h := by
  intro ok pl0 w0 pl w a s
  obtain ⟨k1, k2⟩ := dropP_ext (p := p) s.hs (WExt.refl w)
  refine hw ok pl0 w0 (fun i => if p i = true then none else pl i) w a ⟨k1, s.kp.trans k2, s.size, fun i => ?_, ?_⟩
  · rcases ht i with h1 | ⟨h1, h2⟩
    · show VRel _ (t i) _
      rw [h1]
      exact VRel.mdrop k2.cext _ _ (s.val i)
    · have h3 := VRel.mdrop (cext_sub p ok pl w) _ _ (s.val i)
      rw [h1] at h3
      have h4 := h2 _ _ w _ (s.hs.sub p) h3
      refine VRel.mono (c := cx (fun b => ok b ∧ ∀ i, p i = false → pl i ≠ some b) (fun _ => none) w) ?_ _ _ h4
      refine ⟨fun b hb hok => ⟨⟨hok.1.1, fun i hi => ?_⟩, rfl⟩, fun i b _ hi => (by cases hi), fun b arr el fz hb => ⟨arr, fz, hb, rfl⟩⟩
      try dsimp only at hi
      split at hi
      · cases hi
      · rename_i hp
        exact hok.1.2 i (by simpa using hp) hi
  · have : ∀ (is : List Nat) (l : List Deferred), (∀ i ∈ is, p i = false) → DRel (cx ok pl w) is l → DRel (cx ok (fun i => if p i = true then none else pl i) w) is l := by
      intro is
      induction is with
      | nil => intro l _ hl; exact hl
      | cons i is ih =>
        rintro l hi ⟨b, rest, h1, h2, h3⟩
        exact ⟨b, rest, h1, k2.keep _ _ (hi i (by simp)) h2, ih rest (fun j hj => hi j (by simp [hj])) h3⟩
    exact this f.d _ hd s.dfr
end
end Go.Abs
