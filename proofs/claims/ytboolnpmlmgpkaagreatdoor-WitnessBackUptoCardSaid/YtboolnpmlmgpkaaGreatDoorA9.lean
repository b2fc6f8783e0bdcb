/- Abstract values, heaps and frames over the calculus, part 9. -/
import Derived.Test.YtboolnpmlmgpkaaGreatDoorA8
import Derived.Shelf.SlSortCmp.Whole1
import Derived.ProofKit
import Derived.SizedLaws
import Derived.JoinedCond
import Derived.RecoverIn
import Derived.RangeFuncLeaves
set_option linter.unusedVariables false
namespace Go.Abs
open Go
section
variable {e : E} {n : Nat} {f : Fr} {h : H} {Q : XE → Fr → H → Prop}

/-- At the end of a round's body, of a loop whose record stands as L. -/
def roundG (id : Nat) (L : (Nat → V) → LoopState → Option Code → O) (S : Option Code → H → (Nat → Bool) → Prop) (xe : XE) (f2 : Fr) (h2 : H) : Prop :=
  match xe.jump with
  | some j => f2.k id = false ∧ ∃ t st, h2[id]? = some (L t st none) ∧ S j (h2.set id (L t (if j.isNone then .ready else .done) j)) f2.k
  | none => False

def beginG (e : E) (n l id : Nat) (body : Code) (L : (Nat → V) → LoopState → Option Code → O) (S : Option Code → H → (Nat → Bool) → Prop) (f1 : Fr) (h1 : H) : Prop :=
  f1.k id = false ∧ ∃ t, h1[id]? = some (L t .ready none) ∧ awp e n (some l) body (roundG id L S) f1 (h1.set id (L t .busy none))

def rangeG (id : Nat) (L : (Nat → V) → LoopState → Option Code → O) (Q : XE → Fr → H → Prop) (f1 : Fr) (ae : AEnd) (h2 : H) (p : Nat → Bool) : Prop :=
  (∀ i ∈ f1.d, p i = false) ∧ match ae with
    | .ret _ => p id = false ∧ ∃ t st c, st ≠ .busy ∧ h2[id]? = some (L t st c) ∧ jumpQ Q c (f1.drop p) (h2.set id (L t .exhausted c))
    | .pan v => Q (.pan v) (f1.drop p) h2

theorem awp_rangeG {g : Operand} {ps : Array Tmp} {asg body : Code} {q : FuncId} {first captured : List V} (hsc : (f.ev e g).sc) (hg : (f.ev e g).sv = .fn (.func q) first captured) (hen : enters e.P q = true)
    (hps : (ps.toList.all fun p => decide (p < n)) = true)
    (main : ∀ L : (Nat → V) → LoopState → Option Code → O, (∀ p t st c, (L t st c).drop p = L (fun i => (t i).drop p) st c) →
      (∀ h' vs S t, h'[h.length + 1]? = some (L t .ready none) → vs.length = ps.size →
        (∀ lb, awp e n (some lb) asg (XE.seq (beginG e n lb (h.length + 1) body L S) (fun _ _ _ => False)) (putAll { t := t } ps.toList vs) h') → Gets e (h.length + 1) vs h' S) →
      ACalls e q (first ++ [.yd (h.length + 1)] ++ captured) (h ++ [.misc .dfd] ++ [L f.t .ready none]) (rangeG (h.length + 1) L Q { f with d := h.length :: f.d })) :
    awp e n none (.rangeFunc g ps asg body) Q f h := by
  refine awp_rangeFunc hsc hg hen ?_
  refine ACalls.mono (main (fun t st c => .loop t n ps asg body st c) (fun _ _ _ _ => rfl) ?_) ?_
  · intro h' vs S t hc hsz hw
    refine ⟨t, n, ps, asg, body, none, hc, hsz, hps, fun lb => awp_mono ?_ (hw lb)⟩
    intro xe f1 h1 hq
    cases xe <;> try exact hq
    obtain ⟨h1k, t1, hc1, hb⟩ := hq
    unfold XE.seq beginS
    dsimp only
    rw [hc1]
    refine ⟨h1k, awp_mono ?_ hb⟩
    intro xe f2 h2 hq2
    unfold roundG at hq2
    unfold roundS
    split at hq2
    · rename_i j hj
      obtain ⟨h2k, t2, st2, hc2, hS⟩ := hq2
      simp only [hj, hc2]
      exact ⟨h2k, hS⟩
    · exact hq2.elim
  · rintro ae h' p ⟨hd, hr⟩
    refine ⟨hd, ?_⟩
    cases ae with
    | pan v => exact hr
    | ret v =>
      obtain ⟨hp, t, st, c, hst, hc, hQ⟩ := hr
      dsimp only
      rw [hc]
      exact ⟨⟨hp, hst⟩, hQ⟩
end
end Go.Abs

set_option linter.unusedVariables false
set_option linter.unusedSimpArgs false
namespace Go.Abs
open Go Go.RowKit
section
variable {e : E} {g : FuncId} {args : List V} {h : H} {R : AEnd → H → (Nat → Bool) → Prop}

/-- A function that only computes; what it tells is one of these. -/
def EvR (e : E) (g : FuncId) (args : List V) (S : V → Prop) : Prop :=
  ∀ ok w vs, HSim e ok (fun _ => none) [] w → VList (cx ok (fun _ => none) w) args vs →
    Calls e.P g vs.toArray w fun en w' => ∃ x r, S r ∧ en = .returned x ∧ WExt w w' ∧ VRel (cx ok (fun _ => none) w') r x

theorem EvR.of_calls {S : V → Prop} (hv : ACalls e g args [] fun ae h _ => match ae with | .ret v => ∃ r, S r ∧ Reif e h v r | .pan _ => False) : EvR e g args S := by
  intro ok w vs hs hl
  refine (hv ok _ w vs hs hl).mono ?_
  rintro en w' ⟨p, pl', h', ae, hs', k, he, hr⟩
  cases ae with
  | pan v => exact hr.elim
  | ret v =>
    obtain ⟨r, hS, hr⟩ := hr
    cases en with
    | returned x => exact ⟨x, r, hS, rfl, ⟨k.os, k.tape, k.output, k.size, fun b hb => k.same b hb (fun i hi => by cases hi)⟩, hr ok pl' w' x hs' he⟩
    | panicked ch => exact he.elim
    | outgrown => exact he.elim

theorem Ev.evR {r : V} {S : V → Prop} (hv : Ev e g args r) (h : S r) : EvR e g args S :=
  fun ok w vs hs hl => (hv ok w vs hs hl).mono fun en w' ⟨x, h1, h2, h3⟩ => ⟨x, r, h, h1, h2, h3⟩

theorem EvR.run {S : V → Prop} (hv : EvR e g args S) (hd : V.dats args = true) {ok : Nat → Prop} {pl : Nat → Option Nat} {h : H} {w : World} {vs : List Value}
    (hs : HSim e ok pl h w) (hl : VList (cx ok pl w) args vs) : Calls e.P g vs.toArray w fun en w' => ∃ x r, S r ∧ en = .returned x ∧ WExt w w' ∧ VRel (cx ok pl w') r x :=
  (hv _ w vs hs.toData (VList.mono (cext_data ok pl w) _ _ (VList.todata _ _ hd hl))).mono fun en w' ⟨x, r, h0, h1, h2, h3⟩ =>
    ⟨x, r, h0, h1, h2, VRel.mono (cext_data' ok pl w') _ _ h3⟩

theorem ACalls.evR {S : V → Prop} (hv : EvR e g args S) (hd : V.dats args = true) (hr : ∀ r, S r → R (.ret r) h (fun _ => false)) : ACalls e g args h R :=
  fun ok pl w vs hs hl => (hv.run hd hs hl).mono fun en w' ⟨x, r, h0, h1, h2, h3⟩ => ⟨fun _ => false, pl, h, .ret r, hs.wext h2, h2.keeps hs, by rw [h1]; exact h3, hr r h0⟩

theorem ACalls.lendR {args' : List V} {S : V → Prop} (hv : EvR e g args' S) (hr : Reifs e h args args') (hk : ∀ r, S r → r.plain = true ∧ R (.ret r) h (fun _ => false)) : ACalls e g args h R :=
  fun ok pl w vs hs hl => (hv ok w vs hs.lend (hr ok pl w vs hs hl)).mono fun en w' ⟨x, r, h0, h1, h2, h3⟩ =>
    ⟨fun _ => false, pl, h, .ret r, hs.wext h2, h2.keeps hs, by rw [h1]; exact h3.plain (hk r h0).1, (hk r h0).2⟩

/-- The heap of some objects alone. -/
def keepP (p : Nat → Bool) : Nat → H → H
  | _, [] => []
  | i, o :: h => (if p i = true then o.drop (fun j => !p j) else .dead) :: keepP p (i + 1) h
/-- The heap without some objects. -/
def dropP (p : Nat → Bool) : Nat → H → H
  | _, [] => []
  | i, o :: h => (if p i = true then .dead else o.drop p) :: dropP p (i + 1) h

theorem keepP_get {p : Nat → Bool} : ∀ {h : H} {k i : Nat}, (keepP p k h)[i]? = (h[i]?).map fun o => if p (k + i) = true then o.drop (fun j => !p j) else .dead
  | [], k, i => by simp [keepP]
  | o :: h, k, 0 => by simp [keepP]
  | o :: h, k, i + 1 => by
    rw [keepP, List.getElem?_cons_succ, keepP_get, List.getElem?_cons_succ, show k + 1 + i = k + (i + 1) by omega]
theorem dropP_get {p : Nat → Bool} : ∀ {h : H} {k i : Nat}, (dropP p k h)[i]? = (h[i]?).map fun o => if p (k + i) = true then .dead else o.drop p
  | [], k, i => by simp [dropP]
  | o :: h, k, 0 => by simp [dropP]
  | o :: h, k, i + 1 => by
    rw [dropP, List.getElem?_cons_succ, dropP_get, List.getElem?_cons_succ, show k + 1 + i = k + (i + 1) by omega]

theorem bare_drop {o : O} {p : Nat → Bool} (h : o = .dead ∨ o = .cells []) : o.drop p = .dead ∨ o.drop p = .cells [] := by
  rcases h with rfl | rfl
  · exact .inl rfl
  · exact .inr (by simp [O.drop, V.drops])

theorem cext_sub (p : Nat → Bool) (ok : Nat → Prop) (pl : Nat → Option Nat) (w : World) :
    CExt (fun j => !p j) (cx ok pl w) (cx (fun b => ok b ∧ ∀ i, p i = false → pl i ≠ some b) (fun i => if p i = true then pl i else none) w) :=
  ⟨fun b hb hok => ⟨⟨⟨hok.1, fun i _ => hok.2 i⟩, fun i hi => by
      try dsimp only at hi
      split at hi
      · exact hok.2 i hi
      · cases hi⟩, rfl⟩,
    fun i b hp hi => by
      have hp : p i = true := by simpa using hp
      simp only [cx, hp, if_true]
      exact hi,
    fun b arr el fz hb => ⟨arr, fz, hb, rfl⟩⟩

theorem HSim.sub {ok : Nat → Prop} {pl : Nat → Option Nat} {w : World} (hs : HSim e ok pl h w) (p : Nat → Bool) :
    HSim e (fun b => ok b ∧ ∀ i, p i = false → pl i ≠ some b) (fun i => if p i = true then pl i else none) (keepP p 0 h) w where
  fresh b hb := ⟨hs.fresh b hb, fun i _ hi => by have := hs.lt i b hi; omega⟩
  lt i b hi := by
    try dsimp only at hi
    split at hi
    · exact hs.lt i b hi
    · cases hi
  okl i b hi := by
    try dsimp only at hi
    split at hi
    · rename_i hp
      refine ⟨hs.okl i b hi, fun j hj hj2 => ?_⟩
      have := hs.inj i j b hi hj2
      subst this
      rw [hp] at hj; cases hj
    · cases hi
  inj i j b hi hj := by
    try dsimp only at hi
    split at hi
    · try dsimp only at hj
      split at hj
      · exact hs.inj i j b hi hj
      · cases hj
    · cases hi
  obj i b hi := by
    try dsimp only at hi
    split at hi
    · rename_i hp
      obtain ⟨o, ho, hat⟩ := hs.obj i b hi
      exact ⟨o.drop (fun j => !p j), by rw [keepP_get, ho]; simp [hp], OAt.mdrop (cext_sub p ok pl w) rfl hat⟩
    · cases hi
  bare i o ho hi := by
    rw [keepP_get] at ho
    cases hh : h[i]? with
    | none => rw [hh] at ho; cases ho
    | some o1 =>
      rw [hh] at ho
      simp only [Option.map_some, Nat.zero_add, Option.some.injEq] at ho
      subst ho
      split
      · rename_i hp
        rw [if_pos hp] at hi
        exact bare_drop (hs.bare i o1 hh hi)
      · exact .inl rfl
  glob g v hg := (hs.glob g v hg).glob_next (cext_sub p ok pl w)
  exa g cs hg := (hs.exa g cs hg).next (cext_sub p ok pl w)

theorem dropP_ext {p : Nat → Bool} {ok : Nat → Prop} {pl : Nat → Option Nat} {w w' : World} (hs : HSim e ok pl h w) (x : WExt w w') :
    HSim e ok (fun i => if p i = true then none else pl i) (dropP p 0 h) w' ∧ Keeps p pl w (fun i => if p i = true then none else pl i) w' := by
  have k : Keeps p pl w (fun i => if p i = true then none else pl i) w' :=
    ⟨x.os, x.tape, x.output, x.size, fun b hb _ => x.same b hb, fun i b hi => by
        try dsimp only at hi
        split at hi
        · cases hi
        · exact .inl ⟨i, hi⟩,
      fun i b hp hi => by rw [if_neg (by simp [hp])]; exact hi,
      fun b arr el fz hb => ⟨arr, fz, (x.same b (lt_of_heap hb)).trans hb, rfl⟩⟩
  refine ⟨hs.next k (fun i b hi => ?_) (fun i j b hi hj => ?_) (fun i b hi => ?_) (fun i o ho hi => ?_), k⟩
  · try dsimp only at hi
    try dsimp only at hi
    split at hi
    · cases hi
    · exact Nat.lt_of_lt_of_le (hs.lt i b hi) x.size
  · try dsimp only at hi hj
    try dsimp only at hi
    split at hi
    · cases hi
    · try dsimp only at hj
      split at hj
      · cases hj
      · exact hs.inj i j b hi hj
  · try dsimp only at hi
    try dsimp only at hi
    split at hi
    · cases hi
    · rename_i hp
      refine .inl ⟨hi, x.same b (hs.lt i b hi), ?_⟩
      rw [dropP_get]
      simp [hp]
  · rw [dropP_get] at ho
    cases hh : h[i]? with
    | none => rw [hh] at ho; cases ho
    | some o1 =>
      rw [hh] at ho
      simp only [Option.map_some, Nat.zero_add, Option.some.injEq] at ho
      subst ho
      split
      · exact .inl rfl
      · rename_i hp
        rw [if_neg hp] at hi
        exact bare_drop (hs.bare i o1 hh hi)

/-- Local objects are handed over for good: they are data from there on. -/
theorem ACalls.giveR {args' : List V} {S : V → Prop} (p : Nat → Bool) (hv : EvR e g args' S) (hd : V.drops (fun j => !p j) args = args) (hr : Reifs e (keepP p 0 h) args args')
    (hk : ∀ r, S r → R (.ret r) (dropP p 0 h) p) : ACalls e g args h R := by
  intro ok pl w vs hs hl
  have hl2 := VList.mdrop (cext_sub p ok pl w) _ _ hl
  rw [hd] at hl2
  have hs2 := hs.sub p
  refine (hv _ w vs hs2.lend (hr _ _ w vs hs2 hl2)).mono ?_
  rintro en w' ⟨x, r, h0, h1, h2, h3⟩
  obtain ⟨k1, k2⟩ := dropP_ext (p := p) hs h2
  refine ⟨p, _, _, .ret r, k1, k2, ?_, hk r h0⟩
  rw [h1]
  refine VRel.mono (c := cx (fun b => ok b ∧ ∀ i, p i = false → pl i ≠ some b) (fun _ => none) w') ?_ _ _ h3
  refine ⟨fun b hb hok => ⟨⟨hok.1.1, fun i hi => ?_⟩, rfl⟩, fun i b _ hi => (by cases hi), fun b arr el fz hb => ⟨arr, fz, hb, rfl⟩⟩
  try dsimp only at hi
  split at hi
  · cases hi
  · rename_i hp
    exact hok.1.2 i (by simpa using hp) hi
theorem ACalls.give {args' : List V} {r : V} (p : Nat → Bool) (hv : Ev e g args' r) (hd : V.drops (fun j => !p j) args = args) (hr : Reifs e (keepP p 0 h) args args')
    (hk : R (.ret r) (dropP p 0 h) p) : ACalls e g args h R :=
  ACalls.giveR (S := fun v => v = r) p (hv.evR rfl) hd hr fun v hv => by subst hv; exact hk

theorem keepP_all : ∀ {h : H} {k : Nat}, keepP (fun _ => true) k h = h
  | [], k => rfl
  | o :: h, k => by
    rw [keepP, keepP_all, if_pos rfl]
    congr 1
    exact O.drop_none o
theorem dropP_all : ∀ {h : H} {k : Nat}, dropP (fun _ => true) k h = h.map fun _ => .dead
  | [], k => rfl
  | o :: h, k => by rw [dropP, dropP_all, if_pos rfl, List.map_cons]
/-- All local objects are handed over. -/
theorem ACalls.giveAllR {args' : List V} {S : V → Prop} (hv : EvR e g args' S) (hr : Reifs e h args args')
    (hk : ∀ r, S r → R (.ret r) (h.map fun _ => .dead) (fun _ => true)) : ACalls e g args h R :=
  ACalls.giveR (fun _ => true) hv (V.drop_none.V.drops_none args) (by rw [keepP_all]; exact hr) (by rw [dropP_all]; exact hk)

/-- Local objects become data. -/
theorem awp_give {n : Nat} {r : Option Nat} {c : Code} {Q : XE → Fr → H → Prop} {f : Fr} (p : Nat → Bool) (t : Nat → V) (ht : ∀ i, t i = (f.t i).drop p ∨ ((f.t i).drop (fun j => !p j) = f.t i ∧ Reif e (keepP p 0 h) (f.t i) (t i)))
    (hd : ∀ i ∈ f.d, p i = false) (hw : awp e n r c Q { f with t := t, k := fun i => f.k i || p i } (dropP p 0 h)) : awp e n r c Q f h := by
  intro ok pl0 w0 pl w a s
  obtain ⟨k1, k2⟩ := dropP_ext (p := p) s.hs (WExt.refl w)
  refine hw ok pl0 w0 (fun i => if p i = true then none else pl i) w a ⟨k1, s.kp.trans k2, s.size, fun i => ?_, ?_⟩
  · rcases ht i with h1 | ⟨h1, h2⟩
    · show VRel _ (t i) _
      rw [h1]
      exact VRel.mdrop k2.cext _ _ (s.val i)
    · have h3 := VRel.mdrop (cext_sub p ok pl w) _ _ (s.val i)
      rw [h1] at h3
      have h4 := h2 _ _ w _ (s.hs.sub p) h3
      refine VRel.mono (c := cx (fun b => ok b ∧ ∀ i, p i = false → pl i ≠ some b) (fun _ => none) w) ?_ _ _ h4
      refine ⟨fun b hb hok => ⟨⟨hok.1.1, fun i hi => ?_⟩, rfl⟩, fun i b _ hi => (by cases hi), fun b arr el fz hb => ⟨arr, fz, hb, rfl⟩⟩
      try dsimp only at hi
      split at hi
      · cases hi
      · rename_i hp
        exact hok.1.2 i (by simpa using hp) hi
  · have : ∀ (is : List Nat) (l : List Deferred), (∀ i ∈ is, p i = false) → DRel (cx ok pl w) e.tl is l → DRel (cx ok (fun i => if p i = true then none else pl i) w) e.tl is l := by
      intro is
      induction is with
      | nil => intro l _ hl; exact hl
      | cons i is ih =>
        rintro l hi ⟨b, rest, h1, h2, h3⟩
        exact ⟨b, rest, h1, k2.keep _ _ (hi i (by simp)) h2, ih rest (fun j hj => hi j (by simp [hj])) h3⟩
    exact this f.d _ hd s.dfr
end
end Go.Abs

set_option linter.unusedVariables false
set_option linter.unusedSimpArgs false
namespace Go.Abs
open Go Go.RowKit Go.Proofs Go.Shelf Go.Sort
section
variable {e : E} {h : H} {ok : Nat → Prop} {pl : Nat → Option Nat} {w : World} {α : Type} [Inhabited α]

theorem putRow_heap_other (enc : α → Value) (w : World) (b off : Nat) (d : Array α) {i : Nat} (hi : i ≠ b) : (putRow enc w b off d).heap[i]? = w.heap[i]? := by
  simp only [putRow, mapBlock, Array.getElem?_modify]
  rw [if_neg (Ne.symm hi)]
theorem putRow_heap_same (enc : α → Value) (w : World) (b off : Nat) (d : Array α) {arr : Array Value} {el : TypeId} {fz : Nat × Nat} (hb : w.heap[b]? = some (.cells arr el fz)) :
    (putRow enc w b off d).heap[b]? = some (.cells (putCells enc off d arr) el fz) := by
  simp only [putRow, mapBlock, Array.getElem?_modify]
  simp only [if_true, hb]
  rfl
theorem putCells_take (enc : α → Value) (d : Array α) (arr : Array Value) (hl : d.size ≤ arr.size) : (putCells enc 0 d arr).toList.take d.size = d.toList.map enc := by
  apply List.ext_getElem?
  intro i
  rw [List.getElem?_take]
  simp only [List.getElem?_map, Array.getElem?_toList]
  by_cases hi : i < d.size
  · rw [if_pos hi]
    have hia : i < arr.size := by omega
    simp only [putCells, Array.getElem?_mapIdx, Array.getElem?_eq_getElem hia, Option.map_some, Nat.zero_le, Nat.zero_add, Nat.sub_zero, Array.getElem?_eq_getElem hi]
    rw [if_pos ⟨trivial, hi⟩, getElem!_pos d i hi]
  · rw [if_neg hi, Array.getElem?_eq_none (by omega)]
    rfl

theorem wext_grow (w : World) (os : Array Obj) : WExt w (Go.Sort.grow w os) :=
  ⟨rfl, rfl, rfl, by simp [Go.Sort.grow], fun b hb => by simp [Go.Sort.grow, Array.getElem?_append_left hb]⟩

/-- The row of a local object holds something else. -/
theorem row_world (hs : HSim e ok pl h w) {id b : Nat} (hb : pl id = some b) {arr : Array Value} {el : TypeId} {fz : Nat × Nat} (hw : w.heap[b]? = some (.cells arr el fz)) (hfz : ∀ j, j < arr.size → ¬ (fz.1 ≤ j ∧ j < fz.2))
    (enc : α → Value) (d' : Array α) (hl : d'.size ≤ arr.size) {cs' : List V} (hv : VList (cx ok pl w) cs' (d'.toList.map enc)) (n : Nat) (os : Array Obj) :
    HSim e ok pl (h.set id (.cells cs')) (sortWorld enc w b 0 n d' os) ∧ Keeps (fun _ => false) pl w pl (sortWorld enc w b 0 n d' os) := by
  have hlen := hv.length
  simp only [List.length_map, Array.length_toList] at hlen
  have hput := putRow_heap_same enc (Go.Sort.ahead w n) b 0 d' (arr := arr) (el := el) (fz := fz) hw
  have hsz : (putCells enc 0 d' arr).size = arr.size := by simp [putCells]
  obtain ⟨h1, h2⟩ := hs.upd (w' := putRow enc (Go.Sort.ahead w n) b 0 d') hb (.cells cs') rfl rfl rfl (by rw [Go.Sort.size_putRow]; rfl) (fun i hi => putRow_heap_other enc _ b 0 d' hi)
    (fun arr0 el0 fz0 h0 => ⟨putCells enc 0 d' arr, fz, by rw [hw] at h0; cases h0; exact hput, by rw [hw] at h0; cases h0; exact hsz⟩)
    (fun kx => ⟨putCells enc 0 d' arr, el, fz, hput, fun j hj => hfz j (by omega), by omega, by
      have : cs'.length = d'.size := by omega
      rw [this, putCells_take enc d' arr hl]
      exact VList.mono kx _ _ hv⟩)
  have x := wext_grow (putRow enc (Go.Sort.ahead w n) b 0 d') os
  have k := h2.trans (x.keeps h1)
  simp only [Bool.or_self] at k
  exact ⟨h1.wext x, k⟩

theorem _root_.Go.Abs.Reif.ls_more {id k len cap : Nat} {cs ex cs' es : List V} (hc : h[id]? = some (.cells (cs ++ ex))) (hr : Reifs e h cs cs') (hf : allFit k es = true) (hflat : es.flatMap V.vc = cs') (hlen : len = es.length) :
    Reif e h (.ls id k 0 len cap) (.is false k es) := by
  intro ok pl w x hs hv
  simp only [VRel] at hv ⊢
  obtain ⟨a, cp, rfl, h1, h2, h3, h4⟩ := hv
  refine ⟨a, cp, by rw [hlen], by omega, h3, fun hf => (by cases hf), ?_⟩
  rcases h4 with h4 | ⟨b, arr, el, fz, h5, h6, h7, h8⟩
  · exact .inl (List.length_eq_zero_iff.1 (by omega))
  · refine .inr ⟨b, 0, h6, ?_⟩
    obtain ⟨o, ho, hat⟩ := hs.obj id b h5
    rw [hc] at ho
    cases ho
    obtain ⟨arr', el', fz', h9, h10, h11, h12⟩ := hat
    have h13 : w.heap[b]? = some (.cells arr' el' fz') := h9
    have h14 := h12.take cs.length
    rw [List.take_left] at h14
    have := hr ok pl w _ hs h14
    rw [← hflat] at this
    exact elems_of_flat (hs.okl id b h5) h13 es 0 _ hf this fun j y hy => by
      rw [List.getElem?_take] at hy
      split at hy
      · rw [List.getElem?_take] at hy
        split at hy
        · simpa using hy
        · cases hy
      · cases hy
end
end Go.Abs

set_option linter.unusedVariables false
namespace Go.Abs
open Go Go.RowKit
section
variable {e : E} {h : H}

/-- All local objects are forgotten. -/
theorem awp_forget {n : Nat} {r : Option Nat} {c : Code} {Q : XE → Fr → H → Prop} {f : Fr} (hd : f.d = []) (hw : awp e n r c Q { t := fun i => (f.t i).drop fun _ => true, d := [], k := fun _ => true } []) : awp e n r c Q f h := by
  intro ok pl0 w0 pl w a s
  have kp := s.kp
  refine hw ok pl0 w0 (fun _ => none) w a ⟨s.hs.lend, ⟨kp.os, kp.tape, kp.output, kp.size, kp.same, fun i b hi => (by cases hi), fun i b hi => (by cases hi), kp.row⟩, s.size, fun i => ?_, ?_⟩
  · refine VRel.mdrop (c := cx ok pl w) (p := fun _ => true) ?_ _ _ (s.val i)
    exact ⟨fun b hb hok => ⟨⟨hok.1, fun i hi => (by cases hi)⟩, rfl⟩, fun i b hi => (by cases hi), fun b arr el fz hb => ⟨arr, fz, hb, rfl⟩⟩
  · have := s.dfr
    rw [hd] at this
    exact this
end
end Go.Abs

set_option linter.unusedVariables false
namespace Go.Abs
open Go Go.RowKit
section
variable {e : E} {h : H}

/-- A value, after some objects have become data. -/
def GV (e : E) (p : Nat → Bool) (h : H) (v v' : V) : Prop := v' = v.drop p ∨ (v.drop (fun j => !p j) = v ∧ Reif e (keepP p 0 h) v v')
def GVs (e : E) (p : Nat → Bool) (h : H) : List V → List V → Prop
  | [], [] => True
  | v :: vs, v' :: vs' => GV e p h v v' ∧ GVs e p h vs vs'
  | _, _ => False

theorem GV.rel {p : Nat → Bool} {ok : Nat → Prop} {pl : Nat → Option Nat} {w : World} (hs : HSim e ok pl h w) {v v' : V} {x : Value} (hg : GV e p h v v') (hx : VRel (cx ok pl w) v x) :
    VRel (cx ok (fun i => if p i = true then none else pl i) w) v' x := by
  obtain ⟨k1, k2⟩ := dropP_ext (p := p) hs (WExt.refl w)
  rcases hg with h1 | ⟨h1, h2⟩
  · rw [h1]
    exact VRel.mdrop k2.cext _ _ hx
  · have h3 := VRel.mdrop (cext_sub p ok pl w) _ _ hx
    rw [h1] at h3
    have h4 := h2 _ _ w _ (hs.sub p) h3
    refine VRel.mono (c := cx (fun b => ok b ∧ ∀ i, p i = false → pl i ≠ some b) (fun _ => none) w) ?_ _ _ h4
    refine ⟨fun b hb hok => ⟨⟨hok.1.1, fun i hi => ?_⟩, rfl⟩, fun i b _ hi => (by cases hi), fun b arr el fz hb => ⟨arr, fz, hb, rfl⟩⟩
    try dsimp only at hi
    split at hi
    · cases hi
    · rename_i hp
      exact hok.1.2 i (by simpa using hp) hi

theorem GVs.rel {p : Nat → Bool} {ok : Nat → Prop} {pl : Nat → Option Nat} {w : World} (hs : HSim e ok pl h w) : ∀ {vs vs' : List V} {xs : List Value}, GVs e p h vs vs' → VList (cx ok pl w) vs xs →
    VList (cx ok (fun i => if p i = true then none else pl i) w) vs' xs
  | [], [], xs, _, hx => by
    simp only [VList] at hx ⊢
    exact hx
  | v :: vs, v' :: vs', xs, hg, hx => by
    simp only [VList] at hx ⊢
    obtain ⟨y, ys, h1, h2, h3⟩ := hx
    exact ⟨y, ys, h1, hg.1.rel hs h2, GVs.rel hs hg.2 h3⟩
  | [], v' :: vs', _, hg, _ => hg.elim
  | v :: vs, [], _, hg, _ => hg.elim

theorem GVs.length {p : Nat → Bool} : ∀ {vs vs' : List V}, GVs e p h vs vs' → vs'.length = vs.length
  | [], [], _ => rfl
  | v :: vs, v' :: vs', hg => by simp [GVs.length hg.2]
  | [], v' :: vs', hg => hg.elim
  | v :: vs, [], hg => hg.elim

theorem awp_giveH {n : Nat} {r : Option Nat} {c : Code} {Q : XE → Fr → H → Prop} {f : Fr} (p : Nat → Bool) (h' : H)
    (hh : ∀ i, p i = false → h'[i]? = (h[i]?).map (O.drop p) ∨ ∃ cs cs', h[i]? = some (.cells cs) ∧ h'[i]? = some (.cells cs') ∧ GVs e p h cs cs')
    (hb : ∀ i o, p i = true → h'[i]? = some o → o = .dead)
    (hd : ∀ i ∈ f.d, p i = false) (hw : awp e n r c Q { f with t := fun i => (f.t i).drop p, k := fun i => f.k i || p i } h') : awp e n r c Q f h := by
  intro ok pl0 w0 pl w a s
  obtain ⟨k1, k2⟩ := dropP_ext (p := p) s.hs (WExt.refl w)
  have hs' : HSim e ok (fun i => if p i = true then none else pl i) h' w := by
    refine s.hs.next k2 k1.lt k1.inj (fun i b hi => ?_) (fun i o ho hi => ?_)
    · try dsimp only at hi
      split at hi
      · cases hi
      · rename_i hp
        have hp : p i = false := by simpa using hp
        rcases hh i hp with h1 | ⟨cs, cs', h1, h2, h3⟩
        · exact .inl ⟨hi, rfl, h1⟩
        · obtain ⟨o, h4, h5⟩ := s.hs.obj i b hi
          rw [h1] at h4
          cases h4
          obtain ⟨arr, el, fz, g1, g2, g3, g4⟩ := h5
          refine .inr ⟨_, h2, arr, el, fz, g1, g2, by rw [h3.length]; exact g3, ?_⟩
          rw [h3.length]
          exact h3.rel s.hs g4
    · by_cases hp : p i = true
      · exact .inl (hb i o hp ho)
      · have hp : p i = false := by simpa using hp
        have hi2 : pl i = none := by
          try dsimp only at hi
          rw [if_neg (by simp [hp])] at hi
          exact hi
        rcases hh i hp with h1 | ⟨cs, cs', h1, h2, h3⟩
        · rw [h1] at ho
          cases h4 : h[i]? with
          | none => rw [h4] at ho; cases ho
          | some o1 =>
            rw [h4] at ho
            simp only [Option.map_some, Option.some.injEq] at ho
            subst ho
            exact bare_drop (s.hs.bare i o1 h4 hi2)
        · rw [h2] at ho
          cases ho
          rcases s.hs.bare i _ h1 hi2 with h4 | h4
          · cases h4
          · simp only [O.cells.injEq] at h4
            subst h4
            cases cs' with
            | nil => exact .inr rfl
            | cons v vs => exact h3.elim
  refine hw ok pl0 w0 (fun i => if p i = true then none else pl i) w a ⟨hs', s.kp.trans k2, s.size, fun i => VRel.mdrop k2.cext _ _ (s.val i), ?_⟩
  have : ∀ (is : List Nat) (l : List Deferred), (∀ i ∈ is, p i = false) → DRel (cx ok pl w) e.tl is l → DRel (cx ok (fun i => if p i = true then none else pl i) w) e.tl is l := by
    intro is
    induction is with
    | nil => intro l _ hl; exact hl
    | cons i is ih =>
      rintro l hi ⟨b, rest, h1, h2, h3⟩
      exact ⟨b, rest, h1, k2.keep _ _ (hi i (by simp)) h2, ih rest (fun j hj => hi j (by simp [hj])) h3⟩
  exact this f.d _ hd s.dfr
end
end Go.Abs

set_option linter.unusedVariables false
namespace Go.Abs
open Go Go.RowKit
section
variable {e : E} {h : H}

theorem awp_settle {n : Nat} {r : Option Nat} {c : Code} {Q : XE → Fr → H → Prop} {f : Fr} (j : Nat) (v : V) (hd : f.d = []) (hj : Reif e h (f.t j) v)
    (hw : awp e n r c Q { t := fun i => if i = j then v else (f.t i).drop fun _ => true, d := [], k := fun _ => true } []) : awp e n r c Q f h := by
  intro ok pl0 w0 pl w a s
  have kp := s.kp
  refine hw ok pl0 w0 (fun _ => none) w a ⟨s.hs.lend, ⟨kp.os, kp.tape, kp.output, kp.size, kp.same, fun i b hi => (by cases hi), fun i b hi => (by cases hi), kp.row⟩, s.size, fun i => ?_, ?_⟩
  · by_cases hi : i = j
    · subst hi
      show VRel _ (if i = i then v else _) _
      rw [if_pos rfl]
      exact hj _ _ w _ s.hs (s.val i)
    · show VRel _ (if i = j then v else _) _
      rw [if_neg hi]
      refine VRel.mdrop (c := cx ok pl w) (p := fun _ => true) ?_ _ _ (s.val i)
      exact ⟨fun b hb hok => ⟨⟨hok.1, fun i hi => (by cases hi)⟩, rfl⟩, fun i b hi => (by cases hi), fun b arr el fz hb => ⟨arr, fz, hb, rfl⟩⟩
  · have := s.dfr
    rw [hd] at this
    exact this
end
end Go.Abs

set_option linter.unusedVariables false
set_option linter.unusedSimpArgs false
namespace Go.Abs
open Go.RowKit Go.ChangeShapes
section
variable {H : Type} {enc : TypeId × Value → H} {P : Program}
/-- A law that only computes, and says true of whatever it is handed. -/
theorem law_contractX {fn : Func} {f : FuncId} {s : ChangeSpec} {shs : List Sh} (hl : laidOutB P = true) (hlen : shs.length = fn.params.size)
    (hok : ∀ (i : Nat) sh t, shs[i]? = some sh → fn.params[i]? = some t → sh.ok P t = true) (hread : (fn.params.toList.all fun t => P.readableRec t && decide (t < P.types.size)) = true)
    (hres : ∃ tb, fn.resultTypes = #[tb] ∧ P.underlying tb = some .bool) (hvars : s.vars = [])
    (hspec : ∀ ds : List (DataW H), ds.length = shs.length → (s.fn H (ds ++ [])).results = [.lit (.bool true)] ∧ (s.fn H (ds ++ [])).args = ds ∧ (s.fn H (ds ++ [])).vars = [])
    (e : E) (heP : e.P = P) (heg : e.gl = fun _ => none) (hev : ∀ us, Sh.Iss shs us → Ev e f us (.bool true))
    (W : World) (base : Nat) (args : Array Value) (ds gs : List (DataW H)) (before : List MemPlace)
    (hval : ∀ (j : Nat) t v, fn.params[j]? = some t → args[j]? = some v → Value.okWide P W .any base t v)
    (hW : DataW.Whole enc P fn.params.toList s.vars false W args.toList ds gs before)
    (hex : ∀ g p, e.gx g = some p → ∃ cs ty fz, W.heap[g]? = some (.cells cs ty fz) ∧ p cs) :
    Calls P f args W fun e W' => ∃ v, e = .returned v ∧ s.post enc P fn false true false false W args v W' := by
  have hW' := hW
  obtain ⟨p, q, hA, hV, rfl, hfz, hnd⟩ := hW
  rw [hvars] at hV
  obtain ⟨rfl, rfl⟩ := trodVars_none hV
  obtain ⟨us, k1, k2⟩ := trodAll_took shs fn.params.toList args.toList ds p (by simpa using hlen) (fun i sh t h1 h2 => hok i sh t h1 (by simpa using h2)) (fun i sh v h1 h2 => by
    have hi : i < fn.params.size := by have := (List.getElem?_eq_some_iff.1 h1).1; omega
    exact flat_of_okWide (hok i sh fn.params[i] h1 (by simp [hi])) (hval i fn.params[i] v (by simp [hi]) (by simpa using h2))) hA
  subst heP
  have hs : HSim e (fun _ => True) (fun _ => none) [] W := ⟨fun _ _ => trivial, fun i b hi => (by cases hi), fun i b hi => (by cases hi), fun i j b hi => (by cases hi), fun i b hi => (by cases hi), fun i o ho => (by simp at ho), fun g v hg => (by rw [heg] at hg; cases hg), fun g p hg => ⟨⟨trivial, fun i hi => (by cases hi)⟩, hex g p hg⟩⟩
  have hc := hev us k1 _ W args.toList hs k2
  rw [show args.toList.toArray = args from Array.toArray_toList] at hc
  refine hc.mono ?_
  rintro en W' ⟨x, rfl, hx, hv⟩
  simp only [VRel] at hv
  subst hv
  obtain ⟨tb, hr1, hr2⟩ := hres
  have hdl : ds.length = shs.length := by rw [trod_len hA, hlen]; simp
  obtain ⟨e1, e2, e3⟩ := hspec ds hdl
  refine ⟨_, rfl, ds, [], p ++ [], [], p, [], hW', ?_, ?_, ?_, hx.below.frame _, fun h => (by cases h)⟩
  · rw [e1, hr1]
    exact trodAll_mk1 ⟨1, by simp [DataW.trod, Value.cells, hr2]⟩
  · rw [e2]
    exact trodAll_stays hl hx.below fn.params.toList args.toList ds p hread (fun y hy => hA.lt y hy) hA
  · rw [e3, hvars]
    rfl
end
end Go.Abs

set_option linter.unusedVariables false
set_option linter.unusedSimpArgs false
namespace Go.Abs
open Go.RowKit

section
variable {e : E} {n : Nat} {o : Oper} {f : Fr} {h : H} {Kn : Fr → H → Prop} {Q : XE → Fr → H → Prop}

/-- What a method is called with. -/
def Meth (e : E) (h : H) (t : TypeId) (v : V) (name : String) (g : FuncId) (v' : V) : Prop :=
  ∀ ok pl w x, HSim e ok pl h w → VRel (cx ok pl w) v x → ∃ y, (Go.method (e.P.types.size + Made.depth) t x name).run e.P w = .ok (g, y) w ∧ VRel (cx ok pl w) v' y

theorem eff_invoke {x : Operand} {name : String} {args : Array Operand} {ts : Array TypeId} (hop : o.op = .call { callee := .invoke x name, args := args, argTypes := ts })
    {t : TypeId} {v v' : V} {g : FuncId} (hx : (f.ev e x).sv = .iface t v) (hsc : callSc (f.ev e) x args) (hm : Meth e h t v name g v') (hen : enters e.P g = true)
    (hc : ACalls e g (v' :: args.toList.map fun y => (f.ev e y).sv) h (callK o.dst Kn Q f)) : ∀ r, Eff e n r o f h Kn Q := by
  intro r ok pl0 w0 pl w a s hd
  have hr := s.evs (o := o)
  have h1 := (hr x (by simp [hop, Op.operands, Call.operands])).sv hsc.1
  rw [hx] at h1
  simp only [VRel] at h1
  obtain ⟨ev, h2, h3⟩ := h1
  obtain ⟨y, hrun, hy⟩ := hm ok pl w ev s.hs h3
  have h5 := (VList.of_map (c := cx ok pl w) (ρ := f.ev e) (ev := a.eval) args.toList fun z hz => hr z (by simp [hop, Op.operands, Call.operands]; exact .inr (Array.mem_toList_iff.1 hz))).sv hsc.2
  rw [List.map_map] at h5
  have hexec : (execOp a.eval o).run e.P w = .ok (.enter g (y :: args.toList.map a.eval).toArray) w := by
    have e1 : execOp a.eval o = (do let d ← resolve a.eval { callee := .invoke x name, args := args, argTypes := ts } o.type; invoke d.target d.args) := by simp [execOp, hop]
    rw [e1]
    have h6 : (resolve a.eval { callee := .invoke x name, args := args, argTypes := ts } o.type).run e.P w = .ok { target := .fn (.method name) #[], args := #[.iface t ev] ++ args.map a.eval } w := by
      simp [resolve, h2]
    simp only [Sem.run_bind, h6, Result.andThen, invoke]
    have h7 : (#[Value.iface t ev] ++ args.map a.eval)[0]? = some (Value.iface t ev) := by rw [Array.getElem?_append_left (by simp)]; rfl
    simp only [h7]
    unfold callMethod
    simp only [Sem.run_bind, run_program, Result.andThen, hrun]
    rw [enters_run hen]
    congr 2
    apply Array.ext'
    simp only [List.size_toArray, Array.size_append, Array.size_map, Array.toList_append, Array.toList_extract, Array.toList_map, List.length_cons, List.length_nil]
    simp [List.extract]
    rw [List.take_of_length_le (by simp)]
  refine ⟨fun g _ => RF_fn r g, ?_⟩
  rw [RF_round, Oper.semAt_eq r a.eval o (fun c => by rw [hop]; exact fun h => by cases h), hexec]
  refine ⟨fun hd' => (by rw [RF_depth] at hd'; cases hd'), CallsIn.ofCalls ((hc ok pl w (y :: args.toList.map a.eval) s.hs (by simp only [VList]; exact ⟨_, _, rfl, hy, h5⟩)).mono ?_)⟩
  rintro en w' ⟨p, pl', h', ae, hs', k, hend, hk⟩
  cases ae with
  | ret v =>
    cases en with
    | returned x => exact ⟨pl', _, h', (s.next hs' k hk.1).put hd hend, hk.2⟩
    | panicked ch => exact hend.elim
    | outgrown => exact hend.elim
  | pan v =>
    cases en with
    | returned x => exact hend.elim
    | panicked ch => exact ⟨pl', _, h', .pan v, s.next hs' k hk.1, hend, hk.2⟩
    | outgrown => exact hend.elim
end
end Go.Abs

set_option linter.unusedVariables false
namespace Go.Abs
open Go Go.RowKit

def OLe (o o' : O) : Prop := (∀ c b, OAt c b o → OAt c b o') ∧ ((o = .dead ∨ o = .cells []) → (o' = .dead ∨ o' = .cells []))
theorem OLe.refl (o : O) : OLe o o := ⟨fun _ _ h => h, fun h => h⟩

/-- Fewer cells are told, and each of them less. -/
theorem OLe.cells {cs cs' : List V} (hl : cs'.length ≤ cs.length) (hv : VLes (cs.take cs'.length) cs') : OLe (.cells cs) (.cells cs') := by
  refine ⟨fun c b ho => ?_, fun h => ?_⟩
  · obtain ⟨arr, el, fz, h1, h2, h3, h4⟩ := ho
    refine ⟨arr, el, fz, h1, h2, by omega, ?_⟩
    have := hv c _ (h4.take cs'.length)
    rwa [List.take_take, Nat.min_eq_left hl] at this
  · rcases h with h | h
    · cases h
    · cases h
      exact .inr (by rw [List.length_eq_zero_iff.1 (Nat.le_zero.1 hl)])
theorem OLe.take (cs : List V) (m : Nat) : OLe (.cells cs) (.cells (cs.take m)) := OLe.cells (by simp; omega) (by
  rw [List.length_take, show List.take (min m cs.length) cs = List.take m cs by
    rcases Nat.le_total m cs.length with h | h
    · rw [Nat.min_eq_left h]
    · rw [Nat.min_eq_right h, List.take_of_length_le (Nat.le_refl _), List.take_of_length_le h]]
  exact VLes.refl _)
theorem VLe.cap {id k off len cap cap' : Nat} (hc : cap' ≤ cap) : VLe (.ls id k off len cap) (.ls id k off len cap') := fun c x h => by
  simp only [VRel] at h ⊢
  obtain ⟨a, cp, h1, h2, h3⟩ := h
  exact ⟨a, cp, h1, by omega, h3⟩
theorem VLe.nil_ls {id k off : Nat} : VLe .nils (.ls id k off 0 0) := fun c x h => by
  simp only [VRel] at h ⊢
  exact ⟨none, 0, h, Nat.le_refl _, Nat.le_refl _, Nat.zero_le _, .inl rfl⟩
theorem VLe.any (v : V) : VLe v .any := fun c x h => by simp only [VRel]
theorem VLes.set {vs : List V} {i : Nat} {v v' : V} (hi : vs[i]? = some v) (h : VLe v v') : VLes vs (vs.set i v') := by
  induction vs generalizing i with
  | nil => simp at hi
  | cons u vs ih =>
    cases i with
    | zero =>
      simp only [List.getElem?_cons_zero, Option.some.injEq] at hi
      subst hi
      exact VLes.cons h (VLes.refl _)
    | succ i => exact VLes.cons (VLe.refl _) (ih (by simpa using hi))

def HLe (h h' : H) : Prop := h'.length = h.length ∧ ∀ (i : Nat) (o' : O), h'[i]? = some o' → ∃ o : O, h[i]? = some o ∧ OLe o o'
theorem HLe.refl (h : H) : HLe h h := ⟨rfl, fun i o ho => ⟨o, ho, OLe.refl o⟩⟩
theorem HLe.trans {a b c : H} (h : HLe a b) (k : HLe b c) : HLe a c := ⟨k.1.trans h.1, fun i o ho => by
  obtain ⟨o1, h1, h2⟩ := k.2 i o ho
  obtain ⟨o2, h3, h4⟩ := h.2 i o1 h1
  exact ⟨o2, h3, fun c b x => h2.1 c b (h4.1 c b x), fun x => h2.2 (h4.2 x)⟩⟩
theorem HLe.set {h : H} {i : Nat} {o o' : O} (hi : h[i]? = some o) (hl : OLe o o') : HLe h (h.set i o') := by
  have hlt := (List.getElem?_eq_some_iff.1 hi).1
  refine ⟨List.length_set, fun j q hq => ?_⟩
  by_cases hj : i = j
  · subst hj
    rw [List.getElem?_set_self hlt] at hq
    cases hq
    exact ⟨o, hi, hl⟩
  · rw [List.getElem?_set_ne hj] at hq
    exact ⟨q, hq, OLe.refl q⟩

theorem HSim.le {e : E} {ok : Nat → Prop} {pl : Nat → Option Nat} {h h' : H} {w : World} (hs : HSim e ok pl h w) (k : HLe h h') : HSim e ok pl h' w where
  fresh := hs.fresh
  lt := hs.lt
  okl := hs.okl
  inj := hs.inj
  obj i b hi := by
    obtain ⟨o, h1, h2⟩ := hs.obj i b hi
    have hlt : i < h'.length := by have := (List.getElem?_eq_some_iff.1 h1).1; rw [k.1]; exact this
    obtain ⟨o1, h3, h4⟩ := k.2 i _ (List.getElem?_eq_getElem hlt)
    rw [h1] at h3
    cases h3
    exact ⟨_, List.getElem?_eq_getElem hlt, h4.1 _ _ h2⟩
  bare i o ho hp := by
    obtain ⟨o1, h3, h4⟩ := k.2 i o ho
    exact h4.2 (hs.bare i o1 h3 hp)
  glob := hs.glob
  exa := hs.exa

structure FLe (f f' : Fr) : Prop where
  t : ∀ i, VLe (f.t i) (f'.t i)
  d : f'.d = f.d
  k : f'.k = f.k

theorem awp_le {e : E} {n : Nat} {r : Option Nat} {c : Code} {Q : XE → Fr → H → Prop} {f f' : Fr} {h h' : H} (hf : FLe f f') (hh : HLe h h') (hw : awp e n r c Q f' h') : awp e n r c Q f h := by
  intro ok pl0 w0 pl w a s
  refine hw ok pl0 w0 pl w a ⟨s.hs.le hh, by rw [hf.k]; exact s.kp, s.size, fun i => hf.t i _ _ (s.val i), by rw [hf.d]; exact s.dfr⟩
theorem awp_leH {e : E} {n : Nat} {r : Option Nat} {c : Code} {Q : XE → Fr → H → Prop} {f : Fr} {h h' : H} (hh : HLe h h') (hw : awp e n r c Q f h') : awp e n r c Q f h :=
  awp_le ⟨fun _ => VLe.refl _, rfl, rfl⟩ hh hw
theorem ACalls.leH {e : E} {g : FuncId} {args : List V} {h : H} {R : AEnd → H → (Nat → Bool) → Prop} (hc : ACalls e g args h fun ae h1 p => ∃ h2, HLe h1 h2 ∧ R ae h2 p) : ACalls e g args h R :=
  fun ok pl w vs hs hv => (hc ok pl w vs hs hv).mono fun en w' ⟨p, pl', h', ae, h1, h2, h3, h2', h4, h5⟩ => ⟨p, pl', h2', ae, h1.le h4, h2, h3, h5⟩
theorem ACalls.argsH {e : E} {g : FuncId} {args args' : List V} {h h' : H} {R : AEnd → H → (Nat → Bool) → Prop} (ha : VLes args args') (hh : HLe h h') (hc : ACalls e g args' h' R) : ACalls e g args h R :=
  fun ok pl w vs hs hv => hc ok pl w vs (hs.le hh) (ha _ _ hv)
end Go.Abs

set_option linter.unusedVariables false
namespace Go.Abs
open Go Go.RowKit
theorem awp_join {e : E} {n : Nat} {r : Option Nat} {Q : XE → Fr → H → Prop} {f : Fr} {h : H} (hm : e.P.follows .mixedOrders = true) {x y z : Code} (M : Fr → H → Prop)
    (h1 : vc e n r x (XE.seq (vc e n r y (fun xe f h => xe = .normal ∧ M f h)) (fun xe f h => xe = .normal ∧ False)) f h) (h2 : ∀ f h, M f h → awp e n r z Q f h) : awp e n r (.seq x (.seq y z)) Q f h := by
  refine awp_seq (awp_mono ?_ (vc_ok hm _ _ _ _ h1))
  intro xe f h hq
  cases xe with
  | normal => exact awp_seq (awp_mono (fun xe f h hq => by
      obtain ⟨rfl, hq⟩ := hq
      exact h2 f h hq) (vc_ok hm _ _ _ _ hq))
  | _ => exact absurd hq.2 id
/-- A row that holds nothing may be thought of. -/
theorem awp_bare {e : E} {n : Nat} {r : Option Nat} {c : Code} {Q : XE → Fr → H → Prop} {f : Fr} {h : H} (hw : awp e n r c Q f (h ++ [.cells []])) : awp e n r c Q f h := by
  intro ok pl0 w0 pl w a s
  exact hw ok pl0 w0 pl w a ⟨cells_bare s.hs, s.kp, s.size, s.val, s.dfr⟩
theorem FLe.one {f : Fr} (i : Nat) {v : V} (h : VLe (f.t i) v) : FLe f { f with t := fun j => if j = i then v else f.t j } := by
  refine ⟨fun j => ?_, rfl, rfl⟩
  show VLe (f.t j) (if j = i then v else f.t j)
  by_cases he : j = i
  · rw [if_pos he, he]; exact h
  · rw [if_neg he]; exact VLe.refl _
end Go.Abs

set_option linter.unusedVariables false
namespace Go.Abs
open Go Go.RowKit
section
variable {e : E} {n : Nat} {o : Oper} {Kn : Fr → H → Prop} {Q : XE → Fr → H → Prop} {f : Fr} {h : H}

theorem eff_build1 {r : Option Nat} {t : TypeId} {x : Operand} (hop : o.op = .buildSlice t 1 #[(0, x)]) {q re : TI} (hq : ti e.P t = some q) {el : TypeId} (hk0 : q.kind = .slice el) (hre : ti e.P el = some re)
    (hz1 : re.size = 1) (hxc : (f.ev e x).sc) {kk : IntKind} {m : Int} (hx : (f.ev e x).sv = .int kk m)
    (hk : Kn (f.put o.dst (.ls h.length 1 0 1 1)) (h ++ [.cells [.int kk m]])) : Eff e n r o f h Kn Q := by
  refine Eff.of_EffV ?_ (fun c => by rw [hop]; exact fun h => by cases h)
  intro ok pl w ev hs hr
  obtain ⟨i, d, z, hT⟩ := ti_some hq
  have hd := hT.slice hk0; subst hd
  obtain ⟨ie, de, ze, hE⟩ := ti_some hre
  have h1 := (hr x (by simp [hop, Op.operands])).sv hxc
  rw [hx] at h1
  simp only [VRel] at h1
  obtain ⟨res, hr1, hr2⟩ := fill_seq (k := 1) [Value.int kk m] 0 ((Array.range (1 * 1)).map (ze.cells[· % ze.cells.size]!)) (by simp) (by simp [Value.cells])
  have hres : res.toList = [.int kk m] := by rw [hr2]; simp [Value.cells]
  have hsz : res.size = 1 := by rw [← Array.length_toList, hres]; rfl
  have hrun : (execOp ev o).run e.P w = .ok (.value (.slice (some ⟨w.heap.size, 0, none⟩) 1 1)) (w.alloc (.cells res el)) := by
    have h2 : (Instr.buildSlice t 1 #[(0, ev x)]).run e.P w = .ok (.slice (some ⟨w.heap.size, 0, none⟩) 1 1) (w.alloc (.cells res el)) := by
      unfold Instr.buildSlice
      simp only [Sem.run_bind, hT.run_und, Result.andThen, hE.run_size]
      rw [hz1, if_neg (by decide), if_neg (by decide)]
      simp only [Sem.run_bind, hE.run_zero, Sem.run_pure, Result.andThen]
      have h3 : Instr.fill (fun i => some (i * 1, 1)) ((Array.range (1 * 1)).map (ze.cells[· % ze.cells.size]!)) [(0, ev x)] = some res := by
        rw [h1]; exact hr1
      simp only [h3]
      rfl
    have h4 : execOp ev o = (do pure (Next.value (← Instr.buildSlice t 1 #[(0, ev x)]))) := by simp [execOp, hop]
    rw [h4]
    exact run_v h2
  obtain ⟨h1', h2'⟩ := cells_new' hs (cs := [.int kk m]) (arr := res) (by simp [hsz]) (by rw [hres]; simp [VList, VRel]) el (WExt.refl w)
  refine ⟨fun _ => false, .ls h.length 1 0 1 1, _, _, _, .slice (some ⟨w.heap.size, 0, none⟩) 1 1, .inl hrun, h1', h2', ?_, fun _ _ => rfl, by simpa using hk⟩
  simp only [VRel]
  exact ⟨_, 1, rfl, Nat.le_refl _, Nat.le_refl _, by decide, .inr ⟨w.heap.size, res, el, (0, 0), by simp [cx, plNew], rfl, World.alloc_heap_new w _, by omega⟩⟩

/-- A region in which the first operation is looked at by itself. -/
theorem awp_eff1 {r : Option Nat} {id : Nat} {rest : List Oper} (hg : o.guard = none) (hd : dstOk n o.dst = true) (he : Eff e n r o f h (vcOps e n (o :: rest).toArray Q rest) Q) : awp e n r (.region id (o :: rest).toArray false) Q f h :=
  fun ok pl0 w0 pl w a s => wpIn_region_list (by
    show wpListIn (RF r) 0 e.P (o :: rest).toArray (APost e n ok pl0 w0 Q) (o :: rest) a w
    have hgd : gd (o :: rest).toArray f o = some true := by unfold gd; rw [hg]
    have hw := gd_ok s.val hgd
    unfold wpListIn
    rw [if_pos hw]
    exact Oper.wpIn_mono (fun a' w' ⟨pl', f', h', s', hk⟩ => vcOps_ok rest f' h' hk pl' w' a' s') (he ok pl0 w0 pl w a s hd))
end
end Go.Abs

set_option linter.unusedVariables false
set_option linter.unusedSimpArgs false
namespace Go
/-- No call waits here. -/
def NoCall : List Item → Prop
  | .call .. :: _ => False
  | _ => True

/-- A piece of code, and where it panics, that nothing waits there. -/
def Code.wpP (F : Fence) (n : Nat) (P : Program) (c : Code) (Q : Exit → Act → World → Prop) (QP : List PanicEntry → Act → World → Prop) (a : Act) (w : World) : Prop :=
  ∀ b k cs, b.roundOf = F.round → F.fn b.fn → F.room (cs.length + 1 + n) →
    (∃ e a' w', Q e a' w' ∧ ArrivesIn (Machine.fenced P F) P (lone (b.atR a (.code c :: k)) cs w) b k cs e a' w') ∨
    (∃ chain a' w' todo, QP chain a' w' ∧ NoCall todo ∧ StepsIn (Machine.fenced P F) P (lone (b.atR a (.code c :: k)) cs w) (lone { b.atR a' todo with mode := .panicking chain } cs w'))

section
variable {F : Fence} {n : Nat} {P : Program} {Q : Exit → Act → World → Prop} {QP : List PanicEntry → Act → World → Prop} {a : Act} {w : World}

theorem wpP_of_wpIn {c : Code} (h : c.wpIn F n P Q a w) : c.wpP F n P Q QP a w := fun b k cs h1 h2 h3 => .inl (h b k cs h1 h2 h3)

theorem wpP_seq {x y : Code} (h : x.wpP F n P (Exit.then (y.wpP F n P Q QP) Q) QP a w) : (Code.seq x y).wpP F n P Q QP a w := by
  intro b k cs hro hb hr
  have i0 : (lone (b.atR a (.code (.seq x y) :: k)) cs w).fenced P F := fenced_calm hb hr rfl
  rcases h b (.code y :: k) cs hro hb hr with ⟨e, a1, w1, hq, harr⟩ | ⟨ch, a1, w1, td, hq, hn, hs⟩
  · cases e
    case normal =>
      rcases hq b k cs hro hb hr with ⟨e2, a2, w2, hq2, harr2⟩ | ⟨ch, a2, w2, td, hq2, hn, hs⟩
      · exact .inl ⟨e2, a2, w2, hq2, .of_steps (.head i0 stepR_seq harr) harr2⟩
      · exact .inr ⟨ch, a2, w2, td, hq2, hn, (StepsIn.head i0 stepR_seq harr).trans hs⟩
    all_goals exact .inl ⟨_, a1, w1, hq, .of_steps (.one i0 stepR_seq) (.pass (x := .code y) rfl (fun _ _ => .inl (by simp)) harr)⟩
  · exact .inr ⟨ch, a1, w1, td, hq, hn, .head i0 stepR_seq hs⟩

theorem wpP_cond {c : Operand} {x y : Code} {t : Bool} (hc : a.eval c = .bool t) (h : (if t then x else y).wpP F n P Q QP a w) : (Code.cond c x y).wpP F n P Q QP a w := by
  intro b k cs hro hb hr
  rcases h b k cs hro hb hr with ⟨e, a1, w1, hq, harr⟩ | ⟨ch, a1, w1, td, hq, hn, hs⟩
  · exact .inl ⟨e, a1, w1, hq, .of_steps (.one (fenced_calm hb hr rfl) (stepR_cond hc)) harr⟩
  · exact .inr ⟨ch, a1, w1, td, hq, hn, .head (fenced_calm hb hr rfl) (stepR_cond hc) hs⟩

/-- A block that is left at its end, or by its own exit. -/
theorem wpP_block {id : Nat} {c : Code} (h : c.wpP F n P (fun e a w => (e = .normal ∨ e = .exit id) ∧ Q .normal a w) QP a w) : (Code.block id c).wpP F n P Q QP a w := by
  intro b k cs hro hb hr
  have i0 : (lone (b.atR a (.code (.block id c) :: k)) cs w).fenced P F := fenced_calm hb hr rfl
  rcases h b (.inBlock id :: k) cs hro hb hr with ⟨e, a1, w1, ⟨he, hq⟩, harr⟩ | ⟨ch, a1, w1, td, hq, hn, hs⟩
  · rcases he with rfl | rfl
    · exact .inl ⟨.normal, a1, w1, hq, .head i0 stepR_block (StepsIn.trans harr (.one (fenced_calm hb hr rfl) stepR_inBlock))⟩
    · exact .inl ⟨.normal, a1, w1, hq, .head i0 stepR_block (harr.1 k (by simp [exitTo]))⟩
  · exact .inr ⟨ch, a1, w1, td, hq, hn, .head i0 stepR_block hs⟩

/-- A loop that is left by an exit. -/
theorem wpP_loop {c : Code} {id : Nat} (I : Nat → Act → World → Prop) (m₀ : Nat) (h₀ : I m₀ a w)
    (round : ∀ m a w, I m a w → c.wpP F n P (fun e a' w' => (e = .normal ∧ ∃ m', m' < m ∧ I m' a' w') ∨ (e = .exit id ∧ Q (.exit id) a' w')) QP a w) : (Code.loop c).wpP F n P Q QP a w := by
  intro b k cs hro hb hr
  have key : ∀ j, ∀ m a w, m < j → I m a w →
      (∃ e a' w', Q e a' w' ∧ ArrivesIn (Machine.fenced P F) P (lone (b.atR a (.code c :: .inLoop c :: k)) cs w) b k cs e a' w') ∨
      (∃ chain a' w' todo, QP chain a' w' ∧ NoCall todo ∧ StepsIn (Machine.fenced P F) P (lone (b.atR a (.code c :: .inLoop c :: k)) cs w) (lone { b.atR a' todo with mode := .panicking chain } cs w')) := by
    intro j
    induction j with
    | zero => intro m a w hm; omega
    | succ j ih =>
      intro m a w hm hI
      rcases round m a w hI b (.inLoop c :: k) cs hro hb hr with ⟨e, a1, w1, hq, harr⟩ | ⟨ch, a1, w1, td, hq, hn, hs⟩
      · rcases hq with ⟨rfl, m', hlt, hI'⟩ | ⟨rfl, hq⟩
        · have s1 := StepsIn.trans harr (.one (fenced_calm (fr := b.atR a1 (.inLoop c :: k)) hb hr rfl) stepR_inLoop)
          rcases ih m' a1 w1 (by omega) hI' with ⟨e2, a2, w2, hq2, harr2⟩ | ⟨ch, a2, w2, td, hq2, hn, hs⟩
          · exact .inl ⟨e2, a2, w2, hq2, .of_steps s1 harr2⟩
          · exact .inr ⟨ch, a2, w2, td, hq2, hn, s1.trans hs⟩
        · exact .inl ⟨_, a1, w1, hq, .pass (x := .inLoop c) rfl (fun _ _ => .inl (by simp)) harr⟩
      · exact .inr ⟨ch, a1, w1, td, hq, hn, hs⟩
  have i0 : (lone (b.atR a (.code (.loop c) :: k)) cs w).fenced P F := fenced_calm hb hr rfl
  rcases key (m₀ + 1) m₀ a w (Nat.lt_succ_self _) h₀ with ⟨e, a1, w1, hq, harr⟩ | ⟨ch, a1, w1, td, hq, hn, hs⟩
  · exact .inl ⟨e, a1, w1, hq, .of_steps (.one i0 stepR_loop) harr⟩
  · exact .inr ⟨ch, a1, w1, td, hq, hn, .head i0 stepR_loop hs⟩

/-- An operation, and where the call that it makes panics. -/
def Oper.wpP (F : Fence) (n : Nat) (P : Program) (o : Oper) (a : Act) (w : World) (next : Act → World → Prop) (QP : List PanicEntry → Act → World → Prop) : Prop :=
  ∃ vs w', (o.semAt F.round a.eval).run P w = .ok vs w' ∧ (∀ f, o.about P w a.eval = some f → F.fn f) ∧ (F.depth = none) ∧ match vs with
    | .value v => next (a.put o.dst v) w'
    | .skip => next (a.put o.dst undef) w'
    | .enter g args => CallsIn F (n - 1) P g args w' fun
      | .returned v, w'' => next (a.put o.dst v) w''
      | .panicked chain, w'' => QP chain a w''
      | .outgrown, _ => False
    | _ => False

def wpOpsP (F : Fence) (n : Nat) (P : Program) (ops : Array Oper) (Q : Exit → Act → World → Prop) (QP : List PanicEntry → Act → World → Prop) : List Nat → Act → World → Prop
  | [], a, w => Q .normal a w
  | i :: rest, a, w => ∃ o, ops[i]? = some o ∧ Region.wanted o (yielded ops a.tmps) = true ∧ o.wpP F n P a w (wpOpsP F n P ops Q QP rest) QP

theorem wp_opsP {ops : Array Oper} : ∀ (l : List Nat) (a : Act) (w : World), wpOpsP F n P ops Q QP l a w → ∀ (b : Frame) (k : List Item) (cs : List Frame), b.roundOf = F.round → F.fn b.fn → F.room (cs.length + 1 + n) →
    (∃ e a' w', Q e a' w' ∧ ArrivesIn (Machine.fenced P F) P (lone (b.atR a (.inRegion ops l :: k)) cs w) b k cs e a' w') ∨
    (∃ chain a' w' todo, QP chain a' w' ∧ NoCall todo ∧ StepsIn (Machine.fenced P F) P (lone (b.atR a (.inRegion ops l :: k)) cs w) (lone { b.atR a' todo with mode := .panicking chain } cs w'))
  | [], a, w, h, b, k, cs, hro, hb, hr => .inl ⟨.normal, a, w, h, .one (fenced_calm hb hr rfl) stepR_region_end⟩
  | i :: rest, a, w, h, b, k, cs, hro, hb, hr => by
    obtain ⟨o, ho, hw, nx, w1, hrun, habout, hdep, hnx⟩ := h
    have i0 : (lone (b.atR a (.inRegion ops (i :: rest) :: k)) cs w).fenced P F := fenced_oper hb hr ho habout
    have hg := stepGR_op (P := P) (b := b) (k := k) (cs := cs) (w := w) (rest := rest) ho hw
    rw [hro] at hg
    have hfin : ∀ v, (b.atR a (.inRegion ops (i :: rest) :: k)).finish v = b.atR (a.put o.dst v) (.inRegion ops rest :: k) := fun v => by rw [Frame.finish_atR, ho]; rfl
    cases nx <;> try exact hnx.elim
    case value v =>
      have s1 : StepsIn (Machine.fenced P F) P (lone (b.atR a (.inRegion ops (i :: rest) :: k)) cs w) (lone (b.atR (a.put o.dst v) (.inRegion ops rest :: k)) cs w1) :=
        .one i0 (step_lone_go (by rw [hg, ← hfin]; simp [stepG.apply, hrun]))
      rcases wp_opsP rest _ _ hnx b k cs hro hb hr with ⟨e, a2, w2, hq, harr⟩ | ⟨ch, a2, w2, td, hq, hn, hs⟩
      · exact .inl ⟨e, a2, w2, hq, .of_steps s1 harr⟩
      · exact .inr ⟨ch, a2, w2, td, hq, hn, s1.trans hs⟩
    case skip =>
      have s1 : StepsIn (Machine.fenced P F) P (lone (b.atR a (.inRegion ops (i :: rest) :: k)) cs w) (lone (b.atR (a.put o.dst undef) (.inRegion ops rest :: k)) cs w1) :=
        .one i0 (step_lone_go (by rw [hg, ← hfin]; simp [stepG.apply, hrun]))
      rcases wp_opsP rest _ _ hnx b k cs hro hb hr with ⟨e, a2, w2, hq, harr⟩ | ⟨ch, a2, w2, td, hq, hn, hs⟩
      · exact .inl ⟨e, a2, w2, hq, .of_steps s1 harr⟩
      · exact .inr ⟨ch, a2, w2, td, hq, hn, s1.trans hs⟩
    case enter g args =>
      obtain ⟨hF, hc⟩ := hnx
      have hroom : F.room ((b.atR a (.inRegion ops (i :: rest) :: k) :: cs).length + 1 + (n - 1)) := Fence.room_enter hr (fun h => by rw [hdep] at h; cases h)
      obtain ⟨e, w2, fr, hR, hsteps, hfn, hleave⟩ := hc (b.atR a (.inRegion ops (i :: rest) :: k) :: cs) hroom
      have henter : step P (lone (b.atR a (.inRegion ops (i :: rest) :: k)) cs w) = .next (lone (Frame.enter P g args .normal) (b.atR a (.inRegion ops (i :: rest) :: k) :: cs) w1) :=
        step_lone_go (by rw [hg]; simp [stepG.apply, hrun, Frame.atR])
      cases e with
      | outgrown => exact hR.elim
      | returned v =>
        have il : (lone fr (b.atR a (.inRegion ops (i :: rest) :: k) :: cs) w2).fenced P F := fenced_leaving (hfn ▸ hF) hroom hleave
        have s1 : StepsIn (Machine.fenced P F) P (lone (b.atR a (.inRegion ops (i :: rest) :: k)) cs w) (lone (b.atR (a.put o.dst v) (.inRegion ops rest :: k)) cs w2) := by
          refine .head i0 henter (StepsIn.trans hsteps (.one il ?_))
          rw [← hfin]; exact step_leave_returned hleave
        rcases wp_opsP rest _ _ hR b k cs hro hb hr with ⟨e, a2, w2, hq, harr⟩ | ⟨ch, a2, w2, td, hq, hn, hs⟩
        · exact .inl ⟨e, a2, w2, hq, .of_steps s1 harr⟩
        · exact .inr ⟨ch, a2, w2, td, hq, hn, s1.trans hs⟩
      | panicked chain =>
        have il : (lone fr (b.atR a (.inRegion ops (i :: rest) :: k) :: cs) w2).fenced P F := fenced_leaving (hfn ▸ hF) hroom hleave
        refine .inr ⟨chain, a, w2, .inRegion ops (i :: rest) :: k, hR, trivial, .head i0 henter (StepsIn.trans hsteps (.one il ?_))⟩
        rw [← Frame.raise_atR]; exact step_leave_panicked hleave

theorem wpP_region {id : Nat} {ops : Array Oper} (h : wpOpsP F n P ops Q QP (List.range ops.size) a w) : (Code.region id ops false).wpP F n P Q QP a w := by
  intro b k cs hro hb hr
  have i0 : (lone (b.atR a (.code (.region id ops false) :: k)) cs w).fenced P F := fenced_calm hb hr rfl
  rcases wp_opsP _ a w h b k cs hro hb hr with ⟨e, a2, w2, hq, harr⟩ | ⟨ch, a2, w2, td, hq, hn, hs⟩
  · exact .inl ⟨e, a2, w2, hq, .of_steps (.one i0 stepR_region) harr⟩
  · exact .inr ⟨ch, a2, w2, td, hq, hn, .head i0 stepR_region hs⟩

theorem Oper.wpP_mono {o : Oper} {nx nx' : Act → World → Prop} {QP' : List PanicEntry → Act → World → Prop} (h : o.wpP F n P a w nx QP) (h1 : ∀ a w, nx a w → nx' a w) (h2 : ∀ ch a w, QP ch a w → QP' ch a w) : o.wpP F n P a w nx' QP' := by
  obtain ⟨vs, w', hr, ha, hd, hm⟩ := h
  refine ⟨vs, w', hr, ha, hd, ?_⟩
  cases vs <;> try exact hm.elim
  case value v => exact h1 _ _ hm
  case skip => exact h1 _ _ hm
  case enter g args =>
    refine CallsIn.mono hm fun e w'' hq => ?_
    cases e with
    | returned v => exact h1 _ _ hq
    | panicked ch => exact h2 _ _ _ hq
    | outgrown => exact hq.elim

def wpListP (F : Fence) (n : Nat) (P : Program) (ops : Array Oper) (Q : Exit → Act → World → Prop) (QP : List PanicEntry → Act → World → Prop) : List Oper → Act → World → Prop
  | [], a, w => Q .normal a w
  | o :: rest, a, w => Region.wanted o (yielded ops a.tmps) = true ∧ o.wpP F n P a w (wpListP F n P ops Q QP rest) QP
theorem wpOpsP_of_list {ops : Array Oper} : ∀ (l : List Oper) (k : Nat) (a : Act) (w : World), (∀ j, j < l.length → l[j]? = ops[k + j]?) → wpListP F n P ops Q QP l a w → wpOpsP F n P ops Q QP (List.range' k l.length) a w
  | [], k, a, w, _, h => h
  | o :: rest, k, a, w, hl, h => by
    refine ⟨o, by have := hl 0 (by simp); simpa using this.symm, h.1, Oper.wpP_mono h.2 (fun a w h => wpOpsP_of_list rest (k + 1) a w (fun j hj => ?_) h) fun _ _ _ h => h⟩
    have := hl (j + 1) (by simpa using hj)
    rw [List.getElem?_cons_succ] at this
    rw [this]
    congr 1
    omega
theorem wpP_list {id : Nat} {l : List Oper} (h : wpListP F n P l.toArray Q QP l a w) : (Code.region id l.toArray false).wpP F n P Q QP a w := by
  refine wpP_region ?_
  rw [List.range_eq_range']
  have e : l.toArray.size = l.length := by simp
  rw [e]
  exact wpOpsP_of_list l 0 a w (fun j _ => by simp) h
theorem wpP_mono {c : Code} {Q' : Exit → Act → World → Prop} {QP' : List PanicEntry → Act → World → Prop} (h : c.wpP F n P Q QP a w) (h1 : ∀ e a w, Q e a w → Q' e a w) (h2 : ∀ ch a w, QP ch a w → QP' ch a w) : c.wpP F n P Q' QP' a w := by
  intro b k cs hro hb hr
  rcases h b k cs hro hb hr with ⟨e, a1, w1, hq, harr⟩ | ⟨ch, a1, w1, td, hq, hn, hs⟩
  · exact .inl ⟨e, a1, w1, h1 _ _ _ hq, harr⟩
  · exact .inr ⟨ch, a1, w1, td, h2 _ _ _ hq, hn, hs⟩

/-- A frame in which nothing waits passes a panic up. -/
theorem step_pass {fr c : Frame} {cs : List Frame} {chain : List PanicEntry} (hm : fr.mode = .panicking chain) (hd : fr.defers = []) (ht : NoCall fr.todo) : step P (lone fr (c :: cs) w) = .next (lone (c.raise chain) cs w) := by
  have hc : fr.catches P = false := by
    unfold Frame.catches
    split
    · rename_i h1 h2
      rw [h2] at ht
      exact ht.elim
    · rfl
  exact step_lone_go (by simp [stepG, unwind, hm, hd, hc])

/-- A round, out of its body, where that may panic. -/
theorem roundIn_of_wpP {l : Nat} {f : FuncId} {tmps : Array Value} {assign body : Code} {R : Ending → World → Prop} (hF : F.fn f)
    (h : assign.wpIn (F.inRound l) n P (Exit.then (fun a₁ w₁ => ∃ w₂, (Instr.beginRound l).run P w₁ = .ok () w₂ ∧
      body.wpP (F.inRound l) n P (fun e a w => e = .normal ∧ ∃ v w', (Instr.endRound l none).run P w = .ok v w' ∧ R (.returned v) w') (fun ch a w => a.defers = [] ∧ R (.panicked ch) w) a₁ w₂) (fun _ _ _ => False)) { tmps := tmps, defers := [] } w) :
    RoundIn F n P l f tmps assign body w R := by
  refine ⟨hF, fun c cs hr => ?_⟩
  obtain ⟨b, eb⟩ : ∃ b : Frame, b = { (default : Frame) with fn := f, kind := .normal, roundOf := some l } := ⟨_, rfl⟩
  have hb0 : Frame.round l f tmps assign body .normal = b.atR { tmps := tmps, defers := [] } [.code assign, .beginRound, .code body] := by
    rw [eb]; simp [Frame.round, Frame.atR]
  have hr' : (F.inRound l).room ((c :: cs).length + 1 + n) := hr
  have hF' : (F.inRound l).fn b.fn := by rw [eb]; exact hF
  have hro : b.roundOf = (F.inRound l).round := by rw [eb]; rfl
  have hro2 : b.roundOf = some l := by rw [eb]
  have hkd : b.kind = .normal := by rw [eb]
  obtain ⟨e, a1, w1, hq, harr⟩ := h b [.beginRound, .code body] (c :: cs) hro hF' hr'
  rw [← hb0] at harr
  cases e <;> try exact hq.elim
  obtain ⟨w2, hbr, hbody⟩ := hq
  have s1 : StepsIn (Machine.fenced P (F.inRound l)) P (lone (b.atR a1 [.beginRound, .code body]) (c :: cs) w1) (lone (b.atR a1 [.code body]) (c :: cs) w2) :=
    .one (fenced_calm (fr := b.atR a1 [.beginRound, .code body]) hF' hr' rfl) (stepR_beginRound hro2 hbr)
  have s2 := StepsIn.trans harr s1
  rcases hbody b [] (c :: cs) hro hF' hr' with ⟨e, a3, w3, ⟨rfl, v, w4, hend, hR⟩, harr2⟩ | ⟨ch, a3, w3, td, ⟨hd, hR⟩, hn, hs⟩
  · exact ⟨.returned v, w4, hR, s2.trans (StepsIn.trans harr2 (.one (fenced_calm (fr := b.atR a3 []) hF' hr' rfl) (stepR_round_end hro2 hkd hend)))⟩
  · refine ⟨.panicked ch, w3, hR, s2.trans (StepsIn.trans hs (.one (fenced_calm (fr := { b.atR a3 td with mode := .panicking ch }) hF' hr' ?_) (step_pass rfl hd hn)))⟩
    obtain ⟨fr, efr⟩ : ∃ fr : Frame, fr = { b.atR a3 td with mode := .panicking ch } := ⟨_, rfl⟩
    have hd' : fr.defers = [] := by rw [efr]; exact hd
    have hm' : fr.mode = .panicking ch := by rw [efr]
    rw [← efr]
    simp [Frame.about, hd', hm']
end
end Go

set_option linter.unusedVariables false
set_option linter.unusedSimpArgs false
namespace Go.Abs
open Go Go.RowKit

/-- At a panic. -/
def PPost (e : E) (n : Nat) (ok : Nat → Prop) (pl0 : Nat → Option Nat) (w0 : World) (QP : V → Fr → H → Prop) : List PanicEntry → Act → World → Prop :=
  fun ch a' w' => ∃ pl' f' h' v x, SSim e n ok pl0 w0 f' h' pl' w' a' ∧ ch = [{ v := x, recovered := false }] ∧ VRel (cx ok pl' w') v x ∧ QP v f' h'

def awpP (e : E) (n : Nat) (r : Option Nat) (c : Code) (Q : XE → Fr → H → Prop) (QP : V → Fr → H → Prop) (f : Fr) (h : H) : Prop :=
  ∀ ok pl0 w0 pl w a, SSim e n ok pl0 w0 f h pl w a → c.wpP (RF r) 0 e.P (APost e n ok pl0 w0 Q) (PPost e n ok pl0 w0 QP) a w

section
variable {e : E} {n : Nat} {r : Option Nat} {f : Fr} {h : H} {Q : XE → Fr → H → Prop} {QP : V → Fr → H → Prop}

theorem awpP_of_awp {c : Code} (hv : awp e n r c Q f h) : awpP e n r c Q QP f h := fun ok pl0 w0 pl w a s => wpP_of_wpIn (hv ok pl0 w0 pl w a s)

theorem awpP_seq {x y : Code} (hv : awpP e n r x (XE.seq (awpP e n r y Q QP) Q) QP f h) : awpP e n r (.seq x y) Q QP f h := fun ok pl0 w0 pl w a s =>
  wpP_seq (wpP_mono (hv ok pl0 w0 pl w a s) (APost.seq fun pl f h a w s hk => hk ok pl0 w0 pl w a s) fun _ _ _ h => h)

theorem awpP_mono {c : Code} {Q' : XE → Fr → H → Prop} {QP' : V → Fr → H → Prop} (h1 : ∀ xe f h, Q xe f h → Q' xe f h) (h2 : ∀ v f h, QP v f h → QP' v f h) (hv : awpP e n r c Q QP f h) : awpP e n r c Q' QP' f h := fun ok pl0 w0 pl w a s =>
  wpP_mono (hv ok pl0 w0 pl w a s) (fun ex a w ⟨pl', f', h', xe, s, hx, hk⟩ => ⟨pl', f', h', xe, s, hx, h1 _ _ _ hk⟩) fun ch a w ⟨pl', f', h', v, x, s, hc, hr, hk⟩ => ⟨pl', f', h', v, x, s, hc, hr, h2 _ _ _ hk⟩

/-- A block that is left at its end, or by its own exit. -/
theorem awpP_block {id : Nat} {c : Code} (hv : awpP e n r c (fun xe f h => (xe = .normal ∨ xe = .exit id) ∧ Q .normal f h) QP f h) : awpP e n r (.block id c) Q QP f h := fun ok pl0 w0 pl w a s => by
  refine wpP_block (wpP_mono (hv ok pl0 w0 pl w a s) ?_ fun _ _ _ h => h)
  rintro ex a w ⟨pl', f', h', xe, s, hx, hq, hk⟩
  rcases hq with rfl | rfl <;> cases ex <;> (try exact hx.elim)
  · exact ⟨.inl rfl, pl', f', h', .normal, s, trivial, hk⟩
  · cases hx; exact ⟨.inr rfl, pl', f', h', .normal, s, trivial, hk⟩

/-- A loop that is left by an exit. -/
theorem awpP_loop {c : Code} (id : Nat) (I : Nat → Fr → H → Prop) (m₀ : Nat) (h₀ : I m₀ f h)
    (round : ∀ m f h, I m f h → awpP e n r c (fun xe f' h' => (xe = .normal ∧ ∃ m', m' < m ∧ I m' f' h') ∨ (xe = .exit id ∧ Q (.exit id) f' h')) QP f h) : awpP e n r (.loop c) Q QP f h := fun ok pl0 w0 pl w a s => by
  refine wpP_loop (id := id) (fun m a w => ∃ pl f h, SSim e n ok pl0 w0 f h pl w a ∧ I m f h) m₀ ⟨pl, f, h, s, h₀⟩ ?_
  rintro m a w ⟨pl, f, h, s, hI⟩
  refine wpP_mono (round m f h hI ok pl0 w0 pl w a s) ?_ fun _ _ _ h => h
  rintro ex a w ⟨pl', f', h', xe, s, hx, hq⟩
  rcases hq with ⟨rfl, m', hlt, hk⟩ | ⟨rfl, hk⟩ <;> cases ex <;> (try exact hx.elim)
  · exact .inl ⟨rfl, m', hlt, pl', f', h', s, hk⟩
  · cases hx; exact .inr ⟨rfl, pl', f', h', .exit id, s, rfl, hk⟩

theorem awpP_cond {c : Operand} {x y : Code} {b : Bool} (hsc : (f.ev e c).sc) (hb : (f.ev e c).sv = .bool b) (hx : b = true → awpP e n r x Q QP f h) (hy : b = false → awpP e n r y Q QP f h) : awpP e n r (.cond c x y) Q QP f h := by
  intro ok pl0 w0 pl w a s
  have h1 := (s.ev c).sv hsc
  rw [hb] at h1
  simp only [VRel] at h1
  refine wpP_cond (t := b) h1 ?_
  cases b
  · exact hy rfl ok pl0 w0 pl w a s
  · exact hx rfl ok pl0 w0 pl w a s

/-- A call that may panic. -/
def callKP (dst : Option Tmp) (Kn : Fr → H → Prop) (QP : V → Fr → H → Prop) (f : Fr) (ae : AEnd) (h' : H) (p : Nat → Bool) : Prop :=
  (∀ i ∈ f.d, p i = false) ∧ match ae with
    | .ret v => Kn ((f.drop p).put dst v) h'
    | .pan v => QP v (f.drop p) h'
def vcCallP (e : E) (o : Oper) (f : Fr) (h : H) (Kn : Fr → H → Prop) (QP : V → Fr → H → Prop) : Prop :=
  match o.op with
  | .call { callee := .value fx, args := args, argTypes := ts } => match callOn e (f.ev e) fx args with
    | some (g, vs) => callSc (f.ev e) fx args ∧ enters e.P g = true ∧ ACalls e g vs h (callKP o.dst Kn QP f)
    | none => False
  | _ => False
def vcOpsP (e : E) (n : Nat) (Q : XE → Fr → H → Prop) (QP : V → Fr → H → Prop) : List Oper → Fr → H → Prop
  | [], f, h => Q .normal f h
  | o :: rest, f, h => o.guard = none ∧ dstOk n o.dst = true ∧ match isEff o.op with
    | false => PV.go true (pvOp e.P o (f.ev e) h) o.dst (vcOpsP e n Q QP rest) f h
    | true => vcCallP e o f h (vcOpsP e n Q QP rest) QP

theorem vcOpsP_ok {ops : Array Oper} {ok : Nat → Prop} {pl0 : Nat → Option Nat} {w0 : World} :
    ∀ (l : List Oper) (f : Fr) (h : H), vcOpsP e n Q QP l f h → ∀ (pl : Nat → Option Nat) (w : World) (a : Act), SSim e n ok pl0 w0 f h pl w a → wpListP (RF r) 0 e.P ops (APost e n ok pl0 w0 Q) (PPost e n ok pl0 w0 QP) l a w
  | [], f, h, hv, pl, w, a, s => ⟨pl, f, h, .normal, s, trivial, hv⟩
  | o :: rest, f, h, hv, pl, w, a, s => by
    obtain ⟨hg, hd, hv⟩ := hv
    have hw : Region.wanted o (yielded ops a.tmps) = true := by
      refine gd_ok (ops := ops) s.val (g := true) ?_
      unfold gd; rw [hg]
    refine ⟨hw, ?_⟩
    cases he : isEff o.op with
    | false =>
      rw [he] at hv
      dsimp only at hv
      obtain ⟨hc, hk⟩ := hv
      have hq := pvOp_ok (e := e) (hc rfl) ok pl w a.eval s.hs s.evs
      have hnd : o.semAt (RF r).round a.eval = execOp a.eval o := by
        rw [RF_round]
        refine Oper.semAt_eq r a.eval o fun c hc => ?_
        have this := hq
        unfold execOp at this
        rw [hc] at this
        simp only [Sem.run_bind] at this
        revert this
        cases (resolve a.eval c o.type).run e.P w <;> simp [YieldsTo, Result.andThen]
      have fin : ∀ x w', WExt w w' ∧ VRel (cx ok pl w') (pvOp e.P o (f.ev e) h).2 x → wpListP (RF r) 0 e.P ops (APost e n ok pl0 w0 Q) (PPost e n ok pl0 w0 QP) rest (a.put o.dst x) w' := fun x w' ⟨hx, hv⟩ =>
        vcOpsP_ok rest _ h hk pl w' _ ((s.next0 (s.hs.wext hx) (hx.keeps s.hs)).put hd hv)
      revert hq
      cases hrun : (execOp a.eval o).run e.P w with
      | halt x w' => intro hq; exact hq.elim
      | ok nx w' =>
        intro hq
        refine ⟨nx, w', by rw [hnd]; exact hrun, fun g _ => RF_fn r g, RF_depth r, ?_⟩
        cases nx <;> try exact hq.elim
        case value x => exact fin x w' hq
        case skip => exact fin undef w' hq
        case enter g args =>
          refine (CallsIn.ofCalls (Calls.mono hq ?_))
          rintro en w'' ⟨x, rfl, hx⟩
          exact fin x w'' hx
    | true =>
      rw [he] at hv
      dsimp only at hv
      unfold vcCallP at hv
      split at hv
      · rename_i fx args ts hop
        split at hv
        · rename_i g vs hon
          obtain ⟨hsc, hen, hc⟩ := hv
          obtain ⟨xs, hrun, hl⟩ := call_exec (e := e) hop (s.evs (o := o)) hon hsc hen
          refine ⟨_, _, by rw [RF_round, Oper.semAt_eq r a.eval o (fun c => by rw [hop]; exact fun h => by cases h)]; exact hrun, fun g _ => RF_fn r g, RF_depth r, CallsIn.ofCalls ((hc ok pl w xs s.hs hl).mono ?_)⟩
          rintro en w' ⟨p, pl', h', ae, hs', k, hend, hp, hk⟩
          cases ae with
          | ret v =>
            cases en with
            | returned x => exact vcOpsP_ok rest _ h' hk pl' w' _ ((s.next hs' k hp).put hd hend)
            | panicked ch => exact hend.elim
            | outgrown => exact hend.elim
          | pan v =>
            cases en with
            | returned x => exact hend.elim
            | panicked ch =>
              obtain ⟨x, hx, hr⟩ := hend
              exact ⟨pl', _, h', v, x, s.next hs' k hp, hx, hr, hk⟩
            | outgrown => exact hend.elim
        · exact hv.elim
      · exact hv.elim
theorem awpP_region {id : Nat} {l : List Oper} (hv : vcOpsP e n Q QP l f h) : awpP e n r (.region id l.toArray false) Q QP f h := fun ok pl0 w0 pl w a s => wpP_list (vcOpsP_ok l f h hv pl w a s)

/-- At the end of a round's body that may panic. -/
def roundN (id : Nat) (L : (Nat → V) → LoopState → Option Code → O) (K : Fr → H → (Nat → Bool) → Prop) (xe : XE) (f2 : Fr) (h2 : H) : Prop :=
  xe = .normal ∧ f2.k id = false ∧ ∃ t st, h2[id]? = some (L t st none) ∧ K f2 (h2.set id (L t .ready none)) f2.k

/-- A call of yield, by a loop whose record stands as L. -/
theorem eff_yieldP (htl : e.tl = []) {o : Oper} {Kn : Fr → H → Prop} {fx : Operand} {args : Array Operand} {ts : Array TypeId} (hop : o.op = .call { callee := .value fx, args := args, argTypes := ts }) {id : Nat} (hfx : (f.ev e fx).sv = .yd id)
    (hsc : callSc (f.ev e) fx args) {t : Nat → V} {n' : Nat} {ps : Array Tmp} {asg body : Code} (hc : h[id]? = some (.loop t n' ps asg body .ready none))
    (hl : args.size = ps.size) (hps : (ps.toList.all fun p => decide (p < n')) = true)
    (hv : ∀ l, awp e n' (some l) asg (fun xe f1 h1 => xe = .normal ∧ f1.k id = false ∧ ∃ t, h1[id]? = some (.loop t n' ps asg body .ready none) ∧
        awpP e n' (some l) body (fun xe f2 h2 => xe = .normal ∧ (f2.k id = false ∧ ∀ i ∈ f.d, f2.k i = false) ∧ ∃ t st, h2[id]? = some (.loop t n' ps asg body st none) ∧ Kn ((f.drop f2.k).put o.dst (.bool true)) (h2.set id (.loop t n' ps asg body .ready none)))
          (fun v f2 h2 => f2.d = [] ∧ (∀ i ∈ f.d, f2.k i = false) ∧ Q (.pan v) (f.drop f2.k) h2) f1 (h1.set id (.loop t n' ps asg body .busy none)))
      (putAll { t := t } ps.toList (args.toList.map fun x => (f.ev e x).sv)) h) : Eff e n r o f h Kn Q := by
  intro ok pl0 w0 pl w a s hd
  have h1 := (s.ev fx).sv hsc.1
  rw [hfx] at h1
  simp only [VRel] at h1
  obtain ⟨b, hb, hx⟩ := h1
  have hb : pl id = some b := hb
  have h5 := (VList.of_map (c := cx ok pl w) (ρ := f.ev e) (ev := a.eval) args.toList fun x hx => s.ev x).sv hsc.2
  rw [List.map_map] at h5
  obtain ⟨rec, g1, g2, g3, g4, g5, g6, g7, _⟩ := s.hs.loopSet hb hc .ready none
  have hrun : (execOp a.eval o).run e.P w = .ok (.round b rec.fn ((rec.params.zip (args.map a.eval)).foldl (fun tmps (t, a) => tmps.setIfInBounds t a) rec.tmps) rec.assign rec.body) w := by
    have : execOp a.eval o = (do let d ← resolve a.eval { callee := .value fx, args := args, argTypes := ts } o.type; invoke d.target d.args) := by simp [execOp, hop]
    rw [this]
    have h6 : (resolve a.eval { callee := .value fx, args := args, argTypes := ts } o.type).run e.P w = .ok { target := .fn (.yield b) #[], args := args.map a.eval } w := by
      simp [resolve, hx, Deferred.ofValue]
    simp only [Sem.run_bind, h6, Result.andThen, invoke]
    exact run_yield g1 (by simp [g4, hl])
  refine ⟨fun g _ => RF_fn r g, ?_⟩
  rw [RF_round, Oper.semAt_eq r a.eval o (fun c => by rw [hop]; exact fun h => by cases h), hrun]
  refine ⟨fun hd' => (by rw [RF_depth] at hd'; cases hd'), ?_⟩
  rw [g5, g6]
  have tr := TRel.all (ps := ps.toList) g7 hps h5
  have htm : (rec.params.zip (args.map a.eval)).foldl (fun tmps (t, a) => tmps.setIfInBounds t a) rec.tmps = ((ps.toList.zip (args.toList.map a.eval)).foldl (fun tmps (t, a) => tmps.setIfInBounds t a) rec.tmps) := by
    rw [g4, ← Array.foldl_toList, Array.toList_zip, Array.toList_map]
  rw [htm]
  have hk : ∀ (ps : List Tmp) (vs : List V) (f : Fr), (putAll f ps vs).k = f.k ∧ (putAll f ps vs).d = f.d := by
    intro ps
    induction ps with
    | nil => intro vs f; cases vs <;> exact ⟨rfl, rfl⟩
    | cons p ps ih => intro vs f; cases vs with
      | nil => exact ⟨rfl, rfl⟩
      | cons v vs => exact ih vs (f.put (some p) v)
  have s0 : SSim e n' ok pl w (putAll { t := t } ps.toList (args.toList.map fun x => (f.ev e x).sv)) h pl w { tmps := ((ps.toList.zip (args.toList.map a.eval)).foldl (fun tmps (t, a) => tmps.setIfInBounds t a) rec.tmps), defers := [] } := by
    refine ⟨s.hs, ?_, tr.size, tr.val, ?_⟩
    · rw [(hk _ _ _).1]; exact Keeps.refl pl w
    · rw [(hk _ _ _).2]; exact htl.symm
  refine roundIn_of_wpP (RF_fn r _) ?_
  rw [RF_inRound]
  refine wpIn_mono (hv b ok pl w pl w _ s0) ?_
  rintro ex a1 w1 ⟨pl1, f1, h1, xe, s1, hx1, rfl, hk1, t1, hc1, hbody⟩
  cases ex <;> (try exact hx1.elim)
  have hb1 : pl1 id = some b := s1.kp.keep id b hk1 hb
  obtain ⟨rec1, q1, q2, q3, q4, q5, q6, q7, hs2, k2⟩ := s1.hs.loopSet hb1 hc1 .busy none
  refine ⟨_, run_beginRound q1 q2, ?_⟩
  have hrec : ({ rec1 with state := .busy } : Loop) = { rec1 with state := .busy, pending := none } := by rw [← q3]
  rw [hrec]
  refine wpP_mono (hbody ok pl w pl1 _ a1 (s1.next0 hs2 k2)) ?_ ?_
  · rintro ex a2 w2 ⟨pl2, f2, h2, xe2, s2, hx2, rfl, ⟨hk2, hd2⟩, t2, st2, hc2, hK⟩
    cases ex <;> (try exact hx2.elim)
    have hb2 : pl2 id = some b := s2.kp.keep id b hk2 hb
    obtain ⟨rec2, p1, p2, p3, p4, p5, p6, p7, hs3, k3⟩ := s2.hs.loopSet hb2 hc2 .ready none
    refine ⟨rfl, _, _, run_endRound none p1, pl2, _, _, ?_, hK⟩
    have s3 := s2.next0 hs3 k3
    exact (s.next s3.hs s3.kp hd2).put hd (by simp only [VRel]; rfl)
  · rintro ch a2 w2 ⟨pl2, f2, h2, v, x, s2, hch, hr, hd0, hd2, hq⟩
    refine ⟨?_, pl2, _, h2, .pan v, s.next s2.hs s2.kp hd2, ⟨x, hch, hr⟩, hq⟩
    have := s2.dfr
    rw [hd0] at this
    exact Eq.trans this htl
end
end Go.Abs

set_option linter.unusedVariables false
namespace Go.Abs
open Go Go.RowKit
section
variable {e : E} {n : Nat} {r : Option Nat} {f : Fr} {h : H} {Q : XE → Fr → H → Prop} {ops : Array Oper}
def awpL (e : E) (n : Nat) (r : Option Nat) (ops : Array Oper) (Q : XE → Fr → H → Prop) (l : List Oper) (f : Fr) (h : H) : Prop :=
  ∀ ok pl0 w0 pl w a, SSim e n ok pl0 w0 f h pl w a → wpListIn (RF r) 0 e.P ops (APost e n ok pl0 w0 Q) l a w
theorem awp_list {id : Nat} {l : List Oper} (hv : awpL e n r l.toArray Q l f h) : awp e n r (.region id l.toArray false) Q f h :=
  fun ok pl0 w0 pl w a s => wpIn_region_lit (hv ok pl0 w0 pl w a s)
theorem awpL_nil (hv : Q .normal f h) : awpL e n r ops Q [] f h := fun ok pl0 w0 pl w a s => ⟨pl, f, h, .normal, s, trivial, hv⟩
theorem awpL_op {o : Oper} {rest : List Oper} (hg : o.guard = none) (hd : dstOk n o.dst = true) (he : Eff e n r o f h (awpL e n r ops Q rest) Q) : awpL e n r ops Q (o :: rest) f h := fun ok pl0 w0 pl w a s => by
  have hgd : gd ops f o = some true := by unfold gd; rw [hg]
  have hw := gd_ok s.val hgd
  unfold wpListIn
  rw [if_pos hw]
  exact Oper.wpIn_mono (fun a' w' ⟨pl', f', h', s', hk⟩ => hk ok pl0 w0 pl' w' a' s') (he ok pl0 w0 pl w a s hd)
theorem awpL_vc {o : Oper} {rest : List Oper} (hg : o.guard = none) (hd : dstOk n o.dst = true) (he : match isEff o.op with
    | true => vcEff e n o f h (awpL e n r ops Q rest) Q
    | false => PV.go true (pvOp e.P o (f.ev e) h) o.dst (awpL e n r ops Q rest) f h) : awpL e n r ops Q (o :: rest) f h := by
  refine awpL_op hg hd ?_
  cases hi : isEff o.op with
  | true => rw [hi] at he; exact vcEff_ok he
  | false => rw [hi] at he; exact Eff.of_AQ (pvOp_ok (he.1 rfl)) he.2
end
end Go.Abs

set_option linter.unusedVariables false
set_option linter.unusedSimpArgs false
namespace Go.Abs
open Go Go.RowKit

theorem HSim.tl {e : E} {ok : Nat → Prop} {pl : Nat → Option Nat} {h : H} {w : World} (hs : HSim e ok pl h w) (tl : List Deferred) : HSim { e with tl := tl } ok pl h w :=
  ⟨hs.fresh, hs.lt, hs.okl, hs.inj, hs.obj, hs.bare, hs.glob, hs.exa⟩
theorem HSim.untl {e : E} {ok : Nat → Prop} {pl : Nat → Option Nat} {h : H} {w : World} {tl : List Deferred} (hs : HSim { e with tl := tl } ok pl h w) : HSim e ok pl h w :=
  ⟨hs.fresh, hs.lt, hs.okl, hs.inj, hs.obj, hs.bare, hs.glob, hs.exa⟩
theorem ACalls.tl {e : E} {g : FuncId} {args : List V} {h : H} {R : AEnd → H → (Nat → Bool) → Prop} (hc : ACalls e g args h R) (tl : List Deferred) : ACalls { e with tl := tl } g args h R :=
  fun ok pl w vs hs hl => (hc ok pl w vs hs.untl hl).mono fun en w' ⟨p, pl', h', ae, h1, h2⟩ => ⟨p, pl', h', ae, h1.tl tl, h2⟩

/-- Operations that call nothing. -/
def simpleOp : Op → Bool
  | .assign _ | .move _ | .alloc _ | .store _ _ _ | .extract _ _ | .typeAssert _ _ _ _ => true
  | _ => false
theorem simple_run {P : Program} {o : Oper} (h : simpleOp o.op = true) (ev : Operand → Value) (w : World) : (∃ x w', (execOp ev o).run P w = .ok (.value x) w') ∨ (∃ w', (execOp ev o).run P w = .ok .skip w') ∨ ∃ x w', (execOp ev o).run P w = .halt x w' := by
  cases hop : o.op <;> rw [hop] at h <;> try (cases h; done)
  all_goals
    simp only [execOp, hop, Sem.run_bind, Sem.run_pure]
  case assign x => exact .inl ⟨_, _, rfl⟩
  case move x => exact .inl ⟨_, _, rfl⟩
  case store t x y => cases hr : (Instr.storeAt t (ev x) (ev y)).run P w with
    | ok v w' => exact .inr (.inl ⟨w', rfl⟩)
    | halt x w' => exact .inr (.inr ⟨x, w', rfl⟩)
  all_goals
    generalize hs : Sem.run P _ w = r
    cases r with
    | ok v w' => exact .inl ⟨v, w', rfl⟩
    | halt x w' => exact .inr (.inr ⟨x, w', rfl⟩)

section
variable {e : E} {n : Nat}

theorem opsS_of_list {ops : Array Oper} {P : Program} {Q : Exit → Act → World → Prop} {cs : List Frame} : ∀ (l : List Oper) (k : Nat) (a : Act) (w : World), (∀ j, j < l.length → l[j]? = ops[k + j]?) → (∀ o ∈ l, simpleOp o.op = true) → wpListIn (RF none) 0 P ops Q l a w →
    wpOpsSIn (RF none) 0 P ops (fun ex a cs' w => cs' = cs ∧ Q ex a w) (List.range' k l.length) a cs w
  | [], k, a, w, _, _, h => by
    show wpOpsSIn _ _ _ _ _ [] a cs w
    exact (And.intro rfl h : cs = cs ∧ Q .normal a w)
  | o :: rest, k, a, w, hl, hs, h => by
    have ho : ops[k]? = some o := by have := hl 0 (by simp); simpa using this.symm
    have ih : ∀ a w, wpListIn (RF none) 0 P ops Q rest a w → wpOpsSIn (RF none) 0 P ops (fun ex a cs' w => cs' = cs ∧ Q ex a w) (List.range' (k + 1) rest.length) a cs w := fun a w h => opsS_of_list rest (k + 1) a w (fun j hj => by
      have := hl (j + 1) (by simpa using hj)
      rw [List.getElem?_cons_succ] at this
      rw [this]; congr 1; omega) (fun o ho => hs o (List.mem_cons_of_mem _ ho)) h
    show wpOpsSIn (RF none) 0 P ops _ (k :: List.range' (k + 1) rest.length) a cs w
    unfold wpListIn at h
    simp only [wpOpsSIn, ho]
    refine ⟨fun g _ => RF_fn none g, ?_⟩
    split at h
    · rename_i hw
      rw [if_pos hw]
      obtain ⟨_, hu⟩ := h
      rw [RF_round, Oper.semAt_eq none a.eval o (fun c hc => by have := hs o (by simp); rw [hc] at this; cases this)] at hu
      rcases simple_run (P := P) (hs o (by simp)) a.eval w with ⟨x, w', hr⟩ | ⟨w', hr⟩ | ⟨x, w', hr⟩
      · rw [hr] at hu ⊢; exact ih _ _ hu
      · rw [hr] at hu ⊢; exact ih _ _ hu
      · rw [hr] at hu ⊢
        cases x <;> try exact hu.elim
        exact ⟨trivial, hu⟩
    · rename_i hw
      rw [if_neg hw]
      exact ih _ _ h.2

theorem opsS_mono {F : Fence} {m : Nat} {P : Program} {ops : Array Oper} {Q Q' : Exit → Act → List Frame → World → Prop} (hq : ∀ ex a cs w, Q ex a cs w → Q' ex a cs w) : ∀ (l : List Nat) (a : Act) (cs : List Frame) (w : World), wpOpsSIn F m P ops Q l a cs w → wpOpsSIn F m P ops Q' l a cs w
  | [], a, cs, w, h => hq _ _ _ _ h
  | i :: rest, a, cs, w, h => by
    simp only [wpOpsSIn] at h ⊢
    split at h
    · exact opsS_mono hq rest _ _ _ h
    · refine ⟨h.1, ?_⟩
      have h2 := h.2
      split at h2
      · rename_i hw
        rw [if_pos hw]
        split at h2
        · split at h2 <;> exact opsS_mono hq rest _ _ _ h2
        · exact opsS_mono hq rest _ _ _ h2
        · exact opsS_mono hq rest _ _ _ h2
        · exact hq _ _ _ _ h2
        · exact h2.elim
      · rename_i hw
        rw [if_neg hw]
        exact opsS_mono hq rest _ _ _ h2

/-- A deferred call that recovers, and returns. -/
def ACallsD (e : E) (q : FuncId) (args : List V) (v : V) (h : H) (K : H → (Nat → Bool) → Prop) : Prop :=
  ∀ ok pl w vs x, HSim e ok pl h w → VList (cx ok pl w) args vs → VRel (cx ok pl w) v x →
    CallsDIn (RF none) (0 - 1) e.P q vs.toArray (.panicking [{ v := x, recovered := false }]) w fun en u' w' => (∃ y, en = .returned y) ∧ u' = .panicking [{ v := x, recovered := true }] ∧
      ∃ p pl' h', HSim e ok pl' h' w' ∧ Keeps p pl w pl' w' ∧ K h' p

theorem ACallsD.of_awp (htl : e.tl = []) {q : FuncId} {fn : Func} {args : List V} {v : V} {h : H} {K : H → (Nat → Bool) → Prop} {id : Nat} {o0 : Oper} {l : List Oper} {rest : Code} (hf : e.P.funcs[q]? = some fn)
    (hb : fn.body = some (.seq (.region id (o0 :: l).toArray false) rest)) (hr0 : fn.results.toList = []) (hn : args.length ≤ fn.ntmps) (hg : o0.guard = none) (ho : ∀ ev w, (execOp ev o0).run e.P w = .ok .recover w) (hd : dstOk fn.ntmps o0.dst = true)
    (hl : (l.all fun o => simpleOp o.op) = true)
    (hv : awpL e fn.ntmps none (o0 :: l).toArray (XE.seq (awp e fn.ntmps none rest (fun xe f h => (xe = .normal ∨ xe = .ret) ∧ f.d = [] ∧ K h f.k)) (fun _ _ _ => False)) l ((Fr.init args).put o0.dst v) h) : ACallsD e q args v h K := by
  intro ok pl w vs x hs hl2 hx
  refine callsDIn_of_wpSIn hf hb (RF_fn none q) fun c0 cs hm => ?_
  have s0 := SSim.init htl (n := fn.ntmps) hs hl2 hn
  have s1 := s0.put hd hx
  obtain ⟨c1, ec1⟩ : ∃ c1 : Frame, c1 = { c0 with mode := .panicking [{ v := x, recovered := true }] } := ⟨_, rfl⟩
  have hrec : recoverD (c0 :: cs) = some (x, c1 :: cs) := by
    rw [ec1]; simp [recoverD, hm]
  refine wpSIn_seq (wpSIn_region ?_)
  have hsz : (o0 :: l).toArray.size = (o0 :: l).length := by simp
  rw [hsz, List.range_eq_range']
  show wpOpsSIn (RF none) (0 - 1) e.P _ _ (0 :: List.range' 1 l.length) _ _ _
  have h00 : (o0 :: l).toArray[0]? = some o0 := by simp
  simp only [wpOpsSIn, h00]
  refine ⟨fun g _ => RF_fn none g, ?_⟩
  have hgd : gd (o0 :: l).toArray (Fr.init args) o0 = some true := by unfold gd; rw [hg]
  rw [if_pos (gd_ok s0.val hgd), ho]
  dsimp only
  rw [hrec]
  dsimp only
  have hlist := hv ok pl w pl w _ s1
  have hS := opsS_of_list (P := e.P) (cs := c1 :: cs) (ops := (o0 :: l).toArray) l 1 _ w (fun j hj => by simp [Nat.add_comm]) (fun o ho => List.all_eq_true.1 hl o ho) hlist
  refine opsS_mono ?_ _ _ _ _ hS
  rintro ex a2 cs2 w2 ⟨rfl, pl2, f2, h2, xe, s2, hx2, hq2⟩
  cases xe <;> cases ex <;> (try exact hx2.elim) <;> (try exact hq2.elim)
  have hq2 : awp e fn.ntmps none rest (fun xe f h => (xe = .normal ∨ xe = .ret) ∧ f.d = [] ∧ K h f.k) f2 h2 := hq2
  refine wpSIn_of_wpIn (RF_round none) (wpIn_mono (hq2 ok pl w pl2 w2 a2 s2) ?_)
  rintro ex a3 w3 ⟨pl3, f3, h3, xe, s3, hx3, hxe, hd3, hk3⟩
  have hdf : a3.defers = [] := by
    have := s3.dfr
    rw [hd3] at this
    exact Eq.trans this htl
  have hres : ∃ y, (results fn a3.tmps).run e.P w3 = .ok y w3 := by
    have hp : (resPV e.P f3 h3 fn.results.toList).1 := by rw [hr0]; trivial
    obtain ⟨y, h1, _⟩ := res_ok (f := f3) s3.hs s3.val hp
    exact ⟨y, h1⟩
  obtain ⟨y, hy⟩ := hres
  have fin : a3.defers = [] ∧ ∃ u', c1 :: cs = { c0 with mode := u' } :: cs ∧ ∃ v, (results fn a3.tmps).run e.P w3 = .ok v w3 ∧ ((∃ y, Ending.returned v = .returned y) ∧ u' = .panicking [{ v := x, recovered := true }] ∧
      ∃ p pl' h', HSim e ok pl' h' w3 ∧ Keeps p pl w pl' w3 ∧ K h' p) :=
    ⟨hdf, _, by rw [ec1], y, hy, ⟨y, rfl⟩, rfl, f3.k, pl3, h3, s3.hs, s3.kp, hk3⟩
  rcases hxe with rfl | rfl <;> cases ex <;> (try exact hx3.elim)
  · exact fin
  · exact fin
end
end Go.Abs

set_option linter.unusedVariables false
set_option linter.unusedSimpArgs false
namespace Go.Abs
open Go Go.RowKit
section
variable {e : E} {n : Nat}

def endR (e : E) (ok : Nat → Prop) (pl0 : Nat → Option Nat) (w0 : World) (R : AEnd → H → (Nat → Bool) → Prop) (en : Ending) (w' : World) : Prop :=
  ∃ p pl' h' ae, HSim e ok pl' h' w' ∧ Keeps p pl0 w0 pl' w' ∧ EndRel (cx ok pl' w') ae en ∧ R ae h' p
def awpM (e : E) (n : Nat) (M : Exit → Act → World → Prop) (ok : Nat → Prop) (pl0 : Nat → Option Nat) (w0 : World) (c : Code) (f : Fr) (h : H) : Prop :=
  ∀ pl w a, SSim e n ok pl0 w0 f h pl w a → c.wpIn (RF none) 0 e.P M a w

theorem fnPost_ok (htl : e.tl = []) {fn : Func} {R : AEnd → H → (Nat → Bool) → Prop} {ok : Nat → Prop} {pl : Nat → Option Nat} {w : World} : ∀ ex a w', APost e fn.ntmps ok pl w (fnPost e.P fn.results.toList R) ex a w' → bodyPostM (RF none) 0 e.P fn (endR e ok pl w R) ex a w' := by
  rintro ex a w' ⟨pl', f', h', xe, s, hx, hq⟩
  have done : fnEnd e.P fn.results.toList (fun v => R (.ret v)) f' h' → LeavesInM (RF none) 0 e.P fn a.tmps (endR e ok pl w R) a.defers .returning w' := by
    intro hq
    unfold fnEnd at hq
    split at hq
    · rename_i h2 hsh
      refine leaves htl (f := f') (a := a) (v := .any) (x := undef) (by simp) f'.d a.defers h' h2 pl' w' s (by simp only [VRel]) hsh fun w2 s2 _ => ?_
      obtain ⟨x, h1, h3⟩ := res_ok (f := f') s2.hs s2.val hq.1
      exact ⟨x, h1, f'.k, pl', h2, .ret _, s2.hs, s2.kp, h3, hq.2⟩
    · exact hq.elim
  cases xe <;> cases ex <;> (try (exact hx.elim)) <;> (try (exact hq.elim))
  case normal => exact done hq
  case ret => exact done hq
  case pan v ch =>
    simp only [fnPost] at hq
    split at hq
    · rename_i h2 hsh
      obtain ⟨x, hch, hxr⟩ := hx
      exact leaves htl (f := f') (a := a) (v := v) (x := x) (by simp) f'.d a.defers h' h2 pl' w' s hxr hsh fun w2 s2 hr => ⟨f'.k, pl', h2, .pan v, s2.hs, s2.kp, ⟨x, hch, hr⟩, hq⟩
    · exact hq.elim

theorem ACalls.of_awpM (htl : e.tl = []) {g : FuncId} {fn : Func} {c : Code} {args : List V} {h : H} {R : AEnd → H → (Nat → Bool) → Prop} (hf : e.P.funcs[g]? = some fn) (hb : fn.body = some c) (hn : args.length ≤ fn.ntmps)
    (hv : ∀ ok pl0 w0, awpM e fn.ntmps (bodyPostM (RF none) 0 e.P fn (endR e ok pl0 w0 R)) ok pl0 w0 c (Fr.init args) h) : ACalls e g args h R := by
  intro ok pl w vs hs hl
  exact CallsIn.toCalls (r := none) (n := 0) (callsIn_of_wp_marks hf hb (RF_fn none g) (hv ok pl w pl w _ (SSim.init htl (n := fn.ntmps) hs hl hn)) rfl)

theorem awpM_seq {M : Exit → Act → World → Prop} {ok : Nat → Prop} {pl0 : Nat → Option Nat} {w0 : World} {f : Fr} {h : H} {x y : Code} {Q : XE → Fr → H → Prop} (hx : awp e n none x (XE.seq (fun f h => awpM e n M ok pl0 w0 y f h) Q) f h)
    (hQ : ∀ ex a w, APost e n ok pl0 w0 Q ex a w → M ex a w) : awpM e n M ok pl0 w0 (.seq x y) f h := fun pl w a s => by
  refine wpIn_seq (wpIn_mono (hx ok pl0 w0 pl w a s) fun ex a w hp => ?_)
  have := APost.seq (K' := fun a w => y.wpIn (RF none) 0 e.P M a w) (fun pl f h a w s hk => hk pl w a s) ex a w hp
  cases ex <;> first | exact this | exact hQ _ _ _ this

theorem awpM_defer (htl : e.tl = []) {fn : Func} {R : AEnd → H → (Nat → Bool) → Prop} {ok : Nat → Prop} {pl0 : Nat → Option Nat} {w0 : World} {f F1 : Fr} {h : H} {id : Nat} {mk df : Oper} {rest : Code} {q : FuncId} {caps : List V} {fx : Operand}
    (hmg : mk.guard = none) (hmd : dstOk fn.ntmps mk.dst = true) (hmp : (pvOp e.P mk (f.ev e) h).1) (hmf : f.put mk.dst (pvOp e.P mk (f.ev e) h).2 = F1)
    (hdg : df.guard = none) (hdd : df.dst = none) (hdop : df.op = .defer { callee := .value fx, args := #[], argTypes := #[] }) (hfx : (F1.ev e fx).sv = .fn (.func q) [] caps) (hsc : (F1.ev e fx).sc) (hen : enters e.P q = true) (hfd : f.d = [])
    (hrest : ∀ d, awp { e with tl := [d] } fn.ntmps none rest (fun xe f' h' => ∃ v, xe = .pan v ∧ f'.d = [] ∧ V.drops f'.k caps = caps ∧
      ACallsD e q caps v h' (fun h'' p => fnEnd e.P fn.results.toList (fun v h k => R (.ret v) h (fun i => f.k i || k i)) (f'.drop p) h'')) { F1 with k := fun _ => false } h) :
    awpM e fn.ntmps (bodyPostM (RF none) 0 e.P fn (endR e ok pl0 w0 R)) ok pl0 w0 (.seq (.region id [mk, df].toArray false) rest) f h := by
  intro pl w a s
  refine wpIn_seq (wpIn_region_lit ?_)
  have hgd : gd [mk, df].toArray f mk = some true := by unfold gd; rw [hmg]
  unfold wpListIn
  rw [if_pos (gd_ok s.val hgd)]
  refine ⟨fun g _ => RF_fn none g, ?_⟩
  have hq := pvOp_ok (e := e) hmp ok pl w a.eval s.hs s.evs
  have hnd : mk.semAt (RF none).round a.eval = execOp a.eval mk := by rw [RF_round, Oper.semAt_none]
  rw [hnd]
  have hF1d : F1.d = [] := by
    rw [← hmf]
    cases mk.dst with
    | none => exact hfd
    | some i => exact hfd
  have fin : ∀ x w1, WExt w w1 ∧ VRel (cx ok pl w1) (pvOp e.P mk (f.ev e) h).2 x → wpListIn (RF none) 0 e.P [mk, df].toArray (Exit.then (rest.wpIn (RF none) 0 e.P (bodyPostM (RF none) 0 e.P fn (endR e ok pl0 w0 R))) (bodyPostM (RF none) 0 e.P fn (endR e ok pl0 w0 R))) [df] (a.put mk.dst x) w1 := by
    rintro x w1 ⟨hx, hv⟩
    have kx := hx.keeps s.hs
    have s1 := (s.next0 (s.hs.wext hx) kx).put hmd hv
    rw [hmf] at s1
    generalize ha1 : a.put mk.dst x = a1 at s1 ⊢
    have hgd1 : gd [mk, df].toArray F1 df = some true := by unfold gd; rw [hdg]
    unfold wpListIn
    rw [if_pos (gd_ok s1.val hgd1)]
    refine ⟨fun g _ => RF_fn none g, ?_⟩
    have h1 := (s1.ev fx).sv hsc
    rw [hfx] at h1
    simp only [VRel] at h1
    obtain ⟨fs, cs, h2, h3, h4⟩ := h1
    have hfs : fs = #[] := by
      simp only [VList] at h3
      exact Array.toList_eq_nil_iff.1 h3
    subst hfs
    obtain ⟨d, ed⟩ : ∃ d : Deferred, d = { target := .fn (.func q) cs, args := #[] } := ⟨_, rfl⟩
    have hrun : (execOp a1.eval df).run e.P w1 = .ok (.defer d) w1 := by
      rw [ed]
      simp [execOp, hdop, resolve, h2, Deferred.ofValue, Result.andThen]
    rw [RF_round, Oper.semAt_none, hrun, Oper.uponIn_defer, hdd]
    have hdf1 : a1.defers = [] := by
      have := s1.dfr
      rw [hF1d] at this
      exact Eq.trans this htl
    have s2 : SSim { e with tl := [d] } fn.ntmps ok pl w1 { F1 with k := fun _ => false } h pl w1 { a1 with defers := d :: a1.defers } :=
      ⟨s1.hs.tl _, Keeps.refl pl w1, s1.size, s1.val, by
        show DRel _ [d] F1.d (d :: a1.defers)
        rw [hF1d, hdf1]; rfl⟩
    show rest.wpIn (RF none) 0 e.P _ { a1 with defers := d :: a1.defers } w1
    refine wpIn_mono (hrest d ok pl w1 pl w1 _ s2) ?_
    rintro ex a3 w3 ⟨pl3, f3, h3', xe, s3, hx3, v, rfl, hd3, hcap, hcD⟩
    cases ex <;> (try exact hx3.elim)
    obtain ⟨y, rfl, hy⟩ := hx3
    have hdf3 : a3.defers = [d] := by
      have := s3.dfr
      rw [hd3] at this
      exact this
    show LeavesInM (RF none) 0 e.P fn a3.tmps _ a3.defers (.panicking _) w3
    rw [hdf3]
    have hcs3 : VList (cx ok pl3 w3) caps cs.toList := by
      have := VList.mdrop s3.kp.cext _ _ h4
      rwa [hcap] at this
    have hinv : (invoke d.target d.args).run e.P w3 = .ok (.enter q cs) w3 := by
      rw [ed]
      simp only [invoke]
      rw [enters_run hen]
      congr 2
      simp
    refine ⟨by simp, .inr ⟨(fun hh => by rw [RF_depth] at hh; cases hh), Fn.func q, cs, q, cs, (by rw [ed]), hinv, (fun g _ => RF_fn none g), ?_⟩⟩
    refine CallsDIn.mono (hcD ok pl3 w3 cs.toList y s3.hs.untl hcs3 hy) ?_
    rintro en u' w4 ⟨⟨z, rfl⟩, rfl, p, pl4, h4', hs4, k4, hK⟩
    have s4 := s3.next (hs4.tl _) k4 (p := p) (by rw [hd3]; intro i hi; cases hi)
    unfold fnEnd at hK
    rw [show (f3.drop p).d = [] from hd3] at hK
    simp only [shutAll] at hK
    obtain ⟨u, hu1, hu2⟩ := res_ok (f := f3.drop p) (e := e) hs4 s4.val hK.1
    have kk := ((s.kp.trans kx).trans s3.kp).trans k4
    exact ⟨u, hu1, _, pl4, h4', .ret _, hs4, kk.weaken (q := fun i => f.k i || (f3.drop p).k i) (fun i hi => by
      simp only [Fr.drop, Bool.or_eq_true, Bool.or_false, Bool.false_eq_true, or_false] at hi ⊢
      rcases hi with (hi | hi) | hi
      · exact .inl hi
      · exact .inr (.inl hi)
      · exact .inr (.inr hi)), hu2, hK.2⟩
  revert hq
  cases hrun : (execOp a.eval mk).run e.P w with
  | halt x w' => intro hq; exact hq.elim
  | ok nx w' =>
    intro hq
    cases nx <;> try exact hq.elim
    case value x => exact fin x w' hq
    case skip => exact fin undef w' hq
    case enter g args =>
      refine ⟨fun hh => (by rw [RF_depth] at hh; cases hh), CallsIn.ofCalls (Calls.mono hq ?_)⟩
      rintro en w'' ⟨x, rfl, hx⟩
      exact fin x w'' hx
end
end Go.Abs

set_option linter.unusedVariables false
namespace Go.Abs
open Go Go.RowKit
section
variable {e : E} {n : Nat} {r : Option Nat} {o : Oper} {f : Fr} {h : H} {Kn : Fr → H → Prop} {Q : XE → Fr → H → Prop}

theorem flat_const {α : Type} (ys : List α) (K : Nat) (hK : ys.length = K) (h0 : 0 < K) : ∀ (m j : Nat), ((List.range m).flatMap fun _ => ys)[j]? = if j < m * K then ys[j % K]? else none
  | 0, j => by simp
  | m + 1, j => by
    have hlen : ∀ m, ((List.range m).flatMap fun _ => ys).length = m * K := by
      intro m
      induction m with
      | zero => simp
      | succ m ih => rw [List.range_succ, List.flatMap_append, List.length_append, ih]; simp [hK, Nat.succ_mul]
    rw [List.range_succ, List.flatMap_append]
    have hs : (m + 1) * K = m * K + K := Nat.succ_mul m K
    by_cases hj : j < m * K
    · rw [List.getElem?_append_left (by rw [hlen]; exact hj), flat_const ys K hK h0 m j, if_pos hj, if_pos (by omega)]
    · rw [List.getElem?_append_right (by rw [hlen]; omega), hlen]
      simp only [List.flatMap_cons, List.flatMap_nil, List.append_nil]
      by_cases hj2 : j < (m + 1) * K
      · rw [if_pos hj2]
        have : j % K = j - m * K := by
          have e : j = (j - m * K) + K * m := by rw [Nat.mul_comm K m]; omega
          rw [e, Nat.add_mul_mod_self_left, Nat.mod_eq_of_lt (by omega)]
          rw [Nat.mul_comm K m]; omega
        rw [this]
      · rw [if_neg hj2, List.getElem?_eq_none (by omega)]

theorem eff_makeSliceK {t : TypeId} {l c : Operand} (hop : o.op = .makeSlice t l c) {q re : TI} (hq : ti e.P t = some q) {el : TypeId} (hk0 : q.kind = .slice el) (hre : ti e.P el = some re)
    (hf : re.zero.fit = true) (hf1 : re.zero.vc.length = re.size) (hz0 : 0 < re.size) (hlc : (f.ev e l).sc) (hcc : (f.ev e c).sc) {k k' : IntKind} {m : Int} (hl : (f.ev e l).sv = .int k m) (hc : (f.ev e c).sv = .int k' m)
    (hm0 : 0 ≤ m) (hm1 : m ≤ 1000000) (hby : re.bytes ≤ 1000) (hzs : m.toNat * re.size ≤ 16000000)
    (hk : Kn (f.put o.dst (.ls h.length re.size 0 m.toNat m.toNat)) (h ++ [.cells ((List.range m.toNat).flatMap fun _ => re.zero.vc)])) : Eff e n r o f h Kn Q := by
  refine Eff.of_EffV ?_ (fun c => by rw [hop]; exact fun h => by cases h)
  intro ok pl w ev hs hr
  obtain ⟨i, d, z, hT⟩ := ti_some hq
  have hd := hT.slice hk0; subst hd
  obtain ⟨ie, de, ze, hE⟩ := ti_some hre
  have h1 := (hr l (by simp [hop, Op.operands])).sv hlc
  have h2 := (hr c (by simp [hop, Op.operands])).sv hcc
  rw [hl] at h1
  rw [hc] at h2
  simp only [VRel] at h1 h2
  have hzr := (ofZero_rel (cx ok pl w) ze).vc (by rw [← hE.zv]; exact hf)
  rw [← hE.zv] at hzr
  have hsz : ie.size = re.size := hE.size.symm
  have hbb : ie.bytes ≤ 1000 := by rw [← hE.bytes]; exact hby
  have hzl : ze.cells.toList.length = re.size := hzr.length.trans hf1
  have hrun := run_makeSlice (P := e.P) w t el ie ze hT.und hE.info hE.zero k k' m m hm0 (Int.le_refl _) (by rw [hsz]; omega) (by
    have h1 : (ie.bytes : Int) * m ≤ 1000 * m := Int.mul_le_mul_of_nonneg_right (by omega) hm0
    omega) (by omega)
  rw [hsz] at hrun
  have hzsz : ze.cells.size = re.size := by rw [← Array.length_toList]; exact hzl
  have harr : (madeCells ze.cells (m.toNat * re.size)).toList = (List.range m.toNat).flatMap fun _ => ze.cells.toList := by
    apply List.ext_getElem?
    intro j
    rw [flat_const _ re.size hzl hz0]
    simp only [madeCells, Array.toList_map, Array.toList_range, List.getElem?_map]
    by_cases hj : j < m.toNat * re.size
    · have hjm : j % re.size < ze.cells.size := by rw [hzsz]; exact Nat.mod_lt _ hz0
      rw [List.getElem?_range hj, if_pos hj, hzsz, Option.map_some, getElem!_pos ze.cells (j % re.size) hjm, List.getElem?_eq_getElem (by rw [hzl]; exact Nat.mod_lt _ hz0), Array.getElem_toList]
    · rw [List.getElem?_eq_none (by simp; omega), if_neg hj]; rfl
  have hrep : ∀ k : Nat, VList (cx ok pl w) ((List.range k).flatMap fun _ => re.zero.vc) ((List.range k).flatMap fun _ => ze.cells.toList) := by
    intro k
    induction k with
    | zero => simp [VList]
    | succ k ih =>
      rw [List.range_succ, List.flatMap_append, List.flatMap_append]
      refine VList.append ih ?_
      simpa using hzr
  have hfl : ∀ k : Nat, ((List.range k).flatMap fun _ => re.zero.vc).length = k * re.size := by
    intro k
    induction k with
    | zero => simp
    | succ k ih => rw [List.range_succ, List.flatMap_append, List.length_append, ih]; simp [hf1, Nat.succ_mul]
  obtain ⟨h1', h2'⟩ := cells_new' hs (cs := (List.range m.toNat).flatMap fun _ => re.zero.vc) (arr := madeCells ze.cells (m.toNat * re.size)) (by rw [hfl, size_madeCells]; exact Nat.le_refl _) (by rw [harr, List.take_of_length_le (Nat.le_of_eq (hrep m.toNat).length)]; exact hrep _) el (WExt.refl w)
  refine ⟨fun _ => false, .ls h.length re.size 0 m.toNat m.toNat, _, _, _, .slice (some ⟨w.heap.size, 0, none⟩) m.toNat m.toNat, .inl ?_, h1', h2', ?_, fun _ _ => rfl, by simpa using hk⟩
  · have h3 : execOp ev o = (do pure (Next.value (← Instr.makeSlice t (ev l) (ev c)))) := by simp [execOp, hop]
    rw [h3, h1, h2]; exact run_v hrun
  · have hM : maxLen = 9223372036854775807 := rfl
    simp only [VRel]
    refine ⟨_, m.toNat, rfl, Nat.le_refl _, Nat.le_refl _, by omega, .inr ⟨w.heap.size, madeCells ze.cells (m.toNat * re.size), el, (0, 0), by simp [cx, plNew], rfl, World.alloc_heap_new w _, by rw [size_madeCells]; omega⟩⟩
end
end Go.Abs

set_option linter.unusedVariables false
set_option linter.unusedSimpArgs false
namespace Go.Abs
open Go Go.RowKit
section
variable {e : E} {n : Nat} {r : Option Nat} {o : Oper} {f : Fr} {h : H} {Kn : Fr → H → Prop} {Q : XE → Fr → H → Prop}
variable {ok : Nat → Prop} {pl : Nat → Option Nat} {w : World}

theorem OLe.typed {T : TypeId} {cs : List V} : OLe (.typed T cs) (.cells cs) :=
  ⟨fun c b ⟨arr, fz, h1, h2, h3, h4⟩ => ⟨arr, T, fz, h1, h2, h3, h4⟩, fun h => by rcases h with h | h <;> cases h⟩

theorem cells_newT (hs : HSim e ok pl h w) {cs : List V} {arr : Array Value} (hl : cs.length ≤ arr.size) (hc : VList (cx ok pl w) cs (arr.toList.take cs.length)) (el : TypeId) {w1 : World} (x : WExt w w1) :
    HSim e ok (plNew pl h.length w1.heap.size) (h ++ [.typed el cs]) (w1.alloc (.cells arr el)) ∧ Keeps (fun _ => false) pl w (plNew pl h.length w1.heap.size) (w1.alloc (.cells arr el)) := by
  have x2 := x.trans (WExt.alloc w1 (.cells arr el))
  have hb : (w1.alloc (.cells arr el)).heap[w1.heap.size]? = some (.cells arr el) := by rw [World.alloc]; simp
  have key : ∀ (c' : C), CExt (fun _ => false) (cx ok pl w) c' → c'.w = w1.alloc (.cells arr el) → OAt c' w1.heap.size (.typed el cs) := by
    intro c' hx hw
    exact ⟨arr, (0, 0), by rw [hw]; exact hb, fun j _ => by simp, hl, VList.mono hx cs _ hc⟩
  have k : CExt (fun _ => false) (cx ok pl w) (cx ok (plNew pl h.length w1.heap.size) (w1.alloc (.cells arr el))) := by
    refine ⟨fun b hb' hok => ⟨⟨hok.1, fun i hi => ?_⟩, x2.same b hb'⟩, fun i b _ hi => ?_, fun b arr' el' fz hb' => ⟨arr', fz, (x2.same b (lt_of_heap hb')).trans hb', rfl⟩⟩
    · simp only [plNew] at hi
      split at hi
      · cases hi; have := x.size; simp only [cx] at hb'; omega
      · exact hok.2 i hi
    · have := hs.pl_lt hi
      simp only [cx, plNew]; rw [if_neg (by omega)]; exact hi
  exact hs.new x2 (.cells arr el) (.typed el cs) x.size (by simp) (key _ k rfl)

theorem eff_allocT {t : TypeId} (hop : o.op = .alloc t) {q : TI} (hq : ti e.P t = some q) (hf : q.zero.fit = true)
    (hk : Kn (f.put o.dst (.lp h.length 0)) (h ++ [.typed t q.zero.vc])) : Eff e n r o f h Kn Q := by
  refine Eff.of_EffV ?_ (fun c => by rw [hop]; exact fun h => by cases h)
  intro ok pl w ev hs _
  obtain ⟨i, d, z, hT⟩ := ti_some hq
  have hz : VList (cx ok pl w) q.zero.vc z.cells.toList := by
    rw [hT.zv] at hf ⊢; exact (ofZero_rel _ z).vc hf
  have hzl := hz.length
  simp only [Array.length_toList] at hzl
  obtain ⟨h1, h2⟩ := cells_newT hs (cs := q.zero.vc) (arr := z.cells) (by omega) (by rw [List.take_of_length_le (by simp; omega)]; exact hz) t (WExt.refl w)
  refine ⟨fun _ => false, .lp h.length 0, _, _, _, .pointer (some ⟨w.heap.size, 0, none⟩), .inl ?_, h1, h2, ?_, fun _ _ => rfl, by simpa using hk⟩
  · have : (Instr.alloc t true (.tuple #[])).run e.P w = .ok (.pointer (some ⟨w.heap.size, 0, none⟩)) (w.alloc (.cells z.cells t)) := by
      unfold Instr.alloc
      simp only [Sem.run_bind, hT.run_zero, Result.andThen]
      rfl
    have h3 : execOp ev o = (do pure (Next.value (← Instr.alloc t true (.tuple #[])))) := by simp [execOp, hop]
    rw [h3]; exact run_v this
  · simp only [VRel]; exact ⟨w.heap.size, by simp [cx, plNew], rfl⟩

theorem cells_writeT (hs : HSim e ok pl h w) {id b : Nat} (hb : pl id = some b) {off : Nat} {vs : List V} {xs : List Value} (hv : VList (cx ok pl w) vs xs) (ho : allOne vs = true)
    {cs : List V} {T : TypeId} (hc : h[id]? = some (.typed T cs)) (hl : off + vs.length ≤ cs.length) :
    ∃ w', (storeCells ⟨b, off, none⟩ xs).run e.P w = .ok () w' ∧ HSim e ok pl (h.set id (.typed T (splice cs off vs))) w' ∧ Keeps (fun _ => false) pl w pl w' := by
  obtain ⟨ob, h1, hat⟩ := hs.obj id b hb
  rw [hc] at h1; cases h1
  obtain ⟨arr, fz, h2, h3, h4, h5⟩ := hat
  have hxl := hv.length
  simp only [cx] at h2
  have hrun := run_store_cells (P := e.P) (o := off) h2 h3 (by omega) (hv.oneCells ho)
  have hw := wrote_setCells (b := b) xs off arr w h2 (by omega)
  refine ⟨_, hrun, hs.upd hb _ hw.os hw.tape hw.output hw.size hw.same (fun arr' el' fz' ha => ?_) fun k => ?_⟩
  · rw [h2] at ha; cases ha
    refine ⟨_, _, hw.here, ?_⟩
    simp; omega
  · have hsz : (arr.toList.take off ++ xs ++ arr.toList.drop (off + xs.length)).toArray.size = arr.size := by simp; omega
    refine ⟨_, fz, hw.here, fun j hj => h3 j (by omega), ?_, ?_⟩
    · have : (splice cs off vs).length = cs.length := by unfold splice; simp; omega
      rw [this, hsz]; exact h4
    · have hlen : (splice cs off vs).length = cs.length := by unfold splice; simp; omega
      rw [hlen]
      have e1 : (arr.toList.take off ++ xs ++ arr.toList.drop (off + xs.length)).toArray.toList.take cs.length = (arr.toList.take cs.length).take off ++ xs ++ (arr.toList.take cs.length).drop (off + xs.length) := by
        apply List.ext_getElem?
        intro i
        have hsz : arr.toList.length = arr.size := by simp
        simp only [List.getElem?_append, List.getElem?_take, List.getElem?_drop, List.length_append, List.length_take, List.length_drop]
        repeat' split
        all_goals first
          | rfl
          | omega
          | (congr 1; omega)
          | (exfalso; omega)
          | (simp_all; (try omega); done)
          | (rw [List.getElem?_eq_none]; simp; omega)
          | (symm; rw [List.getElem?_eq_none]; simp; omega)
      rw [e1]
      unfold splice
      rw [← hxl]
      have h5' := VList.mono k cs _ h5
      exact ((h5'.take off).append (VList.mono k vs _ hv)).append (h5'.dropN _)

theorem eff_storeT {t : TypeId} {x y : Operand} (hop : o.op = .store t x y) {id off : Nat} (hx : (f.ev e x).sv = .lp id off) (hxc : (f.ev e x).sc) (hyc : (f.ev e y).sc)
    {q : TI} (hq : ti e.P t = some q) (hf : (f.ev e y).sv.fit = true) (h1 : allOne (f.ev e y).sv.vc = true) (hsz : (f.ev e y).sv.vc.length = q.size)
    {cs : List V} {T : TypeId} (hc : h[id]? = some (.typed T cs)) (hl : off + (f.ev e y).sv.vc.length ≤ cs.length)
    (hk : Kn (f.put o.dst undefV) (h.set id (.typed T (splice cs off (f.ev e y).sv.vc)))) : Eff e n r o f h Kn Q := by
  refine Eff.of_EffV ?_ (fun c => by rw [hop]; exact fun h => by cases h)
  intro ok pl w ev hs hr
  obtain ⟨i, d, z, hT⟩ := ti_some hq
  have hxv := (hr x (by simp [hop, Op.operands])).sv hxc
  rw [hx] at hxv
  simp only [VRel] at hxv
  obtain ⟨b, hb, hxb⟩ := hxv
  have hyv := (hr y (by simp [hop, Op.operands])).sv hyc
  have hvc := hyv.vc hf
  obtain ⟨w', hrun, hs', k⟩ := cells_writeT hs hb hvc h1 hc hl
  refine ⟨fun _ => false, undefV, _, pl, w', undef, .inr ⟨?_, rfl⟩, hs', k, undef_rel _, fun _ _ => rfl, by simpa using hk⟩
  have hlen := hvc.length
  have h3 : execOp ev o = (do Instr.storeAt t (ev x) (ev y); pure .skip) := by simp [execOp, hop]
  rw [h3]
  have : ¬ (ev y).cells.size ≠ q.size := by
    simp only [Array.length_toList] at hlen; omega
  simp only [Sem.run_bind, Instr.storeAt, hxb, Instr.sureAddr, Sem.run_pure, Result.andThen, storeVar, hT.run_size]
  rw [if_neg this]
  simp only [hrun]

theorem eff_append_freshT {x y : Operand} {t xt el : TypeId} {q re : TI} (ha : IsAppend e o x y t xt el q re) (hxc : (f.ev e x).sc) (hyc : (f.ev e y).sc)
    (hex : (f.ev e x).sv = .nils) (hst : srcTy e.P xt el (f.ev e y).sv = true)
    {m : Nat} {cs : List V} (hy : srcEls h re.size (f.ev e y).sv = some (m, cs)) (hyf : srcFit re.size (f.ev e y).sv = true)
    (hnz : 0 < m) (hbig : 0 + m ≤ maxLen) (hbytes : (0 + m) * re.bytes ≤ 140737488355328)
    (hk : Kn (f.put o.dst (.ls h.length re.size 0 (0 + m) (0 + m))) (h ++ [.typed el ([] ++ cs)])) : Eff e n r o f h Kn Q := by
  obtain ⟨⟨ts, hop, ht0, ht1⟩, hti, hkind, htie, hzf, hzl, hpos⟩ := ha
  refine Eff.of_EffV ?_ (fun c => by rw [hop]; exact fun h => by cases h)
  intro ok pl w ev hs hr
  obtain ⟨i, d, z, hT⟩ := ti_some hti
  have hd := hT.slice hkind; subst hd
  obtain ⟨ie, de, ze, hE⟩ := ti_some htie
  obtain ⟨rx, ix, dx, zx, hX, hxi⟩ := src_ty hst
  have hxv := (hr x (by simp [hop, Op.operands, Call.operands])).sv hxc
  have hyv := (hr y (by simp [hop, Op.operands, Call.operands])).sv hyc
  rw [hex] at hxv
  obtain ⟨n0, hn0⟩ : ∃ n0, n0 = 0 := ⟨0, rfl⟩
  obtain ⟨cs0, hcs0⟩ : ∃ cs0 : List V, cs0 = [] := ⟨[], rfl⟩
  rw [← hn0] at hbig hbytes
  obtain ⟨olds, ho1, ho2, ho3, ho4⟩ := src_run (n := n0) (k := re.size) (cs := cs0) hs hxv (by subst hn0; subst hcs0; rfl) rfl
  obtain ⟨news, hn1, hn2, hn3, hn4⟩ := src_run hs hyv hy hyf
  obtain ⟨base, hbase⟩ : ∃ base, ev x = .slice base n0 n0 := by
    simp only [VRel] at hxv; exact ⟨none, by rw [hn0]; exact hxv⟩
  have hol := ho3.length
  have hnl := hn3.length
  have hroom : ¬ n0 + m ≤ n0 := by omega
  have hrun := run_append_growG (P := e.P) (w := w) (ty := o.type) ht0 ht1 hT hE hX hxi base n0 n0 m (ev y) olds news (fun w' => hn1 w') (by rw [← hbase]; exact ho2 _ (fun _ => rfl)) (hn2 _ (fun _ => rfl)) (by omega) hbig hbytes
  obtain ⟨cap, hcap⟩ : ∃ cap, grownCap w (n0 + m) n0 el = cap := ⟨_, rfl⟩
  have hge := grownCap_ge w (n0 + m) n0 el
  have hle := grownCap_le_maxLen w (n0 + m) n0 el hbig
  rw [hcap] at hrun hge hle
  obtain ⟨arr, harr⟩ : ∃ arr, olds ++ news ++ Builtin.zeroCells ze.cells (cap - (n0 + m)) = arr := ⟨_, rfl⟩
  rw [harr] at hrun
  have hzs : ze.cells.size = re.size := by
    have hzr := (ofZero_rel (cx ok pl w) ze).vc (by rw [← hE.zv]; exact hzf)
    have := hzr.length
    rw [← hE.zv, hzl] at this; simpa using this
  have hasz : arr.size = cap * re.size := by
    rw [← harr]
    simp only [Array.size_append, size_zeroCells, hzs]
    simp only [Array.length_toList] at hol hnl
    rw [hol, hnl, ho4, hn4, ← Nat.add_mul, ← Nat.add_mul]; congr 1; omega
  have hlist : arr.toList.take (cs0 ++ cs).length = olds.toList ++ news.toList := by
    rw [← harr]
    simp only [Array.toList_append]
    rw [List.take_append_of_le_length (by simp only [List.length_append]; omega), List.take_of_length_le (by simp only [List.length_append]; omega)]
  obtain ⟨hs', kk⟩ := cells_newT hs (cs := cs0 ++ cs) (arr := arr) (by rw [hasz, List.length_append, ho4, hn4, ← Nat.add_mul]; exact Nat.mul_le_mul_right _ hge) (by rw [hlist]; exact ho3.append hn3) el (WExt.drew w)
  subst hn0; subst hcs0
  refine ⟨fun _ => false, _, _, _, _, .slice (some ⟨w.heap.size, 0, none⟩) (0 + m) cap, .inl ?_, hs', kk, ?_, fun _ _ => rfl, by rw [Fr.drop_none]; exact hk⟩
  · rw [append_exec hop, hbase]; exact run_v hrun
  · simp only [VRel]
    refine ⟨_, cap, rfl, hge, hge, hle, .inr ⟨w.heap.size, arr, el, (0, 0), by simp [cx, plNew], rfl, ?_, by rw [hasz]; omega⟩⟩
    exact World.alloc_heap_new w.drew (.cells arr el)

theorem eff_append_growT {x y : Operand} {t xt el : TypeId} {q re : TI} (ha : IsAppend e o x y t xt el q re) (hxc : (f.ev e x).sc) (hyc : (f.ev e y).sc)
    {id len cap : Nat} (hx : (f.ev e x).sv = .ls id re.size 0 len cap) {cs0 : List V} (hc : h[id]? = some (.typed el cs0)) (hcl : cs0.length = len * re.size)
    (hst : srcTy e.P xt el (f.ev e y).sv = true) {m : Nat} {cs : List V} (hy : srcEls h re.size (f.ev e y).sv = some (m, cs)) (hyf : srcFit re.size (f.ev e y).sv = true) (h1 : allOne cs = true)
    (hbig : len + m ≤ maxLen) (hbytes : (len + m) * re.bytes ≤ 140737488355328) (hid : ∀ i ∈ f.d, (i == id) = false)
    (hk : Kn ((f.drop (· == id)).put o.dst (.ls id re.size 0 (len + m) (len + m))) ((h.map (O.drop (· == id))).set id (.typed el (V.drops (· == id) (cs0 ++ cs))))) : Eff e n r o f h Kn Q := by
  obtain ⟨⟨ts, hop, ht0, ht1⟩, hti, hkind, htie, hzf, hzl, hpos⟩ := ha
  refine Eff.of_EffV ?_ (fun c => by rw [hop]; exact fun h => by cases h)
  intro ok pl w ev hs hr
  obtain ⟨i, d, z, hT⟩ := ti_some hti
  have hd := hT.slice hkind; subst hd
  obtain ⟨ie, de, ze, hE⟩ := ti_some htie
  obtain ⟨rx, ix, dx, zx, hX, hxi⟩ := src_ty hst
  have hxv := (hr x (by simp [hop, Op.operands, Call.operands])).sv hxc
  have hyv := (hr y (by simp [hop, Op.operands, Call.operands])).sv hyc
  have hx' := hxv
  rw [hx] at hx'
  obtain ⟨olds, ho1, ho2, ho3, ho4⟩ := src_run (k := re.size) (n := len) (cs := cs0) hs hx' (by
    have : hcells h id = cs0 := by simp [hcells, hc]
    simp only [srcEls, this]
    rw [if_pos ⟨trivial, by omega⟩]
    simp only [List.drop_zero]
    rw [List.take_of_length_le (by omega)]) rfl
  obtain ⟨news, hn1, hn2, hn3, hn4⟩ := src_run hs hyv hy hyf
  simp only [VRel] at hx'
  obtain ⟨base, cp, hbase, hcap, hlen, hmax, hpl⟩ := hx'
  have hol := ho3.length
  have hnl := hn3.length
  have hidl : id < h.length := (List.getElem?_eq_some_iff.1 hc).1
  by_cases hroom : len + m ≤ cp
  · rcases hpl with hcp | ⟨b, arr, el', fz, hb, hbs, harr, hsz⟩
    · have hm0 : m = 0 := by omega
      have hl0 : len = 0 := by omega
      subst hm0; subst hl0; subst hcp
      have hcs : cs = [] := List.length_eq_zero_iff.1 (by omega)
      have hcs0 : cs0 = [] := List.length_eq_zero_iff.1 (by omega)
      subst hcs; subst hcs0
      have hnews : news.toList = [] := List.length_eq_zero_iff.1 (by omega)
      have hrun := run_append_roomG (P := e.P) (w := w) (ty := o.type) ht0 ht1 hT hE hX hxi base 0 0 0 (ev y) news (fun w' => hn1 w') (hn2 w (fun _ => rfl)) (by omega) (w' := w) (by
        cases base with
        | none => exact .inl ⟨rfl, rfl⟩
        | some a => exact .inr ⟨a, rfl, by rw [hnews]; rfl⟩)
      obtain ⟨hs', kk⟩ := hs.kill (· == id)
      have hset : (h.map (O.drop (· == id))).set id (.typed el (V.drops (· == id) ([] ++ []))) = h.map (O.drop (· == id)) := by
        apply List.ext_getElem?
        intro j
        by_cases hj : j = id
        · subst hj
          rw [List.getElem?_set_self (by simpa using hidl), List.getElem?_map, hc]; simp [O.drop, V.drops]
        · rw [List.getElem?_set_ne (Ne.symm hj)]
      rw [hset] at hk
      refine ⟨(· == id), _, _, pl, w, .slice base 0 0, .inl ?_, hs', kk, ?_, hid, hk⟩
      · rw [append_exec hop, hbase]; exact run_v hrun
      · simp only [VRel]; exact ⟨base, 0, rfl, by omega, by omega, by simp [maxLen], .inl rfl⟩
    · subst hbs
      have hb' : pl id = some b := hb
      obtain ⟨ob, hob, hat⟩ := hs.obj id b hb'
      rw [hc] at hob; cases hob
      obtain ⟨arr2, fz2, g1, g2, g3, g4⟩ := hat
      have harr' : w.heap[b]? = some (.cells arr el' fz) := harr
      have g1' : w.heap[b]? = some (.cells arr2 el fz2) := g1
      rw [harr'] at g1'
      cases g1'
      have hfit : cs0.length + news.toList.length ≤ arr.size := by
        rw [hnl, hcl, hn4, ← Nat.add_mul]
        have := Nat.mul_le_mul_right re.size hroom
        omega
      have hfit' : cs0.length + news.size ≤ arr.size := by simpa using hfit
      have hnsz : news.size = cs.length := by simpa using hnl
      have hst' := run_store_cells (P := e.P) (o := cs0.length) harr' g2 hfit (hn3.oneCells h1)
      have hw := wrote_setCells (b := b) news.toList cs0.length arr w harr' hfit
      obtain ⟨w', hw'⟩ : ∃ w', w.setCells b cs0.length news.toList = w' := ⟨_, rfl⟩
      rw [hw'] at hst' hw
      have hrun := run_append_roomG (P := e.P) (w := w) (ty := o.type) ht0 ht1 hT hE hX hxi (some ⟨b, 0, none⟩) len cp m (ev y) news (fun w' => hn1 w') (hn2 w (fun _ => rfl)) hroom (w' := w') (.inr ⟨_, rfl, by
        rw [add_plain, Nat.zero_add, ← hcl]; exact hst'⟩)
      have hkk : Keeps (· == id) pl w (fun i => if i = id then some b else pl i) w' := by
        refine ⟨hw.os, hw.tape, hw.output, by rw [hw.size]; exact Nat.le_refl _, fun b' hb1 hn' => hw.same b' (fun he => hn' id (he ▸ hb')), fun i b' hi => ?_, fun i b' hp hi => ?_, fun b' a1 e1 z1 hb1 => ?_⟩
        · split at hi
          · cases hi; exact .inl ⟨id, hb'⟩
          · exact .inl ⟨i, hi⟩
        · have : i ≠ id := by simpa using hp
          rw [if_neg this]; exact hi
        · by_cases he : b' = b
          · subst he; rw [harr'] at hb1; cases hb1
            exact ⟨_, _, hw.here, by simp; omega⟩
          · exact ⟨a1, z1, (hw.same b' he).trans hb1, rfl⟩
      have hsize' : (arr.toList.take cs0.length ++ news.toList ++ arr.toList.drop (cs0.length + news.toList.length)).toArray.size = arr.size := by simp; omega
      have hs' := hs.replace hidl (nb := b) (w' := w') (o' := .typed el (V.drops (· == id) (cs0 ++ cs))) hkk (by rw [hw.size]; exact lt_of_heap harr') (fun j hj hjb => hj (hs.inj j id b hjb hb'))
        (fun j b' hj hjb => hw.same b' (fun he => hj (hs.inj j id b (he ▸ hjb) hb'))) (by
          refine ⟨_, fz, hw.here, fun j hj => g2 j (by omega), ?_, ?_⟩
          · rw [V.drops_length, hsize', List.length_append]; omega
          · have hq : (V.drops (· == id) (cs0 ++ cs)).length = cs0.length + news.toList.length := by rw [V.drops_length, List.length_append]; omega
            rw [hq]
            have e1 : (arr.toList.take cs0.length ++ news.toList ++ arr.toList.drop (cs0.length + news.toList.length)).toArray.toList.take (cs0.length + news.toList.length) = arr.toList.take cs0.length ++ news.toList := by
              have e2 : (arr.toList.take cs0.length ++ news.toList).length = cs0.length + news.toList.length := by
                simp only [List.length_append, List.length_take, Array.length_toList]; omega
              show (arr.toList.take cs0.length ++ news.toList ++ arr.toList.drop (cs0.length + news.toList.length)).take (cs0.length + news.toList.length) = _
              rw [List.take_append_of_le_length (by omega), List.take_of_length_le (by omega)]
            rw [e1]
            exact VList.mdrop hkk.cext _ _ (g4.append hn3))
      refine ⟨(· == id), _, _, _, w', .slice (some ⟨b, 0, none⟩) (len + m) cp, .inl ?_, hs', hkk, ?_, hid, hk⟩
      · rw [append_exec hop, hbase]; exact run_v hrun
      · simp only [VRel]
        exact ⟨_, cp, rfl, hroom, hroom, hmax, .inr ⟨b, _, el, fz, by simp [cx], rfl, hw.here, by rw [hsize']; omega⟩⟩
  · have hrun := run_append_growG (P := e.P) (w := w) (ty := o.type) ht0 ht1 hT hE hX hxi base len cp m (ev y) olds news (fun w' => hn1 w') (by rw [← hbase]; exact ho2 _ (fun _ => rfl)) (hn2 _ (fun _ => rfl)) (by omega) hbig hbytes
    obtain ⟨cap', hcap'⟩ : ∃ cap', grownCap w (len + m) cp el = cap' := ⟨_, rfl⟩
    have hge := grownCap_ge w (len + m) cp el
    have hle := grownCap_le_maxLen w (len + m) cp el hbig
    rw [hcap'] at hrun hge hle
    obtain ⟨arr, harr⟩ : ∃ arr, olds ++ news ++ Builtin.zeroCells ze.cells (cap' - (len + m)) = arr := ⟨_, rfl⟩
    rw [harr] at hrun
    have hzs : ze.cells.size = re.size := by
      have hzr := (ofZero_rel (cx ok pl w) ze).vc (by rw [← hE.zv]; exact hzf)
      have := hzr.length
      rw [← hE.zv, hzl] at this; simpa using this
    have hasz : arr.size = cap' * re.size := by
      rw [← harr]
      simp only [Array.size_append, size_zeroCells, hzs]
      simp only [Array.length_toList] at hol hnl
      rw [hol, hnl, ho4, hn4, ← Nat.add_mul, ← Nat.add_mul]; congr 1; omega
    have hlist : arr.toList.take (cs0 ++ cs).length = olds.toList ++ news.toList := by
      rw [← harr]
      simp only [Array.toList_append]
      rw [List.take_append_of_le_length (by simp only [List.length_append]; omega), List.take_of_length_le (by simp only [List.length_append]; omega)]
    have x2 := (WExt.drew w).trans (WExt.alloc w.drew (.cells arr el))
    have hhere : (w.drew.alloc (.cells arr el)).heap[w.heap.size]? = some (.cells arr el) := World.alloc_heap_new w.drew (.cells arr el)
    have hkk : Keeps (· == id) pl w (fun i => if i = id then some w.heap.size else pl i) (w.drew.alloc (.cells arr el)) := by
      refine ⟨rfl, rfl, rfl, x2.size, fun b' hb1 _ => x2.same b' hb1, fun i b' hi => ?_, fun i b' hp hi => ?_, fun b' a1 e1 z1 hb1 => ⟨a1, z1, (x2.same b' (lt_of_heap hb1)).trans hb1, rfl⟩⟩
      · split at hi
        · cases hi; exact .inr (Nat.le_refl _)
        · exact .inl ⟨i, hi⟩
      · have : i ≠ id := by simpa using hp
        rw [if_neg this]; exact hi
    have hs' := hs.replace hidl (nb := w.heap.size) (o' := .typed el (V.drops (· == id) (cs0 ++ cs))) hkk (by simp) (fun j hj hjb => by have := hs.lt j _ hjb; omega)
      (fun j b' hj hjb => x2.same b' (hs.lt j b' hjb)) (by
        refine ⟨arr, (0, 0), hhere, fun j _ => by simp, ?_, ?_⟩
        · rw [V.drops_length, hasz, List.length_append, ho4, hn4, ← Nat.add_mul]; exact Nat.mul_le_mul_right _ hge
        · rw [V.drops_length, hlist]
          exact VList.mdrop hkk.cext _ _ (ho3.append hn3))
    refine ⟨(· == id), _, _, _, _, .slice (some ⟨w.heap.size, 0, none⟩) (len + m) cap', .inl ?_, hs', hkk, ?_, hid, hk⟩
    · rw [append_exec hop, hbase]; exact run_v hrun
    · simp only [VRel]
      exact ⟨_, cap', rfl, hge, hge, hle, .inr ⟨w.heap.size, arr, el, (0, 0), by simp [cx], rfl, hhere, by rw [hasz]; omega⟩⟩

/-- A local object is let go, and its block may turn. -/
theorem HSim.burn (hs : HSim e ok pl h w) {id b : Nat} (hid : pl id = some b) {w' : World} (os : w'.os = w.os) (tape : w'.tape = w.tape) (output : w'.output = w.output) (size : w'.heap.size = w.heap.size)
    (same : ∀ i, i ≠ b → w'.heap[i]? = w.heap[i]?)
    (row : ∀ arr el fz, w.heap[b]? = some (.cells arr el fz) → ∃ arr' fz', w'.heap[b]? = some (.cells arr' el fz') ∧ arr'.size = arr.size) :
    HSim e ok (fun i => if i = id then none else pl i) ((h.map (O.drop (· == id))).set id .dead) w' ∧ Keeps (· == id) pl w (fun i => if i = id then none else pl i) w' := by
  have k : Keeps (· == id) pl w (fun i => if i = id then none else pl i) w' := by
    refine ⟨os, tape, output, by omega, fun b' hb hn => same b' (fun he => hn id (he ▸ hid)), fun i b hi => ?_, fun i b hp hi => ?_, fun b' arr el fz hb => ?_⟩
    · split at hi
      · cases hi
      · exact .inl ⟨i, hi⟩
    · have : i ≠ id := by simpa using hp
      rw [if_neg this]; exact hi
    · by_cases he : b' = b
      · subst he; exact row arr el fz hb
      · exact ⟨arr, fz, (same b' he).trans hb, rfl⟩
  refine ⟨hs.next k (fun i b hi => ?_) (fun i j b hi hj => ?_) (fun i b' hi => ?_) (fun i o ho hi => ?_), k⟩
  · split at hi
    · cases hi
    · have := hs.lt i b hi; omega
  · split at hi <;> split at hj <;> first | cases hi | cases hj | exact hs.inj i j b hi hj
    all_goals (first | (cases hi; done) | (cases hj; done))
  · split at hi
    · cases hi
    · rename_i hne
      refine .inl ⟨hi, same b' (fun he => hne (hs.inj i id b' hi (he ▸ hid))), ?_⟩
      rw [List.getElem?_set_ne (Ne.symm hne), List.getElem?_map]
  · by_cases hii : i = id
    · subst hii
      have hlt : i < h.length := by
        have := (List.getElem?_eq_some_iff.1 ho).1
        simpa using this
      left
      have : ((h.map (O.drop (· == i))).set i .dead)[i]? = some .dead := by simp [hlt]
      exact Option.some.inj (ho.symm.trans this)
    · rw [List.getElem?_set_ne (Ne.symm hii), List.getElem?_map] at ho
      rw [if_neg hii] at hi
      cases hh : h[i]? with
      | none => rw [hh] at ho; cases ho
      | some o' =>
        rw [hh] at ho
        have ho : o'.drop (· == id) = o := by simpa using ho
        rcases hs.bare i o' hh hi with rfl | rfl <;> subst ho <;> simp [O.drop, V.drops]
end
end Go.Abs

set_option linter.unusedVariables false
set_option linter.unusedSimpArgs false
namespace Go.Abs
open Go Go.RowKit
section
variable {P : Program} {w : World}
theorem run_append_make {ts : Array TypeId} {t xt ty el : TypeId} {r re rx : TI} {i ie ix : TypeInfo} {de : TypeDesc} {z ze zx : Value} {kx : IntKind} (h0 : ts[0]? = some t) (h1 : ts[1]? = some xt)
    (hT : TIs P t r i (.slice el) z) (hE : TIs P el re ie de ze) (hX : TIs P xt rx ix (.int kx) zx)
    (m : Nat) (hm : 0 < m) (hm1 : m ≤ 1000000000000) (hb : m * re.bytes ≤ 140737488355328) (hsz : re.size = 1) :
    (Builtin.append_ ts ty #[.slice none 0 0, .int .i64 m]).run P w =
      .ok (.slice (some ⟨w.heap.size, 0, none⟩) m (grownCap w m 0 el))
        (w.drew.alloc (.cells (Builtin.zeroCells ze.cells m ++ Builtin.zeroCells ze.cells (grownCap w m 0 el - m)) el)) := by
  have h48' : ¬ (281474976710656 < Builtin.nextslicecap m 0 * re.bytes) := by have := growslice_fits (need := m) (old := 0) hm hb; omega
  have hw : IntKind.i64.wrap (m : Int) = m := wrap64 (by omega) (by omega)
  have hbytes : (typeInfo el).run P w = .ok ie w := by simp [typeInfo, hE.info]
  have hneg : ¬ ((m : Int) < 0) := by omega
  have hbig : ¬ ((281474976710656 : Int) < (m : Int) * ie.bytes) := by
    have h2 : ((m * re.bytes : Nat) : Int) ≤ 140737488355328 := by omega
    rw [← hE.bytes]
    rw [Int.natCast_mul] at h2
    omega
  have hns : m * 1 ≠ 0 := by omega
  have h63 : ¬ (9223372036854775807 < (m : Int)) := by omega
  unfold Builtin.append_
  simp only [h0, h1, List.getElem?_toArray, List.getElem?_cons_zero, List.getElem?_cons_succ, Sem.run_bind, hT.run_und, Result.andThen, hE.run_size, hX.run_und, Sem.run_pure]
  simp [asInt, asIntOf, hw, hneg, hbig, hbytes, Result.andThen, h63, hE.bytes ▸ h48', Question.forced, hE.run_zero, newRow, grownCap, typeInfo, hE.info, Builtin.firstCells, hsz, show m ≠ 0 by omega]
end
section
variable {e : E} {n : Nat} {r : Option Nat} {o : Oper} {f : Fr} {h : H} {Kn : Fr → H → Prop} {Q : XE → Fr → H → Prop}

theorem eff_append_make {x y : Operand} {t xt el : TypeId} {q re : TI} (ha : IsAppend e o x y t xt el q re) (hxc : (f.ev e x).sc) (hyc : (f.ev e y).sc)
    (hx : (f.ev e x).sv = .nils) {m : Nat} (hy : (f.ev e y).sv = .int .i64 m) {rx : TI} {kx : IntKind} (hxt : Abs.ti e.P xt = some rx) (hkx : rx.kind = .int kx)
    (hm : 0 < m) (hm1 : m ≤ 1000000000000) (hb : m * re.bytes ≤ 140737488355328) (hsz : re.size = 1) {zv : V} (hzv : re.zero.vc = [zv])
    (hk : Kn (f.put o.dst (.ls h.length 1 0 m m)) (h ++ [.cells (List.replicate m zv)])) : Eff e n r o f h Kn Q := by
  obtain ⟨⟨ts, hop, ht0, ht1⟩, hti, hkind, htie, hzf, hzl, hpos⟩ := ha
  refine Eff.of_EffV ?_ (fun c => by rw [hop]; exact fun h => by cases h)
  intro ok pl w ev hs hr
  obtain ⟨i, d, z, hT⟩ := ti_some hti
  have hd := hT.slice hkind; subst hd
  obtain ⟨ie, de, ze, hE⟩ := ti_some htie
  obtain ⟨ix, dx, zx, hX⟩ := ti_some hxt
  have hdx := hX.int hkx; subst hdx
  have hxv := (hr x (by simp [hop, Op.operands, Call.operands])).sv hxc
  have hyv := (hr y (by simp [hop, Op.operands, Call.operands])).sv hyc
  rw [hx] at hxv
  rw [hy] at hyv
  simp only [VRel] at hxv hyv
  have hrun := run_append_make (P := e.P) (w := w) (ty := o.type) ht0 ht1 hT hE hX m hm hm1 hb hsz
  obtain ⟨cap, hcap⟩ : ∃ cap, grownCap w m 0 el = cap := ⟨_, rfl⟩
  have hge := grownCap_ge w m 0 el
  have hle := grownCap_le_maxLen w m 0 el (by simp only [maxLen]; omega)
  rw [hcap] at hrun hge hle
  have hzr := (ofZero_rel (cx ok pl w) ze).vc (by rw [← hE.zv]; exact hzf)
  rw [← hE.zv, hzv] at hzr
  have hzl1 := hzr.length
  simp only [List.length_singleton, Array.length_toList] at hzl1
  have hz1 : ze.cells.size = 1 := by omega
  obtain ⟨arr, harr⟩ : ∃ arr, Builtin.zeroCells ze.cells m ++ Builtin.zeroCells ze.cells (cap - m) = arr := ⟨_, rfl⟩
  rw [harr] at hrun
  obtain ⟨zc, hzc, hzrel⟩ : ∃ zc, ze.cells.toList = [zc] ∧ VRel (cx ok pl w) zv zc := by
    simp only [VList] at hzr
    obtain ⟨y, ys, h1, h2, rfl⟩ := hzr
    exact ⟨y, h1, h2⟩
  have hasz : arr.size = cap := by
    rw [← harr]
    simp only [Array.size_append, size_zeroCells, hz1]
    omega
  have hlist : arr.toList.take (List.replicate m zv).length = List.replicate m zc := by
    rw [← harr, List.length_replicate, Array.toList_append, List.take_append_of_le_length (by simp [size_zeroCells, hz1]), List.take_of_length_le (by simp [size_zeroCells, hz1])]
    have : ze.cells = #[zc] := Array.toList_inj.1 hzc
    apply List.ext_getElem?
    intro j
    simp [Builtin.zeroCells, this, List.getElem?_replicate]
    by_cases hj : j < m
    · rw [List.getElem?_range hj, if_pos hj]
      simp [Nat.mod_one]
    · rw [List.getElem?_eq_none (by simp; omega), if_neg hj]; rfl
  have hv : ∀ k, VList (cx ok pl w) (List.replicate k zv) (List.replicate k zc) := by
    intro k
    induction k with
    | zero => simp [VList]
    | succ k ih => simp only [List.replicate_succ, VList]; exact ⟨_, _, rfl, hzrel, ih⟩
  obtain ⟨hs', kk⟩ := cells_new' hs (cs := List.replicate m zv) (arr := arr) (by rw [hasz]; simpa using hge) (by rw [hlist]; exact hv m) el (WExt.drew w)
  refine ⟨fun _ => false, _, _, _, _, .slice (some ⟨w.heap.size, 0, none⟩) m cap, .inl ?_, hs', kk, ?_, fun _ _ => rfl, by rw [Fr.drop_none]; exact hk⟩
  · rw [append_exec hop, hxv, hyv]; exact run_v hrun
  · simp only [VRel]
    refine ⟨_, cap, rfl, hge, hge, hle, .inr ⟨w.heap.size, arr, el, (0, 0), by simp [cx, plNew], rfl, ?_, by rw [hasz]; omega⟩⟩
    exact World.alloc_heap_new w.drew (.cells arr el)
end
end Go.Abs

set_option linter.unusedVariables false
set_option linter.unusedSimpArgs false
namespace Go.Abs
open Go.RowKit Go.ChangeShapes

mutual
/-- A value of a shape, with the bound on how much is handed. -/
def Sh.Sz (R : Nat) : Sh → V → Prop
  | .str, v => ∃ s, v = .str s ∧ s.length ≤ R
  | .bool, v => ∃ b, v = .bool b
  | .int k, v => ∃ n, v = .int k n ∧ (Lit.int k n).wf = true
  | .slice e, v => ∃ es, v = .is false e.size es ∧ es.length ≤ R ∧ ∀ x ∈ es, Sh.Sz R e x
  | .struct fs, v => ∃ vs, v = .agg (vs.flatMap V.vc) ∧ Sh.Szs R fs vs
def Sh.Szs (R : Nat) : List Sh → List V → Prop
  | [], vs => vs = []
  | s :: ss, vs => ∃ u us, vs = u :: us ∧ Sh.Sz R s u ∧ Sh.Szs R ss us
end

mutual
/-- Do the elements of all slices take bytes? -/
def Sh.fat (P : Program) : Sh → TypeId → Bool
  | .slice e, t => match P.underlying t with | some (.slice u) => decide (0 < P.bytesOf u) && e.fat P u | _ => false
  | .struct fs, t => match Sh.fields P t with | some gs => Sh.fats P fs gs | none => false
  | .str, _ | .bool, _ | .int _, _ => true
def Sh.fats (P : Program) : List Sh → List Field → Bool
  | [], [] => true
  | s :: ss, g :: gs => s.fat P g.type && Sh.fats P ss gs
  | _, _ => false
end

section
variable {H : Type} {enc : TypeId × Value → H} {P : Program} {w : World}

/-- What tells that no more than so much is handed. -/
structure Meas (H : Type) (P : Program) (R : Nat) where
  L : TypeId → DataW H → Prop
  str : ∀ t b, L t (.lit (.string b)) → b.length ≤ R
  sl : ∀ t u es rs, P.underlying t = some (.slice u) → 0 < P.bytesOf u → L t (.slice es rs) → es.length ≤ R ∧ ∀ d ∈ es, L u d
  st : ∀ t fs ds, Sh.fields P t = some fs → L t (.agg ds) → ∀ (i : Nat) d (f : Field), ds[i]? = some d → fs[i]? = some f → L f.type d

variable {R : Nat} (M : Meas H P R)

theorem tookZ_fields {c : C} {cs : List Value} {F : TypeId → List Value → Option (DataW H × List MemPlace)}
    (IH : ∀ (sh : Sh) (t : TypeId) (cs : List Value) x, sh.ok P t = true → sh.fat P t = true → cs.length = sh.size → F t cs = some x → M.L t x.1 → ∃ v, Took c sh v cs ∧ sh.Sz R v) :
    ∀ (fs : List Sh) (gs : List Field) (off : Nat) (xs : List (DataW H × List MemPlace)), Sh.oks P fs gs off = true → Sh.fats P fs gs = true → off + Sh.sizes fs = cs.length →
      (gs.mapM fun f => F f.type ((cs.drop f.offset).take (P.cellsOf f.type))) = some xs → (∀ (i : Nat) d (f : Field), (xs.map (·.1))[i]? = some d → gs[i]? = some f → M.L f.type d) →
      ∃ vs, Sh.Iss fs vs ∧ Sh.Szs R fs vs ∧ (∀ v ∈ vs, v.dat = true) ∧ (vs.flatMap V.vc).length = Sh.sizes fs ∧ VList c (vs.flatMap V.vc) (cs.drop off)
  | [], [], off, xs, _, _, hl, _, _ => by
    refine ⟨[], rfl, rfl, by simp, rfl, ?_⟩
    simp only [Sh.sizes] at hl
    rw [List.drop_of_length_le (by omega)]
    simp only [List.flatMap_nil, VList]
  | [], _ :: _, _, _, h, _, _, _, _ => by simp [Sh.oks] at h
  | _ :: _, [], _, _, h, _, _, _, _ => by simp [Sh.oks] at h
  | s :: ss, g :: gs, off, xs, hok, hft, hl, hm, hw => by
    simp only [Sh.oks, Bool.and_eq_true, beq_iff_eq] at hok
    simp only [Sh.fats, Bool.and_eq_true] at hft
    obtain ⟨⟨⟨h1, h2⟩, h3⟩, h4⟩ := hok
    simp only [Sh.sizes] at hl
    rw [List.mapM_cons] at hm
    simp only [Option.bind_eq_bind, Option.bind_eq_some_iff, Option.pure_def, Option.some.injEq] at hm
    obtain ⟨y, hy, ys, hys, rfl⟩ := hm
    rw [h1, h2] at hy
    obtain ⟨v, hv, hz⟩ := IH s g.type _ y h3 hft.1 (by rw [List.length_take, List.length_drop]; omega) hy (hw 0 y.1 g rfl rfl)
    obtain ⟨vs, k1, kz, k2, k3, k4⟩ := tookZ_fields IH ss gs (off + s.size) ys h4 hft.2 (by omega) hys (fun i d f h1 h2 => hw (i + 1) d f (by simpa using h1) (by simpa using h2))
    refine ⟨v :: vs, ⟨v, vs, rfl, hv.is, k1⟩, ⟨v, vs, rfl, hz, kz⟩, ?_, ?_, ?_⟩
    · intro u hu
      rcases List.mem_cons.1 hu with rfl | hu
      · exact hv.dat
      · exact k2 u hu
    · rw [List.flatMap_cons, List.length_append, hv.len, k3]; rfl
    · rw [List.flatMap_cons]
      have : cs.drop off = (cs.drop off).take s.size ++ cs.drop (off + s.size) := by
        rw [← List.drop_drop, List.take_append_drop]
      rw [this]
      exact hv.rel.append k4

theorem trod_tookZ : ∀ (fuel : Nat) (sh : Sh) (t : TypeId) (cs : List Value) (d : DataW H) (ps : List MemPlace), sh.ok P t = true → sh.fat P t = true → cs.length = sh.size →
    DataW.trod enc P w 0 (fun _ => true) true fuel t cs = some (d, ps) → M.L t d → ∃ v, Took (cw w) sh v cs ∧ sh.Sz R v
  | 0, _, _, _, _, _, _, _, _, h, _ => by simp [DataW.trod] at h
  | fuel + 1, .str, t, [x], d, ps, hok, hft, hlen, h, hw => by
    simp only [Sh.ok] at hok
    split at hok
    · rename_i hu
      cases x <;> simp only [DataW.trod, hu, reduceCtorEq] at h
      case string s =>
        split at h
        · rename_i hs
          cases h
          refine ⟨.str s.data.toList, Took.one ⟨_, rfl⟩ rfl rfl rfl ?_, ⟨_, rfl, M.str _ _ hw⟩⟩
          simp only [VRel]
          exact ⟨s, rfl, rfl, by rw [Array.length_toList]; exact hs⟩
        · cases h
    · cases hok
  | fuel + 1, .bool, t, [x], d, ps, hok, hft, hlen, h, hw => by
    simp only [Sh.ok] at hok
    split at hok
    · rename_i hu
      cases x <;> simp only [DataW.trod, hu, reduceCtorEq] at h
      case bool b => exact ⟨.bool b, Took.one ⟨_, rfl⟩ rfl rfl rfl (by simp only [VRel]), ⟨_, rfl⟩⟩
    · cases hok
  | fuel + 1, .int k, t, [x], d, ps, hok, hft, hlen, h, hw => by
    simp only [Sh.ok] at hok
    split at hok
    · rename_i k' hu
      have hk : k' = k := by simpa using hok
      subst hk
      cases x <;> simp only [DataW.trod, hu, reduceCtorEq] at h
      case int k2 n =>
        split at h
        · rename_i hs
          obtain ⟨rfl, hw⟩ := hs
          exact ⟨.int k2 n, Took.one ⟨_, rfl, hw⟩ rfl rfl rfl (by simp only [VRel]), ⟨_, rfl, hw⟩⟩
        · cases h
    · cases hok
  | fuel + 1, .slice e, t, [x], d, ps, hok, hft, hlen, h, hw => by
    simp only [Sh.ok] at hok
    simp only [Sh.fat] at hft
    split at hok
    · rename_i u hu
      rw [hu] at hft
      simp only [Bool.and_eq_true, decide_eq_true_eq] at hft
      simp only [Bool.and_eq_true, beq_iff_eq, decide_eq_true_eq] at hok
      obtain ⟨⟨hsz, hpos⟩, hok⟩ := hok
      cases x <;> simp only [DataW.trod, hu, reduceCtorEq] at h
      case slice a len cap =>
        cases a with
        | none =>
          have hz : len = 0 ∧ cap = 0 := by
            cases len <;> cases cap <;> simp [DataW.trod, hu] at h ⊢
          obtain ⟨rfl, rfl⟩ := hz
          refine ⟨.is false e.size [], Took.one ⟨[], rfl, by simp⟩ rfl rfl rfl ?_, ⟨[], rfl, Nat.zero_le _, by simp⟩⟩
          simp only [VRel]
          exact ⟨none, 0, rfl, Nat.le_refl _, Nat.zero_le _, fun hf => (by cases hf), .inl trivial⟩
        | some a =>
          simp only [DataW.trod, hu] at h
          split at h
          · rename_i hcond
            rw [Option.bind_eq_some_iff] at h
            obtain ⟨elems, hel, hrest⟩ := h
            rw [Option.map_eq_some_iff] at hrest
            obtain ⟨rest, _, hd⟩ := hrest
            have hd : d = .slice (elems.map (·.1)) (rest.map (·.1)) := by cases hd; rfl
            subst hd
            have hm := mapM_some hel
            have hlite := M.sl _ _ _ _ hu hft.1 hw
            have hsmall : len ≤ R := by
              have h2 : len = elems.length := by rw [hm.1]; simp
              have h1 := hlite.1
              rw [List.length_map] at h1
              omega
            have key : ∀ i : Fin len, ∃ v cells, w.cells? 0 (a.add (i.1 * e.size)) e.size = some cells ∧ Took (cw w) e v cells ∧ e.Sz R v := by
              intro i
              obtain ⟨y, hy, hy2⟩ := hm.2 i.1 i.1 (by simp)
              rw [Option.bind_eq_some_iff] at hy
              obtain ⟨cells, hc, ht⟩ := hy
              rw [hsz] at hc
              have hcl : cells.length = e.size := by
                unfold World.cells? at hc
                split at hc
                · have := (mapM_some hc).1; simpa using this
                · cases hc
              obtain ⟨v, hv, hz⟩ := trod_tookZ fuel e u cells y.1 y.2 hok hft.2 hcl ht (hlite.2 _ (List.mem_map.2 ⟨y, List.mem_of_getElem? hy2, rfl⟩))
              exact ⟨v, cells, hc, hv, hz⟩
            let es : List V := List.ofFn fun i => (key i).choose
            have hlen2 : es.length = len := by simp [es]
            have hget : ∀ (i : Nat) (v : V), es[i]? = some v → ∃ cells, w.cells? 0 (a.add (i * e.size)) e.size = some cells ∧ Took (cw w) e v cells ∧ e.Sz R v := by
              intro i v hi
              have hi2 : i < len := by have := (List.getElem?_eq_some_iff.1 hi).1; omega
              have : es[i]? = some (key ⟨i, hi2⟩).choose := by simp [es, hi2]
              rw [this] at hi
              cases hi
              exact (key ⟨i, hi2⟩).choose_spec
            refine ⟨.is false e.size es, Took.one ⟨es, rfl, ?_⟩ rfl rfl rfl ?_, ⟨es, rfl, by omega, ?_⟩⟩
            · intro x hx
              obtain ⟨i, hi, rfl⟩ := List.mem_iff_getElem.1 hx
              obtain ⟨cells, _, ht, _⟩ := hget i es[i] (by simp [hi])
              exact ht.is
            · simp only [VRel]
              refine ⟨some a, cap, by rw [hlen2], by rw [hlen2]; exact hcond.2.1, hcond.2.2, fun hf => (by cases hf), ?_⟩
              have cell : ∀ (i : Nat) (cells : List Value), w.cells? 0 (a.add (i * e.size)) e.size = some cells → cells.length = e.size ∧ ∀ j, j < e.size → w.cell? ((a.add (i * e.size)).add j) = cells[j]? := by
                intro i cells hc
                unfold World.cells? at hc
                split at hc
                · have hm2 := mapM_some hc
                  refine ⟨by simpa using hm2.1, fun j hj => ?_⟩
                  obtain ⟨y, hy1, hy2⟩ := hm2.2 j j (by simp [hj])
                  rw [hy1, hy2]
                · cases hc
              by_cases h0 : len = 0
              · left; exact List.length_eq_zero_iff.1 (by omega)
              · right
                obtain ⟨b, off, spot⟩ := a
                have hs : spot = none := by
                  obtain ⟨v, cells, hc, _⟩ := key ⟨0, by omega⟩
                  obtain ⟨h1, h2⟩ := cell 0 cells hc
                  have h3 := h2 0 hpos
                  have h4 : cells[0]? = some (cells[0]'(by omega)) := by simp
                  rw [h4] at h3
                  simpa [Addr.add] using World.cell?_spot h3
                subst hs
                refine ⟨b, off, rfl, VElems.of_get fun i v hi => ?_⟩
                obtain ⟨cells, hc, ht, _⟩ := hget i v hi
                obtain ⟨h1, h2⟩ := cell i cells hc
                obtain ⟨ev, h3, h4⟩ := VRel.of_vc ht.fit ht.rel
                have hsize : ev.cells.size = e.size := by rw [← h1, ← h3]; simp
                refine ⟨ev, hsize, fun j hj => ⟨⟨trivial, fun i hi => (by cases hi)⟩, ?_⟩, h4⟩
                have := h2 j (by omega)
                rw [add_plain, add_plain, ← h3] at this
                show w.cell? _ = _
                simpa using this
            · intro x hx
              obtain ⟨i, hi, rfl⟩ := List.mem_iff_getElem.1 hx
              obtain ⟨cells, _, _, ht⟩ := hget i es[i] (by simp [hi])
              exact ht
          · cases h
    · cases hok
  | fuel + 1, .struct fs, t, cs, d, ps, hok, hft, hlen, h, hw => by
    simp only [Sh.ok] at hok
    simp only [Sh.fat] at hft
    split at hok
    · rename_i gs hu
      rw [hu] at hft
      simp only [Bool.and_eq_true, beq_iff_eq] at hok
      obtain ⟨hsz, hok⟩ := hok
      obtain ⟨hlen2, xs, hxs, hd⟩ := trod_fields hu h
      subst hd
      obtain ⟨vs, k1, kz, k2, k3, k4⟩ := tookZ_fields M (c := cw w) (P := P) (F := DataW.trod enc P w 0 (fun _ => true) true fuel) (fun sh t cs x h1 hf h2 h3 h4 => trod_tookZ fuel sh t cs x.1 x.2 h1 hf h2 h3 h4) fs gs 0 xs hok hft (by rw [hlen2, hsz]; omega) hxs (fun i d f h1 h2 => M.st _ _ _ hu hw i d f h1 h2)
      refine ⟨.agg (vs.flatMap V.vc), ⟨⟨vs, rfl, k1⟩, rfl, ?_, k3, by simpa [V.vc] using k4⟩, ⟨vs, rfl, kz⟩⟩
      simp only [V.dat]
      exact dats_flat fun v hv => dat_vc (k2 v hv)
    · cases hok

theorem trodAll_tookZ {w : World} : ∀ (shs : List Sh) (ts : List TypeId) (vs : List Value) (ds : List (DataW H)) (ps : List MemPlace), shs.length = ts.length →
    (∀ (i : Nat) sh t, shs[i]? = some sh → ts[i]? = some t → sh.ok P t = true ∧ sh.fat P t = true) → (∀ (i : Nat) sh v, shs[i]? = some sh → vs[i]? = some v → Flat sh v) →
    DataW.TrodAll enc P w 0 (fun _ => true) true ts vs ds ps → (∀ (i : Nat) d t, ds[i]? = some d → ts[i]? = some t → M.L t d) → ∃ us, Sh.Szs R shs us ∧ VList (cw w) us vs
  | [], [], vs, ds, ps, _, _, _, h, _ => by
    obtain ⟨rfl, _, _⟩ := trodAll_nil h
    exact ⟨[], rfl, by simp only [VList]⟩
  | [], _ :: _, _, _, _, hl, _, _, _, _ => by simp at hl
  | _ :: _, [], _, _, _, hl, _, _, _, _ => by simp at hl
  | sh :: shs, t :: ts, vs, ds, ps, hl, hok, hsz, h, hw => by
    obtain ⟨v, vs', d, ds', p, q, rfl, rfl, rfl, h1, h2⟩ := trodAll_cons h
    obtain ⟨fuel, hf⟩ := h1
    have hfl := hsz 0 sh v rfl rfl
    obtain ⟨u, hu, hz⟩ := trod_tookZ M fuel sh t _ d p (hok 0 sh t rfl rfl).1 (hok 0 sh t rfl rfl).2 (by simpa using flat_size hfl) hf (hw 0 d t rfl rfl)
    obtain ⟨us, k1, k2⟩ := trodAll_tookZ shs ts vs' ds' q (by simpa using hl) (fun i sh t h1 h2 => hok (i + 1) sh t (by simpa using h1) (by simpa using h2)) (fun i sh v h1 h2 => hsz (i + 1) sh v (by simpa using h1) (by simpa using h2)) h2 (fun i d t h1 h2 => hw (i + 1) d t (by simpa using h1) (by simpa using h2))
    refine ⟨u :: us, ⟨u, us, rfl, hz, k1⟩, ?_⟩
    simp only [VList]
    exact ⟨v, vs', rfl, flat_rel hfl hu, k2⟩

theorem weightsAll_mem {e : TypeId} {d : DataW H} {n : Nat} : ∀ {l : List (DataW H)}, d ∈ l → n ∈ d.weights P e → n ∈ DataW.weightsAll P e l
  | [], h, _ => by cases h
  | a :: l, h, hn => by
    simp only [DataW.weightsAll, List.mem_append]
    rcases List.mem_cons.1 h with rfl | h
    · exact .inl hn
    · exact .inr (weightsAll_mem h hn)

theorem weightsEach_get {n : Nat} : ∀ (ts : List TypeId) (ds : List (DataW H)) (i : Nat) d t, ds[i]? = some d → ts[i]? = some t → n ∈ d.weights P t → n ∈ DataW.weightsEach P ts ds
  | [], _, i, _, _, _, h, _ => by simp at h
  | _ :: _, [], i, _, _, h, _, _ => by simp at h
  | t :: ts, d :: ds, 0, _, _, h1, h2, hn => by
    simp only [List.getElem?_cons_zero, Option.some.injEq] at h1 h2
    subst h1; subst h2
    simp only [DataW.weightsEach, List.mem_append]
    exact .inl hn
  | t :: ts, d :: ds, i + 1, _, _, h1, h2, hn => by
    simp only [DataW.weightsEach, List.mem_append]
    exact .inr (weightsEach_get ts ds i _ _ (by simpa using h1) (by simpa using h2) hn)

/-- The form's own reach. -/
def reachM (H : Type) (P : Program) : Meas H P reachBytes where
  L t d := ∀ n ∈ d.weights P t, n ≤ reachBytes
  str t b h := h _ (by simp [DataW.weights])
  sl t u es rs hu hb h := by
    refine ⟨?_, fun d hd n hn => h n (by simp only [DataW.weights, hu, List.mem_cons, List.mem_append]; exact .inr (.inl (weightsAll_mem hd hn)))⟩
    have h1 : (es.length + rs.length) * P.bytesOf u ≤ reachBytes := h _ (by simp only [DataW.weights, hu]; exact List.mem_cons_self)
    have h3 : es.length + rs.length ≤ (es.length + rs.length) * P.bytesOf u := Nat.le_mul_of_pos_right _ hb
    omega
  st t fs ds hu h i d f h1 h2 n hn := h n (by
    unfold Sh.fields at hu
    split at hu
    · rename_i hu'
      cases hu
      simp only [DataW.weights, hu']
      exact weightsEach_get _ _ i d f.type h1 (by simp [h2]) hn
    · rename_i hu'
      cases hu
      simp only [DataW.weights, hu']
      rw [List.getElem?_map, Option.map_eq_some_iff] at h2
      obtain ⟨k, _, rfl⟩ := h2
      exact weightsAll_mem (List.mem_of_getElem? h1) hn
    · cases hu)

/-- A law that only computes, and says true of whatever it is handed, where that is told to be no larger than what there is. -/
theorem law_contractZ {fn : Func} {f : FuncId} {s : ChangeSpec} {shs : List Sh} (hl : laidOutB P = true) (hlen : shs.length = fn.params.size)
    (hok : ∀ (i : Nat) sh t, shs[i]? = some sh → fn.params[i]? = some t → sh.ok P t = true ∧ sh.fat P t = true) (hread : (fn.params.toList.all fun t => P.readableRec t && decide (t < P.types.size)) = true)
    (hres : ∃ tb, fn.resultTypes = #[tb] ∧ P.underlying tb = some .bool) (hvars : s.vars = [])
    (hspec : ∀ ds : List (DataW H), ds.length = shs.length → (s.fn H (ds ++ [])).results = [.lit (.bool true)] ∧ (s.fn H (ds ++ [])).args = ds ∧ (s.fn H (ds ++ [])).vars = [])
    (e : E) (heP : e.P = P) (heg : e.gl = fun _ => none) (hev : ∀ us, Sh.Szs R shs us → Ev e f us (.bool true))
    (W : World) (base : Nat) (args : Array Value) (ds gs : List (DataW H)) (before : List MemPlace)
    (hval : ∀ (j : Nat) t v, fn.params[j]? = some t → args[j]? = some v → Value.okWide P W .any base t v)
    (hW : DataW.Whole enc P fn.params.toList s.vars false W args.toList ds gs before)
    (hwt : ∀ (i : Nat) d t, ds[i]? = some d → fn.params.toList[i]? = some t → M.L t d)
    (hex : ∀ g p, e.gx g = some p → ∃ cs ty fz, W.heap[g]? = some (.cells cs ty fz) ∧ p cs) :
    Calls P f args W fun e W' => ∃ v, e = .returned v ∧ s.post enc P fn false true false false W args v W' := by
  have hW' := hW
  obtain ⟨p, q, hA, hV, rfl, hfz, hnd⟩ := hW
  rw [hvars] at hV
  obtain ⟨rfl, rfl⟩ := trodVars_none hV
  obtain ⟨us, k1, k2⟩ := trodAll_tookZ M shs fn.params.toList args.toList ds p (by simpa using hlen) (fun i sh t h1 h2 => hok i sh t h1 (by simpa using h2)) (fun i sh v h1 h2 => by
    have hi : i < fn.params.size := by have := (List.getElem?_eq_some_iff.1 h1).1; omega
    exact flat_of_okWide (hok i sh fn.params[i] h1 (by simp [hi])).1 (hval i fn.params[i] v (by simp [hi]) (by simpa using h2))) hA hwt
  subst heP
  have hs : HSim e (fun _ => True) (fun _ => none) [] W := ⟨fun _ _ => trivial, fun i b hi => (by cases hi), fun i b hi => (by cases hi), fun i j b hi => (by cases hi), fun i b hi => (by cases hi), fun i o ho => (by simp at ho), fun g v hg => (by rw [heg] at hg; cases hg), fun g p hg => ⟨⟨trivial, fun i hi => (by cases hi)⟩, hex g p hg⟩⟩
  have hc := hev us k1 _ W args.toList hs k2
  rw [show args.toList.toArray = args from Array.toArray_toList] at hc
  refine hc.mono ?_
  rintro en W' ⟨x, rfl, hx, hv⟩
  simp only [VRel] at hv
  subst hv
  obtain ⟨tb, hr1, hr2⟩ := hres
  have hdl : ds.length = shs.length := by rw [trod_len hA, hlen]; simp
  obtain ⟨e1, e2, e3⟩ := hspec ds hdl
  refine ⟨_, rfl, ds, [], p ++ [], [], p, [], hW', ?_, ?_, ?_, hx.below.frame _, fun h => (by cases h)⟩
  · rw [e1, hr1]
    exact trodAll_mk1 ⟨1, by simp [DataW.trod, Value.cells, hr2]⟩
  · rw [e2]
    exact trodAll_stays hl hx.below fn.params.toList args.toList ds p hread (fun y hy => hA.lt y hy) hA
  · rw [e3, hvars]
    rfl
theorem reach_of {fn : Func} {more : List TypeId} {ds : List (DataW H)} (h : (DataW.weightsEach P (fn.params.toList ++ more) (ds ++ [])).all (· ≤ reachBytes) = true) :
    ∀ (i : Nat) d t, ds[i]? = some d → fn.params.toList[i]? = some t → (reachM H P).L t d := by
  intro i d t h1 h2 n hn
  have h3 := List.all_eq_true.1 h n (weightsEach_get _ _ i d t (by simpa using h1) (by rw [List.getElem?_append_left (List.getElem?_eq_some_iff.1 h2).1]; exact h2) hn)
  simpa using h3
end
end Go.Abs

set_option linter.unusedVariables false
set_option linter.unusedSimpArgs false
namespace Go.Abs
open Go Go.RowKit
section
variable {e : E} {n : Nat} {r : Option Nat} {o : Oper} {f : Fr} {h : H} {Kn : Fr → H → Prop} {Q : XE → Fr → H → Prop}

theorem eff_cap_nils {x : Operand} {ts : Array TypeId} {t el : TypeId} {q : TI} (hop : o.op = .call { callee := .builtin .cap, args := #[x], argTypes := ts }) (h0 : ts[0]? = some t)
    (hti : Abs.ti e.P t = some q) (hkind : q.kind = .slice el) (hc : (f.ev e x).sc) (hx : (f.ev e x).sv = .nils) (hk : Kn (f.put o.dst (.int .i64 0)) h) : Eff e n r o f h Kn Q := by
  refine Eff.of_AQ (v := .int .i64 0) (AQ.of_value fun ok pl w ev hs hr => ?_) hk
  obtain ⟨i, d, z, hT⟩ := ti_some hti
  have hu : e.P.underlying t = some (.slice el) := by rw [hT.und, hT.slice hkind]
  have h1 := (hr x (by simp [hop, Op.operands, Call.operands])).sv hc
  rw [hx] at h1
  simp only [VRel] at h1
  refine ⟨.int .i64 0, ?_, by simp only [VRel]⟩
  have hb : execOp ev o = (do pure (Next.value (← Builtin.cap_ ts o.type #[ev x]))) := by
    have : execOp ev o = (do
        let d ← resolve ev { callee := .builtin .cap, args := #[x], argTypes := ts } o.type
        invoke d.target d.args) := by simp [execOp, hop]
    rw [this]; simp [resolve, invoke, builtin]
  rw [hb, h1]
  refine run_v ?_
  simp [Builtin.cap_, h0, run_underlying hu, Result.andThen, goInt]

theorem eff_slice_nils {x y : Operand} {t el : TypeId} {q re : TI} (hop : o.op = .slice t x none (some y) none) (hti : Abs.ti e.P t = some q) (hkind : q.kind = .slice el) (hre : Abs.ti e.P el = some re)
    (hc : (f.ev e x).sc) (hx : (f.ev e x).sv = .nils) (hyc : (f.ev e y).sc) {k : IntKind} (hy : (f.ev e y).sv = .int k 0) (hk : Kn (f.put o.dst .nils) h) : Eff e n r o f h Kn Q := by
  refine Eff.of_AQ (v := .nils) (AQ.of_value fun ok pl w ev hs hr => ?_) hk
  obtain ⟨i, d, z, hT⟩ := ti_some hti
  obtain ⟨i', d', z', hT'⟩ := ti_some hre
  have hd := hT.slice hkind
  have h1 := (hr x (by simp [hop, Op.operands])).sv hc
  have h2 := (hr y (by simp [hop, Op.operands])).sv hyc
  rw [hx] at h1
  rw [hy] at h2
  simp only [VRel] at h1 h2
  refine ⟨.slice none 0 0, ?_, by simp only [VRel]⟩
  have hb : execOp ev o = (do pure (Next.value (← Instr.sliceAt t (ev x) none (some (ev y)) none))) := by simp [execOp, hop]
  rw [hb, h1, h2]
  refine run_v ?_
  have hbd := run_bounds (P := e.P) (w := w) true 0 0 .i64 none (some (.int k 0)) none none (some (.int k 0)) none 0 0 0 (.inl ⟨rfl, rfl⟩) (.inr ⟨k, rfl⟩) (.inl ⟨rfl, rfl⟩) (Int.le_refl _) (Int.le_refl _) (Int.le_refl _) (Int.le_refl _)
  have hbd' : (Instr.sliceBounds true 0 0 none (some (.int k 0)) none).run e.P w = .ok (0, 0, 0) w := hbd
  subst hd
  simp [Instr.sliceAt, hT.run_und, Result.andThen, Instr.slice, hbd', hT'.run_size]
end
end Go.Abs

set_option linter.unusedVariables false
set_option linter.unusedSimpArgs false
namespace Go.Abs
open Go Go.RowKit
section
variable {e : E} {n : Nat}
/-- A deferred call where nothing has panicked. -/
def ACallsR (e : E) (q : FuncId) (args : List V) (h : H) (K : H → (Nat → Bool) → Prop) : Prop :=
  ∀ ok pl w vs, HSim e ok pl h w → VList (cx ok pl w) args vs →
    CallsDIn (RF none) (0 - 1) e.P q vs.toArray (.returning) w fun en u' w' => (∃ y, en = .returned y) ∧ u' = .returning ∧
      ∃ p pl' h', HSim e ok pl' h' w' ∧ Keeps p pl w pl' w' ∧ K h' p

theorem ACallsR.of_awp (htl : e.tl = []) {q : FuncId} {fn : Func} {args : List V} {h : H} {K : H → (Nat → Bool) → Prop} {id : Nat} {o0 : Oper} {l : List Oper} {rest : Code} (hf : e.P.funcs[q]? = some fn)
    (hb : fn.body = some (.seq (.region id (o0 :: l).toArray false) rest)) (hr0 : fn.results.toList = []) (hn : args.length ≤ fn.ntmps) (hg : o0.guard = none) (ho : ∀ ev w, (execOp ev o0).run e.P w = .ok .recover w) (hd : dstOk fn.ntmps o0.dst = true)
    (hl : (l.all fun o => simpleOp o.op) = true)
    (hv : awpL e fn.ntmps none (o0 :: l).toArray (XE.seq (awp e fn.ntmps none rest (fun xe f h => (xe = .normal ∨ xe = .ret) ∧ f.d = [] ∧ K h f.k)) (fun _ _ _ => False)) l ((Fr.init args).put o0.dst .nili) h) : ACallsR e q args h K := by
  intro ok pl w vs hs hl2
  refine callsDIn_of_wpSIn hf hb (RF_fn none q) fun c0 cs hm => ?_
  have s0 := SSim.init htl (n := fn.ntmps) hs hl2 hn
  have s1 := s0.put (v := .nili) (x := .nilIface) hd (by simp only [VRel])
  have hrec : recoverD (c0 :: cs) = none := by simp [recoverD, hm]
  refine wpSIn_seq (wpSIn_region ?_)
  have hsz : (o0 :: l).toArray.size = (o0 :: l).length := by simp
  rw [hsz, List.range_eq_range']
  show wpOpsSIn (RF none) (0 - 1) e.P _ _ (0 :: List.range' 1 l.length) _ _ _
  have h00 : (o0 :: l).toArray[0]? = some o0 := by simp
  simp only [wpOpsSIn, h00]
  refine ⟨fun g _ => RF_fn none g, ?_⟩
  have hgd : gd (o0 :: l).toArray (Fr.init args) o0 = some true := by unfold gd; rw [hg]
  rw [if_pos (gd_ok s0.val hgd), ho]
  dsimp only
  rw [hrec]
  dsimp only
  have hlist := hv ok pl w pl w _ s1
  have hS := opsS_of_list (P := e.P) (cs := c0 :: cs) (ops := (o0 :: l).toArray) l 1 _ w (fun j hj => by simp [Nat.add_comm]) (fun o ho => List.all_eq_true.1 hl o ho) hlist
  refine opsS_mono ?_ _ _ _ _ hS
  rintro ex a2 cs2 w2 ⟨rfl, pl2, f2, h2, xe, s2, hx2, hq2⟩
  cases xe <;> cases ex <;> (try exact hx2.elim) <;> (try exact hq2.elim)
  have hq2 : awp e fn.ntmps none rest (fun xe f h => (xe = .normal ∨ xe = .ret) ∧ f.d = [] ∧ K h f.k) f2 h2 := hq2
  refine wpSIn_of_wpIn (RF_round none) (wpIn_mono (hq2 ok pl w pl2 w2 a2 s2) ?_)
  rintro ex a3 w3 ⟨pl3, f3, h3, xe, s3, hx3, hxe, hd3, hk3⟩
  have hdf : a3.defers = [] := by
    have := s3.dfr
    rw [hd3] at this
    exact Eq.trans this htl
  have hres : ∃ y, (results fn a3.tmps).run e.P w3 = .ok y w3 := by
    have hp : (resPV e.P f3 h3 fn.results.toList).1 := by rw [hr0]; trivial
    obtain ⟨y, h1, _⟩ := res_ok (f := f3) s3.hs s3.val hp
    exact ⟨y, h1⟩
  obtain ⟨y, hy⟩ := hres
  have fin : a3.defers = [] ∧ ∃ u', c0 :: cs = { c0 with mode := u' } :: cs ∧ ∃ v, (results fn a3.tmps).run e.P w3 = .ok v w3 ∧ ((∃ y, Ending.returned v = .returned y) ∧ u' = .returning ∧
      ∃ p pl' h', HSim e ok pl' h' w3 ∧ Keeps p pl w pl' w3 ∧ K h' p) :=
    ⟨hdf, .returning, by rw [← hm], y, hy, ⟨y, rfl⟩, rfl, f3.k, pl3, h3, s3.hs, s3.kp, hk3⟩
  rcases hxe with rfl | rfl <;> cases ex <;> (try exact hx3.elim)
  · exact fin
  · exact fin

theorem awpM_defer2 (htl : e.tl = []) {fn : Func} {R : AEnd → H → (Nat → Bool) → Prop} {ok : Nat → Prop} {pl0 : Nat → Option Nat} {w0 : World} {f F1 : Fr} {h : H} {id : Nat} {mk df : Oper} {rest : Code} {q : FuncId} {caps : List V} {fx : Operand}
    (hmg : mk.guard = none) (hmd : dstOk fn.ntmps mk.dst = true) (hmp : (pvOp e.P mk (f.ev e) h).1) (hmf : f.put mk.dst (pvOp e.P mk (f.ev e) h).2 = F1)
    (hdg : df.guard = none) (hdd : df.dst = none) (hdop : df.op = .defer { callee := .value fx, args := #[], argTypes := #[] }) (hfx : (F1.ev e fx).sv = .fn (.func q) [] caps) (hsc : (F1.ev e fx).sc) (hen : enters e.P q = true) (hfd : f.d = [])
    (hrest : ∀ d, awp { e with tl := [d] } fn.ntmps none rest (fun xe f' h' => f'.d = [] ∧ V.drops f'.k caps = caps ∧ match xe with
      | .pan v => ACallsD e q caps v h' (fun h'' p => fnEnd e.P fn.results.toList (fun v h k => R (.ret v) h (fun i => f.k i || k i)) (f'.drop p) h'')
      | .ret => ACallsR e q caps h' (fun h'' p => fnEnd e.P fn.results.toList (fun v h k => R (.ret v) h (fun i => f.k i || k i)) (f'.drop p) h'')
      | _ => False) { F1 with k := fun _ => false } h) :
    awpM e fn.ntmps (bodyPostM (RF none) 0 e.P fn (endR e ok pl0 w0 R)) ok pl0 w0 (.seq (.region id [mk, df].toArray false) rest) f h := by
  intro pl w a s
  refine wpIn_seq (wpIn_region_lit ?_)
  have hgd : gd [mk, df].toArray f mk = some true := by unfold gd; rw [hmg]
  unfold wpListIn
  rw [if_pos (gd_ok s.val hgd)]
  refine ⟨fun g _ => RF_fn none g, ?_⟩
  have hq := pvOp_ok (e := e) hmp ok pl w a.eval s.hs s.evs
  have hnd : mk.semAt (RF none).round a.eval = execOp a.eval mk := by rw [RF_round, Oper.semAt_none]
  rw [hnd]
  have hF1d : F1.d = [] := by
    rw [← hmf]
    cases mk.dst with
    | none => exact hfd
    | some i => exact hfd
  have fin : ∀ x w1, WExt w w1 ∧ VRel (cx ok pl w1) (pvOp e.P mk (f.ev e) h).2 x → wpListIn (RF none) 0 e.P [mk, df].toArray (Exit.then (rest.wpIn (RF none) 0 e.P (bodyPostM (RF none) 0 e.P fn (endR e ok pl0 w0 R))) (bodyPostM (RF none) 0 e.P fn (endR e ok pl0 w0 R))) [df] (a.put mk.dst x) w1 := by
    rintro x w1 ⟨hx, hv⟩
    have kx := hx.keeps s.hs
    have s1 := (s.next0 (s.hs.wext hx) kx).put hmd hv
    rw [hmf] at s1
    generalize ha1 : a.put mk.dst x = a1 at s1 ⊢
    have hgd1 : gd [mk, df].toArray F1 df = some true := by unfold gd; rw [hdg]
    unfold wpListIn
    rw [if_pos (gd_ok s1.val hgd1)]
    refine ⟨fun g _ => RF_fn none g, ?_⟩
    have h1 := (s1.ev fx).sv hsc
    rw [hfx] at h1
    simp only [VRel] at h1
    obtain ⟨fs, cs, h2, h3, h4⟩ := h1
    have hfs : fs = #[] := by
      simp only [VList] at h3
      exact Array.toList_eq_nil_iff.1 h3
    subst hfs
    obtain ⟨d, ed⟩ : ∃ d : Deferred, d = { target := .fn (.func q) cs, args := #[] } := ⟨_, rfl⟩
    have hrun : (execOp a1.eval df).run e.P w1 = .ok (.defer d) w1 := by
      rw [ed]
      simp [execOp, hdop, resolve, h2, Deferred.ofValue, Result.andThen]
    rw [RF_round, Oper.semAt_none, hrun, Oper.uponIn_defer, hdd]
    have hdf1 : a1.defers = [] := by
      have := s1.dfr
      rw [hF1d] at this
      exact Eq.trans this htl
    have s2 : SSim { e with tl := [d] } fn.ntmps ok pl w1 { F1 with k := fun _ => false } h pl w1 { a1 with defers := d :: a1.defers } :=
      ⟨s1.hs.tl _, Keeps.refl pl w1, s1.size, s1.val, by
        show DRel _ [d] F1.d (d :: a1.defers)
        rw [hF1d, hdf1]; rfl⟩
    show rest.wpIn (RF none) 0 e.P _ { a1 with defers := d :: a1.defers } w1
    refine wpIn_mono (hrest d ok pl w1 pl w1 _ s2) ?_
    rintro ex a3 w3 ⟨pl3, f3, h3', xe, s3, hx3, hd3, hcap, hcD⟩
    have hdf3 : a3.defers = [d] := by
      have := s3.dfr
      rw [hd3] at this
      exact this
    have hcs3 : VList (cx ok pl3 w3) caps cs.toList := by
      have := VList.mdrop s3.kp.cext _ _ h4
      rwa [hcap] at this
    have hinv : (invoke d.target d.args).run e.P w3 = .ok (.enter q cs) w3 := by
      rw [ed]
      simp only [invoke]
      rw [enters_run hen]
      congr 2
      simp
    have fin2 : ∀ {p : Nat → Bool} {pl4 : Nat → Option Nat} {h4' : H} {w4 : World}, HSim e ok pl4 h4' w4 → Keeps p pl3 w3 pl4 w4 → fnEnd e.P fn.results.toList (fun v h k => R (.ret v) h (fun i => f.k i || k i)) (f3.drop p) h4' → LeavesInM (RF none) 0 e.P fn a3.tmps (endR e ok pl0 w0 R) [] .returning w4 := by
      intro p pl4 h4' w4 hs4 k4 hK
      have s4 := s3.next (hs4.tl _) k4 (p := p) (by rw [hd3]; intro i hi; cases hi)
      unfold fnEnd at hK
      rw [show (f3.drop p).d = [] from hd3] at hK
      simp only [shutAll] at hK
      obtain ⟨u, hu1, hu2⟩ := res_ok (f := f3.drop p) (e := e) hs4 s4.val hK.1
      have kk := ((s.kp.trans kx).trans s3.kp).trans k4
      exact ⟨u, hu1, _, pl4, h4', .ret _, hs4, kk.weaken (q := fun i => f.k i || (f3.drop p).k i) (fun i hi => by
        simp only [Fr.drop, Bool.or_eq_true, Bool.or_false, Bool.false_eq_true, or_false] at hi ⊢
        rcases hi with (hi | hi) | hi
        · exact .inl hi
        · exact .inr (.inl hi)
        · exact .inr (.inr hi)), hu2, hK.2⟩
    cases xe <;> cases ex <;> (try exact hx3.elim) <;> (try exact hcD.elim)
    case ret.ret =>
      show LeavesInM (RF none) 0 e.P fn a3.tmps _ a3.defers .returning w3
      rw [hdf3]
      refine ⟨by simp, .inr ⟨(fun hh => by rw [RF_depth] at hh; cases hh), Fn.func q, cs, q, cs, (by rw [ed]), hinv, (fun g _ => RF_fn none g), ?_⟩⟩
      refine CallsDIn.mono (hcD ok pl3 w3 cs.toList s3.hs.untl hcs3) ?_
      rintro en u' w4 ⟨⟨z, rfl⟩, rfl, p, pl4, h4', hs4, k4, hK⟩
      exact fin2 hs4 k4 hK
    case pan.panic =>
      obtain ⟨y, rfl, hy⟩ := hx3
      show LeavesInM (RF none) 0 e.P fn a3.tmps _ a3.defers (.panicking _) w3
      rw [hdf3]
      refine ⟨by simp, .inr ⟨(fun hh => by rw [RF_depth] at hh; cases hh), Fn.func q, cs, q, cs, (by rw [ed]), hinv, (fun g _ => RF_fn none g), ?_⟩⟩
      refine CallsDIn.mono (hcD ok pl3 w3 cs.toList y s3.hs.untl hcs3 hy) ?_
      rintro en u' w4 ⟨⟨z, rfl⟩, rfl, p, pl4, h4', hs4, k4, hK⟩
      exact fin2 hs4 k4 hK
  revert hq
  cases hrun : (execOp a.eval mk).run e.P w with
  | halt x w' => intro hq; exact hq.elim
  | ok nx w' =>
    intro hq
    cases nx <;> try exact hq.elim
    case value x => exact fin x w' hq
    case skip => exact fin undef w' hq
    case enter g args =>
      refine ⟨fun hh => (by rw [RF_depth] at hh; cases hh), CallsIn.ofCalls (Calls.mono hq ?_)⟩
      rintro en w'' ⟨x, rfl, hx⟩
      exact fin x w'' hx

end
end Go.Abs
