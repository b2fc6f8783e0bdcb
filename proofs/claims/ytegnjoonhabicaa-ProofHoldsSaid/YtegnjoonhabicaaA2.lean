/- Abstract values, heaps and frames over the calculus, part 2. -/
import Derived.Test.YtegnjoonhabicaaA1
set_option linter.unusedVariables false
namespace Go.Abs

inductive Misc where
  | dfd
  | shut
  | siter (s : List UInt8) (pos : Nat)
  | miter (ks vs : List V) (cur : Option (V × V))

/-- The abstract local objects. -/
inductive O where
  | dead
  | cells (cs : List V)
  | map (ks vs : List V)
  | loop (t : Nat → V) (n : Nat) (ps : Array Tmp) (asg body : Code) (st : LoopState) (pend : Option Code)
  | misc (m : Misc)

abbrev O.dfd : O := .misc .dfd
abbrev O.siter (s : List UInt8) (pos : Nat) : O := .misc (.siter s pos)

abbrev H := List O

def O.drop (p : Nat → Bool) : O → O
  | .cells cs => .cells (V.drops p cs)
  | .map ks vs => .map (V.drops p ks) (V.drops p vs)
  | .loop t n ps asg body st pend => .loop (fun i => (t i).drop p) n ps asg body st pend
  | o => o

def OAt (c : C) (b : Nat) : O → Prop
  | .dead => False
  | .cells cs => ∃ arr el fz, c.w.heap[b]? = some (.cells arr el fz) ∧ (∀ j, j < arr.size → ¬ (fz.1 ≤ j ∧ j < fz.2)) ∧ cs.length ≤ arr.size ∧ VList c cs (arr.toList.take cs.length)
  | .map ks vs => ∃ es clk, c.w.heap[b]? = some (.map es clk) ∧ VList c ks (es.toList.map (·.key)) ∧ VList c vs (es.toList.map (·.val)) ∧ MapOk es clk
  | .loop t n ps asg body st pend => ∃ r : Loop, c.w.heap[b]? = some (.loop r) ∧ r.state = st ∧ r.pending = pend ∧ r.params = ps ∧ r.assign = asg ∧ r.body = body ∧ r.tmps.size = n ∧ ∀ i, VRel c (t i) (r.tmps.getD i undef)
  | .misc .dfd => c.w.heap[b]? = some (.deferred (some []))
  | .misc .shut => c.w.heap[b]? = some (.deferred none)
  | .misc (.siter l pos) => ∃ s : ByteArray, s.data.toList = l ∧ l.length ≤ maxLen ∧ c.w.heap[b]? = some (.stringIter s pos)
  | .misc (.miter ks vs cur) => ∃ m seen es clk, c.w.heap[b]? = some (.mapIter (some m) clk seen clk) ∧ c.ok m ∧ c.w.heap[m]? = some (.map es clk) ∧ MapOk es clk ∧
      VList c.data ks ((es.toList.filter fun x => !seen.contains x.born).map (·.key)) ∧ VList c.data vs ((es.toList.filter fun x => !seen.contains x.born).map (·.val)) ∧
      ∀ k v, cur = some (k, v) → ∃ x ∈ es.toList, seen.back? = some x.born ∧ VRel c.data k x.key ∧ VRel c.data v x.val

/-- The reading that belongs to places and a world. -/
def cx (ok : Nat → Prop) (pl : Nat → Option Nat) (w : World) : C := { w, ok := fun b => ok b ∧ ∀ i, pl i ≠ some b, pl }

/-- The program, and what its package-level variables hold, as far as it is told. -/
structure E where
  P : Program
  gl : Nat → Option V := fun _ => none

structure HSim (e : E) (ok : Nat → Prop) (pl : Nat → Option Nat) (h : H) (w : World) : Prop where
  fresh : ∀ b, w.heap.size ≤ b → ok b
  lt : ∀ i b, pl i = some b → b < w.heap.size
  okl : ∀ i b, pl i = some b → ok b
  inj : ∀ i j b, pl i = some b → pl j = some b → i = j
  obj : ∀ i b, pl i = some b → ∃ o, h[i]? = some o ∧ OAt (cx ok pl w) b o
  bare : ∀ i o, h[i]? = some o → pl i = none → o = .dead ∨ o = .cells []
  glob : ∀ g v, e.gl g = some v → VRel (cx ok pl w) (.ip v) (.pointer (some ⟨g, 0, none⟩))

/-- What a step, or a whole stretch, has kept; p: what was dropped. -/
structure Keeps (p : Nat → Bool) (pl : Nat → Option Nat) (w : World) (pl' : Nat → Option Nat) (w' : World) : Prop where
  os : w'.os = w.os
  tape : w'.tape = w.tape
  output : w'.output = w.output
  size : w.heap.size ≤ w'.heap.size
  same : ∀ b, b < w.heap.size → (∀ i, pl i ≠ some b) → w'.heap[b]? = w.heap[b]?
  loc : ∀ i b, pl' i = some b → (∃ j, pl j = some b) ∨ w.heap.size ≤ b
  keep : ∀ i b, p i = false → pl i = some b → pl' i = some b
  row : ∀ (b : Nat) arr el fz, w.heap[b]? = some (.cells arr el fz) → ∃ arr' fz', w'.heap[b]? = some (.cells arr' el fz') ∧ arr'.size = arr.size

theorem Keeps.refl (pl : Nat → Option Nat) (w : World) : Keeps (fun _ => false) pl w pl w :=
  ⟨rfl, rfl, rfl, Nat.le_refl _, fun _ _ _ => rfl, fun i b h => .inl ⟨i, h⟩, fun _ _ _ h => h, fun _ arr _ fz h => ⟨arr, fz, h, rfl⟩⟩

theorem Keeps.trans {p q : Nat → Bool} {pl pl' pl'' : Nat → Option Nat} {w w' w'' : World} (h : Keeps p pl w pl' w') (k : Keeps q pl' w' pl'' w'') :
    Keeps (fun i => p i || q i) pl w pl'' w'' where
  os := k.os.trans h.os
  tape := k.tape.trans h.tape
  output := k.output.trans h.output
  size := Nat.le_trans h.size k.size
  same b hb hn := by
    refine (k.same b (Nat.lt_of_lt_of_le hb h.size) fun i hi => ?_).trans (h.same b hb hn)
    rcases h.loc i b hi with ⟨j, hj⟩ | hlt
    · exact hn j hj
    · omega
  loc i b hi := by
    rcases k.loc i b hi with ⟨j, hj⟩ | hlt
    · exact h.loc j b hj
    · exact .inr (Nat.le_trans h.size hlt)
  keep i b hp hi := by
    simp only [Bool.or_eq_false_iff] at hp
    exact k.keep i b hp.2 (h.keep i b hp.1 hi)
  row b arr el fz hb := by
    obtain ⟨arr', fz', h1, h2⟩ := h.row b arr el fz hb
    obtain ⟨arr'', fz'', h3, h4⟩ := k.row b arr' el fz' h1
    exact ⟨arr'', fz'', h3, h4.trans h2⟩

theorem Keeps.weaken {p q : Nat → Bool} {pl pl' : Nat → Option Nat} {w w' : World} (h : Keeps p pl w pl' w') (hq : ∀ i, p i = true → q i = true) : Keeps q pl w pl' w' :=
  { h with keep := fun i b hi => h.keep i b (by cases hp : p i with | false => rfl | true => rw [hq i hp] at hi; cases hi) }

theorem Keeps.cext {p : Nat → Bool} {ok : Nat → Prop} {pl pl' : Nat → Option Nat} {w w' : World} (h : Keeps p pl w pl' w') : CExt p (cx ok pl w) (cx ok pl' w') where
  dat b hb hok := by
    obtain ⟨h1, h2⟩ := hok
    refine ⟨⟨h1, fun i hi => ?_⟩, h.same b hb h2⟩
    rcases h.loc i b hi with ⟨j, hj⟩ | hlt
    · exact h2 j hj
    · simp only [cx] at hb; omega
  pl := h.keep
  row := h.row

theorem OAt.mdrop {p : Nat → Bool} {c c' : C} (h : CExt p c c') {b : Nat} (hb : c'.w.heap[b]? = c.w.heap[b]?) : ∀ {o : O}, OAt c b o → OAt c' b (o.drop p)
  | .dead, ho => ho
  | .cells cs, ho => by
    obtain ⟨arr, el, fz, h1, h2, h3, h4⟩ := ho
    have hl : (V.drops p cs).length = cs.length := by
      have := (h4.length); have h5 := (VList.mdrop h cs _ h4).length; omega
    refine ⟨arr, el, fz, hb.trans h1, h2, by omega, ?_⟩
    rw [hl]; exact VList.mdrop h cs _ h4
  | .map ks vs, ho => by
    obtain ⟨es, clk, h1, h2, h3⟩ := ho
    exact ⟨es, clk, hb.trans h1, VList.mdrop h ks _ h2, VList.mdrop h vs _ h3.1, h3.2⟩
  | .loop t n ps asg body st pend, ho => by
    obtain ⟨r, h1, h2, h3, h4, h5, h6, h7, h8⟩ := ho
    exact ⟨r, hb.trans h1, h2, h3, h4, h5, h6, h7, fun i => VRel.mdrop h _ _ (h8 i)⟩
  | .misc .dfd, ho => hb.trans ho
  | .misc .shut, ho => hb.trans ho
  | .misc (.siter l pos), ho => by
    obtain ⟨s, h1, h2, h3⟩ := ho
    exact ⟨s, h1, h2, hb.trans h3⟩
  | .misc (.miter ks vs cur), ho => by
    obtain ⟨m, seen, es, clk, h1, h2, h3, h4, h5, h6, h7⟩ := ho
    obtain ⟨h8, h9⟩ := h.dat m (lt_of_heap h3) h2
    exact ⟨m, seen, es, clk, hb.trans h1, h8, h9.trans h3, h4, VList.mono h.data ks _ h5, VList.mono h.data vs _ h6, fun k v hc => by
      obtain ⟨x, g1, g2, g3, g4⟩ := h7 k v hc
      exact ⟨x, g1, g2, VRel.mono h.data _ _ g3, VRel.mono h.data _ _ g4⟩⟩

theorem O.drop_none (o : O) : o.drop (fun _ => false) = o := by
  cases o <;> simp [O.drop, V.drop_none.V.drops_none]

theorem OAt.mono {c c' : C} (h : CExt (fun _ => false) c c') {b : Nat} (hb : c'.w.heap[b]? = c.w.heap[b]?) {o : O} (ho : OAt c b o) : OAt c' b o := by
  have := OAt.mdrop h hb ho
  rwa [O.drop_none] at this

/-- Frames. -/
structure Fr where
  t : Nat → V
  d : List Nat := []
  k : Nat → Bool := fun _ => false

def DRel (c : C) : List Nat → List Deferred → Prop
  | [], l => l = []
  | i :: is, l => ∃ b rest, l = { target := .collected b, args := #[] } :: rest ∧ c.pl i = some b ∧ DRel c is rest

theorem DRel.mono {c c' : C} (h : ∀ i b, c.pl i = some b → c'.pl i = some b) : ∀ {is : List Nat} {l : List Deferred}, DRel c is l → DRel c' is l
  | [], _, hd => hd
  | _ :: _, _, ⟨b, rest, h1, h2, h3⟩ => ⟨b, rest, h1, h _ _ h2, h3.mono h⟩

structure SSim (e : E) (n : Nat) (ok : Nat → Prop) (pl0 : Nat → Option Nat) (w0 : World) (f : Fr) (h : H) (pl : Nat → Option Nat) (w : World) (a : Act) : Prop where
  hs : HSim e ok pl h w
  kp : Keeps f.k pl0 w0 pl w
  size : a.tmps.size = n
  val : ∀ i, VRel (cx ok pl w) (f.t i) (a.tmps.getD i undef)
  dfr : DRel (cx ok pl w) f.d a.defers

def Fr.put (f : Fr) (d : Option Tmp) (v : V) : Fr :=
  match d with
  | some i => { f with t := fun j => if j = i then v else f.t j }
  | none => f

def Fr.drop (f : Fr) (p : Nat → Bool) : Fr := { f with t := fun i => (f.t i).drop p, k := fun i => f.k i || p i }

def ofVal : Value → V
  | .bool b => .bool b
  | .int k n => .int k n
  | .string s => if s.data.toList.length ≤ 1000000 then .str s.data.toList else .any
  | .pointer none => .nilp
  | .slice none 0 0 => .nils
  | .map none => .nilm
  | .nilFunc => .nilf
  | .nilIface => .nili
  | _ => .any

theorem ofVal_rel (c : C) (v : Value) : VRel c (ofVal v) v := by
  unfold ofVal
  split <;> try (simp [VRel]; done)
  split
  · rename_i s h; simp only [VRel]; exact ⟨s, rfl, rfl, Nat.le_trans h (by decide)⟩
  · simp [VRel]

def glv (e : E) (g : Nat) : V := match e.gl g with | some v => .ip v | none => .any

def Fr.ev (e : E) (f : Fr) : Operand → V
  | .tmp t => f.t t
  | .const v => ofVal v
  | .global g => glv e g
  | .func g => .fn (.func g) [] []

section
variable {e : E} {n : Nat} {ok : Nat → Prop} {pl0 : Nat → Option Nat} {w0 : World} {f : Fr} {h : H} {pl : Nat → Option Nat} {w : World} {a : Act}

theorem SSim.ev (s : SSim e n ok pl0 w0 f h pl w a) (x : Operand) : VRel (cx ok pl w) (f.ev e x) (a.eval x) := by
  cases x with
  | tmp t => exact s.val t
  | const v => exact ofVal_rel _ v
  | global g =>
    simp only [Fr.ev, Act.eval, glv]
    split
    · rename_i v hv; exact s.hs.glob g v hv
    · simp [VRel]
  | func g => simp only [Fr.ev, Act.eval, VRel]; exact ⟨#[], #[], rfl, rfl, rfl⟩

def dstOk (n : Nat) (d : Option Tmp) : Bool := match d with | some i => decide (i < n) | none => true

theorem SSim.put (s : SSim e n ok pl0 w0 f h pl w a) {d : Option Tmp} {v : V} {x : Value} (hd : dstOk n d = true) (hv : VRel (cx ok pl w) v x) :
    SSim e n ok pl0 w0 (f.put d v) h pl w (a.put d x) := by
  cases d with
  | none => exact s
  | some i =>
    have hi : i < n := by simpa [dstOk] using hd
    refine ⟨s.hs, s.kp, by simp [Act.put, s.size], fun j => ?_, s.dfr⟩
    simp only [Fr.put, Act.put]
    by_cases hj : j = i
    · subst hj
      have : (a.tmps.setIfInBounds j x).getD j undef = x := by
        simp [Array.getD_eq_getD_getElem?, s.size, hi]
      rw [if_pos rfl, this]; exact hv
    · have : (a.tmps.setIfInBounds i x).getD j undef = a.tmps.getD j undef := by
        simp [Array.getD_eq_getD_getElem?, Ne.symm hj]
      rw [if_neg hj, this]; exact s.val j

theorem SSim.next (s : SSim e n ok pl0 w0 f h pl w a) {p : Nat → Bool} {h' : H} {pl' : Nat → Option Nat} {w' : World}
    (hs' : HSim e ok pl' h' w') (k : Keeps p pl w pl' w') (hd : ∀ i ∈ f.d, p i = false) : SSim e n ok pl0 w0 (f.drop p) h' pl' w' a := by
  refine ⟨hs', (s.kp.trans k), s.size, fun i => VRel.mdrop k.cext _ _ (s.val i), ?_⟩
  have : ∀ (is : List Nat) (l : List Deferred), (∀ i ∈ is, p i = false) → DRel (cx ok pl w) is l → DRel (cx ok pl' w') is l := by
    intro is
    induction is with
    | nil => intro l _ hd; exact hd
    | cons i is ih =>
      rintro l hp ⟨b, rest, h1, h2, h3⟩
      exact ⟨b, rest, h1, k.keep i b (hp i (by simp)) h2, ih rest (fun j hj => hp j (by simp [hj])) h3⟩
  exact this f.d a.defers hd s.dfr

@[simp] theorem Fr.drop_none (f : Fr) : f.drop (fun _ => false) = f := by
  simp [Fr.drop]

theorem SSim.next0 (s : SSim e n ok pl0 w0 f h pl w a) {h' : H} {pl' : Nat → Option Nat} {w' : World}
    (hs' : HSim e ok pl' h' w') (k : Keeps (fun _ => false) pl w pl' w') : SSim e n ok pl0 w0 f h' pl' w' a := by
  have := s.next hs' k (fun _ _ => rfl)
  rwa [Fr.drop_none] at this

theorem VRel.glob_next {p : Nat → Bool} {c c' : C} (k : CExt p c c') {v : V} {x : Value} (h : VRel c (.ip v) x) : VRel c' (.ip v) x := by
  have := VRel.mdrop k _ _ h
  simpa only [V.drop] using this

/-- The one way to the next heap. -/
theorem HSim.next (hs : HSim e ok pl h w) {p : Nat → Bool} {h' : H} {pl' : Nat → Option Nat} {w' : World} (k : Keeps p pl w pl' w')
    (lt : ∀ i b, pl' i = some b → b < w'.heap.size) (inj : ∀ i j b, pl' i = some b → pl' j = some b → i = j)
    (obj : ∀ i b, pl' i = some b → (pl i = some b ∧ w'.heap[b]? = w.heap[b]? ∧ h'[i]? = (h[i]?).map (O.drop p)) ∨ ∃ o, h'[i]? = some o ∧ OAt (cx ok pl' w') b o)
    (bare : ∀ i o, h'[i]? = some o → pl' i = none → o = .dead ∨ o = .cells []) : HSim e ok pl' h' w' where
  fresh b hb := hs.fresh b (Nat.le_trans k.size hb)
  okl i b hi := (k.loc i b hi).elim (fun ⟨j, hj⟩ => hs.okl j b hj) (hs.fresh b)
  lt := lt
  inj := inj
  obj i b hi := by
    rcases obj i b hi with ⟨h1, h2, h3⟩ | ho
    · obtain ⟨o, h4, h5⟩ := hs.obj i b h1
      exact ⟨o.drop p, by rw [h3, h4]; rfl, OAt.mdrop k.cext h2 h5⟩
    · exact ho
  bare := bare
  glob g v hg := (hs.glob g v hg).glob_next k.cext

/-- Nothing that was there has turned. -/
structure WExt (w w' : World) : Prop where
  os : w'.os = w.os
  tape : w'.tape = w.tape
  output : w'.output = w.output
  size : w.heap.size ≤ w'.heap.size
  same : ∀ b, b < w.heap.size → w'.heap[b]? = w.heap[b]?

theorem WExt.refl (w : World) : WExt w w := ⟨rfl, rfl, rfl, Nat.le_refl _, fun _ _ => rfl⟩
theorem WExt.drew (w : World) : WExt w w.drew := ⟨rfl, rfl, rfl, Nat.le_refl _, fun _ _ => rfl⟩
theorem WExt.alloc (w : World) (o : Obj) : WExt w (w.alloc o) :=
  ⟨rfl, rfl, rfl, by simp, fun b hb => RowKit.Below.heap_alloc w o b hb⟩
theorem WExt.trans {a b c : World} (h : WExt a b) (k : WExt b c) : WExt a c :=
  ⟨k.os.trans h.os, k.tape.trans h.tape, k.output.trans h.output, Nat.le_trans h.size k.size, fun i hi => (k.same i (Nat.lt_of_lt_of_le hi h.size)).trans (h.same i hi)⟩

theorem WExt.keeps {w' : World} (x : WExt w w') (hs : HSim e ok pl h w) : Keeps (fun _ => false) pl w pl w' :=
  ⟨x.os, x.tape, x.output, x.size, fun b hb _ => x.same b hb, fun i b hi => .inl ⟨i, hi⟩, fun _ _ _ hi => hi, fun b arr el fz hb => ⟨arr, fz, (x.same b (lt_of_heap hb)).trans hb, rfl⟩⟩

theorem HSim.wext {w' : World} (hs : HSim e ok pl h w) (x : WExt w w') : HSim e ok pl h w' :=
  hs.next (x.keeps hs) (fun i b hi => Nat.lt_of_lt_of_le (hs.lt i b hi) x.size) hs.inj
    (fun i b hi => .inl ⟨hi, x.same b (hs.lt i b hi), by cases h[i]? <;> simp [O.drop_none]⟩) hs.bare

theorem HSim.pl_lt (hs : HSim e ok pl h w) {i b : Nat} (hi : pl i = some b) : i < h.length := by
  obtain ⟨o, ho, _⟩ := hs.obj i b hi
  exact (List.getElem?_eq_some_iff.1 ho).1

def plNew (pl : Nat → Option Nat) (id b : Nat) : Nat → Option Nat := fun i => if i = id then some b else pl i

/-- A new local object. -/
theorem HSim.new (hs : HSim e ok pl h w) {w' : World} (x : WExt w w') (ob : Obj) (o : O) {b : Nat} (hb1 : w.heap.size ≤ b) (hb2 : b < w'.heap.size)
    (ho : OAt (cx ok (plNew pl h.length b) w') b o) :
    HSim e ok (plNew pl h.length b) (h ++ [o]) w' ∧ Keeps (fun _ => false) pl w (plNew pl h.length b) w' := by
  have k : Keeps (fun _ => false) pl w (plNew pl h.length b) w' := by
    refine ⟨x.os, x.tape, x.output, x.size, fun b hb _ => x.same b hb, fun i b' hi => ?_, fun i b' _ hi => ?_, fun b arr el fz hb => ⟨arr, fz, (x.same b (lt_of_heap hb)).trans hb, rfl⟩⟩
    · simp only [plNew] at hi
      split at hi
      · cases hi; exact .inr hb1
      · exact .inl ⟨i, hi⟩
    · have := hs.pl_lt hi
      simp only [plNew]; rw [if_neg (by omega)]; exact hi
  refine ⟨hs.next k ?_ ?_ ?_ ?_, k⟩
  · intro i b' hi
    simp only [plNew] at hi
    split at hi
    · cases hi; exact hb2
    · exact Nat.lt_of_lt_of_le (hs.lt i b' hi) x.size
  · intro i j b' hi hj
    simp only [plNew] at hi hj
    split at hi <;> split at hj
    · omega
    · cases hi; have := hs.lt j _ hj; omega
    · cases hj; have := hs.lt i _ hi; omega
    · exact hs.inj i j b' hi hj
  · intro i b' hi
    by_cases hil : i = h.length
    · subst hil
      have : b' = b := by simpa [plNew] using hi.symm
      subst this
      exact .inr ⟨o, by simp, ho⟩
    · have hi' : pl i = some b' := by simpa [plNew, hil] using hi
      have hlt := hs.pl_lt hi'
      exact .inl ⟨hi', x.same _ (hs.lt i b' hi'), by rw [List.getElem?_append_left hlt]; cases h[i]? <;> simp [O.drop_none]⟩
  · intro i o' ho' hi
    simp only [plNew] at hi
    split at hi
    · cases hi
    · rename_i hil
      have hlt : i < h.length := by
        have := (List.getElem?_eq_some_iff.1 ho').1
        simp at this; omega
      rw [List.getElem?_append_left hlt] at ho'
      exact hs.bare i o' ho' hi

/-- A local object is turned in its place. -/
theorem HSim.upd (hs : HSim e ok pl h w) {w' : World} {id b : Nat} (hid : pl id = some b) (o : O)
    (os : w'.os = w.os) (tape : w'.tape = w.tape) (output : w'.output = w.output) (size : w'.heap.size = w.heap.size)
    (same : ∀ i, i ≠ b → w'.heap[i]? = w.heap[i]?)
    (row : ∀ arr el fz, w.heap[b]? = some (.cells arr el fz) → ∃ arr' fz', w'.heap[b]? = some (.cells arr' el fz') ∧ arr'.size = arr.size)
    (ho : CExt (fun _ => false) (cx ok pl w) (cx ok pl w') → OAt (cx ok pl w') b o) :
    HSim e ok pl (h.set id o) w' ∧ Keeps (fun _ => false) pl w pl w' := by
  have k : Keeps (fun _ => false) pl w pl w' := by
    refine ⟨os, tape, output, by omega, fun b' hb hn => same b' (fun he => hn id (he ▸ hid)), fun i b' hi => .inl ⟨i, hi⟩, fun _ _ _ hi => hi, fun b' arr el fz hb => ?_⟩
    by_cases he : b' = b
    · subst he; exact row arr el fz hb
    · exact ⟨arr, fz, (same b' he).trans hb, rfl⟩
  refine ⟨hs.next k (fun i b' hi => by have := hs.lt i b' hi; omega) hs.inj ?_ ?_, k⟩
  · intro i b' hi
    by_cases hii : i = id
    · subst hii
      have : b' = b := by rw [hid] at hi; exact (Option.some.inj hi).symm
      subst this
      exact .inr ⟨o, by simp [hs.pl_lt hid], ho k.cext⟩
    · have hbb : b' ≠ b := fun he => hii (hs.inj i id b' hi (he ▸ hid))
      refine .inl ⟨hi, same b' hbb, ?_⟩
      rw [List.getElem?_set_ne (Ne.symm hii)]
      cases h[i]? <;> simp [O.drop_none]
  · intro i o' ho' hi
    have hii : i ≠ id := fun he => by rw [he, hid] at hi; cases hi
    rw [List.getElem?_set_ne (Ne.symm hii)] at ho'
    exact hs.bare i o' ho' hi

/-- A local object is let go: what refers to it is dropped. -/
theorem HSim.letgo (hs : HSim e ok pl h w) (id : Nat) :
    HSim e ok (fun i => if i = id then none else pl i) ((h.map (O.drop (· == id))).set id .dead) w ∧ Keeps (· == id) pl w (fun i => if i = id then none else pl i) w := by
  have k : Keeps (· == id) pl w (fun i => if i = id then none else pl i) w := by
    refine ⟨rfl, rfl, rfl, Nat.le_refl _, fun _ _ _ => rfl, fun i b hi => ?_, fun i b hp hi => ?_, fun b arr el fz hb => ⟨arr, fz, hb, rfl⟩⟩
    · split at hi
      · cases hi
      · exact .inl ⟨i, hi⟩
    · have : i ≠ id := by simpa using hp
      rw [if_neg this]; exact hi
  refine ⟨hs.next k (fun i b hi => ?_) (fun i j b hi hj => ?_) (fun i b hi => ?_) (fun i o ho hi => ?_), k⟩
  · split at hi
    · cases hi
    · exact hs.lt i b hi
  · split at hi <;> split at hj <;> first | cases hi | cases hj | exact hs.inj i j b hi hj
    all_goals (first | (cases hi; done) | (cases hj; done))
  · split at hi
    · cases hi
    · rename_i hne
      refine .inl ⟨hi, rfl, ?_⟩
      rw [List.getElem?_set_ne (Ne.symm hne), List.getElem?_map]
  · by_cases hii : i = id
    · subst hii
      have hlt : i < h.length := by
        have := (List.getElem?_eq_some_iff.1 ho).1
        simpa using this
      left
      have : ((h.map (O.drop (· == i))).set i .dead)[i]? = some .dead := by simp [hlt]
      exact Option.some.inj (ho.symm.trans this)
    · rw [List.getElem?_set_ne (Ne.symm hii), List.getElem?_map] at ho
      rw [if_neg hii] at hi
      cases hh : h[i]? with
      | none => rw [hh] at ho; cases ho
      | some o' =>
        rw [hh] at ho
        have ho : o'.drop (· == id) = o := by simpa using ho
        rcases hs.bare i o' hh hi with rfl | rfl <;> subst ho <;> simp [O.drop, V.drops]

end
end Go.Abs
