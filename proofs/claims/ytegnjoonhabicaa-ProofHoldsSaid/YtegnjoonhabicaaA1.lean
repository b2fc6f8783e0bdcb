/- Abstract values, heaps and frames over the calculus, part 1. -/
import Derived.WalkKit
import Derived.RangeFuncLeaves
import Derived.OrdersIn
import Derived.TacticsInMore
namespace Go.Abs

/-- The abstract values. -/
inductive V where
  | any
  | bool (b : Bool)
  | int (k : IntKind) (n : Int)
  | str (s : List UInt8)
  | nilp
  | lp (id off : Nat)
  | ip (e : V)
  | nils
  | ls (id k off len cap : Nat)
  | is (x : Bool) (k : Nat) (es : List V)
  | nilm
  | lm (id : Nat)
  | im (ks vs : List V)
  | fn (f : Fn) (first captured : List V)
  | yd (id : Nat)
  | nilf
  | iface (t : TypeId) (e : V)
  | nili
  | agg (vs : List V)
  | tup (vs : List V)
  | grd (g : Bool) (e : V)

instance : Inhabited V := ⟨.any⟩

/-- Where a reading stands: the world, the blocks in which data may lie, the blocks of the local objects. -/
structure C where
  w : World
  ok : Nat → Prop
  pl : Nat → Option Nat

def C.data (c : C) : C := { c with pl := fun _ => none }

/-- A value's cells stand at a place. -/
def Reads (c : C) (b off : Nat) (ev : Value) : Prop :=
  ∀ j, j < ev.cells.size → c.ok b ∧ c.w.cell? ⟨b, off + j, none⟩ = ev.cells[j]?

/-- The stamps of a map's entries part them, and its clock is ahead of them. -/
def MapOk (es : Array MapEntry) (clk : Nat) : Prop := (∀ x ∈ es.toList, x.born < clk) ∧ (es.toList.map (·.born)).Nodup

mutual
def VRel : C → V → Value → Prop
  | _, .any, _ => True
  | _, .bool b, x => x = .bool b
  | _, .int k n, x => x = .int k n
  | _, .str l, x => ∃ s : ByteArray, x = .string s ∧ s.data.toList = l ∧ l.length ≤ maxLen
  | _, .nilp, x => x = .pointer none
  | c, .lp id off, x => ∃ b, c.pl id = some b ∧ x = .pointer (some ⟨b, off, none⟩)
  | c, .ip e, x => ∃ b off ev, x = .pointer (some ⟨b, off, none⟩) ∧ Reads c b off ev ∧ 0 < ev.cells.size ∧ VRel c.data e ev
  | _, .nils, x => x = .slice none 0 0
  | c, .ls id k off len cap, x => ∃ a cp, x = .slice a len cp ∧ cap ≤ cp ∧ len ≤ cp ∧ cp ≤ maxLen ∧
      (cp = 0 ∨ ∃ b arr el fz, c.pl id = some b ∧ a = some ⟨b, off, none⟩ ∧ c.w.heap[b]? = some (.cells arr el fz) ∧ off + cp * k ≤ arr.size)
  | c, .is ex k es, x => ∃ a cp, x = .slice a es.length cp ∧ es.length ≤ cp ∧ cp ≤ maxLen ∧ (ex = true → cp = es.length) ∧
      (es = [] ∨ ∃ b off, a = some ⟨b, off, none⟩ ∧ VElems c.data k es b off)
  | _, .nilm, x => x = .map none
  | c, .lm id, x => ∃ b, c.pl id = some b ∧ x = .map (some b)
  | c, .im ks vs, x => ∃ r es clk, x = .map (some r) ∧ c.ok r ∧ c.w.heap[r]? = some (.map es clk) ∧
      VList c.data ks (es.toList.map (·.key)) ∧ VList c.data vs (es.toList.map (·.val)) ∧ MapOk es clk
  | c, .fn f first captured, x => ∃ fs cs, x = .func f fs cs ∧ VList c first fs.toList ∧ VList c captured cs.toList
  | c, .yd id, x => ∃ b, c.pl id = some b ∧ x = .func (.yield b) #[] #[]
  | _, .nilf, x => x = .nilFunc
  | c, .iface t e, x => ∃ ev, x = .iface t ev ∧ VRel c e ev
  | _, .nili, x => x = .nilIface
  | c, .agg vs, x => ∃ cs, x = .agg cs ∧ VList c vs cs.toList
  | c, .tup vs, x => ∃ cs, x = .tuple cs ∧ VList c vs cs.toList
  | c, .grd g e, x => (g = true → VRel c e x) ∧ (g = false → x = undef)
def VList : C → List V → List Value → Prop
  | _, [], xs => xs = []
  | c, v :: vs, xs => ∃ y ys, xs = y :: ys ∧ VRel c v y ∧ VList c vs ys
def VElems : C → Nat → List V → Nat → Nat → Prop
  | _, _, [], _, _ => True
  | c, k, e :: es, b, off => (∃ ev, ev.cells.size = k ∧ Reads c b off ev ∧ VRel c e ev) ∧ VElems c k es b (off + k)
end

mutual
def V.drop (p : Nat → Bool) : V → V
  | .lp id off => if p id then .any else .lp id off
  | .ls id k off len cap => if p id then .any else .ls id k off len cap
  | .lm id => if p id then .any else .lm id
  | .yd id => if p id then .any else .yd id
  | .fn f first captured => .fn f (V.drops p first) (V.drops p captured)
  | .iface t e => .iface t (e.drop p)
  | .agg vs => .agg (V.drops p vs)
  | .tup vs => .tup (V.drops p vs)
  | .grd g e => .grd g (e.drop p)
  | v => v
def V.drops (p : Nat → Bool) : List V → List V
  | [] => []
  | v :: vs => v.drop p :: V.drops p vs
end

@[simp] theorem V.drop_none : ∀ v : V, v.drop (fun _ => false) = v
  | .any | .bool _ | .int _ _ | .str _ | .nilp | .lp _ _ | .ip _ | .nils | .ls _ _ _ _ _ | .is _ _ _ | .nilm | .lm _ | .im _ _ | .yd _ | .nilf | .nili => by simp [V.drop]
  | .fn f a b => by rw [V.drop, V.drops_none a, V.drops_none b]
  | .iface t e => by rw [V.drop, V.drop_none e]
  | .agg vs => by rw [V.drop, V.drops_none vs]
  | .tup vs => by rw [V.drop, V.drops_none vs]
  | .grd g e => by rw [V.drop, V.drop_none e]
where V.drops_none : ∀ vs : List V, V.drops (fun _ => false) vs = vs
  | [] => by rw [V.drops]
  | v :: vs => by rw [V.drops, V.drop_none v, V.drops_none vs]

/-- One reading stands for another: what is read stays, what is placed stays (but for what is dropped). -/
structure CExt (p : Nat → Bool) (c c' : C) : Prop where
  dat : ∀ b, b < c.w.heap.size → c.ok b → c'.ok b ∧ c'.w.heap[b]? = c.w.heap[b]?
  pl : ∀ i b, p i = false → c.pl i = some b → c'.pl i = some b
  row : ∀ (b : Nat) arr el fz, c.w.heap[b]? = some (.cells arr el fz) → ∃ arr' fz', c'.w.heap[b]? = some (.cells arr' el fz') ∧ arr'.size = arr.size

theorem CExt.data {p : Nat → Bool} {c c' : C} (h : CExt p c c') : CExt (fun _ => false) c.data c'.data :=
  ⟨h.dat, fun _ _ _ h => by simp [C.data] at h, h.row⟩

theorem lt_of_heap {w : World} {b : Nat} {o : Obj} (h : w.heap[b]? = some o) : b < w.heap.size := by
  by_cases hb : b < w.heap.size
  · exact hb
  · rw [Array.getElem?_eq_none (by omega)] at h; cases h

theorem lt_of_cell {w : World} {a : Addr} {v : Value} (h : w.cell? a = some v) : a.block < w.heap.size := by
  unfold World.cell? at h
  by_cases hb : a.block < w.heap.size
  · exact hb
  · rw [Array.getElem?_eq_none (by omega)] at h; cases h

theorem Reads.mono {p : Nat → Bool} {c c' : C} (h : CExt p c c') {b off : Nat} {ev : Value} (hr : Reads c b off ev) : Reads c' b off ev := by
  intro j hj
  obtain ⟨h1, h2⟩ := hr j hj
  have h3 : c.w.cell? ⟨b, off + j, none⟩ = some ev.cells[j] := by rw [h2]; simp [hj]
  have hb := lt_of_cell h3
  obtain ⟨h4, h5⟩ := h.dat b hb h1
  exact ⟨h4, by rw [World.cell?_of_block (a := ⟨b, off + j, none⟩) h5]; exact h2⟩

mutual
theorem VRel.mono {c c' : C} (h : CExt (fun _ => false) c c') : ∀ (v : V) (x : Value), VRel c v x → VRel c' v x
  | .any, _, _ => by simp [VRel]
  | .bool _, _, hv | .int _ _, _, hv | .str _, _, hv | .nilp, _, hv | .nils, _, hv | .nilm, _, hv | .nilf, _, hv | .nili, _, hv => by simpa only [VRel] using hv
  | .lp id off, x, hv => by
    simp only [VRel] at hv ⊢
    obtain ⟨b, h1, h2⟩ := hv
    exact ⟨b, h.pl _ _ rfl h1, h2⟩
  | .ip e, x, hv => by
    simp only [VRel] at hv ⊢
    obtain ⟨b, off, ev, h1, h2, h3, h4⟩ := hv
    exact ⟨b, off, ev, h1, h2.mono h, h3, VRel.mono h.data e ev h4⟩
  | .ls id k off len cap, x, hv => by
    simp only [VRel] at hv ⊢
    obtain ⟨a, cp, h1, h2, h3, h4, h5⟩ := hv
    refine ⟨a, cp, h1, h2, h3, h4, ?_⟩
    rcases h5 with h5 | ⟨b, arr, el, fz, h5, h6, h7, h8⟩
    · exact .inl h5
    · obtain ⟨arr', fz', h9, h10⟩ := h.row _ _ _ _ h7
      exact .inr ⟨b, arr', el, fz', h.pl _ _ rfl h5, h6, h9, by omega⟩
  | .is ex k es, x, hv => by
    simp only [VRel] at hv ⊢
    obtain ⟨a, cp, h1, h2, h3, h4, h5⟩ := hv
    refine ⟨a, cp, h1, h2, h3, h4, ?_⟩
    rcases h5 with h5 | ⟨b, off, h5, h6⟩
    · exact .inl h5
    · exact .inr ⟨b, off, h5, VElems.mono h.data k es b off h6⟩
  | .lm id, x, hv => by
    simp only [VRel] at hv ⊢
    obtain ⟨b, h1, h2⟩ := hv
    exact ⟨b, h.pl _ _ rfl h1, h2⟩
  | .im ks vs, x, hv => by
    simp only [VRel] at hv ⊢
    obtain ⟨r, es, clk, h1, h2, h3, h4, h5⟩ := hv
    obtain ⟨h6, h7⟩ := h.dat r (lt_of_heap h3) h2
    exact ⟨r, es, clk, h1, h6, h7.trans h3, VList.mono h.data ks _ h4, VList.mono h.data vs _ h5.1, h5.2⟩
  | .fn f first captured, x, hv => by
    simp only [VRel] at hv ⊢
    obtain ⟨fs, cs, h1, h2, h3⟩ := hv
    exact ⟨fs, cs, h1, VList.mono h first _ h2, VList.mono h captured _ h3⟩
  | .yd id, x, hv => by
    simp only [VRel] at hv ⊢
    obtain ⟨b, h1, h2⟩ := hv
    exact ⟨b, h.pl _ _ rfl h1, h2⟩
  | .iface t e, x, hv => by
    simp only [VRel] at hv ⊢
    obtain ⟨ev, h1, h2⟩ := hv
    exact ⟨ev, h1, VRel.mono h e _ h2⟩
  | .agg vs, x, hv => by
    simp only [VRel] at hv ⊢
    obtain ⟨cs, h1, h2⟩ := hv
    exact ⟨cs, h1, VList.mono h vs _ h2⟩
  | .tup vs, x, hv => by
    simp only [VRel] at hv ⊢
    obtain ⟨cs, h1, h2⟩ := hv
    exact ⟨cs, h1, VList.mono h vs _ h2⟩
  | .grd g e, x, hv => by
    simp only [VRel] at hv ⊢
    exact ⟨fun hg => VRel.mono h e _ (hv.1 hg), hv.2⟩
theorem VList.mono {c c' : C} (h : CExt (fun _ => false) c c') : ∀ (vs : List V) (xs : List Value), VList c vs xs → VList c' vs xs
  | [], xs, hv => by simpa only [VList] using hv
  | v :: vs, xs, hv => by
    simp only [VList] at hv ⊢
    obtain ⟨y, ys, h1, h2, h3⟩ := hv
    exact ⟨y, ys, h1, VRel.mono h v _ h2, VList.mono h vs _ h3⟩
theorem VElems.mono {c c' : C} (h : CExt (fun _ => false) c c') : ∀ (k : Nat) (es : List V) (b off : Nat), VElems c k es b off → VElems c' k es b off
  | k, [], b, off, hv => by simp only [VElems]
  | k, e :: es, b, off, hv => by
    simp only [VElems] at hv ⊢
    obtain ⟨⟨ev, h1, h2, h3⟩, h4⟩ := hv
    exact ⟨⟨ev, h1, h2.mono h, VRel.mono h e _ h3⟩, VElems.mono h k es b (off + k) h4⟩
end

mutual
theorem VRel.mdrop {p : Nat → Bool} {c c' : C} (h : CExt p c c') : ∀ (v : V) (x : Value), VRel c v x → VRel c' (v.drop p) x
  | .any, _, _ => by simp [VRel, V.drop]
  | .bool _, _, hv | .int _ _, _, hv | .str _, _, hv | .nilp, _, hv | .nils, _, hv | .nilm, _, hv | .nilf, _, hv | .nili, _, hv => by simpa only [VRel, V.drop] using hv
  | .lp id off, x, hv => by
    rw [V.drop]; split
    · simp [VRel]
    · rename_i hp
      simp only [VRel] at hv ⊢
      obtain ⟨b, h1, h2⟩ := hv
      exact ⟨b, h.pl _ _ (by simpa using hp) h1, h2⟩
  | .ip e, x, hv => by
    simp only [VRel, V.drop] at hv ⊢
    obtain ⟨b, off, ev, h1, h2, h3, h4⟩ := hv
    exact ⟨b, off, ev, h1, h2.mono h, h3, VRel.mono h.data e ev h4⟩
  | .ls id k off len cap, x, hv => by
    rw [V.drop]; split
    · simp [VRel]
    · rename_i hp
      simp only [VRel] at hv ⊢
      obtain ⟨a, cp, h1, h2, h3, h4, h5⟩ := hv
      refine ⟨a, cp, h1, h2, h3, h4, ?_⟩
      rcases h5 with h5 | ⟨b, arr, el, fz, h5, h6, h7, h8⟩
      · exact .inl h5
      · obtain ⟨arr', fz', h9, h10⟩ := h.row _ _ _ _ h7
        exact .inr ⟨b, arr', el, fz', h.pl _ _ (by simpa using hp) h5, h6, h9, by omega⟩
  | .is ex k es, x, hv => by
    simp only [VRel, V.drop] at hv ⊢
    obtain ⟨a, cp, h1, h2, h3, h4, h5⟩ := hv
    refine ⟨a, cp, h1, h2, h3, h4, ?_⟩
    rcases h5 with h5 | ⟨b, off, h5, h6⟩
    · exact .inl h5
    · exact .inr ⟨b, off, h5, VElems.mono h.data k es b off h6⟩
  | .lm id, x, hv => by
    rw [V.drop]; split
    · simp [VRel]
    · rename_i hp
      simp only [VRel] at hv ⊢
      obtain ⟨b, h1, h2⟩ := hv
      exact ⟨b, h.pl _ _ (by simpa using hp) h1, h2⟩
  | .im ks vs, x, hv => by
    simp only [VRel, V.drop] at hv ⊢
    obtain ⟨r, es, clk, h1, h2, h3, h4, h5⟩ := hv
    obtain ⟨h6, h7⟩ := h.dat r (lt_of_heap h3) h2
    exact ⟨r, es, clk, h1, h6, h7.trans h3, VList.mono h.data ks _ h4, VList.mono h.data vs _ h5.1, h5.2⟩
  | .fn f first captured, x, hv => by
    simp only [VRel, V.drop] at hv ⊢
    obtain ⟨fs, cs, h1, h2, h3⟩ := hv
    exact ⟨fs, cs, h1, VList.mdrop h first _ h2, VList.mdrop h captured _ h3⟩
  | .yd id, x, hv => by
    rw [V.drop]; split
    · simp [VRel]
    · rename_i hp
      simp only [VRel] at hv ⊢
      obtain ⟨b, h1, h2⟩ := hv
      exact ⟨b, h.pl _ _ (by simpa using hp) h1, h2⟩
  | .iface t e, x, hv => by
    simp only [VRel, V.drop] at hv ⊢
    obtain ⟨ev, h1, h2⟩ := hv
    exact ⟨ev, h1, VRel.mdrop h e _ h2⟩
  | .agg vs, x, hv => by
    simp only [VRel, V.drop] at hv ⊢
    obtain ⟨cs, h1, h2⟩ := hv
    exact ⟨cs, h1, VList.mdrop h vs _ h2⟩
  | .tup vs, x, hv => by
    simp only [VRel, V.drop] at hv ⊢
    obtain ⟨cs, h1, h2⟩ := hv
    exact ⟨cs, h1, VList.mdrop h vs _ h2⟩
  | .grd g e, x, hv => by
    simp only [VRel, V.drop] at hv ⊢
    exact ⟨fun hg => VRel.mdrop h e _ (hv.1 hg), hv.2⟩
theorem VList.mdrop {p : Nat → Bool} {c c' : C} (h : CExt p c c') : ∀ (vs : List V) (xs : List Value), VList c vs xs → VList c' (V.drops p vs) xs
  | [], xs, hv => by simpa only [VList, V.drops] using hv
  | v :: vs, xs, hv => by
    simp only [VList, V.drops] at hv ⊢
    obtain ⟨y, ys, h1, h2, h3⟩ := hv
    exact ⟨y, ys, h1, VRel.mdrop h v _ h2, VList.mdrop h vs _ h3⟩
end

theorem VList.length {c : C} : ∀ {vs : List V} {xs : List Value}, VList c vs xs → xs.length = vs.length
  | [], _, h => by simp only [VList] at h; simp [h]
  | _ :: _, _, h => by
    simp only [VList] at h
    obtain ⟨y, ys, rfl, _, h2⟩ := h
    simp [VList.length h2]

theorem VList.get {c : C} : ∀ {vs : List V} {xs : List Value} (i : Nat) (v : V), VList c vs xs → vs[i]? = some v → ∃ x, xs[i]? = some x ∧ VRel c v x
  | [], _, i, v, _, h => by simp at h
  | u :: us, _, i, v, h, hi => by
    simp only [VList] at h
    obtain ⟨y, ys, rfl, h1, h2⟩ := h
    cases i with
    | zero => simp at hi; subst hi; exact ⟨y, rfl, h1⟩
    | succ i => simpa using VList.get i v h2 (by simpa using hi)

theorem VList.of_get {c : C} : ∀ {vs : List V} {xs : List Value}, xs.length = vs.length → (∀ (i : Nat) (v : V) (x : Value), vs[i]? = some v → xs[i]? = some x → VRel c v x) → VList c vs xs
  | [], xs, hl, _ => by simp only [VList]; exact List.length_eq_zero_iff.1 (by simpa using hl)
  | u :: us, [], hl, _ => by simp at hl
  | u :: us, y :: ys, hl, h => by
    simp only [VList]
    exact ⟨y, ys, rfl, h 0 u y rfl rfl, VList.of_get (by simpa using hl) fun i v x hv hx => h (i + 1) v x (by simpa using hv) (by simpa using hx)⟩

theorem VList.append {c : C} : ∀ {us vs : List V} {xs ys : List Value}, VList c us xs → VList c vs ys → VList c (us ++ vs) (xs ++ ys)
  | [], _, _, _, h1, h2 => by simp only [VList] at h1; subst h1; simpa using h2
  | u :: us, vs, _, ys, h1, h2 => by
    simp only [VList] at h1
    obtain ⟨y, zs, rfl, h3, h4⟩ := h1
    simp only [List.cons_append, VList]
    exact ⟨y, zs ++ ys, rfl, h3, h4.append h2⟩

theorem VList.take {c : C} : ∀ {vs : List V} {xs : List Value} (n : Nat), VList c vs xs → VList c (vs.take n) (xs.take n)
  | [], _, n, h => by simp only [VList] at h; subst h; simp [VList]
  | u :: us, _, n, h => by
    simp only [VList] at h
    obtain ⟨y, ys, rfl, h1, h2⟩ := h
    cases n with
    | zero => simp [VList]
    | succ n => simp only [List.take_succ_cons, VList]; exact ⟨y, _, rfl, h1, h2.take n⟩

theorem VList.dropN {c : C} : ∀ {vs : List V} {xs : List Value} (n : Nat), VList c vs xs → VList c (vs.drop n) (xs.drop n)
  | [], _, n, h => by simp only [VList] at h; subst h; simp [VList]
  | u :: us, _, n, h => by
    cases n with
    | zero => simpa using h
    | succ n =>
      simp only [VList] at h
      obtain ⟨y, ys, rfl, h1, h2⟩ := h
      simpa using h2.dropN n

theorem VList.set {c : C} : ∀ {vs : List V} {xs : List Value} (i : Nat) {v : V} {x : Value}, VList c vs xs → VRel c v x → VList c (vs.set i v) (xs.set i x)
  | [], _, i, v, x, h, _ => by simp only [VList] at h; subst h; simp [VList]
  | u :: us, _, i, v, x, h, hv => by
    simp only [VList] at h
    obtain ⟨y, ys, rfl, h1, h2⟩ := h
    cases i with
    | zero => simp only [List.set_cons_zero, VList]; exact ⟨x, ys, rfl, hv, h2⟩
    | succ i => simp only [List.set_cons_succ, VList]; exact ⟨y, _, rfl, h1, h2.set i hv⟩

end Go.Abs
