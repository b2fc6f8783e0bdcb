/- Abstract values, heaps and frames over the calculus, part 4. -/
import Derived.Test.YtegnjoonhabicaaA3
set_option linter.unusedVariables false
namespace Go.Abs

/-! ### Guarded values: what stands behind the guard, and that it holds -/
def V.sv : V → V
  | .grd _ v => v.sv
  | v => v
def V.sc : V → Prop
  | .grd g v => g = true ∧ v.sc
  | _ => True

theorem VRel.sv {c : C} : ∀ {v : V} {x : Value}, VRel c v x → v.sc → VRel c v.sv x
  | .grd g v, x, h, hc => by
    simp only [V.sc] at hc
    simp only [VRel] at h
    simp only [V.sv]
    exact VRel.sv (h.1 hc.1) hc.2
  | .any, x, h, hc | .bool _, x, h, hc | .int _ _, x, h, hc | .str _, x, h, hc | .nilp, x, h, hc | .lp _ _, x, h, hc | .ip _, x, h, hc | .nils, x, h, hc
  | .ls _ _ _ _ _, x, h, hc | .is _ _ _, x, h, hc | .nilm, x, h, hc | .lm _, x, h, hc | .im _ _, x, h, hc | .fn _ _ _, x, h, hc | .yd _, x, h, hc | .nilf, x, h, hc
  | .iface _ _, x, h, hc | .nili, x, h, hc | .agg _, x, h, hc | .tup _, x, h, hc => by simpa only [V.sv] using h

/-- One cell's value. -/
def V.one : V → Bool
  | .any | .agg _ | .tup _ | .grd _ _ => false
  | _ => true

theorem VRel.one {c : C} {v : V} {x : Value} (h : VRel c v x) (ho : v.one = true) : x.cells = #[x] := by
  cases v <;> simp only [V.one, Bool.false_eq_true] at ho <;> simp only [VRel] at h
  case bool => subst h; rfl
  case int => subst h; rfl
  case str => obtain ⟨s, rfl, _⟩ := h; rfl
  case nilp => subst h; rfl
  case lp => obtain ⟨b, _, rfl⟩ := h; rfl
  case ip => obtain ⟨b, off, ev, rfl, _⟩ := h; rfl
  case nils => subst h; rfl
  case ls => obtain ⟨a, cp, rfl, _⟩ := h; rfl
  case is => obtain ⟨a, cp, rfl, _⟩ := h; rfl
  case nilm => subst h; rfl
  case lm => obtain ⟨b, _, rfl⟩ := h; rfl
  case im => obtain ⟨r, es, clk, rfl, _⟩ := h; rfl
  case fn => obtain ⟨fs, cs, rfl, _⟩ := h; rfl
  case yd => obtain ⟨b, _, rfl⟩ := h; rfl
  case nilf => subst h; rfl
  case iface => obtain ⟨ev, rfl, _⟩ := h; rfl
  case nili => subst h; rfl

/-! ### Data: no local object in it -/
mutual
def V.dat : V → Bool
  | .lp _ _ | .ls _ _ _ _ _ | .lm _ | .yd _ => false
  | .fn _ a b => V.dats a && V.dats b
  | .iface _ e => e.dat
  | .agg vs => V.dats vs
  | .tup vs => V.dats vs
  | .grd _ e => e.dat
  | _ => true
def V.dats : List V → Bool
  | [] => true
  | v :: vs => v.dat && V.dats vs
end

mutual
theorem VRel.todata {c : C} : ∀ (v : V) (x : Value), v.dat = true → VRel c v x → VRel c.data v x
  | .any, _, _, h => by simp only [VRel]
  | .bool _, _, _, h | .int _ _, _, _, h | .str _, _, _, h | .nilp, _, _, h | .nils, _, _, h | .nilm, _, _, h | .nilf, _, _, h | .nili, _, _, h => by simpa only [VRel] using h
  | .ip _, _, _, h | .is _ _ _, _, _, h | .im _ _, _, _, h => by simp only [VRel] at h ⊢; exact h
  | .lp _ _, _, hd, _ | .ls _ _ _ _ _, _, hd, _ | .lm _, _, hd, _ | .yd _, _, hd, _ => by simp [V.dat] at hd
  | .fn f a b, x, hd, h => by
    simp only [V.dat, Bool.and_eq_true] at hd
    simp only [VRel] at h ⊢
    obtain ⟨fs, cs, h1, h2, h3⟩ := h
    exact ⟨fs, cs, h1, VList.todata a _ hd.1 h2, VList.todata b _ hd.2 h3⟩
  | .iface t e, x, hd, h => by
    simp only [V.dat] at hd
    simp only [VRel] at h ⊢
    obtain ⟨ev, h1, h2⟩ := h
    exact ⟨ev, h1, VRel.todata e _ hd h2⟩
  | .agg vs, x, hd, h => by
    simp only [V.dat] at hd
    simp only [VRel] at h ⊢
    obtain ⟨cs, h1, h2⟩ := h
    exact ⟨cs, h1, VList.todata vs _ hd h2⟩
  | .tup vs, x, hd, h => by
    simp only [V.dat] at hd
    simp only [VRel] at h ⊢
    obtain ⟨cs, h1, h2⟩ := h
    exact ⟨cs, h1, VList.todata vs _ hd h2⟩
  | .grd g e, x, hd, h => by
    simp only [V.dat] at hd
    simp only [VRel] at h ⊢
    exact ⟨fun hg => VRel.todata e _ hd (h.1 hg), h.2⟩
theorem VList.todata {c : C} : ∀ (vs : List V) (xs : List Value), V.dats vs = true → VList c vs xs → VList c.data vs xs
  | [], xs, _, h => by simpa only [VList] using h
  | v :: vs, xs, hd, h => by
    simp only [V.dats, Bool.and_eq_true] at hd
    simp only [VList] at h ⊢
    obtain ⟨y, ys, h1, h2, h3⟩ := h
    exact ⟨y, ys, h1, VRel.todata v _ hd.1 h2, VList.todata vs _ hd.2 h3⟩
end

mutual
/-- Data is read anywhere as it is read in the data's own reading. -/
theorem VRel.ofdata {c : C} : ∀ (v : V) (x : Value), VRel c.data v x → VRel c v x
  | .any, _, h => by simp only [VRel]
  | .bool _, _, h | .int _ _, _, h | .str _, _, h | .nilp, _, h | .nils, _, h | .nilm, _, h | .nilf, _, h | .nili, _, h => by simpa only [VRel] using h
  | .ip _, _, h | .is _ _ _, _, h | .im _ _, _, h => by simp only [VRel] at h ⊢; exact h
  | .lp _ _, _, h | .lm _, _, h | .yd _, _, h => by simp [VRel, C.data] at h
  | .ls _ _ _ _ _, x, h => by
    simp only [VRel] at h ⊢
    obtain ⟨a, cp, h1, h2, h3, h4, h5⟩ := h
    refine ⟨a, cp, h1, h2, h3, h4, .inl ?_⟩
    rcases h5 with h5 | ⟨b, _, _, _, h5, _⟩
    · exact h5
    · simp [C.data] at h5
  | .fn f a b, x, h => by
    simp only [VRel] at h ⊢
    obtain ⟨fs, cs, h1, h2, h3⟩ := h
    exact ⟨fs, cs, h1, VList.ofdata a _ h2, VList.ofdata b _ h3⟩
  | .iface t e, x, h => by
    simp only [VRel] at h ⊢
    obtain ⟨ev, h1, h2⟩ := h
    exact ⟨ev, h1, VRel.ofdata e _ h2⟩
  | .agg vs, x, h => by
    simp only [VRel] at h ⊢
    obtain ⟨cs, h1, h2⟩ := h
    exact ⟨cs, h1, VList.ofdata vs _ h2⟩
  | .tup vs, x, h => by
    simp only [VRel] at h ⊢
    obtain ⟨cs, h1, h2⟩ := h
    exact ⟨cs, h1, VList.ofdata vs _ h2⟩
  | .grd g e, x, h => by
    simp only [VRel] at h ⊢
    exact ⟨fun hg => VRel.ofdata e _ (h.1 hg), h.2⟩
theorem VList.ofdata {c : C} : ∀ (vs : List V) (xs : List Value), VList c.data vs xs → VList c vs xs
  | [], xs, h => by simpa only [VList] using h
  | v :: vs, xs, h => by
    simp only [VList] at h ⊢
    obtain ⟨y, ys, h1, h2, h3⟩ := h
    exact ⟨y, ys, h1, VRel.ofdata v _ h2, VList.ofdata vs _ h3⟩
end

theorem VElems.get {c : C} {k : Nat} : ∀ {es : List V} {b off : Nat} (i : Nat) {v : V}, VElems c k es b off → es[i]? = some v →
    ∃ ev, ev.cells.size = k ∧ Reads c b (off + i * k) ev ∧ VRel c v ev
  | [], b, off, i, v, _, h => by simp at h
  | u :: us, b, off, i, v, h, hi => by
    simp only [VElems] at h
    obtain ⟨⟨ev, h1, h2, h3⟩, h4⟩ := h
    cases i with
    | zero => simp at hi; subst hi; exact ⟨ev, h1, by simpa using h2, h3⟩
    | succ i =>
      obtain ⟨ev', h5, h6, h7⟩ := VElems.get i h4 (by simpa using hi)
      refine ⟨ev', h5, ?_, h7⟩
      have : off + k + i * k = off + (i + 1) * k := by rw [Nat.succ_mul]; omega
      rwa [this] at h6

theorem VElems.of_get {c : C} {k : Nat} : ∀ {es : List V} {b off : Nat}, (∀ (i : Nat) (v : V), es[i]? = some v → ∃ ev, ev.cells.size = k ∧ Reads c b (off + i * k) ev ∧ VRel c v ev) → VElems c k es b off
  | [], b, off, _ => by simp only [VElems]
  | u :: us, b, off, h => by
    simp only [VElems]
    refine ⟨by simpa using h 0 u rfl, VElems.of_get fun i v hi => ?_⟩
    obtain ⟨ev, h1, h2, h3⟩ := h (i + 1) v (by simpa using hi)
    refine ⟨ev, h1, ?_, h3⟩
    have : off + k + i * k = off + (i + 1) * k := by rw [Nat.succ_mul]; omega
    rwa [this]

theorem VElems.sub {c : C} {k : Nat} {es : List V} {b off : Nat} (h : VElems c k es b off) (lo n : Nat) : VElems c k ((es.drop lo).take n) b (off + lo * k) :=
  VElems.of_get fun i v hi => by
    have hi' : es[lo + i]? = some v := by
      rw [List.getElem?_take] at hi
      split at hi
      · rwa [List.getElem?_drop] at hi
      · cases hi
    obtain ⟨ev, h1, h2, h3⟩ := h.get (lo + i) hi'
    refine ⟨ev, h1, ?_, h3⟩
    have : off + (lo + i) * k = off + lo * k + i * k := by rw [Nat.add_mul]; omega
    rwa [this] at h2

/-- A part of a struct's cells. -/
def V.sub (vs : List V) (off size : Nat) (agg : Bool) : V := bif agg then .agg ((vs.drop off).take size) else vs.getD off .any

theorem Reads.cell {c : C} {b off : Nat} {ev : Value} (h : Reads c b off ev) {j : Nat} (hj : j < ev.cells.size) : c.w.cell? ⟨b, off + j, none⟩ = some ev.cells[j] := by
  rw [(h j hj).2]; simp [hj]

theorem add_plain (b off j : Nat) : (⟨b, off, none⟩ : Addr).add j = ⟨b, off + j, none⟩ := by
  unfold Addr.add
  split
  · rename_i h; subst h; rfl
  · rfl

end Go.Abs
