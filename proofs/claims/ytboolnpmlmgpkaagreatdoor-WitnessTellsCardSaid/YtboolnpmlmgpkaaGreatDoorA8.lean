/- Abstract values, heaps and frames over the calculus, part 8. -/
import Derived.Test.YtboolnpmlmgpkaaGreatDoorA7
import Derived.ProofKit
import Derived.SizedLaws
import Derived.JoinedCond
set_option linter.unusedVariables false
set_option linter.unusedSimpArgs false
namespace Go.Abs
open Go.RowKit

/-! ### What a law is handed -/
inductive Sh where
  | str
  | bool
  | int (k : IntKind)
  | slice (e : Sh)
  | struct (fs : List Sh)

mutual
def Sh.size : Sh → Nat
  | .str | .bool | .int _ | .slice _ => 1
  | .struct fs => Sh.sizes fs
def Sh.sizes : List Sh → Nat
  | [] => 0
  | s :: ss => s.size + Sh.sizes ss
end

/-- An array's place, as a field. -/
def arrF (P : Program) (e : TypeId) (i : Nat) : Field := { name := "", type := e, offset := i * P.cellsOf e, embedded := false, tag := "", pkgPath := "", byteOffset := 0 }
/-- A struct's fields, or an array's places. -/
def Sh.fields (P : Program) (t : TypeId) : Option (List Field) := match P.underlying t with
  | some (.struct gs) => some gs.toList
  | some (.array n e) => some ((List.range n).map (arrF P e))
  | _ => none

mutual
/-- Is a type of this shape? -/
def Sh.ok (P : Program) : Sh → TypeId → Bool
  | .str, t => match P.underlying t with | some .string => true | _ => false
  | .bool, t => match P.underlying t with | some .bool => true | _ => false
  | .int k, t => match P.underlying t with | some (.int k') => k' == k | _ => false
  | .slice e, t => match P.underlying t with | some (.slice u) => P.cellsOf u == e.size && decide (0 < e.size) && e.ok P u | _ => false
  | .struct fs, t => match Sh.fields P t with | some gs => P.cellsOf t == Sh.sizes fs && Sh.oks P fs gs 0 | none => false
def Sh.oks (P : Program) : List Sh → List Field → Nat → Bool
  | [], [], _ => true
  | s :: ss, g :: gs, off => g.offset == off && P.cellsOf g.type == s.size && s.ok P g.type && Sh.oks P ss gs (off + s.size)
  | _, _, _ => false
end

mutual
def Sh.Is : Sh → V → Prop
  | .str, v => ∃ s, v = .str s
  | .bool, v => ∃ b, v = .bool b
  | .int k, v => ∃ n, v = .int k n ∧ (Lit.int k n).wf = true
  | .slice e, v => ∃ es, v = .is false e.size es ∧ ∀ x ∈ es, Sh.Is e x
  | .struct fs, v => ∃ vs, v = .agg (vs.flatMap V.vc) ∧ Sh.Iss fs vs
def Sh.Iss : List Sh → List V → Prop
  | [], vs => vs = []
  | s :: ss, vs => ∃ u us, vs = u :: us ∧ Sh.Is s u ∧ Sh.Iss ss us
end

theorem mapM_some {α β : Type} {f : α → Option β} : ∀ {l : List α} {r : List β}, l.mapM f = some r → r.length = l.length ∧ ∀ (i : Nat) x, l[i]? = some x → ∃ y, f x = some y ∧ r[i]? = some y
  | [], r, h => by simp at h; subst h; simp
  | a :: l, r, h => by
    rw [List.mapM_cons] at h
    simp only [Option.bind_eq_bind, Option.bind_eq_some_iff, Option.pure_def, Option.some.injEq] at h
    obtain ⟨y, h1, ys, h2, rfl⟩ := h
    obtain ⟨h3, h4⟩ := mapM_some h2
    refine ⟨by simp [h3], fun i x hx => ?_⟩
    cases i with
    | zero => simp at hx; subst hx; exact ⟨y, h1, rfl⟩
    | succ i => simpa using h4 i x (by simpa using hx)

/-- The reading of a world in which all is data. -/
abbrev cw (w : World) : C := cx (fun _ => True) (fun _ => none) w

structure Took (c : C) (sh : Sh) (v : V) (cs : List Value) : Prop where
  is : sh.Is v
  fit : v.fit = true
  dat : v.dat = true
  len : v.vc.length = sh.size
  rel : VList c v.vc cs

theorem Took.one {c : C} {sh : Sh} {v : V} {x : Value} (h1 : sh.Is v) (h2 : v.one = true) (hd : v.dat = true) (hs : sh.size = 1) (hr : VRel c v x) : Took c sh v [x] := by
  have hv : v.vc = [v] := by cases v <;> first | rfl | simp [V.one] at h2
  refine ⟨h1, by simp [V.fit, h2], hd, by rw [hv, hs]; rfl, ?_⟩
  rw [hv]
  simp only [VList]
  exact ⟨x, [], rfl, hr, rfl⟩

theorem dats_flat : ∀ {vs : List V}, (∀ v ∈ vs, V.dats v.vc = true) → V.dats (vs.flatMap V.vc) = true
  | [], _ => rfl
  | v :: vs, h => by
    have app : ∀ (a b : List V), V.dats (a ++ b) = (V.dats a && V.dats b) := by
      intro a b
      induction a with
      | nil => rfl
      | cons x a ih => simp only [List.cons_append, V.dats, ih, Bool.and_assoc]
    rw [List.flatMap_cons, app, h v (by simp), dats_flat fun u hu => h u (by simp [hu])]
    rfl
theorem dat_vc {v : V} (h : v.dat = true) : V.dats v.vc = true := by
  cases v <;> first | (simp only [V.vc, V.dats, h, Bool.and_self]; done) | (simp only [V.dat] at h; exact h)

section
variable {H : Type} {enc : TypeId × Value → H} {P : Program} {w : World}

theorem took_fields {c : C} {cs : List Value} {F : TypeId → List Value → Option (DataW H × List MemPlace)}
    (IH : ∀ (sh : Sh) (t : TypeId) (cs : List Value) x, sh.ok P t = true → cs.length = sh.size → F t cs = some x → ∃ v, Took c sh v cs) :
    ∀ (fs : List Sh) (gs : List Field) (off : Nat) (xs : List (DataW H × List MemPlace)), Sh.oks P fs gs off = true → off + Sh.sizes fs = cs.length →
      (gs.mapM fun f => F f.type ((cs.drop f.offset).take (P.cellsOf f.type))) = some xs →
      ∃ vs, Sh.Iss fs vs ∧ (∀ v ∈ vs, v.dat = true) ∧ (vs.flatMap V.vc).length = Sh.sizes fs ∧ VList c (vs.flatMap V.vc) (cs.drop off)
  | [], [], off, xs, _, hl, _ => by
    refine ⟨[], rfl, by simp, rfl, ?_⟩
    simp only [Sh.sizes] at hl
    rw [List.drop_of_length_le (by omega)]
    simp only [List.flatMap_nil, VList]
  | [], _ :: _, _, _, h, _, _ => by simp [Sh.oks] at h
  | _ :: _, [], _, _, h, _, _ => by simp [Sh.oks] at h
  | s :: ss, g :: gs, off, xs, hok, hl, hm => by
    simp only [Sh.oks, Bool.and_eq_true, beq_iff_eq] at hok
    obtain ⟨⟨⟨h1, h2⟩, h3⟩, h4⟩ := hok
    simp only [Sh.sizes] at hl
    rw [List.mapM_cons] at hm
    simp only [Option.bind_eq_bind, Option.bind_eq_some_iff, Option.pure_def, Option.some.injEq] at hm
    obtain ⟨y, hy, ys, hys, rfl⟩ := hm
    rw [h1, h2] at hy
    obtain ⟨v, hv⟩ := IH s g.type _ y h3 (by rw [List.length_take, List.length_drop]; omega) hy
    obtain ⟨vs, k1, k2, k3, k4⟩ := took_fields IH ss gs (off + s.size) ys h4 (by omega) hys
    refine ⟨v :: vs, ⟨v, vs, rfl, hv.is, k1⟩, ?_, ?_, ?_⟩
    · intro u hu
      rcases List.mem_cons.1 hu with rfl | hu
      · exact hv.dat
      · exact k2 u hu
    · rw [List.flatMap_cons, List.length_append, hv.len, k3]; rfl
    · rw [List.flatMap_cons]
      have : cs.drop off = (cs.drop off).take s.size ++ cs.drop (off + s.size) := by
        rw [← List.drop_drop, List.take_append_drop]
      rw [this]
      exact hv.rel.append k4

/-- A struct, or an array, is read field by field. -/
theorem trod_fields {fuel : Nat} {t : TypeId} {gs : List Field} {cs : List Value} {d : DataW H} {ps : List MemPlace} (hu : Sh.fields P t = some gs) (h : DataW.trod enc P w 0 (fun _ => true) true (fuel + 1) t cs = some (d, ps)) :
    cs.length = P.cellsOf t ∧ ∃ xs, (gs.mapM fun f => DataW.trod enc P w 0 (fun _ => true) true fuel f.type ((cs.drop f.offset).take (P.cellsOf f.type))) = some xs ∧ d = .agg (xs.map (·.1)) := by
  unfold Sh.fields at hu
  unfold DataW.trod at h
  split at hu
  · rename_i gs' hu'
    cases hu
    rw [hu'] at h
    dsimp only at h
    split at h
    · rename_i hlen2
      rw [Option.map_eq_some_iff] at h
      obtain ⟨xs, hxs, hd⟩ := h
      exact ⟨hlen2, xs, hxs, by cases hd; rfl⟩
    · cases h
  · rename_i n e hu'
    cases hu
    rw [hu'] at h
    dsimp only at h
    split at h
    · rename_i hlen2
      rw [Option.map_eq_some_iff] at h
      obtain ⟨xs, hxs, hd⟩ := h
      refine ⟨hlen2, xs, ?_, by cases hd; rfl⟩
      rw [List.mapM_map]
      exact hxs
    · cases h
  · cases hu

theorem trod_took : ∀ (fuel : Nat) (sh : Sh) (t : TypeId) (cs : List Value) (d : DataW H) (ps : List MemPlace), sh.ok P t = true → cs.length = sh.size →
    DataW.trod enc P w 0 (fun _ => true) true fuel t cs = some (d, ps) → ∃ v, Took (cw w) sh v cs
  | 0, _, _, _, _, _, _, _, h => by simp [DataW.trod] at h
  | fuel + 1, .str, t, [x], d, ps, hok, hlen, h => by
    simp only [Sh.ok] at hok
    split at hok
    · rename_i hu
      cases x <;> simp only [DataW.trod, hu, reduceCtorEq] at h
      case string s =>
        split at h
        · rename_i hs
          refine ⟨.str s.data.toList, Took.one ⟨_, rfl⟩ rfl rfl rfl ?_⟩
          simp only [VRel]
          exact ⟨s, rfl, rfl, by rw [Array.length_toList]; exact hs⟩
        · cases h
    · cases hok
  | fuel + 1, .bool, t, [x], d, ps, hok, hlen, h => by
    simp only [Sh.ok] at hok
    split at hok
    · rename_i hu
      cases x <;> simp only [DataW.trod, hu, reduceCtorEq] at h
      case bool b => exact ⟨.bool b, Took.one ⟨_, rfl⟩ rfl rfl rfl (by simp only [VRel])⟩
    · cases hok
  | fuel + 1, .int k, t, [x], d, ps, hok, hlen, h => by
    simp only [Sh.ok] at hok
    split at hok
    · rename_i k' hu
      have hk : k' = k := by simpa using hok
      subst hk
      cases x <;> simp only [DataW.trod, hu, reduceCtorEq] at h
      case int k2 n =>
        split at h
        · rename_i hs
          obtain ⟨rfl, hw⟩ := hs
          exact ⟨.int k2 n, Took.one ⟨_, rfl, hw⟩ rfl rfl rfl (by simp only [VRel])⟩
        · cases h
    · cases hok
  | fuel + 1, .slice e, t, [x], d, ps, hok, hlen, h => by
    simp only [Sh.ok] at hok
    split at hok
    · rename_i u hu
      simp only [Bool.and_eq_true, beq_iff_eq, decide_eq_true_eq] at hok
      obtain ⟨⟨hsz, hpos⟩, hok⟩ := hok
      cases x <;> simp only [DataW.trod, hu, reduceCtorEq] at h
      case slice a len cap =>
        cases a with
        | none =>
          have hz : len = 0 ∧ cap = 0 := by
            cases len <;> cases cap <;> simp [DataW.trod, hu] at h ⊢
          obtain ⟨rfl, rfl⟩ := hz
          refine ⟨.is false e.size [], Took.one ⟨[], rfl, by simp⟩ rfl rfl rfl ?_⟩
          simp only [VRel]
          exact ⟨none, 0, rfl, Nat.le_refl _, Nat.zero_le _, fun hf => (by cases hf), .inl trivial⟩
        | some a =>
          simp only [DataW.trod, hu] at h
          split at h
          · rename_i hcond
            rw [Option.bind_eq_some_iff] at h
            obtain ⟨elems, hel, _⟩ := h
            have hm := mapM_some hel
            have key : ∀ i : Fin len, ∃ v cells, w.cells? 0 (a.add (i.1 * e.size)) e.size = some cells ∧ Took (cw w) e v cells := by
              intro i
              obtain ⟨y, hy, _⟩ := hm.2 i.1 i.1 (by simp)
              rw [Option.bind_eq_some_iff] at hy
              obtain ⟨cells, hc, ht⟩ := hy
              rw [hsz] at hc
              have hcl : cells.length = e.size := by
                unfold World.cells? at hc
                split at hc
                · have := (mapM_some hc).1; simpa using this
                · cases hc
              obtain ⟨v, hv⟩ := trod_took fuel e u cells y.1 y.2 hok hcl ht
              exact ⟨v, cells, hc, hv⟩
            let es : List V := List.ofFn fun i => (key i).choose
            have hlen2 : es.length = len := by simp [es]
            have hget : ∀ (i : Nat) (v : V), es[i]? = some v → ∃ cells, w.cells? 0 (a.add (i * e.size)) e.size = some cells ∧ Took (cw w) e v cells := by
              intro i v hi
              have hi2 : i < len := by have := (List.getElem?_eq_some_iff.1 hi).1; omega
              have : es[i]? = some (key ⟨i, hi2⟩).choose := by simp [es, hi2]
              rw [this] at hi
              cases hi
              exact (key ⟨i, hi2⟩).choose_spec
            refine ⟨.is false e.size es, Took.one ⟨es, rfl, ?_⟩ rfl rfl rfl ?_⟩
            · intro x hx
              obtain ⟨i, hi, rfl⟩ := List.mem_iff_getElem.1 hx
              obtain ⟨cells, _, ht⟩ := hget i es[i] (by simp [hi])
              exact ht.is
            · simp only [VRel]
              refine ⟨some a, cap, by rw [hlen2], by rw [hlen2]; exact hcond.2.1, hcond.2.2, fun hf => (by cases hf), ?_⟩
              have cell : ∀ (i : Nat) (cells : List Value), w.cells? 0 (a.add (i * e.size)) e.size = some cells → cells.length = e.size ∧ ∀ j, j < e.size → w.cell? ((a.add (i * e.size)).add j) = cells[j]? := by
                intro i cells hc
                unfold World.cells? at hc
                split at hc
                · have hm2 := mapM_some hc
                  refine ⟨by simpa using hm2.1, fun j hj => ?_⟩
                  obtain ⟨y, hy1, hy2⟩ := hm2.2 j j (by simp [hj])
                  rw [hy1, hy2]
                · cases hc
              by_cases h0 : len = 0
              · left; exact List.length_eq_zero_iff.1 (by omega)
              · right
                obtain ⟨b, off, spot⟩ := a
                have hs : spot = none := by
                  obtain ⟨v, cells, hc, _⟩ := key ⟨0, by omega⟩
                  obtain ⟨h1, h2⟩ := cell 0 cells hc
                  have h3 := h2 0 hpos
                  have h4 : cells[0]? = some (cells[0]'(by omega)) := by simp
                  rw [h4] at h3
                  simpa [Addr.add] using World.cell?_spot h3
                subst hs
                refine ⟨b, off, rfl, VElems.of_get fun i v hi => ?_⟩
                obtain ⟨cells, hc, ht⟩ := hget i v hi
                obtain ⟨h1, h2⟩ := cell i cells hc
                obtain ⟨ev, h3, h4⟩ := VRel.of_vc ht.fit ht.rel
                have hsize : ev.cells.size = e.size := by rw [← h1, ← h3]; simp
                refine ⟨ev, hsize, fun j hj => ⟨⟨trivial, fun i hi => (by cases hi)⟩, ?_⟩, h4⟩
                have := h2 j (by omega)
                rw [add_plain, add_plain, ← h3] at this
                show w.cell? _ = _
                simpa using this
          · cases h
    · cases hok
  | fuel + 1, .struct fs, t, cs, d, ps, hok, hlen, h => by
    simp only [Sh.ok] at hok
    split at hok
    · rename_i gs hu
      simp only [Bool.and_eq_true, beq_iff_eq] at hok
      obtain ⟨hsz, hok⟩ := hok
      obtain ⟨hlen2, xs, hxs, _⟩ := trod_fields hu h
      obtain ⟨vs, k1, k2, k3, k4⟩ := took_fields (c := cw w) (P := P) (F := DataW.trod enc P w 0 (fun _ => true) true fuel) (fun sh t cs x h1 h2 h3 => trod_took fuel sh t cs x.1 x.2 h1 h2 h3) fs gs 0 xs hok (by rw [hlen2, hsz]; omega) hxs
      refine ⟨.agg (vs.flatMap V.vc), ⟨vs, rfl, k1⟩, rfl, ?_, k3, by simpa [V.vc] using k4⟩
      simp only [V.dat]
      exact dats_flat fun v hv => dat_vc (k2 v hv)
    · cases hok
end
end Go.Abs

set_option linter.unusedVariables false
set_option linter.unusedSimpArgs false
namespace Go.Abs
open Go.RowKit Go.ChangeShapes

theorem WExt.below {w w' : World} (x : WExt w w') : Below w.heap.size w w' := ⟨x.os, x.tape, x.output, x.size, x.same⟩

section
variable {H : Type} {enc : TypeId × Value → H} {P : Program}

def Flat : Sh → Value → Prop
  | .struct fs, v => ∃ cs, v = .agg cs ∧ cs.size = Sh.sizes fs
  | _, v => v.cells = #[v]

theorem flat_of_okWide {w : World} {r : Reach} {base : Nat} {sh : Sh} {t : TypeId} {v : Value} (hok : sh.ok P t = true) (h : Value.okWide P w r base t v) : Flat sh v := by
  unfold Value.okWide at h
  cases sh with
  | struct fs =>
    simp only [Sh.ok] at hok
    split at hok
    · rename_i gs hu
      unfold Sh.fields at hu
      simp only [Bool.and_eq_true, beq_iff_eq] at hok
      split at hu
      · rename_i hu'
        rw [hu'] at h
        obtain ⟨cs, h1, h2, _⟩ := h
        exact ⟨cs, h1, h2.trans hok.1⟩
      · rename_i hu'
        rw [hu'] at h
        obtain ⟨cs, h1, h2, _⟩ := h
        exact ⟨cs, h1, h2.trans hok.1⟩
      · cases hu
    · cases hok
  | str =>
    simp only [Sh.ok] at hok
    split at hok
    · rename_i hu
      rw [hu] at h
      cases v <;> simp only [Cell.okWide, Cell.ok, hu] at h <;> first | exact h.elim | rfl
    · cases hok
  | bool =>
    simp only [Sh.ok] at hok
    split at hok
    · rename_i hu
      rw [hu] at h
      cases v <;> simp only [Cell.okWide, Cell.ok, hu] at h <;> first | exact h.elim | rfl
    · cases hok
  | int k =>
    simp only [Sh.ok] at hok
    split at hok
    · rename_i k' hu
      rw [hu] at h
      cases v <;> simp only [Cell.okWide, Cell.ok, hu] at h <;> first | exact h.elim | rfl
    · cases hok
  | slice e =>
    simp only [Sh.ok] at hok
    split at hok
    · rename_i u hu
      rw [hu] at h
      cases v <;> simp only [Cell.okWide, Cell.ok, hu] at h <;> first | exact h.elim | rfl
    · cases hok

theorem flat_rel {c : C} {sh : Sh} {u : V} {v : Value} (hf : Flat sh v) (ht : Took c sh u v.cells.toList) : VRel c u v := by
  have one : v.cells = #[v] → u.vc = [u] → VRel c u v := by
    intro h1 h2
    have := ht.rel
    rw [h1, h2] at this
    simp only [VList] at this
    obtain ⟨y, ys, h3, h4, _⟩ := this
    simp only [List.cons.injEq] at h3
    rw [h3.1]; exact h4
  cases sh with
  | struct fs =>
    obtain ⟨cs, rfl, _⟩ := hf
    have hi := ht.is
    simp only [Sh.Is] at hi
    obtain ⟨vs, rfl, _⟩ := hi
    simp only [VRel]
    exact ⟨cs, rfl, ht.rel⟩
  | str => obtain ⟨s, rfl⟩ := ht.is; exact one hf rfl
  | bool => obtain ⟨s, rfl⟩ := ht.is; exact one hf rfl
  | int k => obtain ⟨s, rfl, _⟩ := ht.is; exact one hf rfl
  | slice e =>
    have hi := ht.is
    simp only [Sh.Is] at hi
    obtain ⟨s, rfl, _⟩ := hi
    exact one hf rfl

theorem flat_size {sh : Sh} {v : Value} (hf : Flat sh v) : v.cells.size = sh.size := by
  cases sh with
  | struct fs => obtain ⟨cs, rfl, h⟩ := hf; exact h
  | str => rw [show v.cells = #[v] from hf]; rfl
  | bool => rw [show v.cells = #[v] from hf]; rfl
  | int k => rw [show v.cells = #[v] from hf]; rfl
  | slice e => rw [show v.cells = #[v] from hf]; rfl

theorem trodAll_took {w : World} : ∀ (shs : List Sh) (ts : List TypeId) (vs : List Value) (ds : List (DataW H)) (ps : List MemPlace), shs.length = ts.length →
    (∀ (i : Nat) sh t, shs[i]? = some sh → ts[i]? = some t → sh.ok P t = true) → (∀ (i : Nat) sh v, shs[i]? = some sh → vs[i]? = some v → Flat sh v) →
    DataW.TrodAll enc P w 0 (fun _ => true) true ts vs ds ps → ∃ us, Sh.Iss shs us ∧ VList (cw w) us vs
  | [], [], vs, ds, ps, _, _, _, h => by
    obtain ⟨rfl, _, _⟩ := trodAll_nil h
    exact ⟨[], rfl, by simp only [VList]⟩
  | [], _ :: _, _, _, _, hl, _, _, _ => by simp at hl
  | _ :: _, [], _, _, _, hl, _, _, _ => by simp at hl
  | sh :: shs, t :: ts, vs, ds, ps, hl, hok, hsz, h => by
    obtain ⟨v, vs', d, ds', p, q, rfl, rfl, rfl, h1, h2⟩ := trodAll_cons h
    obtain ⟨fuel, hf⟩ := h1
    have hfl := hsz 0 sh v rfl rfl
    obtain ⟨u, hu⟩ := trod_took fuel sh t _ d p (hok 0 sh t rfl rfl) (by simpa using flat_size hfl) hf
    obtain ⟨us, k1, k2⟩ := trodAll_took shs ts vs' ds' q (by simpa using hl) (fun i sh t h1 h2 => hok (i + 1) sh t (by simpa using h1) (by simpa using h2)) (fun i sh v h1 h2 => hsz (i + 1) sh v (by simpa using h1) (by simpa using h2)) h2
    refine ⟨u :: us, ⟨u, us, rfl, hu.is, k1⟩, ?_⟩
    simp only [VList]
    exact ⟨v, vs', rfl, flat_rel hfl hu, k2⟩

theorem trodAll_stays {W W' : World} (hl : laidOutB P = true) (hb : Below W.heap.size W W') : ∀ (ts : List TypeId) (vs : List Value) (ds : List (DataW H)) (ps : List MemPlace),
    (ts.all fun t => P.readableRec t && decide (t < P.types.size)) = true → (∀ x ∈ ps, x.block < W.heap.size) → DataW.TrodAll enc P W 0 (fun _ => true) true ts vs ds ps →
    DataW.TrodAll enc P W' 0 (fun b => decide (b < W.heap.size)) true ts vs ds ps
  | [], vs, ds, ps, _, _, h => by
    obtain ⟨rfl, rfl, rfl⟩ := trodAll_nil h
    exact trodAll_mk0
  | t :: ts, vs, ds, ps, ht, hlt, h => by
    obtain ⟨v, vs', d, ds', p, q, rfl, rfl, rfl, h1, h2⟩ := trodAll_cons h
    simp only [List.all_cons, Bool.and_eq_true, decide_eq_true_eq] at ht
    exact ⟨p, q, Below.trod hl ht.1.1 ht.1.2 h1 hb (fun x hx => hlt x (by simp [hx])), trodAll_stays hl hb ts vs' ds' q (by simpa using ht.2) (fun x hx => hlt x (by simp [hx])) h2, rfl⟩

theorem trod_len {w : World} {base : Nat} {sp : Nat → Bool} {held : Bool} : ∀ {ts : List TypeId} {vs : List Value} {ds : List (DataW H)} {ps : List MemPlace}, DataW.TrodAll enc P w base sp held ts vs ds ps → ds.length = ts.length
  | [], _, _, _, h => by obtain ⟨_, rfl, _⟩ := trodAll_nil h; rfl
  | t :: ts, vs, ds, ps, h => by
    obtain ⟨v, vs', d, ds', p, q, rfl, rfl, rfl, _, h2⟩ := trodAll_cons h
    simp [trod_len h2]

/-- A law that only computes, and says true of whatever it is handed. -/
theorem law_contract {fn : Func} {f : FuncId} {s : ChangeSpec} {shs : List Sh} (hl : laidOutB P = true) (hlen : shs.length = fn.params.size)
    (hok : ∀ (i : Nat) sh t, shs[i]? = some sh → fn.params[i]? = some t → sh.ok P t = true) (hread : (fn.params.toList.all fun t => P.readableRec t && decide (t < P.types.size)) = true)
    (hres : ∃ tb, fn.resultTypes = #[tb] ∧ P.underlying tb = some .bool) (hvars : s.vars = [])
    (hspec : ∀ ds : List (DataW H), ds.length = shs.length → (s.fn H (ds ++ [])).results = [.lit (.bool true)] ∧ (s.fn H (ds ++ [])).args = ds ∧ (s.fn H (ds ++ [])).vars = [])
    (hev : ∀ us, Sh.Iss shs us → Ev { P := P } f us (.bool true))
    (W : World) (base : Nat) (args : Array Value) (ds gs : List (DataW H)) (before : List MemPlace)
    (hval : ∀ (j : Nat) t v, fn.params[j]? = some t → args[j]? = some v → Value.okWide P W .any base t v)
    (hW : DataW.Whole enc P fn.params.toList s.vars false W args.toList ds gs before) :
    Calls P f args W fun e W' => ∃ v, e = .returned v ∧ s.post enc P fn false true false false W args v W' := by
  have hW' := hW
  obtain ⟨p, q, hA, hV, rfl, hfz, hnd⟩ := hW
  rw [hvars] at hV
  obtain ⟨rfl, rfl⟩ := trodVars_none hV
  obtain ⟨us, k1, k2⟩ := trodAll_took shs fn.params.toList args.toList ds p (by simpa using hlen) (fun i sh t h1 h2 => hok i sh t h1 (by simpa using h2)) (fun i sh v h1 h2 => by
    have hi : i < fn.params.size := by have := (List.getElem?_eq_some_iff.1 h1).1; omega
    exact flat_of_okWide (hok i sh fn.params[i] h1 (by simp [hi])) (hval i fn.params[i] v (by simp [hi]) (by simpa using h2))) hA
  have hs : HSim { P := P } (fun _ => True) (fun _ => none) [] W := ⟨fun _ _ => trivial, fun i b hi => (by cases hi), fun i b hi => (by cases hi), fun i j b hi => (by cases hi), fun i b hi => (by cases hi), fun i o ho => (by simp at ho), fun g v hg => (by cases hg), fun g v hg => (by cases hg)⟩
  have hc := hev us k1 _ W args.toList hs k2
  rw [show args.toList.toArray = args from Array.toArray_toList] at hc
  refine hc.mono ?_
  rintro en W' ⟨x, rfl, hx, hv⟩
  simp only [VRel] at hv
  subst hv
  obtain ⟨tb, hr1, hr2⟩ := hres
  have hdl : ds.length = shs.length := by rw [trod_len hA, hlen]; simp
  obtain ⟨e1, e2, e3⟩ := hspec ds hdl
  refine ⟨_, rfl, ds, [], p ++ [], [], p, [], hW', ?_, ?_, ?_, hx.below.frame _, fun h => (by cases h)⟩
  · rw [e1, hr1]
    exact trodAll_mk1 ⟨1, by simp [DataW.trod, Value.cells, hr2]⟩
  · rw [e2]
    exact trodAll_stays hl hx.below fn.params.toList args.toList ds p hread (fun y hy => hA.lt y hy) hA
  · rw [e3, hvars]
    rfl
end
end Go.Abs

set_option linter.unusedVariables false
namespace Go.Abs
open Go
theorem dat_bool (b : Bool) : V.dat (.bool b) = true := by simp only [V.dat]
theorem dat_int (k : IntKind) (n : Int) : V.dat (.int k n) = true := by simp only [V.dat]
theorem dat_str (s : List UInt8) : V.dat (.str s) = true := by simp only [V.dat]
theorem dat_nilp : V.dat (.nilp) = true := by simp only [V.dat]
theorem dat_ip (e : V) : V.dat (.ip e) = true := by simp only [V.dat]
theorem dat_nils : V.dat (.nils) = true := by simp only [V.dat]
theorem dat_is (x : Bool) (k : Nat) (es : List V) : V.dat (.is x k es) = true := by simp only [V.dat]
theorem dat_nilm : V.dat (.nilm) = true := by simp only [V.dat]
theorem dat_im (ks vs : List V) : V.dat (.im ks vs) = true := by simp only [V.dat]
theorem dat_nilf : V.dat (.nilf) = true := by simp only [V.dat]
theorem dat_nili : V.dat (.nili) = true := by simp only [V.dat]
theorem dat_lp (i o : Nat) : V.dat (.lp i o) = false := by simp only [V.dat]
theorem dat_ls (i k o l c : Nat) : V.dat (.ls i k o l c) = false := by simp only [V.dat]
theorem dat_lm (i : Nat) : V.dat (.lm i) = false := by simp only [V.dat]
theorem dat_row (k : Nat) (es : List V) : V.dat (.row k es) = false := by simp only [V.dat]
theorem dat_agg (vs : List V) : V.dat (.agg vs) = V.dats vs := by simp only [V.dat]
theorem dat_iface (t : TypeId) (e : V) : V.dat (.iface t e) = e.dat := by simp only [V.dat]
theorem dats_nil : V.dats [] = true := by simp only [V.dats]
theorem dats_cons (v : V) (vs : List V) : V.dats (v :: vs) = (v.dat && V.dats vs) := by simp only [V.dats]
def sa0 :=
  PLift.up <|
  And.intro (@Go.Abs.vc_seq) <|
  And.intro (@Go.Abs.vcPlan_fin) <|
  And.intro (@Go.Abs.vcPlan_take) <|
  And.intro (@Go.Abs.vcPlan_one) <|
  And.intro (@Go.Abs.vcPlan_alt) <|
  And.intro (@Go.Abs.vcOp_mk) <|
  And.intro (@Go.Abs.vc_region) <|
  And.intro (@Go.Abs.vc_drawn) <|
  And.intro (@List.all_cons.{0}) <|
  And.intro (@List.all_nil.{0}) <|
  And.intro (@Go.Abs.vc_ret) <|
  And.intro (@Go.Abs.vc_skip) <|
  And.intro (@Go.Abs.vc_block) <|
  And.intro (@Go.Abs.vc_exit) <|
  And.intro (@Go.Abs.vc_loop) <|
  And.intro (@Go.Abs.vc_rangeFunc) <|
  And.intro (@Go.Abs.vc_cond) <|
  And.intro (@Go.Abs.vcOps_cons) <|
  And.intro (@Go.Abs.vcOps_grd) <|
  And.intro (@Go.Abs.vcOps_nil) <|
  And.intro (@Go.Abs.vcQuiet_cons) <|
  And.intro (@Go.Abs.vcQuiet_grd) <|
  And.intro (@Go.Abs.vcQuiet_nil) <|
  And.intro (@Go.Abs.goQ_true) <|
  And.intro (@Go.Abs.goQ_false) <|
  And.intro (@Go.Abs.goQ_sym) <|
  And.intro (@Go.Abs.effG_true) <|
  And.intro (@Go.Abs.effG_false) <|
  And.intro (@Go.Abs.ev_tmp) <|
  @Go.Abs.put_t
def sa1 :=
  PLift.up <|
  And.intro (@Go.Abs.put_d) <|
  And.intro (@Go.Abs.ev_const) <|
  And.intro (@Go.Abs.ev_func) <|
  And.intro (@Go.Abs.init_t) <|
  And.intro (@Go.Abs.init_d) <|
  And.intro (@Go.Abs.seq_normal) <|
  And.intro (@Go.Abs.seq_ret) <|
  And.intro (@Go.Abs.seq_exit) <|
  And.intro (@Go.Abs.block_normal) <|
  And.intro (@Go.Abs.block_exit) <|
  And.intro (@Go.Abs.block_ret) <|
  And.intro (@Go.Abs.put_none) <|
  And.intro (@Go.Abs.PV.and_mk) <|
  And.intro (@Go.Abs.PV.go_true) <|
  And.intro (@Go.Abs.PV.go_false) <|
  And.intro (@Go.Abs.PV.go_sym) <|
  And.intro (@Go.Abs.vcB_true) <|
  And.intro (@Go.Abs.vcB_false) <|
  And.intro (@decide_true) <|
  And.intro (@decide_false) <|
  And.intro (@true_and) <|
  And.intro (@and_true) <|
  And.intro (@and_self) <|
  And.intro (@imp_self) <|
  And.intro (@implies_true.{0}) <|
  And.intro (@forall_const.{0}) <|
  And.intro (@forall_const.{1}) <|
  And.intro (@List.getD_cons_zero.{0}) <|
  And.intro (@List.getD_cons_succ.{0}) <|
  @List.length_nil.{0}
def sa2 :=
  PLift.up <|
  And.intro (@Bool.or_true) <|
  And.intro (@Bool.false_or) <|
  And.intro (@Bool.true_or) <|
  And.intro (@Bool.or_false) <|
  And.intro (@Bool.and_true) <|
  And.intro (@Bool.true_and) <|
  And.intro (@Bool.and_false) <|
  And.intro (@Bool.false_and) <|
  And.intro (@Bool.not_true) <|
  And.intro (@Bool.not_false) <|
  And.intro (@List.length_map.{0,0}) <|
  And.intro (@List.nil_append.{0}) <|
  And.intro (@List.cons_append.{0}) <|
  And.intro (@List.length_cons.{0}) <|
  And.intro (@List.getElem?_cons_zero.{0}) <|
  And.intro (@List.getElem?_cons_succ.{0}) <|
  And.intro (@cond_true.{1}) <|
  And.intro (@cond_false.{1}) <|
  And.intro (@Bool.cond_false_right) <|
  And.intro (@Bool.cond_true_right) <|
  And.intro (@Bool.cond_true_left) <|
  And.intro (@Bool.cond_false_left) <|
  And.intro (@List.map_cons.{0,0}) <|
  And.intro (@List.map_nil.{0,0}) <|
  And.intro (@List.append_nil.{0}) <|
  And.intro (@List.zip_cons_cons.{0,0}) <|
  And.intro (@beq_self_eq_true.{0}) <|
  And.intro (@Option.bind_some.{0,0}) <|
  And.intro (@List.append_eq.{0}) <|
  @List.forall_mem_cons.{0}
def sa3 :=
  PLift.up <|
  And.intro (@List.not_mem_nil.{0}) <|
  And.intro (@Go.Abs.drop_k) <|
  And.intro (@Go.Abs.put_k) <|
  And.intro (@Go.Abs.init_k) <|
  And.intro (@beq_true) <|
  And.intro (@beq_false) <|
  And.intro (@Bool.false_eq_true) <|
  And.intro (@true_or) <|
  And.intro (@or_true) <|
  And.intro (@Go.Abs.drop_t) <|
  And.intro (@Go.Abs.drop_d) <|
  And.intro (@Go.Abs.O.drop_cells) <|
  And.intro (@Go.Abs.O.drop_map) <|
  And.intro (@Go.Abs.O.drop_misc) <|
  And.intro (@Go.Abs.O.drop_typed) <|
  And.intro (@Go.Abs.O.drop_dead) <|
  And.intro (@Go.Abs.drops_strs) <|
  And.intro (@Go.Abs.V.drops_append) <|
  And.intro (@false_imp_iff) <|
  And.intro (@List.take_zero.{0}) <|
  And.intro (@List.take_succ_cons.{0}) <|
  And.intro (@List.take_nil.{0}) <|
  And.intro (@List.drop_succ_cons.{0}) <|
  And.intro (@List.drop_nil.{0}) <|
  And.intro (@List.set_cons_zero.{0}) <|
  And.intro (@List.set_cons_succ.{0}) <|
  And.intro (@List.length_append.{0}) <|
  And.intro (@List.map_append.{0,0}) <|
  And.intro (@Bool.not_eq_true') <|
  And.intro (@Bool.not_eq_false') <|
  @Nat.le_refl
def sa4 :=
  PLift.up <|
  And.intro (@Nat.zero_add) <|
  And.intro (@Nat.add_zero) <|
  And.intro (@Option.toList_some.{0}) <|
  And.intro (@Option.toList_none.{0}) <|
  And.intro (@Option.map_some.{0,0}) <|
  And.intro (@Option.map_none.{0,0}) <|
  And.intro (@Int.toNat_natCast) <|
  And.intro (@Int.toNat_zero) <|
  And.intro (@Nat.sub_zero) <|
  And.intro (@List.drop_zero.{0}) <|
  And.intro (@Go.Abs.callK_ret) <|
  And.intro (@Go.Abs.V.guard_true) <|
  And.intro (@Go.Abs.V.guard_sv) <|
  And.intro (@Go.Abs.V.guard_sc) <|
  And.intro (@Go.Abs.V.guard_gval) <|
  And.intro (@Go.Abs.V.guard_gval2) <|
  And.intro (@Go.Abs.V.guard_gval3) <|
  And.intro (@Go.Abs.V.guard_false) <|
  @List.getElem?_toArray.{0}
def sb0 :=
  PLift.up <|
  And.intro (@Go.Abs.onlyN.eq_def) <|
  And.intro (@Go.Abs.quietOp.eq_def) <|
  And.intro (@Go.Abs.normK.eq_def) <|
  And.intro (@Go.Abs.isEff.eq_def) <|
  And.intro (@Go.Abs.vcEff.eq_def) <|
  And.intro (@Go.Abs.pvOp.eq_def) <|
  And.intro (@Go.Abs.dstOk.eq_def) <|
  And.intro (@Go.Abs.vcCall.eq_def) <|
  And.intro (@Go.Abs.vcNil.eq_def) <|
  And.intro (@Go.Abs.vcAppend.eq_def) <|
  And.intro (@Go.Abs.callOn.eq_def) <|
  And.intro (@Go.Abs.callSc.eq_def) <|
  And.intro (@Go.Abs.allSc.eq_1) <|
  And.intro (@Go.Abs.allSc.eq_2) <|
  And.intro (@Go.Abs.V.sv.eq_1) <|
  And.intro (@Go.Abs.V.sv.eq_2) <|
  And.intro (@Go.Abs.V.sc.eq_1) <|
  And.intro (@Go.Abs.V.sc.eq_2) <|
  And.intro (@Go.Abs.V.fit.eq_def) <|
  And.intro (@Go.Abs.V.vc.eq_def) <|
  And.intro (@Go.Abs.V.one.eq_def) <|
  And.intro (@Go.Abs.V.sub.eq_def) <|
  And.intro (@Go.Abs.ofVal.eq_def) <|
  And.intro (@Go.Abs.pvFieldAddr.eq_def) <|
  And.intro (@Go.Abs.pvField.eq_def) <|
  And.intro (@Go.Abs.pvLoad.eq_def) <|
  And.intro (@Go.Abs.pvAt.eq_def) <|
  And.intro (@Go.Abs.hcells.eq_def) <|
  And.intro (@Go.Abs.pvUn.eq_def) <|
  And.intro (@Go.Abs.pvBin2.eq_def) <|
  And.intro (@Go.Abs.pvAgg.eq_def) <|
  And.intro (@Go.Abs.vints.eq_1) <|
  And.intro (@Go.Abs.vints.eq_2) <|
  @Go.Abs.pvBin.eq_def
def sb1 :=
  PLift.up <|
  And.intro (@Go.Abs.pvInt.eq_def) <|
  And.intro (@Go.Abs.pvStr.eq_def) <|
  And.intro (@Go.Abs.pvPick.eq_def) <|
  And.intro (@Go.Abs.pvPart.eq_def) <|
  And.intro (@Go.Abs.pvBuild.eq_def) <|
  And.intro (@Go.Abs.pvLen.eq_def) <|
  And.intro (@Go.Abs.pvIndexAddr.eq_def) <|
  And.intro (@Go.Abs.pvIndex.eq_def) <|
  And.intro (@Go.Abs.pvSlice.eq_def) <|
  And.intro (@Go.Abs.K.isSlice.eq_def) <|
  And.intro (@Go.Abs.K.isMap.eq_def) <|
  And.intro (@Go.Abs.TI.agg.eq_def) <|
  And.intro (@Go.Abs.putAll.eq_1) <|
  And.intro (@Go.Abs.putAll.eq_2) <|
  And.intro (@Go.Abs.pvLookup.eq_def) <|
  And.intro (@Go.Abs.K.keyOk.eq_def) <|
  And.intro (@Go.Abs.V.dats.eq_1) <|
  And.intro (@Go.Abs.V.dats.eq_2) <|
  And.intro (@Go.Abs.V.dat.eq_1) <|
  And.intro (@Go.Abs.V.dat.eq_2) <|
  And.intro (@Go.Abs.V.dat.eq_3) <|
  And.intro (@Go.Abs.V.dat.eq_4) <|
  And.intro (@Go.Abs.V.dat.eq_5) <|
  And.intro (@Go.Abs.V.dat.eq_6) <|
  And.intro (@Go.Abs.V.dat.eq_7) <|
  And.intro (@Go.Abs.V.dat.eq_8) <|
  And.intro (@Go.Abs.V.dat.eq_9) <|
  And.intro (@Go.Abs.V.dat.eq_10) <|
  And.intro (@Go.Abs.V.drop.eq_1) <|
  @Go.Abs.V.drop.eq_2
def sb2 :=
  PLift.up <|
  And.intro (@Go.Abs.V.drop.eq_3) <|
  And.intro (@Go.Abs.V.drop.eq_4) <|
  And.intro (@Go.Abs.V.drop.eq_5) <|
  And.intro (@Go.Abs.V.drop.eq_6) <|
  And.intro (@Go.Abs.V.drop.eq_7) <|
  And.intro (@Go.Abs.V.drop.eq_8) <|
  And.intro (@Go.Abs.V.drop.eq_9) <|
  And.intro (@Go.Abs.V.drop.eq_10) <|
  And.intro (@Go.Abs.V.drop.eq_11) <|
  And.intro (@Go.Abs.V.drops.eq_1) <|
  And.intro (@Go.Abs.V.drops.eq_2) <|
  And.intro (@Go.Abs.pvPlaces.eq_1) <|
  And.intro (@Go.Abs.pvPlaces.eq_2) <|
  And.intro (@Go.Abs.fillV.eq_1) <|
  And.intro (@Go.Abs.fillV.eq_2) <|
  And.intro (@Go.Abs.splice.eq_def) <|
  And.intro (@Go.Abs.allOne.eq_1) <|
  And.intro (@Go.Abs.allOne.eq_2) <|
  And.intro (@Go.Abs.srcTy.eq_def) <|
  And.intro (@Go.Abs.srcFit.eq_def) <|
  And.intro (@Go.Abs.srcEls.eq_def) <|
  And.intro (@Go.Abs.isExact.eq_def) <|
  And.intro (@Nat.lt_irrefl) <|
  And.intro (@Go.Abs.dat_bool) <|
  And.intro (@Go.Abs.dat_int) <|
  And.intro (@Go.Abs.dat_str) <|
  And.intro (@Go.Abs.dat_nilp) <|
  And.intro (@Go.Abs.dat_ip) <|
  And.intro (@Go.Abs.dat_nils) <|
  And.intro (@Go.Abs.dat_is) <|
  And.intro (@Go.Abs.dat_nilm) <|
  And.intro (@Go.Abs.dat_im) <|
  And.intro (@Go.Abs.dat_nilf) <|
  And.intro (@Go.Abs.dat_nili) <|
  And.intro (@Go.Abs.dat_lp) <|
  And.intro (@Go.Abs.dat_ls) <|
  And.intro (@Go.Abs.dat_lm) <|
  And.intro (@Go.Abs.dat_row) <|
  And.intro (@Go.Abs.dat_agg) <|
  And.intro (@Go.Abs.dat_iface) <|
  And.intro (@Go.Abs.dats_nil) <|
  And.intro (@Go.Abs.dats_cons) <|
  And.intro (@Go.Abs.allFitL.eq_def) <|
  And.intro (@Go.Abs.bsOk.eq_def) <|
  And.intro (@Go.Abs.allFit.eq_1) <|
  And.intro (@Go.Abs.allFit.eq_2) <|
  And.intro (@Go.Abs.skipK.eq_def) <|
  And.intro (@Go.Abs.gd.eq_def) <|
  And.intro (@Go.Abs.gval.eq_1) <|
  And.intro (@Go.Abs.gval.eq_2) <|
  And.intro (@Go.Abs.gval.eq_3) <|
  @Go.Abs.gval.eq_4
def sb3 :=
  PLift.up <|
  And.intro (@Go.Abs.gval.eq_5) <|
  And.intro (@Go.Abs.gval.eq_6) <|
  And.intro (@Go.Abs.fnPost.eq_def) <|
  And.intro (@Go.Abs.evPost.eq_def) <|
  And.intro (@Go.Abs.fnEnd.eq_def) <|
  And.intro (@Go.Abs.evEnd.eq_def) <|
  And.intro (@Go.Abs.shutAll.eq_1) <|
  And.intro (@Go.Abs.shutAll.eq_2) <|
  And.intro (@Go.Abs.resPV.eq_def) <|
  And.intro (@Go.Abs.resOne.eq_def) <|
  And.intro (@Go.Abs.resAll.eq_1) <|
  @Go.Abs.resAll.eq_2
def sz :=
  PLift.up <|
  And.intro sa0.down <|
  And.intro sa1.down <|
  And.intro sa2.down <|
  And.intro sa3.down <|
  And.intro sa4.down <|
  And.intro sb0.down <|
  And.intro sb1.down <|
  And.intro sb2.down <|
  sb3.down
end Go.Abs
