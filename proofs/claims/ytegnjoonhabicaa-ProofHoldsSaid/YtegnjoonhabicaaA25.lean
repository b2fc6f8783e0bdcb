/- Abstract values, heaps and frames over the calculus, part 25. -/
import Derived.Test.YtegnjoonhabicaaA24
set_option linter.unusedVariables false
set_option linter.unusedSimpArgs false
namespace Go.Abs
open Go.RowKit

/-! ### What a law is handed -/
inductive Sh where
  | str
  | bool
  | int (k : IntKind)
  | slice (e : Sh)
  | struct (fs : List Sh)

mutual
def Sh.size : Sh → Nat
  | .str | .bool | .int _ | .slice _ => 1
  | .struct fs => Sh.sizes fs
def Sh.sizes : List Sh → Nat
  | [] => 0
  | s :: ss => s.size + Sh.sizes ss
end

mutual
/-- Is a type of this shape? -/
def Sh.ok (P : Program) : Sh → TypeId → Bool
  | .str, t => match P.underlying t with | some .string => true | _ => false
  | .bool, t => match P.underlying t with | some .bool => true | _ => false
  | .int k, t => match P.underlying t with | some (.int k') => k' == k | _ => false
  | .slice e, t => match P.underlying t with | some (.slice u) => P.cellsOf u == e.size && decide (0 < e.size) && e.ok P u | _ => false
  | .struct fs, t => match P.underlying t with | some (.struct gs) => P.cellsOf t == Sh.sizes fs && Sh.oks P fs gs.toList 0 | _ => false
def Sh.oks (P : Program) : List Sh → List Field → Nat → Bool
  | [], [], _ => true
  | s :: ss, g :: gs, off => g.offset == off && P.cellsOf g.type == s.size && s.ok P g.type && Sh.oks P ss gs (off + s.size)
  | _, _, _ => false
end

mutual
def Sh.Is : Sh → V → Prop
  | .str, v => ∃ s, v = .str s
  | .bool, v => ∃ b, v = .bool b
  | .int k, v => ∃ n, v = .int k n ∧ (Lit.int k n).wf = true
  | .slice e, v => ∃ es, v = .is false e.size es ∧ ∀ x ∈ es, Sh.Is e x
  | .struct fs, v => ∃ vs, v = .agg (vs.flatMap V.vc) ∧ Sh.Iss fs vs
def Sh.Iss : List Sh → List V → Prop
  | [], vs => vs = []
  | s :: ss, vs => ∃ u us, vs = u :: us ∧ Sh.Is s u ∧ Sh.Iss ss us
end

theorem mapM_some {α β : Type} {f : α → Option β} : ∀ {l : List α} {r : List β}, l.mapM f = some r → r.length = l.length ∧ ∀ (i : Nat) x, l[i]? = some x → ∃ y, f x = some y ∧ r[i]? = some y
  | [], r, h => by simp at h; subst h; simp
  | a :: l, r, h => by
    rw [List.mapM_cons] at h
    simp only [Option.bind_eq_bind, Option.bind_eq_some_iff, Option.pure_def, Option.some.injEq] at h
    obtain ⟨y, h1, ys, h2, rfl⟩ := h
    obtain ⟨h3, h4⟩ := mapM_some h2
    refine ⟨by simp [h3], fun i x hx => ?_⟩
    cases i with
    | zero => simp at hx; subst hx; exact ⟨y, h1, rfl⟩
    | succ i => simpa using h4 i x (by simpa using hx)

/-- The reading of a world in which all is data. -/
abbrev cw (w : World) : C := cx (fun _ => True) (fun _ => none) w

structure Took (c : C) (sh : Sh) (v : V) (cs : List Value) : Prop where
  is : sh.Is v
  fit : v.fit = true
  dat : v.dat = true
  len : v.vc.length = sh.size
  rel : VList c v.vc cs

theorem Took.one {c : C} {sh : Sh} {v : V} {x : Value} (h1 : sh.Is v) (h2 : v.one = true) (hd : v.dat = true) (hs : sh.size = 1) (hr : VRel c v x) : Took c sh v [x] := by
  have hv : v.vc = [v] := by cases v <;> first | rfl | simp [V.one] at h2
  refine ⟨h1, by simp [V.fit, h2], hd, by rw [hv, hs]; rfl, ?_⟩
  rw [hv]
  simp only [VList]
  exact ⟨x, [], rfl, hr, rfl⟩

theorem dats_flat : ∀ {vs : List V}, (∀ v ∈ vs, V.dats v.vc = true) → V.dats (vs.flatMap V.vc) = true
  | [], _ => rfl
  | v :: vs, h => by
    have app : ∀ (a b : List V), V.dats (a ++ b) = (V.dats a && V.dats b) := by
      intro a b
      induction a with
      | nil => rfl
      | cons x a ih => simp only [List.cons_append, V.dats, ih, Bool.and_assoc]
    rw [List.flatMap_cons, app, h v (by simp), dats_flat fun u hu => h u (by simp [hu])]
    rfl
theorem dat_vc {v : V} (h : v.dat = true) : V.dats v.vc = true := by
  cases v <;> first | (simp only [V.vc, V.dats, h, Bool.and_self]; done) | (simp only [V.dat] at h; exact h)

section
variable {H : Type} {enc : TypeId × Value → H} {P : Program} {w : World}

theorem took_fields {c : C} {cs : List Value} {F : TypeId → List Value → Option (DataW H × List MemPlace)}
    (IH : ∀ (sh : Sh) (t : TypeId) (cs : List Value) x, sh.ok P t = true → cs.length = sh.size → F t cs = some x → ∃ v, Took c sh v cs) :
    ∀ (fs : List Sh) (gs : List Field) (off : Nat) (xs : List (DataW H × List MemPlace)), Sh.oks P fs gs off = true → off + Sh.sizes fs = cs.length →
      (gs.mapM fun f => F f.type ((cs.drop f.offset).take (P.cellsOf f.type))) = some xs →
      ∃ vs, Sh.Iss fs vs ∧ (∀ v ∈ vs, v.dat = true) ∧ (vs.flatMap V.vc).length = Sh.sizes fs ∧ VList c (vs.flatMap V.vc) (cs.drop off)
  | [], [], off, xs, _, hl, _ => by
    refine ⟨[], rfl, by simp, rfl, ?_⟩
    simp only [Sh.sizes] at hl
    rw [List.drop_of_length_le (by omega)]
    simp only [List.flatMap_nil, VList]
  | [], _ :: _, _, _, h, _, _ => by simp [Sh.oks] at h
  | _ :: _, [], _, _, h, _, _ => by simp [Sh.oks] at h
  | s :: ss, g :: gs, off, xs, hok, hl, hm => by
    simp only [Sh.oks, Bool.and_eq_true, beq_iff_eq] at hok
    obtain ⟨⟨⟨h1, h2⟩, h3⟩, h4⟩ := hok
    simp only [Sh.sizes] at hl
    rw [List.mapM_cons] at hm
    simp only [Option.bind_eq_bind, Option.bind_eq_some_iff, Option.pure_def, Option.some.injEq] at hm
    obtain ⟨y, hy, ys, hys, rfl⟩ := hm
    rw [h1, h2] at hy
    obtain ⟨v, hv⟩ := IH s g.type _ y h3 (by rw [List.length_take, List.length_drop]; omega) hy
    obtain ⟨vs, k1, k2, k3, k4⟩ := took_fields IH ss gs (off + s.size) ys h4 (by omega) hys
    refine ⟨v :: vs, ⟨v, vs, rfl, hv.is, k1⟩, ?_, ?_, ?_⟩
    · intro u hu
      rcases List.mem_cons.1 hu with rfl | hu
      · exact hv.dat
      · exact k2 u hu
    · rw [List.flatMap_cons, List.length_append, hv.len, k3]; rfl
    · rw [List.flatMap_cons]
      have : cs.drop off = (cs.drop off).take s.size ++ cs.drop (off + s.size) := by
        rw [← List.drop_drop, List.take_append_drop]
      rw [this]
      exact hv.rel.append k4

theorem trod_took : ∀ (fuel : Nat) (sh : Sh) (t : TypeId) (cs : List Value) (d : DataW H) (ps : List MemPlace), sh.ok P t = true → cs.length = sh.size →
    DataW.trod enc P w 0 (fun _ => true) true fuel t cs = some (d, ps) → ∃ v, Took (cw w) sh v cs
  | 0, _, _, _, _, _, _, _, h => by simp [DataW.trod] at h
  | fuel + 1, .str, t, [x], d, ps, hok, hlen, h => by
    simp only [Sh.ok] at hok
    split at hok
    · rename_i hu
      cases x <;> simp only [DataW.trod, hu, reduceCtorEq] at h
      case string s =>
        split at h
        · rename_i hs
          refine ⟨.str s.data.toList, Took.one ⟨_, rfl⟩ rfl rfl rfl ?_⟩
          simp only [VRel]
          exact ⟨s, rfl, rfl, by rw [Array.length_toList]; exact hs⟩
        · cases h
    · cases hok
  | fuel + 1, .bool, t, [x], d, ps, hok, hlen, h => by
    simp only [Sh.ok] at hok
    split at hok
    · rename_i hu
      cases x <;> simp only [DataW.trod, hu, reduceCtorEq] at h
      case bool b => exact ⟨.bool b, Took.one ⟨_, rfl⟩ rfl rfl rfl (by simp only [VRel])⟩
    · cases hok
  | fuel + 1, .int k, t, [x], d, ps, hok, hlen, h => by
    simp only [Sh.ok] at hok
    split at hok
    · rename_i k' hu
      have hk : k' = k := by simpa using hok
      subst hk
      cases x <;> simp only [DataW.trod, hu, reduceCtorEq] at h
      case int k2 n =>
        split at h
        · rename_i hs
          obtain ⟨rfl, hw⟩ := hs
          exact ⟨.int k2 n, Took.one ⟨_, rfl, hw⟩ rfl rfl rfl (by simp only [VRel])⟩
        · cases h
    · cases hok
  | fuel + 1, .slice e, t, [x], d, ps, hok, hlen, h => by
    simp only [Sh.ok] at hok
    split at hok
    · rename_i u hu
      simp only [Bool.and_eq_true, beq_iff_eq, decide_eq_true_eq] at hok
      obtain ⟨⟨hsz, hpos⟩, hok⟩ := hok
      cases x <;> simp only [DataW.trod, hu, reduceCtorEq] at h
      case slice a len cap =>
        cases a with
        | none =>
          have hz : len = 0 ∧ cap = 0 := by
            cases len <;> cases cap <;> simp [DataW.trod, hu] at h ⊢
          obtain ⟨rfl, rfl⟩ := hz
          refine ⟨.is false e.size [], Took.one ⟨[], rfl, by simp⟩ rfl rfl rfl ?_⟩
          simp only [VRel]
          exact ⟨none, 0, rfl, Nat.le_refl _, Nat.zero_le _, fun hf => (by cases hf), .inl trivial⟩
        | some a =>
          simp only [DataW.trod, hu] at h
          split at h
          · rename_i hcond
            rw [Option.bind_eq_some_iff] at h
            obtain ⟨elems, hel, _⟩ := h
            have hm := mapM_some hel
            have key : ∀ i : Fin len, ∃ v cells, w.cells? 0 (a.add (i.1 * e.size)) e.size = some cells ∧ Took (cw w) e v cells := by
              intro i
              obtain ⟨y, hy, _⟩ := hm.2 i.1 i.1 (by simp)
              rw [Option.bind_eq_some_iff] at hy
              obtain ⟨cells, hc, ht⟩ := hy
              rw [hsz] at hc
              have hcl : cells.length = e.size := by
                unfold World.cells? at hc
                split at hc
                · have := (mapM_some hc).1; simpa using this
                · cases hc
              obtain ⟨v, hv⟩ := trod_took fuel e u cells y.1 y.2 hok hcl ht
              exact ⟨v, cells, hc, hv⟩
            let es : List V := List.ofFn fun i => (key i).choose
            have hlen2 : es.length = len := by simp [es]
            have hget : ∀ (i : Nat) (v : V), es[i]? = some v → ∃ cells, w.cells? 0 (a.add (i * e.size)) e.size = some cells ∧ Took (cw w) e v cells := by
              intro i v hi
              have hi2 : i < len := by have := (List.getElem?_eq_some_iff.1 hi).1; omega
              have : es[i]? = some (key ⟨i, hi2⟩).choose := by simp [es, hi2]
              rw [this] at hi
              cases hi
              exact (key ⟨i, hi2⟩).choose_spec
            refine ⟨.is false e.size es, Took.one ⟨es, rfl, ?_⟩ rfl rfl rfl ?_⟩
            · intro x hx
              obtain ⟨i, hi, rfl⟩ := List.mem_iff_getElem.1 hx
              obtain ⟨cells, _, ht⟩ := hget i es[i] (by simp [hi])
              exact ht.is
            · simp only [VRel]
              refine ⟨some a, cap, by rw [hlen2], by rw [hlen2]; exact hcond.2.1, hcond.2.2, fun hf => (by cases hf), ?_⟩
              have cell : ∀ (i : Nat) (cells : List Value), w.cells? 0 (a.add (i * e.size)) e.size = some cells → cells.length = e.size ∧ ∀ j, j < e.size → w.cell? ((a.add (i * e.size)).add j) = cells[j]? := by
                intro i cells hc
                unfold World.cells? at hc
                split at hc
                · have hm2 := mapM_some hc
                  refine ⟨by simpa using hm2.1, fun j hj => ?_⟩
                  obtain ⟨y, hy1, hy2⟩ := hm2.2 j j (by simp [hj])
                  rw [hy1, hy2]
                · cases hc
              by_cases h0 : len = 0
              · left; exact List.length_eq_zero_iff.1 (by omega)
              · right
                obtain ⟨b, off, spot⟩ := a
                have hs : spot = none := by
                  obtain ⟨v, cells, hc, _⟩ := key ⟨0, by omega⟩
                  obtain ⟨h1, h2⟩ := cell 0 cells hc
                  have h3 := h2 0 hpos
                  have h4 : cells[0]? = some (cells[0]'(by omega)) := by simp
                  rw [h4] at h3
                  simpa [Addr.add] using World.cell?_spot h3
                subst hs
                refine ⟨b, off, rfl, VElems.of_get fun i v hi => ?_⟩
                obtain ⟨cells, hc, ht⟩ := hget i v hi
                obtain ⟨h1, h2⟩ := cell i cells hc
                obtain ⟨ev, h3, h4⟩ := VRel.of_vc ht.fit ht.rel
                have hsize : ev.cells.size = e.size := by rw [← h1, ← h3]; simp
                refine ⟨ev, hsize, fun j hj => ⟨⟨trivial, fun i hi => (by cases hi)⟩, ?_⟩, h4⟩
                have := h2 j (by omega)
                rw [add_plain, add_plain, ← h3] at this
                show w.cell? _ = _
                simpa using this
          · cases h
    · cases hok
  | fuel + 1, .struct fs, t, cs, d, ps, hok, hlen, h => by
    simp only [Sh.ok] at hok
    split at hok
    · rename_i gs hu
      simp only [Bool.and_eq_true, beq_iff_eq] at hok
      obtain ⟨hsz, hok⟩ := hok
      unfold DataW.trod at h
      rw [hu] at h
      dsimp only at h
      split at h
      · rename_i hlen2
        rw [Option.map_eq_some_iff] at h
        obtain ⟨xs, hxs, _⟩ := h
        obtain ⟨vs, k1, k2, k3, k4⟩ := took_fields (c := cw w) (P := P) (F := DataW.trod enc P w 0 (fun _ => true) true fuel) (fun sh t cs x h1 h2 h3 => trod_took fuel sh t cs x.1 x.2 h1 h2 h3) fs gs.toList 0 xs hok (by rw [hlen2, hsz]; omega) hxs
        refine ⟨.agg (vs.flatMap V.vc), ⟨vs, rfl, k1⟩, rfl, ?_, k3, by simpa [V.vc] using k4⟩
        simp only [V.dat]
        exact dats_flat fun v hv => dat_vc (k2 v hv)
      · cases h
    · cases hok
end
end Go.Abs
