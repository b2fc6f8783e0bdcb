/- Abstract values, heaps and frames over the calculus, part 26. -/
import Derived.Test.YtegnjoonhabicaaA25
import Derived.ProofKit
import Derived.SizedLaws
import Derived.JoinedCond
set_option linter.unusedVariables false
set_option linter.unusedSimpArgs false
namespace Go.Abs
open Go.RowKit Go.ChangeShapes

theorem WExt.below {w w' : World} (x : WExt w w') : Below w.heap.size w w' := ⟨x.os, x.tape, x.output, x.size, x.same⟩

section
variable {H : Type} {enc : TypeId × Value → H} {P : Program}

def Flat : Sh → Value → Prop
  | .struct fs, v => ∃ cs, v = .agg cs ∧ cs.size = Sh.sizes fs
  | _, v => v.cells = #[v]

theorem flat_of_okWide {w : World} {r : Reach} {base : Nat} {sh : Sh} {t : TypeId} {v : Value} (hok : sh.ok P t = true) (h : Value.okWide P w r base t v) : Flat sh v := by
  unfold Value.okWide at h
  cases sh with
  | struct fs =>
    simp only [Sh.ok] at hok
    split at hok
    · rename_i gs hu
      rw [hu] at h
      simp only [Bool.and_eq_true, beq_iff_eq] at hok
      obtain ⟨cs, h1, h2, _⟩ := h
      exact ⟨cs, h1, h2.trans hok.1⟩
    · cases hok
  | str =>
    simp only [Sh.ok] at hok
    split at hok
    · rename_i hu
      rw [hu] at h
      cases v <;> simp only [Cell.okWide, Cell.ok, hu] at h <;> first | exact h.elim | rfl
    · cases hok
  | bool =>
    simp only [Sh.ok] at hok
    split at hok
    · rename_i hu
      rw [hu] at h
      cases v <;> simp only [Cell.okWide, Cell.ok, hu] at h <;> first | exact h.elim | rfl
    · cases hok
  | int k =>
    simp only [Sh.ok] at hok
    split at hok
    · rename_i k' hu
      rw [hu] at h
      cases v <;> simp only [Cell.okWide, Cell.ok, hu] at h <;> first | exact h.elim | rfl
    · cases hok
  | slice e =>
    simp only [Sh.ok] at hok
    split at hok
    · rename_i u hu
      rw [hu] at h
      cases v <;> simp only [Cell.okWide, Cell.ok, hu] at h <;> first | exact h.elim | rfl
    · cases hok

theorem flat_rel {c : C} {sh : Sh} {u : V} {v : Value} (hf : Flat sh v) (ht : Took c sh u v.cells.toList) : VRel c u v := by
  have one : v.cells = #[v] → u.vc = [u] → VRel c u v := by
    intro h1 h2
    have := ht.rel
    rw [h1, h2] at this
    simp only [VList] at this
    obtain ⟨y, ys, h3, h4, _⟩ := this
    simp only [List.cons.injEq] at h3
    rw [h3.1]; exact h4
  cases sh with
  | struct fs =>
    obtain ⟨cs, rfl, _⟩ := hf
    have hi := ht.is
    simp only [Sh.Is] at hi
    obtain ⟨vs, rfl, _⟩ := hi
    simp only [VRel]
    exact ⟨cs, rfl, ht.rel⟩
  | str => obtain ⟨s, rfl⟩ := ht.is; exact one hf rfl
  | bool => obtain ⟨s, rfl⟩ := ht.is; exact one hf rfl
  | int k => obtain ⟨s, rfl, _⟩ := ht.is; exact one hf rfl
  | slice e =>
    have hi := ht.is
    simp only [Sh.Is] at hi
    obtain ⟨s, rfl, _⟩ := hi
    exact one hf rfl

theorem flat_size {sh : Sh} {v : Value} (hf : Flat sh v) : v.cells.size = sh.size := by
  cases sh with
  | struct fs => obtain ⟨cs, rfl, h⟩ := hf; exact h
  | str => rw [show v.cells = #[v] from hf]; rfl
  | bool => rw [show v.cells = #[v] from hf]; rfl
  | int k => rw [show v.cells = #[v] from hf]; rfl
  | slice e => rw [show v.cells = #[v] from hf]; rfl

theorem trodAll_took {w : World} : ∀ (shs : List Sh) (ts : List TypeId) (vs : List Value) (ds : List (DataW H)) (ps : List MemPlace), shs.length = ts.length →
    (∀ (i : Nat) sh t, shs[i]? = some sh → ts[i]? = some t → sh.ok P t = true) → (∀ (i : Nat) sh v, shs[i]? = some sh → vs[i]? = some v → Flat sh v) →
    DataW.TrodAll enc P w 0 (fun _ => true) true ts vs ds ps → ∃ us, Sh.Iss shs us ∧ VList (cw w) us vs
  | [], [], vs, ds, ps, _, _, _, h => by
    obtain ⟨rfl, _, _⟩ := trodAll_nil h
    exact ⟨[], rfl, by simp only [VList]⟩
  | [], _ :: _, _, _, _, hl, _, _, _ => by simp at hl
  | _ :: _, [], _, _, _, hl, _, _, _ => by simp at hl
  | sh :: shs, t :: ts, vs, ds, ps, hl, hok, hsz, h => by
    obtain ⟨v, vs', d, ds', p, q, rfl, rfl, rfl, h1, h2⟩ := trodAll_cons h
    obtain ⟨fuel, hf⟩ := h1
    have hfl := hsz 0 sh v rfl rfl
    obtain ⟨u, hu⟩ := trod_took fuel sh t _ d p (hok 0 sh t rfl rfl) (by simpa using flat_size hfl) hf
    obtain ⟨us, k1, k2⟩ := trodAll_took shs ts vs' ds' q (by simpa using hl) (fun i sh t h1 h2 => hok (i + 1) sh t (by simpa using h1) (by simpa using h2)) (fun i sh v h1 h2 => hsz (i + 1) sh v (by simpa using h1) (by simpa using h2)) h2
    refine ⟨u :: us, ⟨u, us, rfl, hu.is, k1⟩, ?_⟩
    simp only [VList]
    exact ⟨v, vs', rfl, flat_rel hfl hu, k2⟩

theorem trodAll_stays {W W' : World} (hl : laidOutB P = true) (hb : Below W.heap.size W W') : ∀ (ts : List TypeId) (vs : List Value) (ds : List (DataW H)) (ps : List MemPlace),
    (ts.all fun t => P.readableRec t && decide (t < P.types.size)) = true → (∀ x ∈ ps, x.block < W.heap.size) → DataW.TrodAll enc P W 0 (fun _ => true) true ts vs ds ps →
    DataW.TrodAll enc P W' 0 (fun b => decide (b < W.heap.size)) true ts vs ds ps
  | [], vs, ds, ps, _, _, h => by
    obtain ⟨rfl, rfl, rfl⟩ := trodAll_nil h
    exact trodAll_mk0
  | t :: ts, vs, ds, ps, ht, hlt, h => by
    obtain ⟨v, vs', d, ds', p, q, rfl, rfl, rfl, h1, h2⟩ := trodAll_cons h
    simp only [List.all_cons, Bool.and_eq_true, decide_eq_true_eq] at ht
    exact ⟨p, q, Below.trod hl ht.1.1 ht.1.2 h1 hb (fun x hx => hlt x (by simp [hx])), trodAll_stays hl hb ts vs' ds' q (by simpa using ht.2) (fun x hx => hlt x (by simp [hx])) h2, rfl⟩

theorem trod_len {w : World} {base : Nat} {sp : Nat → Bool} {held : Bool} : ∀ {ts : List TypeId} {vs : List Value} {ds : List (DataW H)} {ps : List MemPlace}, DataW.TrodAll enc P w base sp held ts vs ds ps → ds.length = ts.length
  | [], _, _, _, h => by obtain ⟨_, rfl, _⟩ := trodAll_nil h; rfl
  | t :: ts, vs, ds, ps, h => by
    obtain ⟨v, vs', d, ds', p, q, rfl, rfl, rfl, _, h2⟩ := trodAll_cons h
    simp [trod_len h2]

/-- A law that only computes, and says true of whatever it is handed. -/
theorem law_contract {fn : Func} {f : FuncId} {s : ChangeSpec} {shs : List Sh} (hl : laidOutB P = true) (hlen : shs.length = fn.params.size)
    (hok : ∀ (i : Nat) sh t, shs[i]? = some sh → fn.params[i]? = some t → sh.ok P t = true) (hread : (fn.params.toList.all fun t => P.readableRec t && decide (t < P.types.size)) = true)
    (hres : ∃ tb, fn.resultTypes = #[tb] ∧ P.underlying tb = some .bool) (hvars : s.vars = [])
    (hspec : ∀ ds : List (DataW H), ds.length = shs.length → (s.fn H (ds ++ [])).results = [.lit (.bool true)] ∧ (s.fn H (ds ++ [])).args = ds ∧ (s.fn H (ds ++ [])).vars = [])
    (hev : ∀ us, Sh.Iss shs us → Ev { P := P } f us (.bool true))
    (W : World) (base : Nat) (args : Array Value) (ds gs : List (DataW H)) (before : List MemPlace)
    (hval : ∀ (j : Nat) t v, fn.params[j]? = some t → args[j]? = some v → Value.okWide P W .any base t v)
    (hW : DataW.Whole enc P fn.params.toList s.vars false W args.toList ds gs before) :
    Calls P f args W fun e W' => ∃ v, e = .returned v ∧ s.post enc P fn false true false false W args v W' := by
  have hW' := hW
  obtain ⟨p, q, hA, hV, rfl, hfz, hnd⟩ := hW
  rw [hvars] at hV
  obtain ⟨rfl, rfl⟩ := trodVars_none hV
  obtain ⟨us, k1, k2⟩ := trodAll_took shs fn.params.toList args.toList ds p (by simpa using hlen) (fun i sh t h1 h2 => hok i sh t h1 (by simpa using h2)) (fun i sh v h1 h2 => by
    have hi : i < fn.params.size := by have := (List.getElem?_eq_some_iff.1 h1).1; omega
    exact flat_of_okWide (hok i sh fn.params[i] h1 (by simp [hi])) (hval i fn.params[i] v (by simp [hi]) (by simpa using h2))) hA
  have hs : HSim { P := P } (fun _ => True) (fun _ => none) [] W := ⟨fun _ _ => trivial, fun i b hi => (by cases hi), fun i b hi => (by cases hi), fun i j b hi => (by cases hi), fun i b hi => (by cases hi), fun i o ho => (by simp at ho), fun g v hg => (by cases hg)⟩
  have hc := hev us k1 _ W args.toList hs k2
  rw [show args.toList.toArray = args from Array.toArray_toList] at hc
  refine hc.mono ?_
  rintro en W' ⟨x, rfl, hx, hv⟩
  simp only [VRel] at hv
  subst hv
  obtain ⟨tb, hr1, hr2⟩ := hres
  have hdl : ds.length = shs.length := by rw [trod_len hA, hlen]; simp
  obtain ⟨e1, e2, e3⟩ := hspec ds hdl
  refine ⟨_, rfl, ds, [], p ++ [], [], p, [], hW', ?_, ?_, ?_, hx.below.frame _, fun h => (by cases h)⟩
  · rw [e1, hr1]
    exact trodAll_mk1 ⟨1, by simp [DataW.trod, Value.cells, hr2]⟩
  · rw [e2]
    exact trodAll_stays hl hx.below fn.params.toList args.toList ds p hread (fun y hy => hA.lt y hy) hA
  · rw [e3, hvars]
    rfl
end
end Go.Abs
